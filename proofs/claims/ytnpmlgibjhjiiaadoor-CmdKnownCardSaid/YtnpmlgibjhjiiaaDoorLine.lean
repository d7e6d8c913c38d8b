/-
  CmdKnown: what the call computes, by evaluation.
-/
import Derived.Test.YtnpmlgibjhjiiaaDoorRows
import Derived.Test.YtnpmlgibjhjiiaaDoorShelf
import Derived.Test.YtnpmlgibjhjiiaaDoorCmG
namespace Go.Proofs.YtnpmlgibjhjiiaaDoor.known
open Go Go.Cm Go.RowKit

noncomputable def CK : CProg := ⟨autoFn [] Tryd.prog, fun f => if f = 29 then some joinP else none⟩
theorem mixed : Tryd.prog.follows .mixedOrders = true := Tryd.checked.mixed
theorem enters29 : ∀ args w, (callFunc 29 args).run Tryd.prog w = .ok (.enter 29 args) w := enters_of Tryd.func29 (by kernel_rfl) rfl
theorem ev : (match callD CK 1000 60 5 [] (heap0 0 fun _ => none) with
  | some (.bool b, _) => b
  | _ => false) = true := by kernel_rfl
theorem runs : ∃ H1, callD CK 1000 60 5 [] (heap0 0 fun _ => none) = some (.bool true, H1) := by
  have h := ev
  split at h
  · rename_i b H1 e
    subst h
    exact ⟨H1, e⟩
  · cases h
theorem ck_ok (n0 : Nat) (w : World) : ProgOK Tryd.prog (Cm.start n0 w) [] CK := by
  refine ⟨fun g h => absurd h (List.not_mem_nil), fun _ _ h => autoFn_ok h, fun f p h => ?_, fun _ hc _ => draw_ok mixed (fun g h => absurd h (List.not_mem_nil)) hc⟩
  unfold CK at h
  simp only at h
  split at h
  · rename_i e
    subst e
    simp only [Option.some.injEq] at h
    subst h
    exact join_ok enters29 Tryd.strings_Join_none Tryd.strings_Join
  · cases h
theorem prog_ok (n0 : Nat) (w : World) : ProgOK Tryd.prog (startG ([] : List GW).length n0 w) [] (sureC 5) := by
  obtain ⟨H1, h⟩ := runs
  exact sureC_ok mixed (sure_okC (ck_ok 0) h)
def tn (n : String) : TypeId := if n = "*errors.errorString" then 95 else 0
end Go.Proofs.YtnpmlgibjhjiiaaDoor.known
