/-
  KeysKnown: what the call computes, by evaluation.
-/
import Derived.Test.YthphbdkhbaijlaaDoorRows
import Derived.Test.YthphbdkhbaijlaaDoorCmG
import Derived.Test.YthphbdkhbaijlaaDoorCmH
namespace Go.Proofs.YthphbdkhbaijlaaDoor.known
open Go Go.Cm Go.RowKit

noncomputable def CK : CProg := ⟨autoFn [] Tryd.prog, fun f => if f = 61 then some sameP else if f = 71 then some (idxP cntB) else if f = 77 then some (idxP idxB) else none⟩
theorem mixed : Tryd.prog.follows .mixedOrders = true := Tryd.checked.mixed
theorem ev : (match callD CK 1000 60 11 [] (heap0 0 fun _ => none) with
  | some (.bool b, _) => b
  | _ => false) = true := by kernel_rfl
theorem runs : ∃ H1, callD CK 1000 60 11 [] (heap0 0 fun _ => none) = some (.bool true, H1) := by
  have h := ev
  split at h
  · rename_i b H1 e
    subst h
    exact ⟨H1, e⟩
  · cases h
theorem ck_ok (n0 : Nat) (w : World) : ProgOK Tryd.prog (Cm.start n0 w) [] CK := by
  refine ⟨fun g h => absurd h (List.not_mem_nil), fun _ _ h => autoFn_ok h, fun f p h => ?_, fun _ hc _ => draw_ok mixed (fun g h => absurd h (List.not_mem_nil)) hc⟩
  unfold CK at h
  simp only at h
  split at h
  · rename_i e
    subst e
    simp only [Option.some.injEq] at h
    subst h
    exact same_ok Tryd.func61 (by kernel_rfl) (by kernel_rfl) (by kernel_rfl) (by kernel_rfl)
  · split at h
    · rename_i e
      subst e
      simp only [Option.some.injEq] at h
      subst h
      exact byte_ok Tryd.func71 (by kernel_rfl) (by kernel_rfl) (by kernel_rfl) (by kernel_rfl) run_cnt
    · split at h
      · rename_i e
        subst e
        simp only [Option.some.injEq] at h
        subst h
        exact byte_ok Tryd.func77 (by kernel_rfl) (by kernel_rfl) (by kernel_rfl) (by kernel_rfl) run_idx
      · cases h
theorem prog_ok (n0 : Nat) (w : World) : ProgOK Tryd.prog (startG ([] : List GW).length n0 w) [] (sureC 11) := by
  obtain ⟨H1, h⟩ := runs
  exact sureC_ok mixed (sure_okC (ck_ok 0) h)
end Go.Proofs.YthphbdkhbaijlaaDoor.known
