/-
  GridKnown: what the call computes, by evaluation over Go's own tables.
-/
import Derived.Test.YtmnemajgnfdikaaDoorRows
import Derived.Test.YtmnemajgnfdikaaDoorCmG
namespace Go.Proofs.YtmnemajgnfdikaaDoor.known
open Go Go.Cm Go.RowKit

noncomputable def CK : CProg := ⟨autoFn [0, 1] Tryd.prog, fun _ => none⟩
noncomputable def c0 : List Value := (flatD 5 Rows.laid_unicode_utf8_first).getD []
noncomputable def c1 : List Value := (flatD 5 (Rows.laid_unicode_utf8_acceptRanges : DataW Unit)).getD []
noncomputable def W0 : List Win := [⟨0, 0, c0, 101⟩, ⟨1, 0, c1, 104⟩]
theorem f0 : flatD 5 Rows.laid_unicode_utf8_first = some c0 := by kernel_rfl
theorem f1 : flatD 5 (Rows.laid_unicode_utf8_acceptRanges : DataW Unit) = some c1 := by kernel_rfl
theorem v0 : c0.all flatV = true := by kernel_rfl
theorem v1 : c1.all flatV = true := by kernel_rfl
theorem mixed : Tryd.prog.follows .mixedOrders = true := Tryd.checked.mixed

theorem ev : (match callD CK 1000 60 3 [] (heapW W0) with
  | some (.bool b, _) => b
  | _ => false) = true := by kernel_rfl
theorem runs : ∃ H1, callD CK 1000 60 3 [] (heapW W0) = some (.bool true, H1) := by
  have h := ev
  split at h
  · rename_i b H1 e
    subst h
    exact ⟨H1, e⟩
  · cases h
theorem ck_ok (w : World) : ProgOK Tryd.prog (startG W0.length W0.length w) [0, 1] CK := by
  have hgl : ∀ g ∈ [0, 1], g < (startG W0.length W0.length w).ng := fun g h => by
    show g < 2
    simp only [List.mem_cons, List.not_mem_nil, or_false] at h
    omega
  exact ⟨hgl, fun _ _ h => autoFn_ok h, fun f p h => (by cases h), fun _ hc _ => draw_ok mixed hgl hc⟩

set_option maxRecDepth 100000 in
theorem prog_of {W : World} (hL : laidMetH Tryd.prog Rows.gridKnownRow.laid W) (hsh : W.ShapedOpen Tryd.prog) (n0 : Nat) : ProgOK Tryd.prog (startG ([] : List GW).length n0 W) [] (sureC 3) := by
  obtain ⟨H1, h⟩ := runs
  refine sureC_ok mixed (closed_ok ck_ok (fun g x hx => ?_) h)
  obtain ⟨ca, fa, a1, a2⟩ := win_of_laid (g := 0) (t := 101) (e := 101) (dep := 10) (by kernel_rfl) hL hsh (List.mem_cons_of_mem _ List.mem_cons_self) (by kernel_rfl) (by kernel_rfl) (by kernel_rfl) f0 (of_decide_eq_true (by kernel_rfl)) (by kernel_rfl)
  obtain ⟨cb, fb, b1, b2⟩ := win_of_laid (g := 1) (t := 104) (e := 104) (dep := 10) (by kernel_rfl) hL hsh List.mem_cons_self (by kernel_rfl) (by kernel_rfl) (by kernel_rfl) f1 (of_decide_eq_true (by kernel_rfl)) (by kernel_rfl)
  rcases g with _ | _ | g
  · simp only [W0, List.getElem?_cons_zero, Option.some.injEq] at hx
    subst hx
    exact ⟨rfl, rfl, fun v hv => List.all_eq_true.1 v0 v hv, ca, fa, a1, .inr a2⟩
  · simp only [W0, List.getElem?_cons_succ, List.getElem?_cons_zero, Option.some.injEq] at hx
    subst hx
    exact ⟨rfl, rfl, fun v hv => List.all_eq_true.1 v1 v hv, cb, fb, b1, .inr b2⟩
  · simp [W0] at hx
end Go.Proofs.YtmnemajgnfdikaaDoor.known
