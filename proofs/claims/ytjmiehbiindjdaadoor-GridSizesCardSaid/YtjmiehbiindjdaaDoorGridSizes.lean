/-
  GridSizes: a grid that grows and then shrinks back shows the same screen.
-/
import Derived.Test.YtjmiehbiindjdaaDoorCards
import Derived.Test.YtjmiehbiindjdaaDoorTie
import Derived.Test.YtjmiehbiindjdaaDoorLineB
import Derived.Test.YtjmiehbiindjdaaDoorLineC
namespace Go.Proofs.YtjmiehbiindjdaaDoor.gsizes
open Go Go.Cm Go.ChangeShapes Go.WideShapes Go.ChangeAt Go.RowKit Go.Proofs.YtjmiehbiindjdaaDoor.frame

theorem rows_ok : (List.range GSP.length).all (fun g => (((begin Tryd.prog (fun _ _ => 0) default).world.heap[g]?).bind Obj.row?).isSome) = true := rowsGSP
set_option maxRecDepth 100000 in
theorem contract (H : Type) (enc : TypeId × Value → H) (W : World) (base : Nat) (args : Array Value) (ds gs : List (DataW H)) (before : List MemPlace)
    (hval : ∀ (j : Nat) t v, Tryd.f12.params[j]? = some t → args[j]? = some v → Value.okWide Tryd.prog W .any base t v)
    (hW : DataW.Whole enc Tryd.prog Tryd.f12.params.toList Rows.gridSizesSpec.vars false W args.toList ds gs before) (hL : laidMetH Tryd.prog Rows.gridSizesRow.laid W) (hsh : W.ShapedOpen Tryd.prog) :
    Calls Tryd.prog 12 args W fun e W' => ∃ v, e = .returned v ∧ Rows.gridSizesSpec.post enc Tryd.prog Tryd.f12 false true false false W args v W' := by
  have hW' := hW
  obtain ⟨p, q, hA0, hV, _⟩ := hW'
  obtain ⟨rfl, _⟩ := trodVars_none hV
  have hA : DataW.TrodAll enc Tryd.prog W 0 (fun _ => true) true Tryd.f12.params.toList args.toList ds p := hA0
  rw [Tryd.params12] at hA
  obtain ⟨v0, vs0, d0, ds0, p0, q0, _, rfl, _, _, r0⟩ := trodAll_cons hA
  obtain ⟨v1, vs1, d1, ds1, p1, q1, _, rfl, _, _, r1⟩ := trodAll_cons r0
  obtain ⟨v2, vs2, d2, ds2, p2, q2, _, rfl, _, _, r2⟩ := trodAll_cons r1
  obtain ⟨v3, vs3, d3, ds3, p3, q3, _, rfl, _, _, r3⟩ := trodAll_cons r2
  obtain ⟨v4, vs4, d4, ds4, p4, q4, _, rfl, _, _, r4⟩ := trodAll_cons r3
  obtain ⟨_, rfl, _⟩ := trodAll_nil r4
  refine law_contractG (C := dec.C) (N := dec.NN) (dep := 10) GSP (laid := Rows.gridSizesRow.laid) (fun n0 => prog_ok_at (by kernel_rfl) hL hsh (List.mem_cons_of_mem _ (List.mem_cons_of_mem _ (List.mem_cons_of_mem _ List.mem_cons_self))) List.mem_cons_self (by decide) n0) Tryd.func12 rfl (by kernel_rfl) (by kernel_rfl) hW rfl rfl ?_ ?_ rfl Tryd.underlying4 hval (by kernel_rfl) hL hsh (of_decide_eq_true (by kernel_rfl)) rows_ok ?_ ?_
  · rw [Tryd.params12]
    intro t ht
    simp only [List.mem_cons, List.not_mem_nil, or_false] at ht
    rcases ht with rfl | rfl | rfl | rfl | rfl <;> kernel_rfl
  · rw [Tryd.params12]
    intro t ht
    simp only [List.mem_cons, List.not_mem_nil, or_false] at ht
    rcases ht with rfl | rfl | rfl | rfl | rfl <;> exact ⟨by kernel_rfl, of_decide_eq_true (by kernel_rfl)⟩
  ·
    intro g n t d h
    rcases g with _ | _ | _ | _ | _ | g
    · simp only [GSP, List.getElem?_cons_succ, List.getElem?_cons_zero, Option.some.injEq, Prod.mk.injEq] at h
      obtain ⟨rfl, rfl, rfl⟩ := h
      exact ⟨List.mem_cons_of_mem _ List.mem_cons_self, by kernel_rfl, by kernel_rfl, by kernel_rfl⟩
    · simp only [GSP, List.getElem?_cons_succ, List.getElem?_cons_zero, Option.some.injEq, Prod.mk.injEq] at h
      obtain ⟨rfl, rfl, rfl⟩ := h
      exact ⟨List.mem_cons_of_mem _ (List.mem_cons_of_mem _ List.mem_cons_self), by kernel_rfl, by kernel_rfl, by kernel_rfl⟩
    · simp only [GSP, List.getElem?_cons_succ, List.getElem?_cons_zero, Option.some.injEq, Prod.mk.injEq] at h
      obtain ⟨rfl, rfl, rfl⟩ := h
      exact ⟨List.mem_cons_of_mem _ (List.mem_cons_of_mem _ (List.mem_cons_of_mem _ List.mem_cons_self)), by kernel_rfl, by kernel_rfl, by kernel_rfl⟩
    · simp only [GSP, List.getElem?_cons_succ, List.getElem?_cons_zero, Option.some.injEq, Prod.mk.injEq] at h
      obtain ⟨rfl, rfl, rfl⟩ := h
      exact ⟨List.mem_cons_self, by kernel_rfl, by kernel_rfl, by kernel_rfl⟩
    · simp [GSP] at h
    · simp [GSP] at h
  · intro ws vs hgw hvs
    rw [Tryd.params12] at hvs
    match vs, hvs with
    | [u0, u1, u2, u3, u4], ⟨⟨a0, b0⟩, ⟨a1, b1⟩, ⟨a2, b2⟩, ⟨a3, b3⟩, ⟨a4, b4⟩, _⟩ =>
      obtain ⟨n0, e0, _⟩ := a0.int_inv Tryd.underlying3
      obtain ⟨n1, e1, _⟩ := a1.int_inv Tryd.underlying3
      obtain ⟨n2, e2, _⟩ := a2.int_inv Tryd.underlying3
      obtain ⟨n3, e3, _⟩ := a3.int_inv Tryd.underlying3
      obtain ⟨x4, l4, e4, i4⟩ := ints_of a4
      obtain rfl := one_cells e0 (b0 (by kernel_rfl))
      obtain rfl := one_cells e1 (b1 (by kernel_rfl))
      obtain rfl := one_cells e2 (b2 (by kernel_rfl))
      obtain rfl := one_cells e3 (b3 (by kernel_rfl))
      obtain rfl := one_cells e4 (b4 (by kernel_rfl))
      obtain ⟨H', h⟩ := dec.GridSizes_s 0 (tab_ofP hgw) (ptab_of hgw) n0 n1 n2 n3 i4
      exact ⟨12, H', h⟩

theorem laid_met (os : Os) : laidMet Tryd.prog Rows.gridSizesRow.laid ((laidW Tryd.prog (fun _ => 0) Rows.gridSizesRow.laid os).forCall (fun _ _ => 0) ⟨#[], #[.int .i64 0, .int .i64 0, .int .i64 0, .int .i64 0, .slice none 0 0], []⟩).memory :=
  laidMet_of_run3 30 (by kernel_rfl) (by kernel_rfl) (by kernel_rfl)
theorem reads (os : Os) (H : Type) (enc : TypeId × Value → H) : ∃ places, DataW.whole enc Tryd.prog ((laidW Tryd.prog (fun _ => 0) Rows.gridSizesRow.laid os).forCall (fun _ _ => 0) ⟨#[], #[.int .i64 0, .int .i64 0, .int .i64 0, .int .i64 0, .slice none 0 0], []⟩).memory Tryd.f12.params.toList Rows.gridSizesSpec.vars false (#[.int .i64 0, .int .i64 0, .int .i64 0, .int .i64 0, .slice none 0 0] : Array Value).toList 8 = some ([.lit (.int .i64 0), .lit (.int .i64 0), .lit (.int .i64 0), .lit (.int .i64 0), .nil], [], places) :=
  ⟨[], by kernel_rfl⟩
set_option maxRecDepth 100000 in
theorem lifted (os : Os) (started : os.Started) (H : Type) (enc : TypeId × Value → H) (F : Stop.Interp) :
    ReturnsInHanded {} Tryd.checked os 12 .any ((OpenSpec.ofChange Rows.gridSizesSpec).preRow enc Tryd.prog Tryd.f12 Rows.gridSizesRow.domain false Rows.gridSizesRow.laid) (((OpenSpec.ofChange Rows.gridSizesSpec).at F).post enc Tryd.prog Tryd.f12 false true false false) := by
  obtain ⟨places, hx⟩ := reads os H enc
  refine returnsInHanded_of_row (C := Tryd.checked) (s := (OpenSpec.ofChange Rows.gridSizesSpec)) own started (by kernel_rfl) Tryd.func12
    (witness_row_atRef (enc := enc) (C := Tryd.checked) false (laidW Tryd.prog (fun _ => 0) Rows.gridSizesRow.laid os) #[.int .i64 0, .int .i64 0, .int .i64 0, .int .i64 0, .slice none 0 0] rfl (by kernel_rfl) (by kernel_rfl) (by kernel_rfl)
      (OpenSpec.preRow_of_cond 8 hx (by kernel_rfl) (fun k hk => by cases hk) (by kernel_rfl) (laid_met os))) ?_
  intro W base args ds gs before hval hW _ hcond _ hL hsh _
  exact contract H enc W base args ds gs before hval hW hL hsh

theorem over : Rows.gridSizesRow.holds Tryd.pinned (OpenSpec.ofChange Rows.gridSizesSpec) :=
  OpenClaim.holds_of_cond 12 Tryd.f12 rfl rfl rfl rfl rfl rfl rfl ⟨rfl, rfl, rfl, rfl, rfl⟩ rfl rfl rfl rfl rfl (by kernel_rfl) Tryd.func12 (by kernel_rfl)
    (of_decide_eq_true (by kernel_rfl)) (by unfold Func.isWrapper; first | (rw [if_pos (by decide +kernel)]; kernel_rfl) | (rw [if_neg (by decide +kernel)]; exact ⟨rfl, rfl⟩))
    (fun os started H enc _ F => by rw [OpenClaim.pre_eq_preRow]; exact lifted os started H enc F)

theorem gridSizes_holds : Rows.GridSizesCardSaid :=
  Claim7.holds_tied_plain_at .later [] _ _ _ _ over (fun _ h => by cases h) (by kernel_rfl) (fun _ h => by cases h) gridSizes_row_tie rfl ⟨rfl, rfl⟩ (by kernel_rfl) rfl
    (fun f fn hf hfn => by
      obtain rfl : f = 12 := Option.some.inj ((show Tryd.prog.funcNamed "porthole/portholelaw21.GridSizes" = some 12 by kernel_rfl).symm.trans hf) |>.symm
      obtain rfl : fn = Tryd.f12 := (Option.some.inj (Tryd.func12.symm.trans hfn)).symm
      refine ⟨by kernel_rfl, fun j t ht => ?_⟩
      rw [Tryd.params12] at ht
      have hm := Array.mem_of_getElem? ht
      simp only [List.mem_toArray, List.mem_cons, List.not_mem_nil, or_false] at hm
      rcases hm with rfl | rfl | rfl | rfl | rfl
      · exact (show Tryd.prog.wantsStandIn 3 = false by kernel_rfl)
      · exact (show Tryd.prog.wantsStandIn 3 = false by kernel_rfl)
      · exact (show Tryd.prog.wantsStandIn 3 = false by kernel_rfl)
      · exact (show Tryd.prog.wantsStandIn 3 = false by kernel_rfl)
      · exact (show Tryd.prog.wantsStandIn 22 = false by kernel_rfl))
    (by kernel_rfl)
end Go.Proofs.YtjmiehbiindjdaaDoor.gsizes
