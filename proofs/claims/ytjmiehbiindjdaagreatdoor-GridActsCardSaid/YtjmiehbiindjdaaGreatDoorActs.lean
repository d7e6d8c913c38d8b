/-
  GridActs: any acts, with any runes and params, do what the document says.
-/
import Derived.Test.YtjmiehbiindjdaaGreatDoorCards
import Derived.Test.YtjmiehbiindjdaaGreatDoorTie
import Derived.Test.YtjmiehbiindjdaaGreatDoorLineA
import Derived.Test.YtjmiehbiindjdaaGreatDoorLineC
namespace Go.Proofs.YtjmiehbiindjdaaGreatDoor.gacts
open Go Go.Cm Go.ChangeShapes Go.WideShapes Go.ChangeAt Go.RowKit Go.Proofs.YtjmiehbiindjdaaGreatDoor.frame

theorem rows_ok : (List.range GS.length).all (fun g => (((begin Tryz.prog (fun _ _ => 0) default).world.heap[g]?).bind Obj.row?).isSome) = true := rowsGS
set_option maxRecDepth 100000 in
theorem contract (H : Type) (enc : TypeId × Value → H) (W : World) (base : Nat) (args : Array Value) (ds gs : List (DataW H)) (before : List MemPlace)
    (hval : ∀ (j : Nat) t v, Tryz.f3.params[j]? = some t → args[j]? = some v → Value.okWide Tryz.prog W .any base t v)
    (hW : DataW.Whole enc Tryz.prog Tryz.f3.params.toList Rows.gridActsSpec.vars false W args.toList ds gs before) (hL : laidMetH Tryz.prog Rows.gridActsRow.laid W) (hsh : W.ShapedOpen Tryz.prog) :
    Calls Tryz.prog 3 args W fun e W' => ∃ v, e = .returned v ∧ Rows.gridActsSpec.post enc Tryz.prog Tryz.f3 false true false false W args v W' := by
  have hW' := hW
  obtain ⟨p, q, hA0, hV, _⟩ := hW'
  obtain ⟨rfl, _⟩ := trodVars_none hV
  have hA : DataW.TrodAll enc Tryz.prog W 0 (fun _ => true) true Tryz.f3.params.toList args.toList ds p := hA0
  rw [Tryz.params3] at hA
  obtain ⟨v0, vs0, d0, ds0, p0, q0, _, rfl, _, _, r0⟩ := trodAll_cons hA
  obtain ⟨v1, vs1, d1, ds1, p1, q1, _, rfl, _, _, r1⟩ := trodAll_cons r0
  obtain ⟨v2, vs2, d2, ds2, p2, q2, _, rfl, _, _, r2⟩ := trodAll_cons r1
  obtain ⟨v3, vs3, d3, ds3, p3, q3, _, rfl, _, _, r3⟩ := trodAll_cons r2
  obtain ⟨_, rfl, _⟩ := trodAll_nil r3
  refine law_contractG (C := dec.C) (N := dec.NN) (dep := 10) GS (laid := Rows.gridActsRow.laid) (fun n0 => prog_ok_at (by kernel_rfl) hL hsh (List.mem_cons_of_mem _ List.mem_cons_self) List.mem_cons_self (by decide) n0) Tryz.func3 rfl (by kernel_rfl) (by kernel_rfl) hW rfl rfl ?_ ?_ rfl Tryz.underlying4 hval (by kernel_rfl) hL hsh (of_decide_eq_true (by kernel_rfl)) rows_ok ?_ ?_
  · rw [Tryz.params3]
    intro t ht
    simp only [List.mem_cons, List.not_mem_nil, or_false] at ht
    rcases ht with rfl | rfl | rfl | rfl <;> kernel_rfl
  · rw [Tryz.params3]
    intro t ht
    simp only [List.mem_cons, List.not_mem_nil, or_false] at ht
    rcases ht with rfl | rfl | rfl | rfl <;> exact ⟨by kernel_rfl, of_decide_eq_true (by kernel_rfl)⟩
  ·
    intro g n t d h
    rcases g with _ | _ | _ | _ | _ | g
    · simp [GS] at h
    · simp [GS] at h
    · simp only [GS, List.getElem?_cons_succ, List.getElem?_cons_zero, Option.some.injEq, Prod.mk.injEq] at h
      obtain ⟨rfl, rfl, rfl⟩ := h
      exact ⟨List.mem_cons_of_mem _ List.mem_cons_self, by kernel_rfl, by kernel_rfl, by kernel_rfl⟩
    · simp only [GS, List.getElem?_cons_succ, List.getElem?_cons_zero, Option.some.injEq, Prod.mk.injEq] at h
      obtain ⟨rfl, rfl, rfl⟩ := h
      exact ⟨List.mem_cons_self, by kernel_rfl, by kernel_rfl, by kernel_rfl⟩
    · simp [GS] at h
    · simp [GS] at h
  · intro ws vs hgw hvs
    rw [Tryz.params3] at hvs
    match vs, hvs with
    | [u0, u1, u2, u3], ⟨⟨a0, b0⟩, ⟨a1, b1⟩, ⟨a2, b2⟩, ⟨a3, b3⟩, _⟩ =>
      obtain ⟨n0, e0, _⟩ := a0.int_inv Tryz.underlying3
      obtain ⟨n1, e1, _⟩ := a1.int_inv Tryz.underlying3
      obtain ⟨x2, e2, i2⟩ := acts_of a2
      obtain ⟨x3, l3, e3, i3⟩ := ints_of a3
      obtain rfl := one_cells e0 (b0 (by kernel_rfl))
      obtain rfl := one_cells e1 (b1 (by kernel_rfl))
      obtain rfl := one_cells e2 (b2 (by kernel_rfl))
      obtain rfl := one_cells e3 (b3 (by kernel_rfl))
      obtain ⟨H', h⟩ := dec.GridActs_s 0 (tab_of hgw).lt n0 n1 i2 i3
      exact ⟨11, H', h⟩

theorem laid_met (os : Os) : laidMet Tryz.prog Rows.gridActsRow.laid ((laidW Tryz.prog (fun _ => 0) Rows.gridActsRow.laid os).forCall (fun _ _ => 0) ⟨#[], #[.int .i64 0, .int .i64 0, .slice none 0 0, .slice none 0 0], []⟩).memory :=
  laidMet_of_run3 30 (by kernel_rfl) (by kernel_rfl) (by kernel_rfl)
theorem reads (os : Os) (H : Type) (enc : TypeId × Value → H) : ∃ places, DataW.whole enc Tryz.prog ((laidW Tryz.prog (fun _ => 0) Rows.gridActsRow.laid os).forCall (fun _ _ => 0) ⟨#[], #[.int .i64 0, .int .i64 0, .slice none 0 0, .slice none 0 0], []⟩).memory Tryz.f3.params.toList Rows.gridActsSpec.vars false (#[.int .i64 0, .int .i64 0, .slice none 0 0, .slice none 0 0] : Array Value).toList 8 = some ([.lit (.int .i64 0), .lit (.int .i64 0), .nil, .nil], [], places) :=
  ⟨[], by kernel_rfl⟩
set_option maxRecDepth 100000 in
theorem lifted (os : Os) (started : os.Started) (H : Type) (enc : TypeId × Value → H) (F : Stop.Interp) :
    ReturnsInHanded {} Tryz.checked os 3 .any ((OpenSpec.ofChange Rows.gridActsSpec).preRow enc Tryz.prog Tryz.f3 Rows.gridActsRow.domain false Rows.gridActsRow.laid) (((OpenSpec.ofChange Rows.gridActsSpec).at F).post enc Tryz.prog Tryz.f3 false true false false) := by
  obtain ⟨places, hx⟩ := reads os H enc
  refine returnsInHanded_of_row (C := Tryz.checked) (s := (OpenSpec.ofChange Rows.gridActsSpec)) own started (by kernel_rfl) Tryz.func3
    (witness_row_atRef (enc := enc) (C := Tryz.checked) false (laidW Tryz.prog (fun _ => 0) Rows.gridActsRow.laid os) #[.int .i64 0, .int .i64 0, .slice none 0 0, .slice none 0 0] rfl (by kernel_rfl) (by kernel_rfl) (by kernel_rfl)
      (OpenSpec.preRow_of_cond 8 hx (by kernel_rfl) (fun k hk => by cases hk) (by kernel_rfl) (laid_met os))) ?_
  intro W base args ds gs before hval hW _ hcond _ hL hsh _
  exact contract H enc W base args ds gs before hval hW hL hsh

theorem over : Rows.gridActsRow.holds Tryz.pinned (OpenSpec.ofChange Rows.gridActsSpec) :=
  OpenClaim.holds_of_cond 3 Tryz.f3 rfl rfl rfl rfl rfl rfl rfl ⟨rfl, rfl, rfl, rfl, rfl⟩ rfl rfl rfl rfl rfl (by kernel_rfl) Tryz.func3 (by kernel_rfl)
    (of_decide_eq_true (by kernel_rfl)) (by unfold Func.isWrapper; first | (rw [if_pos (by decide +kernel)]; kernel_rfl) | (rw [if_neg (by decide +kernel)]; exact ⟨rfl, rfl⟩))
    (fun os started H enc _ F => by rw [OpenClaim.pre_eq_preRow]; exact lifted os started H enc F)

theorem gridActs_holds : Rows.GridActsCardSaid :=
  Claim7.holds_tied_plain_at .later [] _ _ _ _ over (fun _ h => by cases h) (by kernel_rfl) (fun _ h => by cases h) gridActs_row_tie rfl ⟨rfl, rfl⟩ (by kernel_rfl) rfl
    (fun f fn hf hfn => by
      obtain rfl : f = 3 := Option.some.inj ((show Tryz.prog.funcNamed "porthole/portholelaw21.GridActs" = some 3 by kernel_rfl).symm.trans hf) |>.symm
      obtain rfl : fn = Tryz.f3 := (Option.some.inj (Tryz.func3.symm.trans hfn)).symm
      refine ⟨by kernel_rfl, fun j t ht => ?_⟩
      rw [Tryz.params3] at ht
      have hm := Array.mem_of_getElem? ht
      simp only [List.mem_toArray, List.mem_cons, List.not_mem_nil, or_false] at hm
      rcases hm with rfl | rfl | rfl | rfl
      · exact (show Tryz.prog.wantsStandIn 3 = false by kernel_rfl)
      · exact (show Tryz.prog.wantsStandIn 3 = false by kernel_rfl)
      · exact (show Tryz.prog.wantsStandIn 22 = false by kernel_rfl)
      · exact (show Tryz.prog.wantsStandIn 23 = false by kernel_rfl))
    (by kernel_rfl)
end Go.Proofs.YtjmiehbiindjdaaGreatDoor.gacts
