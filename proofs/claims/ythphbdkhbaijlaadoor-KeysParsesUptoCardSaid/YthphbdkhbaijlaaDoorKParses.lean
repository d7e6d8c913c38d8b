/-
  KeysParses: any text is keys, or refused at a line, as the reference says; for arguments of at most 1048576 values and letters.
-/
import Derived.Test.YthphbdkhbaijlaaDoorCards
import Derived.Test.YthphbdkhbaijlaaDoorTie
import Derived.Test.YthphbdkhbaijlaaDoorLineA
import Derived.Test.YthphbdkhbaijlaaDoorLineB
namespace Go.Proofs.YthphbdkhbaijlaaDoor.kparses
open Go Go.Cm Go.ChangeShapes Go.WideShapes Go.ChangeAt Go.RowKit Go.Proofs.YthphbdkhbaijlaaDoor.frame

theorem rows_ok : (List.range GS.length).all (fun g => (((begin Tryd.prog (fun _ _ => 0) default).world.heap[g]?).bind Obj.row?).isSome) = true := rowsGS
set_option maxRecDepth 100000 in
theorem contract (H : Type) (enc : TypeId × Value → H) (W : World) (base : Nat) (args : Array Value) (ds gs : List (DataW H)) (before : List MemPlace)
    (hval : ∀ (j : Nat) t v, Tryd.f8.params[j]? = some t → args[j]? = some v → Value.okWide Tryd.prog W .any base t v)
    (hW : DataW.Whole enc Tryd.prog Tryd.f8.params.toList Rows.keysParsesSpec.vars false W args.toList ds gs before) (hk : Rows.uptoSmall H (ds ++ gs) = true) (hL : laidMetH Tryd.prog Rows.keysParsesUptoRow.laid W) (hsh : W.ShapedOpen Tryd.prog) :
    Calls Tryd.prog 8 args W fun e W' => ∃ v, e = .returned v ∧ Rows.keysParsesSpec.post enc Tryd.prog Tryd.f8 false true false false W args v W' := by
  have hW' := hW
  obtain ⟨p, q, hA0, hV, _⟩ := hW'
  obtain ⟨rfl, _⟩ := trodVars_none hV
  have hA : DataW.TrodAll enc Tryd.prog W 0 (fun _ => true) true Tryd.f8.params.toList args.toList ds p := hA0
  rw [Tryd.params8] at hA
  obtain ⟨v0, vs0, d0, ds0, p0, q0, _, rfl, _, _, r0⟩ := trodAll_cons hA
  obtain ⟨v1, vs1, d1, ds1, p1, q1, _, rfl, _, _, r1⟩ := trodAll_cons r0
  obtain ⟨v2, vs2, d2, ds2, p2, q2, _, rfl, _, _, r2⟩ := trodAll_cons r1
  obtain ⟨v3, vs3, d3, ds3, p3, q3, _, rfl, _, _, r3⟩ := trodAll_cons r2
  obtain ⟨v4, vs4, d4, ds4, p4, q4, _, rfl, _, _, r4⟩ := trodAll_cons r3
  obtain ⟨_, rfl, _⟩ := trodAll_nil r4
  have hbulk : Rows.uptoBulkAll ([d0, d1, d2, d3, d4] ++ ([] : List (DataW H))) ≤ 1048576 := of_decide_eq_true hk
  simp only [List.cons_append, List.nil_append, Rows.uptoBulkAll] at hbulk
  refine law_contractG (C := dec.C) (N := dec.NN) (dep := 10) GS (laid := Rows.keysParsesUptoRow.laid) (fun n0 => progGS n0 hsh) Tryd.func8 rfl (by kernel_rfl) (by kernel_rfl) hW rfl rfl ?_ ?_ rfl Tryd.underlying4 hval (by kernel_rfl) hL hsh (of_decide_eq_true (by kernel_rfl)) rows_ok ?_ ?_
  · rw [Tryd.params8]
    intro t ht
    simp only [List.mem_cons, List.not_mem_nil, or_false] at ht
    rcases ht with rfl | rfl | rfl | rfl | rfl <;> kernel_rfl
  · rw [Tryd.params8]
    intro t ht
    simp only [List.mem_cons, List.not_mem_nil, or_false] at ht
    rcases ht with rfl | rfl | rfl | rfl | rfl <;> exact ⟨by kernel_rfl, of_decide_eq_true (by kernel_rfl)⟩
  ·
    intro g n t d h
    rcases g with _ | _ | g
    · simp only [GS, List.getElem?_cons_zero, Option.some.injEq, Prod.mk.injEq] at h
      obtain ⟨rfl, rfl, rfl⟩ := h
      exact ⟨List.mem_cons_of_mem _ List.mem_cons_self, by kernel_rfl, by kernel_rfl, by kernel_rfl⟩
    · simp only [GS, List.getElem?_cons_succ, List.getElem?_cons_zero, Option.some.injEq, Prod.mk.injEq] at h
      obtain ⟨rfl, rfl, rfl⟩ := h
      exact ⟨List.mem_cons_of_mem _ (List.mem_cons_of_mem _ List.mem_cons_self), by kernel_rfl, by kernel_rfl, by kernel_rfl⟩
    · simp [GS] at h
  · intro ws vs hgw hvs
    rw [Tryd.params8] at hvs
    match vs, hvs with
    | [u0, u1, u2, u3, u4], ⟨⟨a0, b0⟩, ⟨a1, b1⟩, ⟨a2, b2⟩, ⟨a3, b3⟩, ⟨a4, b4⟩, _⟩ =>
      obtain ⟨s0, e0, k0⟩ := a0.string_inv Tryd.underlying9
      obtain ⟨x1, e1, i1⟩ := raws_of a1 (by omega)
      obtain ⟨n2, e2, _⟩ := a2.int_inv Tryd.underlying3
      obtain ⟨n3, e3, _, w3⟩ := a3.int_inv Tryd.underlying5
      obtain ⟨n4, e4, _⟩ := a4.int_inv Tryd.underlying3
      subst k0
      have h0 := string_le (H := H) s0
      have hn3 : n3 = ((UInt8.ofNat n3.toNat).toNat : Int) := by
        simp [Lit.wf, IntKind.min, IntKind.max, IntKind.signed, IntKind.bits] at w3
        simp
        omega
      obtain rfl := one_cells e0 (b0 (by kernel_rfl))
      obtain rfl := one_cells e1 (b1 (by kernel_rfl))
      obtain rfl := one_cells e2 (b2 (by kernel_rfl))
      obtain rfl := one_cells e3 (b3 (by kernel_rfl))
      obtain rfl := one_cells e4 (b4 (by kernel_rfl))
      rw [hn3]
      obtain ⟨H', h⟩ := dec.KeysParses_s 0 (heapW ws).next (lst s0) x1 n2 n4 (UInt8.ofNat n3.toNat) (heapW ws) (by omega) i1 (tabs_of hgw)
      exact ⟨7, H', h⟩

theorem laid_met (os : Os) : laidMet Tryd.prog Rows.keysParsesUptoRow.laid ((laidW Tryd.prog (fun _ => 0) Rows.keysParsesUptoRow.laid os).forCall (fun _ _ => 0) ⟨#[], #[.string ⟨#[]⟩, .slice none 0 0, .int .i64 0, .int .u8 0, .int .i64 0], []⟩).memory :=
  laidMet_of_run3 30 (by kernel_rfl) (by kernel_rfl) (by kernel_rfl)
theorem reads (os : Os) (H : Type) (enc : TypeId × Value → H) : ∃ places, DataW.whole enc Tryd.prog ((laidW Tryd.prog (fun _ => 0) Rows.keysParsesUptoRow.laid os).forCall (fun _ _ => 0) ⟨#[], #[.string ⟨#[]⟩, .slice none 0 0, .int .i64 0, .int .u8 0, .int .i64 0], []⟩).memory Tryd.f8.params.toList Rows.keysParsesSpec.vars false (#[.string ⟨#[]⟩, .slice none 0 0, .int .i64 0, .int .u8 0, .int .i64 0] : Array Value).toList 8 = some ([.lit (.string []), .nil, .lit (.int .i64 0), .lit (.int .u8 0), .lit (.int .i64 0)], [], places) :=
  ⟨[], by kernel_rfl⟩
set_option maxRecDepth 100000 in
theorem lifted (os : Os) (started : os.Started) (H : Type) (enc : TypeId × Value → H) (F : Stop.Interp) :
    ReturnsInHanded {} Tryd.checked os 8 .any ((Rows.OpenSpec.upto Rows.keysParsesSpec).preRow enc Tryd.prog Tryd.f8 Rows.keysParsesUptoRow.domain false Rows.keysParsesUptoRow.laid) (((Rows.OpenSpec.upto Rows.keysParsesSpec).at F).post enc Tryd.prog Tryd.f8 false true false false) := by
  obtain ⟨places, hx⟩ := reads os H enc
  refine returnsInHanded_of_row (C := Tryd.checked) (s := (Rows.OpenSpec.upto Rows.keysParsesSpec)) own started (by kernel_rfl) Tryd.func8
    (witness_row_atRef (enc := enc) (C := Tryd.checked) false (laidW Tryd.prog (fun _ => 0) Rows.keysParsesUptoRow.laid os) #[.string ⟨#[]⟩, .slice none 0 0, .int .i64 0, .int .u8 0, .int .i64 0] rfl (by kernel_rfl) (by kernel_rfl) (by kernel_rfl)
      (OpenSpec.preRow_of_cond 8 hx (by kernel_rfl) (fun k hk => by cases hk; kernel_rfl) (by kernel_rfl) (laid_met os))) ?_
  intro W base args ds gs before hval hW _ hcond _ hL hsh _
  exact contract H enc W base args ds gs before hval hW (hcond _ rfl) hL hsh

theorem over : Rows.keysParsesUptoRow.holds Tryd.pinned (Rows.OpenSpec.upto Rows.keysParsesSpec) :=
  OpenClaim.holds_of_cond 8 Tryd.f8 rfl rfl rfl rfl rfl rfl rfl ⟨rfl, rfl, rfl, rfl, rfl⟩ rfl rfl rfl rfl rfl (by kernel_rfl) Tryd.func8 (by kernel_rfl)
    (of_decide_eq_true (by kernel_rfl)) (by unfold Func.isWrapper; first | (rw [if_pos (by decide +kernel)]; kernel_rfl) | (rw [if_neg (by decide +kernel)]; exact ⟨rfl, rfl⟩))
    (fun os started H enc _ F => by rw [OpenClaim.pre_eq_preRow]; exact lifted os started H enc F)

theorem keysParses_holds : Rows.KeysParsesUptoCardSaid :=
  Claim7.holds_tied_plain_at .later [] _ _ _ _ over (fun _ h => by cases h) (by kernel_rfl) (fun _ h => by cases h) keysParsesUpto_row_tie rfl ⟨rfl, rfl⟩ (by kernel_rfl) rfl
    (fun f fn hf hfn => by
      obtain rfl : f = 8 := Option.some.inj ((show Tryd.prog.funcNamed "porthole/portholelaw17.KeysParses" = some 8 by kernel_rfl).symm.trans hf) |>.symm
      obtain rfl : fn = Tryd.f8 := (Option.some.inj (Tryd.func8.symm.trans hfn)).symm
      refine ⟨by kernel_rfl, fun j t ht => ?_⟩
      rw [Tryd.params8] at ht
      have hm := Array.mem_of_getElem? ht
      simp only [List.mem_toArray, List.mem_cons, List.not_mem_nil, or_false] at hm
      rcases hm with rfl | rfl | rfl | rfl | rfl
      · exact (show Tryd.prog.wantsStandIn 9 = false by kernel_rfl)
      · exact (show Tryd.prog.wantsStandIn 31 = false by kernel_rfl)
      · exact (show Tryd.prog.wantsStandIn 3 = false by kernel_rfl)
      · exact (show Tryd.prog.wantsStandIn 5 = false by kernel_rfl)
      · exact (show Tryd.prog.wantsStandIn 3 = false by kernel_rfl))
    (by kernel_rfl)
end Go.Proofs.YthphbdkhbaijlaaDoor.kparses
