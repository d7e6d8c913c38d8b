/-
  KeysLines: lines that are empty, or notes, turn nothing but the numbers of lines; keys stand in the order of their lines; for arguments of at most 1048576 values and letters.
-/
import Derived.Test.YthphbdkhbaijlaaDoorCards
import Derived.Test.YthphbdkhbaijlaaDoorTie
import Derived.Test.YthphbdkhbaijlaaDoorLineA
import Derived.Test.YthphbdkhbaijlaaDoorLineB
namespace Go.Proofs.YthphbdkhbaijlaaDoor.klines
open Go Go.Cm Go.ChangeShapes Go.WideShapes Go.ChangeAt Go.RowKit Go.Proofs.YthphbdkhbaijlaaDoor.frame

theorem rows_ok : (List.range GS.length).all (fun g => (((begin Tryd.prog (fun _ _ => 0) default).world.heap[g]?).bind Obj.row?).isSome) = true := rowsGS
theorem ints_lt {ws : List Win} {x : Sl} {l : List Int} (h : dec.Ints (heapW ws) x l) (hn : 0 < x.n) : ∀ j, x.at j → j < (heapW ws).next := by
  intro j hj
  have hlt : 0 < l.length := by have := h.1; omega
  obtain ⟨b, o, e1, e2⟩ := h.2 0 _ hn (List.getElem?_eq_getElem hlt)
  obtain ⟨a, ha, rfl⟩ := hj
  rw [e1] at ha
  cases ha
  show b < ws.length
  rcases Nat.lt_or_ge b ws.length with h' | h'
  · exact h'
  · have : (heapW ws).get b = none := by simp [Heap.get, heapW, Tr.get, List.getElem?_eq_none h']
    simp [Heap.ld1, this] at e2
set_option maxRecDepth 100000 in
theorem contract (H : Type) (enc : TypeId × Value → H) (W : World) (base : Nat) (args : Array Value) (ds gs : List (DataW H)) (before : List MemPlace)
    (hval : ∀ (j : Nat) t v, Tryd.f10.params[j]? = some t → args[j]? = some v → Value.okWide Tryd.prog W .any base t v)
    (hW : DataW.Whole enc Tryd.prog Tryd.f10.params.toList Rows.keysLinesSpec.vars false W args.toList ds gs before) (hk : Rows.uptoSmall H (ds ++ gs) = true) (hL : laidMetH Tryd.prog Rows.keysLinesUptoRow.laid W) (hsh : W.ShapedOpen Tryd.prog) :
    Calls Tryd.prog 10 args W fun e W' => ∃ v, e = .returned v ∧ Rows.keysLinesSpec.post enc Tryd.prog Tryd.f10 false true false false W args v W' := by
  have hW' := hW
  obtain ⟨p, q, hA0, hV, _⟩ := hW'
  obtain ⟨rfl, _⟩ := trodVars_none hV
  have hA : DataW.TrodAll enc Tryd.prog W 0 (fun _ => true) true Tryd.f10.params.toList args.toList ds p := hA0
  rw [Tryd.params10] at hA
  obtain ⟨v0, vs0, d0, ds0, p0, q0, _, rfl, _, _, r0⟩ := trodAll_cons hA
  obtain ⟨v1, vs1, d1, ds1, p1, q1, _, rfl, _, _, r1⟩ := trodAll_cons r0
  obtain ⟨_, rfl, _⟩ := trodAll_nil r1
  have hbulk : Rows.uptoBulkAll ([d0, d1] ++ ([] : List (DataW H))) ≤ 1048576 := of_decide_eq_true hk
  simp only [List.cons_append, List.nil_append, Rows.uptoBulkAll] at hbulk
  refine law_contractG (C := dec.C) (N := dec.NN) (dep := 10) GS (laid := Rows.keysLinesUptoRow.laid) (fun n0 => progGS n0 hsh) Tryd.func10 rfl (by kernel_rfl) (by kernel_rfl) hW rfl rfl ?_ ?_ rfl Tryd.underlying4 hval (by kernel_rfl) hL hsh (of_decide_eq_true (by kernel_rfl)) rows_ok ?_ ?_
  · rw [Tryd.params10]
    intro t ht
    simp only [List.mem_cons, List.not_mem_nil, or_false] at ht
    rcases ht with rfl | rfl <;> kernel_rfl
  · rw [Tryd.params10]
    intro t ht
    simp only [List.mem_cons, List.not_mem_nil, or_false] at ht
    rcases ht with rfl | rfl <;> exact ⟨by kernel_rfl, of_decide_eq_true (by kernel_rfl)⟩
  ·
    intro g n t d h
    rcases g with _ | _ | g
    · simp only [GS, List.getElem?_cons_zero, Option.some.injEq, Prod.mk.injEq] at h
      obtain ⟨rfl, rfl, rfl⟩ := h
      exact ⟨List.mem_cons_of_mem _ List.mem_cons_self, by kernel_rfl, by kernel_rfl, by kernel_rfl⟩
    · simp only [GS, List.getElem?_cons_succ, List.getElem?_cons_zero, Option.some.injEq, Prod.mk.injEq] at h
      obtain ⟨rfl, rfl, rfl⟩ := h
      exact ⟨List.mem_cons_of_mem _ (List.mem_cons_of_mem _ List.mem_cons_self), by kernel_rfl, by kernel_rfl, by kernel_rfl⟩
    · simp [GS] at h
  · intro ws vs hgw hvs
    rw [Tryd.params10] at hvs
    match vs, hvs with
    | [u0, u1], ⟨⟨a0, b0⟩, ⟨a1, b1⟩, _⟩ =>
      obtain ⟨x0, e0, i0⟩ := raws_of a0 (by omega)
      obtain ⟨x1, l1, e1, i1, j1⟩ := ints_of a1
      obtain rfl := one_cells e0 (b0 (by kernel_rfl))
      obtain rfl := one_cells e1 (b1 (by kernel_rfl))
      obtain ⟨H', h⟩ := dec.KeysLines_s 0 (heapW ws).next x0 x1 l1 (heapW ws) i0 (tabs_of hgw) i1 (ints_lt i1)
      exact ⟨7, H', h⟩

theorem laid_met (os : Os) : laidMet Tryd.prog Rows.keysLinesUptoRow.laid ((laidW Tryd.prog (fun _ => 0) Rows.keysLinesUptoRow.laid os).forCall (fun _ _ => 0) ⟨#[], #[.slice none 0 0, .slice none 0 0], []⟩).memory :=
  laidMet_of_run3 30 (by kernel_rfl) (by kernel_rfl) (by kernel_rfl)
theorem reads (os : Os) (H : Type) (enc : TypeId × Value → H) : ∃ places, DataW.whole enc Tryd.prog ((laidW Tryd.prog (fun _ => 0) Rows.keysLinesUptoRow.laid os).forCall (fun _ _ => 0) ⟨#[], #[.slice none 0 0, .slice none 0 0], []⟩).memory Tryd.f10.params.toList Rows.keysLinesSpec.vars false (#[.slice none 0 0, .slice none 0 0] : Array Value).toList 8 = some ([.nil, .nil], [], places) :=
  ⟨[], by kernel_rfl⟩
set_option maxRecDepth 100000 in
theorem lifted (os : Os) (started : os.Started) (H : Type) (enc : TypeId × Value → H) (F : Stop.Interp) :
    ReturnsInHanded {} Tryd.checked os 10 .any ((Rows.OpenSpec.upto Rows.keysLinesSpec).preRow enc Tryd.prog Tryd.f10 Rows.keysLinesUptoRow.domain false Rows.keysLinesUptoRow.laid) (((Rows.OpenSpec.upto Rows.keysLinesSpec).at F).post enc Tryd.prog Tryd.f10 false true false false) := by
  obtain ⟨places, hx⟩ := reads os H enc
  refine returnsInHanded_of_row (C := Tryd.checked) (s := (Rows.OpenSpec.upto Rows.keysLinesSpec)) own started (by kernel_rfl) Tryd.func10
    (witness_row_atRef (enc := enc) (C := Tryd.checked) false (laidW Tryd.prog (fun _ => 0) Rows.keysLinesUptoRow.laid os) #[.slice none 0 0, .slice none 0 0] rfl (by kernel_rfl) (by kernel_rfl) (by kernel_rfl)
      (OpenSpec.preRow_of_cond 8 hx (by kernel_rfl) (fun k hk => by cases hk; kernel_rfl) (by kernel_rfl) (laid_met os))) ?_
  intro W base args ds gs before hval hW _ hcond _ hL hsh _
  exact contract H enc W base args ds gs before hval hW (hcond _ rfl) hL hsh

theorem over : Rows.keysLinesUptoRow.holds Tryd.pinned (Rows.OpenSpec.upto Rows.keysLinesSpec) :=
  OpenClaim.holds_of_cond 10 Tryd.f10 rfl rfl rfl rfl rfl rfl rfl ⟨rfl, rfl, rfl, rfl, rfl⟩ rfl rfl rfl rfl rfl (by kernel_rfl) Tryd.func10 (by kernel_rfl)
    (of_decide_eq_true (by kernel_rfl)) (by unfold Func.isWrapper; first | (rw [if_pos (by decide +kernel)]; kernel_rfl) | (rw [if_neg (by decide +kernel)]; exact ⟨rfl, rfl⟩))
    (fun os started H enc _ F => by rw [OpenClaim.pre_eq_preRow]; exact lifted os started H enc F)

theorem keysLines_holds : Rows.KeysLinesUptoCardSaid :=
  Claim7.holds_tied_plain_at .later [] _ _ _ _ over (fun _ h => by cases h) (by kernel_rfl) (fun _ h => by cases h) keysLinesUpto_row_tie rfl ⟨rfl, rfl⟩ (by kernel_rfl) rfl
    (fun f fn hf hfn => by
      obtain rfl : f = 10 := Option.some.inj ((show Tryd.prog.funcNamed "porthole/portholelaw17.KeysLines" = some 10 by kernel_rfl).symm.trans hf) |>.symm
      obtain rfl : fn = Tryd.f10 := (Option.some.inj (Tryd.func10.symm.trans hfn)).symm
      refine ⟨by kernel_rfl, fun j t ht => ?_⟩
      rw [Tryd.params10] at ht
      have hm := Array.mem_of_getElem? ht
      simp only [List.mem_toArray, List.mem_cons, List.not_mem_nil, or_false] at hm
      rcases hm with rfl | rfl
      · exact (show Tryd.prog.wantsStandIn 31 = false by kernel_rfl)
      · exact (show Tryd.prog.wantsStandIn 22 = false by kernel_rfl))
    (by kernel_rfl)
end Go.Proofs.YthphbdkhbaijlaaDoor.klines
