/-
  KeysKnown: chapter 17's examples, and more: a closed sentence.
-/
import Derived.Test.YthphbdkhbaijlaaDoorCards
import Derived.Test.YthphbdkhbaijlaaDoorTie
import Derived.Test.YthphbdkhbaijlaaDoorLine
namespace Go.Proofs.YthphbdkhbaijlaaDoor.known
open Go Go.Cm Go.ChangeShapes Go.WideShapes Go.ChangeAt Go.RowKit


theorem own : ownKnob Tryd.prog.godebug = none := by kernel_rfl
theorem rows_ok : (List.range ([] : List GW).length).all (fun g => (((begin Tryd.prog (fun _ _ => 0) default).world.heap[g]?).bind Obj.row?).isSome) = true := by kernel_rfl
set_option maxRecDepth 100000 in
theorem contract (H : Type) (enc : TypeId × Value → H) (W : World) (base : Nat) (args : Array Value) (ds gs : List (DataW H)) (before : List MemPlace)
    (hval : ∀ (j : Nat) t v, Tryd.f11.params[j]? = some t → args[j]? = some v → Value.okWide Tryd.prog W .any base t v)
    (hW : DataW.Whole enc Tryd.prog Tryd.f11.params.toList Rows.keysKnownSpec.vars false W args.toList ds gs before) (hL : laidMetH Tryd.prog Rows.keysKnownRow.laid W) (hsh : W.ShapedOpen Tryd.prog) :
    Calls Tryd.prog 11 args W fun e W' => ∃ v, e = .returned v ∧ Rows.keysKnownSpec.post enc Tryd.prog Tryd.f11 false true false false W args v W' := by
  have hW' := hW
  obtain ⟨p, q, hA0, hV, _⟩ := hW'
  obtain ⟨rfl, _⟩ := trodVars_none hV
  have hA : DataW.TrodAll enc Tryd.prog W 0 (fun _ => true) true Tryd.f11.params.toList args.toList ds p := hA0
  rw [Tryd.params11] at hA
  obtain ⟨_, rfl, _⟩ := trodAll_nil hA
  refine law_contractG (C := sureC 11) (N := 1000) (dep := 10) [] (laid := Rows.keysKnownRow.laid) (fun n0 => prog_ok n0 _) Tryd.func11 rfl (by kernel_rfl) (by kernel_rfl) hW rfl rfl ?_ ?_ rfl Tryd.underlying4 hval (by kernel_rfl) hL hsh (of_decide_eq_true (by kernel_rfl)) rows_ok ?_ ?_
  · rw [Tryd.params11]
    intro t ht
    cases ht
  · rw [Tryd.params11]
    intro t ht
    cases ht
  ·
    intro g n t d h
    simp at h
  · intro ws vs hgw hvs
    rw [Tryd.params11] at hvs
    match vs, hvs with
    | [], _ =>
      exact ⟨1, _, sureC_runs 11 1000 0 (heapW ws)⟩

theorem laid_met (os : Os) : laidMet Tryd.prog Rows.keysKnownRow.laid ((laidW Tryd.prog (fun _ => 0) Rows.keysKnownRow.laid os).forCall (fun _ _ => 0) ⟨#[], #[], []⟩).memory :=
  laidMet_of_run3 30 (by kernel_rfl) (by kernel_rfl) (by kernel_rfl)
theorem reads (os : Os) (H : Type) (enc : TypeId × Value → H) : ∃ places, DataW.whole enc Tryd.prog ((laidW Tryd.prog (fun _ => 0) Rows.keysKnownRow.laid os).forCall (fun _ _ => 0) ⟨#[], #[], []⟩).memory Tryd.f11.params.toList Rows.keysKnownSpec.vars false (#[] : Array Value).toList 8 = some ([], [], places) :=
  ⟨[], by kernel_rfl⟩
set_option maxRecDepth 100000 in
theorem lifted (os : Os) (started : os.Started) (H : Type) (enc : TypeId × Value → H) (F : Stop.Interp) :
    ReturnsInHanded {} Tryd.checked os 11 .any ((OpenSpec.ofChange Rows.keysKnownSpec).preRow enc Tryd.prog Tryd.f11 Rows.keysKnownRow.domain false Rows.keysKnownRow.laid) (((OpenSpec.ofChange Rows.keysKnownSpec).at F).post enc Tryd.prog Tryd.f11 false true false false) := by
  obtain ⟨places, hx⟩ := reads os H enc
  refine returnsInHanded_of_row (C := Tryd.checked) (s := (OpenSpec.ofChange Rows.keysKnownSpec)) own started (by kernel_rfl) Tryd.func11
    (witness_row_atRef (enc := enc) (C := Tryd.checked) false (laidW Tryd.prog (fun _ => 0) Rows.keysKnownRow.laid os) #[] rfl (by kernel_rfl) (by kernel_rfl) (by kernel_rfl)
      (OpenSpec.preRow_of_cond 8 hx (by kernel_rfl) (fun k hk => by cases hk) (by kernel_rfl) (laid_met os))) ?_
  intro W base args ds gs before hval hW _ hcond _ hL hsh _
  exact contract H enc W base args ds gs before hval hW hL hsh

theorem over : Rows.keysKnownRow.holds Tryd.pinned (OpenSpec.ofChange Rows.keysKnownSpec) :=
  OpenClaim.holds_of_cond 11 Tryd.f11 rfl rfl rfl rfl rfl rfl rfl ⟨rfl, rfl, rfl, rfl, rfl⟩ rfl rfl rfl rfl rfl (by kernel_rfl) Tryd.func11 (by kernel_rfl)
    (of_decide_eq_true (by kernel_rfl)) (by unfold Func.isWrapper; first | (rw [if_pos (by decide +kernel)]; kernel_rfl) | (rw [if_neg (by decide +kernel)]; exact ⟨rfl, rfl⟩))
    (fun os started H enc _ F => by rw [OpenClaim.pre_eq_preRow]; exact lifted os started H enc F)

theorem keysKnown_holds : Rows.KeysKnownCardSaid :=
  Claim7.holds_tied_plain_at .later [] _ _ _ _ over (fun _ h => by cases h) (by kernel_rfl) (fun _ h => by cases h) keysKnown_row_tie rfl ⟨rfl, rfl⟩ (by kernel_rfl) rfl
    (fun f fn hf hfn => by
      obtain rfl : f = 11 := Option.some.inj ((show Tryd.prog.funcNamed "porthole/portholelaw17.KeysKnown" = some 11 by kernel_rfl).symm.trans hf) |>.symm
      obtain rfl : fn = Tryd.f11 := (Option.some.inj (Tryd.func11.symm.trans hfn)).symm
      refine ⟨by kernel_rfl, fun j t ht => ?_⟩
      rw [Tryd.params11] at ht
      simp at ht)
    (by kernel_rfl)
end Go.Proofs.YthphbdkhbaijlaaDoor.known
