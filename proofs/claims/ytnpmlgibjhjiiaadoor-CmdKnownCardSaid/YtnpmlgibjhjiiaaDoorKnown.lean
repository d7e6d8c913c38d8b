/-
  CmdKnown: chapter 24's examples, and more: a closed sentence.
-/
import Derived.Test.YtnpmlgibjhjiiaaDoorCards
import Derived.Test.YtnpmlgibjhjiiaaDoorTie
import Derived.Test.YtnpmlgibjhjiiaaDoorLine
namespace Go.Proofs.YtnpmlgibjhjiiaaDoor.known
open Go Go.Cm Go.ChangeShapes Go.WideShapes Go.ChangeAt Go.RowKit


theorem own : ownKnob Tryd.prog.godebug = none := by kernel_rfl
theorem rows_ok : (List.range ([] : List GW).length).all (fun g => (((begin Tryd.prog (fun _ _ => 0) default).world.heap[g]?).bind Obj.row?).isSome) = true := by kernel_rfl
set_option maxRecDepth 100000 in
theorem contract (H : Type) (enc : TypeId × Value → H) (W : World) (base : Nat) (args : Array Value) (ds gs : List (DataW H)) (before : List MemPlace)
    (hval : ∀ (j : Nat) t v, Tryd.f5.params[j]? = some t → args[j]? = some v → Value.okWide Tryd.prog W .any base t v)
    (hW : DataW.Whole enc Tryd.prog Tryd.f5.params.toList Rows.cmdKnownSpec.vars false W args.toList ds gs before) (hL : laidMetH Tryd.prog Rows.cmdKnownRow.laid W) (hsh : W.ShapedOpen Tryd.prog) :
    Calls Tryd.prog 5 args W fun e W' => ∃ v, e = .returned v ∧ Rows.cmdKnownSpec.post enc Tryd.prog Tryd.f5 false true false false W args v W' := by
  have hW' := hW
  obtain ⟨p, q, hA0, hV, _⟩ := hW'
  obtain ⟨rfl, _⟩ := trodVars_none hV
  have hA : DataW.TrodAll enc Tryd.prog W 0 (fun _ => true) true Tryd.f5.params.toList args.toList ds p := hA0
  rw [Tryd.params5] at hA
  obtain ⟨_, rfl, _⟩ := trodAll_nil hA
  refine law_contractG (C := sureC 5) (N := 1000) (dep := 10) [] (laid := Rows.cmdKnownRow.laid) prog_ok Tryd.func5 rfl (by kernel_rfl) (by kernel_rfl) hW rfl rfl ?_ ?_ rfl Tryd.underlying4 hval (by kernel_rfl) hL hsh (of_decide_eq_true (by kernel_rfl)) rows_ok ?_ ?_
  · rw [Tryd.params5]
    intro t ht
    cases ht
  · rw [Tryd.params5]
    intro t ht
    cases ht
  ·
    intro g n t d h
    simp at h
  · intro ws vs hgw hvs
    rw [Tryd.params5] at hvs
    match vs, hvs with
    | [], _ =>
      exact ⟨1, _, sureC_runs 5 1000 0 (heapW ws)⟩

theorem laid_met (os : Os) : laidMet Tryd.prog Rows.cmdKnownRow.laid ((laidW Tryd.prog tn Rows.cmdKnownRow.laid os).forCall (fun _ _ => 0) ⟨#[], #[], []⟩).memory :=
  laidMet_of_run3 30 (by kernel_rfl) (by kernel_rfl) (by kernel_rfl)
theorem reads (os : Os) (H : Type) (enc : TypeId × Value → H) : ∃ places, DataW.whole enc Tryd.prog ((laidW Tryd.prog tn Rows.cmdKnownRow.laid os).forCall (fun _ _ => 0) ⟨#[], #[], []⟩).memory Tryd.f5.params.toList Rows.cmdKnownSpec.vars false (#[] : Array Value).toList 8 = some ([], [], places) :=
  ⟨[], by kernel_rfl⟩
set_option maxRecDepth 100000 in
theorem lifted (os : Os) (started : os.Started) (H : Type) (enc : TypeId × Value → H) (F : Stop.Interp) :
    ReturnsInHanded {} Tryd.checked os 5 .any ((OpenSpec.ofChange Rows.cmdKnownSpec).preRow enc Tryd.prog Tryd.f5 Rows.cmdKnownRow.domain false Rows.cmdKnownRow.laid) (((OpenSpec.ofChange Rows.cmdKnownSpec).at F).post enc Tryd.prog Tryd.f5 false true false false) := by
  obtain ⟨places, hx⟩ := reads os H enc
  refine returnsInHanded_of_row (C := Tryd.checked) (s := (OpenSpec.ofChange Rows.cmdKnownSpec)) own started (by kernel_rfl) Tryd.func5
    (witness_row_atRef (enc := enc) (C := Tryd.checked) false (laidW Tryd.prog tn Rows.cmdKnownRow.laid os) #[] rfl (by kernel_rfl) (by kernel_rfl) (by kernel_rfl)
      (OpenSpec.preRow_of_cond 8 hx (by kernel_rfl) (fun k hk => by cases hk) (by kernel_rfl) (laid_met os))) ?_
  intro W base args ds gs before hval hW _ hcond _ hL hsh _
  exact contract H enc W base args ds gs before hval hW hL hsh

theorem over : Rows.cmdKnownRow.holds Tryd.pinned (OpenSpec.ofChange Rows.cmdKnownSpec) :=
  OpenClaim.holds_of_cond 5 Tryd.f5 rfl rfl rfl rfl rfl rfl rfl ⟨rfl, rfl, rfl, rfl, rfl⟩ rfl rfl rfl rfl rfl (by kernel_rfl) Tryd.func5 (by kernel_rfl)
    (of_decide_eq_true (by kernel_rfl)) (by unfold Func.isWrapper; first | (rw [if_pos (by decide +kernel)]; kernel_rfl) | (rw [if_neg (by decide +kernel)]; exact ⟨rfl, rfl⟩))
    (fun os started H enc _ F => by rw [OpenClaim.pre_eq_preRow]; exact lifted os started H enc F)

theorem cmdKnown_holds : Rows.CmdKnownCardSaid :=
  Claim7.holds_tied_plain_at .later [] _ _ _ _ over (fun _ h => by cases h) (by kernel_rfl) (fun _ h => by cases h) cmdKnown_row_tie rfl ⟨rfl, rfl⟩ (by kernel_rfl) rfl
    (fun f fn hf hfn => by
      obtain rfl : f = 5 := Option.some.inj ((show Tryd.prog.funcNamed "porthole/portholelaw24.CmdKnown" = some 5 by kernel_rfl).symm.trans hf) |>.symm
      obtain rfl : fn = Tryd.f5 := (Option.some.inj (Tryd.func5.symm.trans hfn)).symm
      refine ⟨by kernel_rfl, fun j t ht => ?_⟩
      rw [Tryd.params5] at ht
      simp at ht)
    (by kernel_rfl)
end Go.Proofs.YtnpmlgibjhjiiaaDoor.known
