/-
  slices.Sorted(maps.Keys(m)) over the sessions' map, at this seat: the kit's contracts, as its program lay-iter.mjs lays them; Sorted at any block that holds a map.
  And: MuxKnown: the frame: the call's answer holds in a law's memory. MuxKnown: chapter 23's example, and more: a closed sentence.
-/
import Derived.Shelf.SlIter.Nil
import Derived.Shelf.SortM.Plain
import Derived.Shelf.SortM.SortNone
import Derived.Ground.GgzProg
import Derived.Ground.SlgmProg
import Derived.Test.YtkkhljcjjhcnhaaGreatDoorShelf
import Derived.Test.YtkkhljcjjhcnhaaGreatDoorRows
import Derived.Test.YtkkhljcjjhcnhaaGreatDoorCmG
import Derived.Test.YtkkhljcjjhcnhaaGreatDoorLineB
import Derived.Shelf.Vars
import Derived.ChangeMaps5
import Derived.ChangeSlices
import Derived.Test.YtkkhljcjjhcnhaaGreatDoorCards
import Derived.Test.YtkkhljcjjhcnhaaGreatDoorTie
namespace Go.Proofs
open Go.RowKit Go.Maps Go.Sort Go.Shelf


theorem Tryz.sorts34 (m : Nat) : AnyZ.SortsIn Tryz.prog Tryz.sorted34_ren Fence.wide m :=
  ⟨fun blk off cap ss W hH hblk hsz => callsIn_wide.2 (AnyM.slices_Sort_string Tryz.sort60 blk off cap ss W hH hblk hsz),
   fun p cap W => callsIn_wide.2 (AnyM.slices_Sort_string_none Tryz.sort60 p cap W)⟩
theorem Tryz.keys_any (mb : Option Nat) (W : World) : Calls Tryz.prog 35 #[.map mb] W fun e w' => e = .returned (.func (.func 61) #[] #[.pointer (some ⟨W.heap.size, 0, none⟩)]) ∧ w' = W.alloc (.cells #[.map mb] 68) :=
  callsIn_wide.1 (AnyZ.keys_in Tryz.keys35 Fence.wide 5 trivial rfl mb W)
set_option maxHeartbeats 1000000 in
theorem Tryz.sorted_any (Bm b nn : Nat) (D0 : DataW Unit) (R : Value → Option (DataW Unit × List MemPlace)) (w : World) (hB : Bm < w.heap.size) (hc : w.cell? ⟨Bm, 0, none⟩ = some (.map (some b))) (hown : w.ownsMap Tryz.prog 9 R b nn D0) (hmax : Maps.size D0 ≤ maxLen) (hbytes : Maps.size D0 * 16 ≤ 140737488355328) :
    Calls Tryz.prog 34 #[.func (.func 61) #[] #[.pointer (some ⟨Bm, 0, none⟩)]] w fun e w' => ∃ (v : Value) (ss : List (List UInt8)), e = .returned v ∧ ss.Perm (strKeys D0) ∧
      w'.ownsRow w.heap.size 9 1 v ss.length ((ss.mergeSort (fun x y => decide (x ≤ y))).map encStr) ∧ (v = .slice none 0 0 ↔ ss = []) ∧ Below w.heap.size w w' := by
  have hseq : SeqGives Fence.wide 2 Tryz.prog 61 #[.pointer (some ⟨Bm, 0, none⟩)] encStr (fun ss => ss.Perm (strKeys D0)) (Maps.size D0) w :=
    AnyZ.keys_gives (ρ := Tryz.keys35_ren) { Tryz.keys35 with } Fence.wide _ trivial rfl (by omega) Bm b nn D0 w hB hc hown
  exact callsIn_wide.1 (AnyZ.sorted_in Tryz.sorted34 Fence.wide 5 trivial trivial trivial trivial rfl (by omega) (Tryz.sorts34 _) (enters_of Tryz.func60 (by kernel_rfl) rfl) 61 #[.pointer (some ⟨Bm, 0, none⟩)] trivial (enters_of Tryz.func61 (by kernel_rfl) rfl) _ _ hmax hbytes _ hseq)
end Go.Proofs

namespace Go.Cm
open Go
/-- what lies in a package-level variable of which nothing is wanted -/
theorem win_any {P : Program} {w : World} (hsh : w.ShapedOpen P) {g : Nat} {e : TypeId} (hlt : g < P.globals.size)
    (hrow : (((begin P (fun _ _ => 0) default).world.heap[g]?).bind Obj.row?).map (·.2) = some e) : ∃ c fr, w.heap[g]? = some (.cells c e fr) := by
  obtain ⟨x, hx, rfl⟩ := Option.map_eq_some_iff.1 hrow
  obtain ⟨cs, h1, _⟩ := hsh.1 g x.1 x.2 hlt hx
  exact ⟨_, _, h1⟩
end Go.Cm
namespace Go.Proofs.YtkkhljcjjhcnhaaGreatDoor.kev
open Go Go.Cm Go.ChangeShapes Go.WideShapes Go.ChangeAt Go.RowKit

theorem mixed : Tryz.prog.follows .mixedOrders = true := Tryz.checked.mixed
theorem f3 : flatD 5 Rows.laid_unicode_utf8_first = some c3 := by kernel_rfl
theorem f4 : flatD 5 (Rows.laid_unicode_utf8_acceptRanges : DataW Unit) = some c4 := by kernel_rfl
theorem v3 : c3.all flatV = true := by kernel_rfl
theorem v4 : c4.all flatV = true := by kernel_rfl

set_option maxRecDepth 100000 in
theorem ck_ok (w : World) : ProgOK Tryz.prog (startG W0.length W0.length w) [0, 1, 2, 3, 4] CK.toC := by
  have hgl : ∀ g ∈ [0, 1, 2, 3, 4], g < (startG W0.length W0.length w).ng := fun g h => by
    show g < 5
    simp only [List.mem_cons, List.not_mem_nil, or_false] at h
    omega
  refine ⟨hgl, fun f c h => ?_, fun f p h => ?_, fun _ hc _ => draw_ok mixed hgl hc⟩
  · obtain ⟨c', h1, rfl⟩ := Option.map_eq_some_iff.1 (show (look2F litf.tab f).map FFunc.toC = some c from h)
    exact look2F_ok litf.tab_ok h1
  · have h' : (if f = 44 then some joinP else if f = 35 then some (keysP 61 68) else if f = 34 then some (sortedP 61 9) else none) = some p := h
    split at h'
    · rename_i e
      subst e
      simp only [Option.some.injEq] at h'
      subst h'
      exact join_ok (enters_of Tryz.func44 (by kernel_rfl) rfl) Tryz.strings_Join_none Tryz.strings_Join
    · split at h'
      · rename_i e
        subst e
        simp only [Option.some.injEq] at h'
        subst h'
        exact keys_ok (enters_of Tryz.func35 (by kernel_rfl) rfl) Tryz.keys_any
      · split at h'
        · rename_i e
          subst e
          simp only [Option.some.injEq] at h'
          subst h'
          exact sorted_ok (by kernel_rfl) (enters_of Tryz.func34 (by kernel_rfl) rfl) Tryz.underlying9 Tryz.sorted_any
        · cases h'

set_option maxRecDepth 100000 in
theorem prog_of {W : World} (hL : laidMetH Tryz.prog Rows.muxKnownRow.laid W) (hsh : W.ShapedOpen Tryz.prog) (n0 : Nat) : ProgOK Tryz.prog (startG ([] : List GW).length n0 W) [] (sureC 8) := by
  obtain ⟨H1, h⟩ := known
  refine sureC_ok mixed (closed_ok ck_ok (fun g x hx => ?_) h)
  obtain ⟨ca, fa, a1, a2⟩ := win_of_laid (g := 3) (t := 232) (e := 232) (dep := 10) (by kernel_rfl) hL hsh (List.mem_cons_of_mem _ (List.mem_cons_of_mem _ (List.mem_cons_of_mem _ (List.mem_cons_of_mem _ List.mem_cons_self)))) (by kernel_rfl) (by kernel_rfl) (by kernel_rfl) f3 (of_decide_eq_true (by kernel_rfl)) (by kernel_rfl)
  obtain ⟨cb, fb, b1, b2⟩ := win_of_laid (g := 4) (t := 235) (e := 235) (dep := 10) (by kernel_rfl) hL hsh (List.mem_cons_of_mem _ (List.mem_cons_of_mem _ (List.mem_cons_of_mem _ List.mem_cons_self))) (by kernel_rfl) (by kernel_rfl) (by kernel_rfl) f4 (of_decide_eq_true (by kernel_rfl)) (by kernel_rfl)
  obtain ⟨x0, y0, z0⟩ := win_any hsh (g := 0) (e := el 0) (of_decide_eq_true (by kernel_rfl)) (by kernel_rfl)
  obtain ⟨x1, y1, z1⟩ := win_any hsh (g := 1) (e := el 1) (of_decide_eq_true (by kernel_rfl)) (by kernel_rfl)
  obtain ⟨x2, y2, z2⟩ := win_any hsh (g := 2) (e := el 2) (of_decide_eq_true (by kernel_rfl)) (by kernel_rfl)
  rcases g with _ | _ | _ | _ | _ | g
  · simp only [W0, List.getElem?_cons_zero, Option.some.injEq] at hx
    subst hx
    exact ⟨rfl, rfl, (fun v hv => by cases hv), x0, y0, z0, .inl rfl⟩
  · simp only [W0, List.getElem?_cons_succ, List.getElem?_cons_zero, Option.some.injEq] at hx
    subst hx
    exact ⟨rfl, rfl, (fun v hv => by cases hv), x1, y1, z1, .inl rfl⟩
  · simp only [W0, List.getElem?_cons_succ, List.getElem?_cons_zero, Option.some.injEq] at hx
    subst hx
    exact ⟨rfl, rfl, (fun v hv => by cases hv), x2, y2, z2, .inl rfl⟩
  · simp only [W0, List.getElem?_cons_succ, List.getElem?_cons_zero, Option.some.injEq] at hx
    subst hx
    exact ⟨rfl, rfl, fun v hv => List.all_eq_true.1 v3 v hv, ca, fa, a1, .inr a2⟩
  · simp only [W0, List.getElem?_cons_succ, List.getElem?_cons_zero, Option.some.injEq] at hx
    subst hx
    exact ⟨rfl, rfl, fun v hv => List.all_eq_true.1 v4 v hv, cb, fb, b1, .inr b2⟩
  · simp [W0] at hx
end Go.Proofs.YtkkhljcjjhcnhaaGreatDoor.kev

namespace Go.Proofs.YtkkhljcjjhcnhaaGreatDoor.kev
open Go Go.Cm Go.ChangeShapes Go.WideShapes Go.ChangeAt Go.RowKit


theorem own : ownKnob Tryz.prog.godebug = none := by kernel_rfl
theorem rows_ok : (List.range ([] : List GW).length).all (fun g => (((begin Tryz.prog (fun _ _ => 0) default).world.heap[g]?).bind Obj.row?).isSome) = true := by kernel_rfl
set_option maxRecDepth 100000 in
theorem contract (H : Type) (enc : TypeId × Value → H) (W : World) (base : Nat) (args : Array Value) (ds gs : List (DataW H)) (before : List MemPlace)
    (hval : ∀ (j : Nat) t v, Tryz.f8.params[j]? = some t → args[j]? = some v → Value.okWide Tryz.prog W .any base t v)
    (hW : DataW.Whole enc Tryz.prog Tryz.f8.params.toList Rows.muxKnownSpec.vars false W args.toList ds gs before) (hL : laidMetH Tryz.prog Rows.muxKnownRow.laid W) (hsh : W.ShapedOpen Tryz.prog) :
    Calls Tryz.prog 8 args W fun e W' => ∃ v, e = .returned v ∧ Rows.muxKnownSpec.post enc Tryz.prog Tryz.f8 false true false false W args v W' := by
  have hW' := hW
  obtain ⟨p, q, hA0, hV, _⟩ := hW'
  obtain ⟨rfl, _⟩ := trodVars_none hV
  have hA : DataW.TrodAll enc Tryz.prog W 0 (fun _ => true) true Tryz.f8.params.toList args.toList ds p := hA0
  rw [Tryz.params8] at hA
  obtain ⟨_, rfl, _⟩ := trodAll_nil hA
  refine law_contractG (C := sureC 8) (N := 1000) (dep := 10) [] (laid := Rows.muxKnownRow.laid) (prog_of hL hsh) Tryz.func8 rfl (by kernel_rfl) (by kernel_rfl) hW rfl rfl ?_ ?_ rfl Tryz.underlying4 hval (by kernel_rfl) hL hsh (of_decide_eq_true (by kernel_rfl)) rows_ok ?_ ?_
  · rw [Tryz.params8]
    intro t ht
    cases ht
  · rw [Tryz.params8]
    intro t ht
    cases ht
  ·
    intro g n t d h
    simp at h
  · intro ws vs hgw hvs
    rw [Tryz.params8] at hvs
    match vs, hvs with
    | [], _ =>
      exact ⟨1, _, sureC_runs 8 1000 0 (heapW ws)⟩

theorem laid_met (os : Os) : laidMet Tryz.prog Rows.muxKnownRow.laid ((laidW Tryz.prog (fun _ => 0) Rows.muxKnownRow.laid os).forCall (fun _ _ => 0) ⟨#[], #[], []⟩).memory :=
  laidMet_of_run3 30 (by kernel_rfl) (by kernel_rfl) (by kernel_rfl)
theorem reads (os : Os) (H : Type) (enc : TypeId × Value → H) : ∃ places, DataW.whole enc Tryz.prog ((laidW Tryz.prog (fun _ => 0) Rows.muxKnownRow.laid os).forCall (fun _ _ => 0) ⟨#[], #[], []⟩).memory Tryz.f8.params.toList Rows.muxKnownSpec.vars false (#[] : Array Value).toList 8 = some ([], [], places) :=
  ⟨[], by kernel_rfl⟩
set_option maxRecDepth 100000 in
theorem lifted (os : Os) (started : os.Started) (H : Type) (enc : TypeId × Value → H) (F : Stop.Interp) :
    ReturnsInHanded {} Tryz.checked os 8 .any ((OpenSpec.ofChange Rows.muxKnownSpec).preRow enc Tryz.prog Tryz.f8 Rows.muxKnownRow.domain false Rows.muxKnownRow.laid) (((OpenSpec.ofChange Rows.muxKnownSpec).at F).post enc Tryz.prog Tryz.f8 false true false false) := by
  obtain ⟨places, hx⟩ := reads os H enc
  refine returnsInHanded_of_row (C := Tryz.checked) (s := (OpenSpec.ofChange Rows.muxKnownSpec)) own started (by kernel_rfl) Tryz.func8
    (witness_row_atRef (enc := enc) (C := Tryz.checked) false (laidW Tryz.prog (fun _ => 0) Rows.muxKnownRow.laid os) #[] rfl (by kernel_rfl) (by kernel_rfl) (by kernel_rfl)
      (OpenSpec.preRow_of_cond 8 hx (by kernel_rfl) (fun k hk => by cases hk) (by kernel_rfl) (laid_met os))) ?_
  intro W base args ds gs before hval hW _ hcond _ hL hsh _
  exact contract H enc W base args ds gs before hval hW hL hsh

theorem over : Rows.muxKnownRow.holds Tryz.pinned (OpenSpec.ofChange Rows.muxKnownSpec) :=
  OpenClaim.holds_of_cond 8 Tryz.f8 rfl rfl rfl rfl rfl rfl rfl ⟨rfl, rfl, rfl, rfl, rfl⟩ rfl rfl rfl rfl rfl (by kernel_rfl) Tryz.func8 (by kernel_rfl)
    (of_decide_eq_true (by kernel_rfl)) (by unfold Func.isWrapper; first | (rw [if_pos (by decide +kernel)]; kernel_rfl) | (rw [if_neg (by decide +kernel)]; exact ⟨rfl, rfl⟩))
    (fun os started H enc _ F => by rw [OpenClaim.pre_eq_preRow]; exact lifted os started H enc F)

theorem muxKnown_holds : Rows.MuxKnownCardSaid :=
  Claim7.holds_tied_plain_at .later [] _ _ _ _ over (fun _ h => by cases h) (by kernel_rfl) (fun _ h => by cases h) muxKnown_row_tie rfl ⟨rfl, rfl⟩ (by kernel_rfl) rfl
    (fun f fn hf hfn => by
      obtain rfl : f = 8 := Option.some.inj ((show Tryz.prog.funcNamed "porthole/portholelaw23.MuxKnown" = some 8 by kernel_rfl).symm.trans hf) |>.symm
      obtain rfl : fn = Tryz.f8 := (Option.some.inj (Tryz.func8.symm.trans hfn)).symm
      refine ⟨by kernel_rfl, fun j t ht => ?_⟩
      rw [Tryz.params8] at ht
      simp at ht)
    (by kernel_rfl)
end Go.Proofs.YtkkhljcjjhcnhaaGreatDoor.kev
