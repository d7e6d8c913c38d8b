/-
  MuxQueue: what is put in comes out, in order, up to what may wait; what does not fit is refused whole; for arguments of at most 1048576 values and letters.
-/
import Derived.Test.YtkkhljcjjhcnhaaRows
import Derived.Test.YtkkhljcjjhcnhaaLine
import Derived.ChangeMaps5
import Derived.ChangeSlices
namespace Go.Proofs.Ytkkhljcjjhcnhaa.muxq
open Go Go.Cm Go.ChangeShapes Go.WideShapes Go.ChangeAt Go.RowKit

theorem own : ownKnob Try.prog.godebug = none := by kernel_rfl
theorem mixed : Try.prog.follows .mixedOrders = true := Try.checked.mixed

theorem one_le {H : Type} (d : DataW H) : 1 ≤ Rows.uptoBulk d := by
  cases d with
  | lit l => cases l <;> simp [Rows.uptoBulk]
  | _ => simp [Rows.uptoBulk]
theorem length_le {H : Type} (l : List (DataW H)) : l.length ≤ Rows.uptoBulkAll l := by
  induction l with
  | nil => simp [Rows.uptoBulkAll]
  | cons x r ih => have := one_le x; simp only [Rows.uptoBulkAll, List.length_cons]; omega
theorem slice_le {H : Type} (elems spare : List (DataW H)) : elems.length + spare.length + 1 ≤ Rows.uptoBulk (.slice elems spare) := by
  have h1 := length_le elems
  have h2 := length_le spare
  simp only [Rows.uptoBulk]
  omega
theorem all_le {H : Type} {d : DataW H} {l : List (DataW H)} (h : d ∈ l) : Rows.uptoBulk d ≤ Rows.uptoBulkAll l := by
  induction l with
  | nil => cases h
  | cons x r ih =>
    simp only [Rows.uptoBulkAll]
    rcases List.mem_cons.1 h with rfl | h
    · omega
    · have := ih h; omega

theorem known_ev : (match callD ⟨autoFn [] Try.prog, fun _ => none⟩ 1000 50 5 [] (heap0 0 fun _ => none) with
  | some (.bool b, _) => b
  | _ => false) = true := by kernel_rfl
theorem known : ∃ H1, callD ⟨autoFn [] Try.prog, fun _ => none⟩ 1000 50 5 [] (heap0 0 fun _ => none) = some (.bool true, H1) := by
  have h := known_ev
  split at h
  · rename_i b H1 e
    subst h
    exact ⟨H1, e⟩
  · cases h

theorem prog_ok (n0 : Nat) (w : World) : ProgOK Try.prog (Cm.start n0 w) [] dec.C := by
  refine ⟨fun g h => absurd h (List.not_mem_nil), fun _ _ h => autoC_ok h, fun f p h => ?_, fun _ hc _ => draw_ok mixed (fun g h => absurd h (List.not_mem_nil)) hc⟩
  unfold dec.C at h
  simp only at h
  split at h
  · rename_i e
    subst e
    simp only [Option.some.injEq] at h
    subst h
    obtain ⟨H1, hev⟩ := known
    have hk := sure_ok (w0 := Cm.start n0 w) mixed hev
    intro g vs vs' H v H' μ w' hc
    by_cases e : g = 5
    · subst e
      refine hk 5 vs vs' H v H' μ w' ?_
      simpa using hc
    · exact absurd hc (by simp [e])
  · cases h

/-- a slice whose elements take one cell: its cells -/
theorem cells_of {H : Type} {ws : List Win} {t e : TypeId} {cs : List Value} {d : DataW H} (ht : Try.prog.underlying t = some (.slice e)) (hc : Try.prog.cellsOf e = 1) {α : Type} (R : α → Value → Prop) (hg : ∀ cs (d' : DataW H), Rows.uptoBulk d' ≤ Rows.uptoBulk d → DR Try.prog ws e cs d' → ∃ n v, cs = [v] ∧ R n v) (h : DR Try.prog ws t cs d) (z : α) :
    ∃ (x : Sl) (l : List α), cs = [x.v] ∧ x.n = l.length ∧ l.length ≤ Rows.uptoBulk d ∧ ∀ (i : Nat) n, l[i]? = some n → ∃ b v, b < ws.length ∧ x.a = some ⟨b, 0, none⟩ ∧ (heapW ws).ld1 ⟨b, i, none⟩ = some v ∧ R n v := by
  obtain ⟨x, es, rest, rfl, h1, _, h3, h4⟩ := h.slice_inv ht
  have each : ∀ i, i < es.length → ∃ n b v, b < ws.length ∧ x.a = some ⟨b, 0, none⟩ ∧ (heapW ws).ld1 ⟨b, i, none⟩ = some v ∧ R n v := by
    intro i hi
    obtain ⟨b, y, q1, q2, q3, q4⟩ := h4 i _ (List.getElem?_eq_getElem hi)
    rw [hc] at q3 q4
    obtain ⟨n, v, g1, g2⟩ := hg _ _ (by
      rcases h3 with ⟨rfl, rfl⟩ | rfl
      · cases hi
      · have := all_le (List.getElem_mem hi)
        simp only [Rows.uptoBulk]; omega) q4
    refine ⟨n, b, v, (List.getElem?_eq_some_iff.1 q2).1, q1, ?_, g2⟩
    rw [ld1_s (heapW_get q2)]
    rw [Nat.mul_one] at g1
    have : ((y.cells.drop i).take 1)[0]? = some v := by rw [g1]; rfl
    simpa using this
  refine ⟨x, (List.range es.length).map fun i => if hi : i < es.length then (each i hi).choose else z, rfl, by simpa using h1, ?_, fun i n hn => ?_⟩
  · simp only [List.length_map, List.length_range]
    rcases h3 with ⟨rfl, rfl⟩ | rfl
    · simp
    · have := slice_le es rest
      omega
  · have hlt := (List.getElem?_eq_some_iff.1 hn).1
    simp only [List.length_map, List.length_range] at hlt
    rw [List.getElem?_map, List.getElem?_range hlt] at hn
    simp only [Option.map_some, Option.some.injEq, dif_pos hlt] at hn
    subst hn
    exact (each i hlt).choose_spec

theorem ints_of {H : Type} {ws : List Win} {cs : List Value} {d : DataW H} (h : DR Try.prog ws 23 cs d) : ∃ (x : Sl) (l : List Int), cs = [x.v] ∧ dec.ArgI (heapW ws).next (heapW ws) x l := by
  obtain ⟨x, l, h1, h2, h3, h4⟩ := cells_of Try.underlying23 (by kernel_rfl) (fun (n : Int) v => v = .int .i64 n) (fun cs d _ q => by obtain ⟨n, q1, _⟩ := q.int_inv Try.underlying3; exact ⟨n, _, q1, rfl⟩) h 0
  refine ⟨x, l, h1, h2, fun i n hn => ?_⟩
  obtain ⟨b, v, q1, q2, q3, rfl⟩ := h4 i n hn
  exact ⟨b, q1, q2, q3⟩
theorem bytes_of {H : Type} {ws : List Win} {cs : List Value} {d : DataW H} (h : DR Try.prog ws 30 cs d) : ∃ (x : Sl) (w : dec.W), cs = [x.v] ∧ dec.Src (heapW ws) x w ∧ (w ≠ [] → ∀ k, x.at k → k < (heapW ws).next) ∧ w.length ≤ Rows.uptoBulk d := by
  obtain ⟨x, w, h1, h2, h3, h4⟩ := cells_of Try.underlying30 (by kernel_rfl) (fun (c : UInt8) v => v = .int .u8 (c.toNat : Int)) (fun cs d _ q => by
    obtain ⟨n, q1, _, q2⟩ := q.int_inv Try.underlying5
    have hn : 0 ≤ n ∧ n ≤ 255 := by
      simp only [Lit.wf, decide_eq_true_eq, Bool.and_eq_true] at q2
      have e1 : IntKind.u8.min = 0 := by decide
      have e2 : IntKind.u8.max = 255 := by decide
      omega
    refine ⟨UInt8.ofNat n.toNat, _, q1, ?_⟩
    have : ((UInt8.ofNat n.toNat).toNat : Int) = n := by simp; omega
    rw [this]) h 0
  refine ⟨x, w, h1, ⟨h2, ?_⟩, fun hne k hk => ?_, h3⟩
  · by_cases hw : w = []
    · exact .inl hw
    · have h0 : 0 < w.length := List.length_pos_iff.2 hw
      obtain ⟨b, v, q1, q2, q3, rfl⟩ := h4 0 w[0] (List.getElem?_eq_getElem h0)
      refine .inr ⟨b, 0, q2, q1, ?_⟩
      have each : ∀ (i : Nat) c, w[i]? = some c → (heapW ws).ld1 ⟨b, i, none⟩ = some (.int .u8 (c.toNat : Int)) := fun i c hi => by
        obtain ⟨b', v', p1, p2, p3, rfl⟩ := h4 i c hi
        rw [q2] at p2; cases p2; exact p3
      unfold Heap.ld1 at q3
      split at q3
      · rename_i c e op fz st hg
        have hc : ∀ (i : Nat) y, w[i]? = some y → c[i]? = some (.int .u8 (y.toNat : Int)) := fun i y hi => by
          have := each i y hi
          rw [ld1_s hg] at this
          exact this
        have hlast := (List.getElem?_eq_some_iff.1 (hc (w.length - 1) w[w.length - 1] (List.getElem?_eq_getElem (by omega)))).1
        rw [ldN_s hg (by omega), List.drop_zero]
        congr 1
        apply List.ext_getElem?
        intro i
        by_cases hi : i < w.length
        · rw [List.getElem?_take_of_lt hi, hc i w[i] (List.getElem?_eq_getElem hi)]
          simp [bc, List.getElem?_eq_getElem hi]
        · rw [List.getElem?_eq_none (by simp; omega), List.getElem?_eq_none (by simp [bc]; omega)]
      · cases q3
  · have h0 : 0 < w.length := List.length_pos_iff.2 hne
    obtain ⟨b, v, q1, q2, _, _⟩ := h4 0 w[0] (List.getElem?_eq_getElem h0)
    obtain ⟨a, ha, rfl⟩ := hk
    rw [q2] at ha; cases ha
    exact q1
theorem args_of {H : Type} {ws : List Win} {cs : List Value} {d : DataW H} (h : DR Try.prog ws 22 cs d) (hk : Rows.uptoBulk d ≤ 1048576) : ∃ (x : Sl) (l : List dec.W), cs = [x.v] ∧ dec.ArgL (heapW ws).next (heapW ws) x l := by
  obtain ⟨x, l, h1, h2, h3, h4⟩ := cells_of Try.underlying22 (by kernel_rfl) (fun (w : dec.W) v => ∃ y : Sl, v = y.v ∧ dec.Src (heapW ws) y w ∧ (w ≠ [] → ∀ k, y.at k → k < (heapW ws).next) ∧ w.length ≤ 1048576) (fun cs d' hd q => by
    obtain ⟨y, w, q1, q2, q3, q4⟩ := bytes_of q
    exact ⟨w, y.v, q1, y, rfl, q2, q3, by omega⟩) h []
  refine ⟨x, l, h1, h2, fun i w hw => ?_⟩
  obtain ⟨b, v, q1, q2, q3, y, rfl, q4, q5, q6⟩ := h4 i w hw
  exact ⟨b, y, q1, q2, q3, q4, q5, q6⟩

set_option maxRecDepth 100000 in
theorem contract (H : Type) (enc : TypeId × Value → H) (W : World) (base : Nat) (args : Array Value) (ds gs : List (DataW H)) (before : List MemPlace)
    (hval : ∀ (j : Nat) t v, Try.f3.params[j]? = some t → args[j]? = some v → Value.okWide Try.prog W .any base t v)
    (hW : DataW.Whole enc Try.prog Try.f3.params.toList Rows.muxQueueSpec.vars false W args.toList ds gs before) (hk : Rows.uptoSmall H (ds ++ gs) = true) :
    Calls Try.prog 3 args W fun e W' => ∃ v, e = .returned v ∧ Rows.muxQueueSpec.post enc Try.prog Try.f3 false true false false W args v W' := by
  have hW' := hW
  obtain ⟨p, q, hA0, hV, _⟩ := hW'
  obtain ⟨rfl, _⟩ := trodVars_none hV
  have hA : DataW.TrodAll enc Try.prog W 0 (fun _ => true) true Try.f3.params.toList args.toList ds p := hA0
  rw [Try.params3] at hA
  obtain ⟨v0, vs0, d0, ds0, p0, q0, _, rfl, _, _, r0⟩ := trodAll_cons hA
  obtain ⟨v1, vs1, d1, ds1, p1, q1, _, rfl, _, _, r1⟩ := trodAll_cons r0
  obtain ⟨_, rfl, _⟩ := trodAll_nil r1
  have hbulk : Rows.uptoBulkAll ([d0, d1] ++ ([] : List (DataW H))) ≤ 1048576 := of_decide_eq_true hk
  simp only [List.cons_append, List.nil_append, Rows.uptoBulkAll] at hbulk
  refine law_contract (C := dec.C) (N := dec.NN) (dep := 10) prog_ok Try.func3 rfl (by kernel_rfl) (by kernel_rfl) hW rfl rfl ?_ ?_ rfl Try.underlying4 hval ?_
  · rw [Try.params3]
    intro t ht
    simp only [List.mem_cons, List.not_mem_nil, or_false] at ht
    rcases ht with rfl | rfl <;> kernel_rfl
  · rw [Try.params3]
    intro t ht
    simp only [List.mem_cons, List.not_mem_nil, or_false] at ht
    rcases ht with rfl | rfl <;> exact ⟨by kernel_rfl, of_decide_eq_true (by kernel_rfl)⟩
  · intro ws vs hvs
    rw [Try.params3] at hvs
    match vs, hvs with
    | [u0, u1], ⟨⟨a0, b0⟩, ⟨a1, b1⟩, _⟩ =>
      obtain ⟨x0, l0, e0, i0⟩ := args_of a0 (by omega)
      obtain ⟨x1, l1, e1, i1⟩ := ints_of a1
      obtain rfl := one_cells e0 (b0 (by kernel_rfl))
      obtain rfl := one_cells e1 (b1 (by kernel_rfl))
      obtain ⟨H', h⟩ := dec.MuxQueue_s 0 i0 i1
      exact ⟨11, H', h⟩

set_option maxRecDepth 100000 in
theorem lifted (os : Os) (started : os.Started) (H : Type) (enc : TypeId × Value → H) (F : Stop.Interp) :
    ReturnsInHanded {} Try.checked os 3 .any ((Rows.OpenSpec.upto Rows.muxQueueSpec).pre6 enc Try.prog Try.f3 Rows.muxQueueUptoRow.domain false) (((Rows.OpenSpec.upto Rows.muxQueueSpec).at F).post enc Try.prog Try.f3 false true false false) := by
  refine returnsInHanded_of_cond (C := Try.checked) (s := Rows.OpenSpec.upto Rows.muxQueueSpec) (k := Rows.uptoSmall) rfl own started (by kernel_rfl) Try.func3
    (OpenSpec.witness (enc := enc) (C := Try.checked) (s := Rows.OpenSpec.upto Rows.muxQueueSpec) (k := Rows.uptoSmall) rfl false ⟨#[], #[.slice none 0 0, .slice none 0 0], []⟩ 8 (by kernel_rfl) (by kernel_rfl) (by kernel_rfl)
      (x := ([.nil, .nil], [], [])) (by kernel_rfl) rfl (by kernel_rfl)) ?_
  intro W base args ds gs before hval hW _ hk _
  exact contract H enc W base args ds gs before hval hW hk

theorem over : Rows.muxQueueUptoRow.holds Try.pinned (Rows.OpenSpec.upto Rows.muxQueueSpec) :=
  OpenClaim.holds_of_cond 3 Try.f3 rfl rfl rfl rfl rfl rfl rfl ⟨rfl, rfl, rfl, rfl, rfl⟩ rfl rfl rfl rfl rfl (by kernel_rfl) Try.func3 (by kernel_rfl)
    (of_decide_eq_true (by kernel_rfl)) (by unfold Func.isWrapper; first | (rw [if_pos (by decide +kernel)]; kernel_rfl) | (rw [if_neg (by decide +kernel)]; exact ⟨rfl, rfl⟩))
    (fun os started H enc _ F => lifted os started H enc F)

theorem muxQueue_holds : Rows.MuxQueueUptoSaid :=
  over
end Go.Proofs.Ytkkhljcjjhcnhaa.muxq
