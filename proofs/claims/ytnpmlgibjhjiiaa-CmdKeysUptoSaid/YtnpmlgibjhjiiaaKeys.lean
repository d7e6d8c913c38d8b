/-
  cmd: what the laws' frames share.
  And: CmdKeys: any bytes that are typed, in any pieces, are input and commands as the reference says; each byte is bound alike; for arguments of at most 1048576 values and letters.
-/
import Derived.Test.YtnpmlgibjhjiiaaRows
import Derived.Test.YtnpmlgibjhjiiaaKey
import Derived.ChangeMaps5
import Derived.ChangeSlices
namespace Go.Proofs.Ytnpmlgibjhjiiaa.frame
open Go Go.Cm Go.ChangeShapes Go.WideShapes Go.ChangeAt Go.RowKit

theorem own : ownKnob Try.prog.godebug = none := by kernel_rfl
theorem mixed : Try.prog.follows .mixedOrders = true := Try.checked.mixed

theorem one_le {H : Type} (d : DataW H) : 1 ≤ Rows.uptoBulk d := by
  cases d with
  | lit l => cases l <;> simp [Rows.uptoBulk]
  | _ => simp [Rows.uptoBulk]
theorem length_le {H : Type} (l : List (DataW H)) : l.length ≤ Rows.uptoBulkAll l := by
  induction l with
  | nil => simp [Rows.uptoBulkAll]
  | cons x r ih => have := one_le x; simp only [Rows.uptoBulkAll, List.length_cons]; omega
theorem slice_le {H : Type} (elems spare : List (DataW H)) : elems.length + spare.length + 1 ≤ Rows.uptoBulk (.slice elems spare) := by
  have h1 := length_le elems
  have h2 := length_le spare
  simp only [Rows.uptoBulk]
  omega

theorem known_ev : (match callD ⟨autoFn [] Try.prog, fun _ => none⟩ 1000 50 10 [] (heap0 0 fun _ => none) with
  | some (.bool b, _) => b
  | _ => false) = true := by kernel_rfl
theorem known : ∃ H1, callD ⟨autoFn [] Try.prog, fun _ => none⟩ 1000 50 10 [] (heap0 0 fun _ => none) = some (.bool true, H1) := by
  have h := known_ev
  split at h
  · rename_i b H1 e
    subst h
    exact ⟨H1, e⟩
  · cases h

theorem prog_ok (n0 : Nat) (w : World) : ProgOK Try.prog (Cm.start n0 w) [] dec.C := by
  refine ⟨fun g h => absurd h (List.not_mem_nil), fun _ _ h => autoC_ok h, fun f p h => ?_, fun _ hc _ => draw_ok mixed (fun g h => absurd h (List.not_mem_nil)) hc⟩
  unfold dec.C at h
  simp only at h
  split at h
  · rename_i e
    subst e
    simp only [Option.some.injEq] at h
    subst h
    obtain ⟨H1, hev⟩ := known
    have hk := sure_ok (w0 := Cm.start n0 w) mixed hev
    intro g vs vs' H v H' μ w' hc
    by_cases e : g = 10
    · subst e
      refine hk 10 vs vs' H v H' μ w' ?_
      simpa using hc
    · exact absurd hc (by simp [e])
  · cases h


theorem all_le {H : Type} {d : DataW H} {l : List (DataW H)} (h : d ∈ l) : Rows.uptoBulk d ≤ Rows.uptoBulkAll l := by
  induction l with
  | nil => cases h
  | cons x r ih =>
    simp only [Rows.uptoBulkAll]
    rcases List.mem_cons.1 h with rfl | h
    · omega
    · have := ih h; omega

/-- a slice whose elements take one cell: its cells, in any later memory -/
theorem cells_of {H : Type} {ws : List Win} {t e : TypeId} {cs : List Value} {d : DataW H} (ht : Try.prog.underlying t = some (.slice e)) (hc : Try.prog.cellsOf e = 1) {α : Type} (g : α → Value) (hg : ∀ cs (d : DataW H), DR Try.prog ws e cs d → ∃ n, cs = [g n]) (h : DR Try.prog ws t cs d) (z : α) :
    ∃ (x : Sl) (l : List α), cs = [x.v] ∧ x.n = l.length ∧ l.length ≤ Rows.uptoBulk d ∧ ∀ (i : Nat) n, l[i]? = some n → ∃ b, b < ws.length ∧ x.a = some ⟨b, 0, none⟩ ∧ (heapW ws).ld1 ⟨b, i, none⟩ = some (g n) := by
  obtain ⟨x, es, rest, rfl, h1, _, h3, h4⟩ := h.slice_inv ht
  have each : ∀ i, i < es.length → ∃ n b, b < ws.length ∧ x.a = some ⟨b, 0, none⟩ ∧ (heapW ws).ld1 ⟨b, i, none⟩ = some (g n) := by
    intro i hi
    obtain ⟨b, y, q1, q2, q3, q4⟩ := h4 i _ (List.getElem?_eq_getElem hi)
    rw [hc] at q3 q4
    obtain ⟨n, g1⟩ := hg _ _ q4
    refine ⟨n, b, (List.getElem?_eq_some_iff.1 q2).1, q1, ?_⟩
    rw [ld1_s (heapW_get q2)]
    rw [Nat.mul_one] at g1
    have : ((y.cells.drop i).take 1)[0]? = some (g n) := by rw [g1]; rfl
    simpa using this
  refine ⟨x, (List.range es.length).map fun i => if hi : i < es.length then (each i hi).choose else z, rfl, by simpa using h1, ?_, fun i n hn => ?_⟩
  · simp only [List.length_map, List.length_range]
    rcases h3 with ⟨rfl, rfl⟩ | rfl
    · simp
    · have := slice_le es rest
      omega
  · have hlt := (List.getElem?_eq_some_iff.1 hn).1
    simp only [List.length_map, List.length_range] at hlt
    rw [List.getElem?_map, List.getElem?_range hlt] at hn
    simp only [Option.map_some, Option.some.injEq, dif_pos hlt] at hn
    subst hn
    exact (each i hlt).choose_spec

theorem ints_of {H : Type} {ws : List Win} {cs : List Value} {d : DataW H} (h : DR Try.prog ws 22 cs d) : ∃ (x : Sl) (l : List Int), cs = [x.v] ∧ dec.IntsL (heapW ws) x l ∧ l.length ≤ Rows.uptoBulk d := by
  obtain ⟨x, l, h1, h2, h3, h4⟩ := cells_of Try.underlying22 (by kernel_rfl) (fun n : Int => .int .i64 n) (fun cs d q => by obtain ⟨n, q1, _⟩ := q.int_inv Try.underlying3; exact ⟨n, q1⟩) h 0
  refine ⟨x, l, h1, ⟨by omega, fun i n _ hn => ?_⟩, h3⟩
  obtain ⟨b, q1, q2, q3⟩ := h4 i n hn
  exact ⟨b, 0, q1, q2, by rw [Nat.zero_add]; exact q3⟩

theorem bytes_of {H : Type} {ws : List Win} {cs : List Value} {d : DataW H} (h : DR Try.prog ws 31 cs d) : ∃ (x : Sl) (w : dec.W), cs = [x.v] ∧ dec.BytesR (heapW ws).next (heapW ws) x w ∧ w.length ≤ Rows.uptoBulk d := by
  obtain ⟨x, l, h1, h2, h3, h4⟩ := cells_of Try.underlying31 (by kernel_rfl) (fun c : UInt8 => .int .u8 (c.toNat : Int)) (fun cs d q => by
    obtain ⟨n, q1, _, q2⟩ := q.int_inv Try.underlying5
    have hn : 0 ≤ n ∧ n ≤ 255 := by
      simp only [Lit.wf, decide_eq_true_eq, Bool.and_eq_true] at q2
      have e1 : IntKind.u8.min = 0 := by decide
      have e2 : IntKind.u8.max = 255 := by decide
      omega
    refine ⟨UInt8.ofNat n.toNat, ?_⟩
    rw [q1]
    have : ((UInt8.ofNat n.toNat).toNat : Int) = n := by simp; omega
    rw [this]) h 0
  refine ⟨x, l, h1, ⟨h2, Nat.le_refl _, ?_⟩, h3⟩
  cases l with
  | nil => exact .inl rfl
  | cons c l =>
    obtain ⟨b, q1, q2, _⟩ := h4 0 c rfl
    refine .inr ⟨b, 0, q2, q1, fun i n hn => ?_⟩
    obtain ⟨b', g1, g2, g3⟩ := h4 i n hn
    rw [q2] at g2
    cases g2
    rw [Nat.zero_add]; exact g3
end Go.Proofs.Ytnpmlgibjhjiiaa.frame

namespace Go.Proofs.Ytnpmlgibjhjiiaa.keys
open Go Go.Cm Go.ChangeShapes Go.WideShapes Go.ChangeAt Go.RowKit Go.Proofs.Ytnpmlgibjhjiiaa.frame

theorem contract (H : Type) (enc : TypeId × Value → H) (W : World) (base : Nat) (args : Array Value) (ds gs : List (DataW H)) (before : List MemPlace)
    (hval : ∀ (j : Nat) t v, Try.f4.params[j]? = some t → args[j]? = some v → Value.okWide Try.prog W .any base t v)
    (hW : DataW.Whole enc Try.prog Try.f4.params.toList Rows.cmdKeysSpec.vars false W args.toList ds gs before) (hk : Rows.uptoSmall H (ds ++ gs) = true) :
    Calls Try.prog 4 args W fun e W' => ∃ v, e = .returned v ∧ Rows.cmdKeysSpec.post enc Try.prog Try.f4 false true false false W args v W' := by
  have hW' := hW
  obtain ⟨p, q, hA0, hV, _⟩ := hW'
  obtain ⟨rfl, _⟩ := trodVars_none hV
  have hA : DataW.TrodAll enc Try.prog W 0 (fun _ => true) true Try.f4.params.toList args.toList ds p := hA0
  rw [Try.params4] at hA
  obtain ⟨v0, vs0, d0, ds0, p0, q0, _, rfl, _, _, r0⟩ := trodAll_cons hA
  obtain ⟨v1, vs1, d1, ds1, p1, q1, _, rfl, _, _, r1⟩ := trodAll_cons r0
  obtain ⟨v2, vs2, d2, ds2, p2, q2, _, rfl, _, _, r2⟩ := trodAll_cons r1
  obtain ⟨v3, vs3, d3, ds3, p3, q3, _, rfl, _, _, r3⟩ := trodAll_cons r2
  obtain ⟨_, rfl, _⟩ := trodAll_nil r3
  have hbulk : Rows.uptoBulkAll ([d0, d1, d2, d3] ++ ([] : List (DataW H))) ≤ 1048576 := of_decide_eq_true hk
  simp only [List.cons_append, List.nil_append, Rows.uptoBulkAll] at hbulk
  refine law_contract (C := dec.C) (N := dec.NN) (dep := 10) prog_ok Try.func4 rfl (by kernel_rfl) (by kernel_rfl) hW rfl rfl ?_ ?_ rfl Try.underlying4 hval ?_
  · rw [Try.params4]
    intro t ht
    simp only [List.mem_cons, List.not_mem_nil, or_false] at ht
    rcases ht with rfl | rfl | rfl | rfl <;> kernel_rfl
  · rw [Try.params4]
    intro t ht
    simp only [List.mem_cons, List.not_mem_nil, or_false] at ht
    rcases ht with rfl | rfl | rfl | rfl <;> exact ⟨by kernel_rfl, of_decide_eq_true (by kernel_rfl)⟩
  · intro ws vs hvs
    rw [Try.params4] at hvs
    match vs, hvs with
    | [u0, u1, u2, u3], ⟨⟨a0, b0⟩, ⟨a1, b1⟩, ⟨a2, b2⟩, ⟨a3, b3⟩, _⟩ =>
      obtain ⟨x0, l0, e0, i0, j0⟩ := ints_of a0
      obtain ⟨x1, w1, e1, i1, j1⟩ := bytes_of a1
      obtain ⟨any, e2, _⟩ := a2.bool_inv Try.underlying4
      obtain ⟨x3, l3, e3, i3, j3⟩ := ints_of a3
      obtain rfl := one_cells e0 (b0 (by kernel_rfl))
      obtain rfl := one_cells e1 (b1 (by kernel_rfl))
      obtain rfl := one_cells e2 (b2 (by kernel_rfl))
      obtain rfl := one_cells e3 (b3 (by kernel_rfl))
      obtain ⟨H', h⟩ := dec.CmdKeys_s 0 x0 x1 x3 any l0 l3 w1 (heapW ws) i0 (by omega) i3 (by omega) (by omega) i1
      exact ⟨3, H', h⟩

set_option maxRecDepth 100000 in
theorem lifted (os : Os) (started : os.Started) (H : Type) (enc : TypeId × Value → H) (F : Stop.Interp) :
    ReturnsInHanded {} Try.checked os 4 .any ((Rows.OpenSpec.upto Rows.cmdKeysSpec).pre6 enc Try.prog Try.f4 Rows.cmdKeysUptoRow.domain false) (((Rows.OpenSpec.upto Rows.cmdKeysSpec).at F).post enc Try.prog Try.f4 false true false false) := by
  refine returnsInHanded_of_cond (C := Try.checked) (s := Rows.OpenSpec.upto Rows.cmdKeysSpec) (k := Rows.uptoSmall) rfl own started (by kernel_rfl) Try.func4
    (OpenSpec.witness (enc := enc) (C := Try.checked) (s := Rows.OpenSpec.upto Rows.cmdKeysSpec) (k := Rows.uptoSmall) rfl false ⟨#[], #[.slice none 0 0, .slice none 0 0, .bool false, .slice none 0 0], []⟩ 8 (by kernel_rfl) (by kernel_rfl) (by kernel_rfl)
      (x := ([.nil, .nil, .lit (.bool false), .nil], [], [])) (by kernel_rfl) rfl (by kernel_rfl)) ?_
  intro W base args ds gs before hval hW _ hk _
  exact contract H enc W base args ds gs before hval hW hk

theorem over : Rows.cmdKeysUptoRow.holds Try.pinned (Rows.OpenSpec.upto Rows.cmdKeysSpec) :=
  OpenClaim.holds_of_cond 4 Try.f4 rfl rfl rfl rfl rfl rfl rfl ⟨rfl, rfl, rfl, rfl, rfl⟩ rfl rfl rfl rfl rfl (by kernel_rfl) Try.func4 (by kernel_rfl)
    (of_decide_eq_true (by kernel_rfl)) (by unfold Func.isWrapper; first | (rw [if_pos (by decide +kernel)]; kernel_rfl) | (rw [if_neg (by decide +kernel)]; exact ⟨rfl, rfl⟩))
    (fun os started H enc _ F => lifted os started H enc F)

theorem cmdKeys_holds : Rows.CmdKeysUptoSaid :=
  over
end Go.Proofs.Ytnpmlgibjhjiiaa.keys
