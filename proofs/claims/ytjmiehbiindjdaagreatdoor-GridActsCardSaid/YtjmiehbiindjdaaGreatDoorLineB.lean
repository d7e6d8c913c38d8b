/-
  grid: an act's numbers.
  And: grid: the style; a number in a list. grid: reset; New. grid: cursors saved; escape sequences. grid: the alternate screen; modes. grid: what is erased. grid: cells put in and taken out; edits. reference: a row's cells shifted. grid: Text, Line, Past; the reference's Text. reference: a row's cells shifted; print. reference: the cursor moved; controls; the style; escape sequences. reference: reset; a new one; escape sequences. reference: modes. reference: cells wiped, counted from the screen's beginning. reference: the screen erased. reference: cells wiped. grid: edits. grid: what is written in plain letters. grid: what a parser at rest makes of plain sequences.
-/
import Derived.Test.YtjmiehbiindjdaaGreatDoorLineA
import Derived.Test.YtjmiehbiindjdaaGreatDoorDec
namespace Go.Proofs.YtjmiehbiindjdaaGreatDoor.dec
open Go Go.Cm

attribute [local congr] optK_congr asI_congr asN_congr asB_congr asS_congr asP_congr asA_congr asSL_congr callK_congr castT_congr chk_congr

/-- the number at i, or what stands for none -/
def Act.par (a : Act) (i : Nat) (dflt : Int) : Int := match a.params[i]? with
  | some n => if n = 0 then dflt else n
  | none => dflt
theorem Params_s (d : Nat) {H : Heap} {a : Act} {y : Sl} (w : Whole H y (intL a.params) t_int 1) (i : Nat) (dflt : Int) : ∃ H', X (d + 1) n_vt_Params [.agg ⟨actL a y⟩, .int .i64 (i : Int), .int .i64 dflt] H = some (.int .i64 (a.par i dflt), H') ∧ Keep0 H H' := by
  rw [vt_Params_eq, boxA]
  have k1 : Keep0 H (H.new (.cells (actL a y) t_vt_Act false 0 false)) := Keep.new _ _
  have g1 : (H.new (.cells (actL a y) t_vt_Act false 0 false)).get H.next = some (.cells (actL a y) t_vt_Act false 0 false) := by simp
  generalize H.new (.cells (actL a y) t_vt_Act false 0 false) = H1 at *
  have w1 := Whole.keep w k1 fun _ _ e => e
  have hn : y.n = a.params.length := by have := (Whole.len w).1; rw [intL_len] at this; omega
  have l3 : Heap.ld1 H1 (ap ⟨H.next, 0, none⟩ 3) = some y.v := (ld1_s g1).trans rfl
  rw [if_neg (show ¬ decide ((i : Int) < 0) = true from dneg (by omega))]
  simp only [P0, asP_s, optK_s]
  rw [l3]
  simp only [optK_s, asSL_k]
  unfold Act.par
  by_cases h : i < a.params.length
  · have hx : a.params[i]? = some a.params[i] := List.getElem?_eq_getElem h
    generalize a.params[i] = n at hx
    have hne : y.a ≠ none := by
      rcases w with ⟨h1, _⟩ | ⟨b, q, h1, _⟩
      · rw [h1] at hn
        have hn' : 0 = a.params.length := hn
        omega
      · rw [h1]; simp
    obtain ⟨b, v, _⟩ := Vw.of w1 hne
    have hl := v.ld (i := i) (x := .int .i64 n) (by simp [intL, hx])
    have hap : ap ⟨b, ([] : List Value).length, none⟩ (((i : Int).toNat) * 1) = ⟨b, ([] : List Value).length + i, none⟩ := by simp [ap]
    rw [if_neg (show ¬ decide ((y.n : Int) ≤ (i : Int)) = true from dneg (by omega)), v.sa]
    simp only [optK_s]
    rw [if_pos (show (0 : Int) ≤ (i : Int) ∧ (i : Int) < (y.n : Int) by omega), hap, hl]
    simp only [optK_s, asI_s]
    rw [vt_Params_p101_eq, hx]
    by_cases h0 : n = 0
    · rw [if_pos (show decide (n = 0) = true from decide_eq_true h0)]
      exact ⟨H1, by simp [h0], k1⟩
    · rw [if_neg (show ¬ decide (n = 0) = true from dneg h0)]
      simp only [asP_s, optK_s]
      rw [l3]
      simp only [optK_s, asSL_k]
      rw [v.sa]
      simp only [optK_s]
      rw [if_pos (show (0 : Int) ≤ (i : Int) ∧ (i : Int) < (y.n : Int) by omega), hap, hl]
      simp only [optK_s, asI_s]
      exact ⟨H1, by simp [h0], k1⟩
  · rw [if_pos (show decide ((y.n : Int) ≤ (i : Int)) = true from decide_eq_true (by omega)), vt_Params_p101_eq, if_pos rfl, List.getElem?_eq_none (by omega)]
    exact ⟨H1, rfl, k1⟩
end Go.Proofs.YtjmiehbiindjdaaGreatDoor.dec

namespace Go.Proofs.YtjmiehbiindjdaaGreatDoor.dec
open Go Go.Cm

attribute [local congr] optK_congr asI_congr asN_congr asB_congr asS_congr asP_congr asA_congr asSL_congr callK_congr castT_congr chk_congr

/-- an act whose numbers may be -/
def Act.ok (a : Act) : Prop := a.params.length ≤ 1000 ∧ ∀ n ∈ a.params, 0 ≤ n ∧ n ≤ 9999
theorem intN {H : Heap} {y : Sl} {l : List Int} (w : Whole H y (intL l) t_int 1) : y.n = l.length := by have := (Whole.len w).1; rw [intL_len] at this; omega
theorem intAt {H : Heap} {y : Sl} {l : List Int} (w : Whole H y (intL l) t_int 1) {i : Nat} {n : Int} (h : l[i]? = some n) : ∃ b, y.a = some ⟨b, 0, none⟩ ∧ Heap.ld1 H (ap ⟨b, 0, none⟩ (((i : Int).toNat) * 1)) = some (.int .i64 n) := by
  have hn := intN w
  have hlt := (List.getElem?_eq_some_iff.1 h).1
  have hne : y.a ≠ none := by
    rcases w with ⟨h1, _⟩ | ⟨b, q, h1, _⟩
    · rw [h1] at hn
      have hn' : 0 = l.length := hn
      omega
    · rw [h1]; simp
  obtain ⟨b, v, _⟩ := Vw.of w hne
  have hl := v.ld (i := i) (x := .int .i64 n) (by simp [intL, h])
  refine ⟨b, v.sa, ?_⟩
  rw [show ap ⟨b, 0, none⟩ (((i : Int).toNat) * 1) = ⟨b, ([] : List Value).length + i, none⟩ by simp [ap]]
  exact hl

/-! ### a number in a list -/
theorem Index_loop (d : Nat) {H : Heap} {y : Sl} {l : List Int} (w : Whole H y (intL l) t_int 1) (hl : l.length ≤ 1000) (x : Int) : ∀ (r : List Int) (m i : Nat), r.length < m → l.drop i = r → i + r.length = l.length → ∃ n : Int, slices_Index_S_int_int_p1010 d m y x (y.n : Int) (i : Int) H = some (.int .i64 n, H) ∧ (0 ≤ n ↔ x ∈ r) := fun r => by
  induction r with
  | nil =>
    intro m i hm _ hi
    obtain ⟨m, rfl⟩ : ∃ m', m = m' + 1 := ⟨m - 1, by simp at hm; omega⟩
    have hn := intN w
    simp only [List.length_nil] at hi
    rw [slices_Index_S_int_int_p1010_s, if_neg (show ¬ decide ((i : Int) < (y.n : Int)) = true from dneg (by omega))]
    exact ⟨-1, rfl, by simp⟩
  | cons a r ih =>
    intro m i hm hd hi
    simp only [List.length_cons] at hm hi
    obtain ⟨m, rfl⟩ : ∃ m', m = m' + 1 := ⟨m - 1, by omega⟩
    have hc : l[i]? = some a := by have := congrArg (fun x => x[0]?) hd; simpa using this
    have hdr : l.drop (i + 1) = r := by rw [← List.drop_drop, hd]; rfl
    have hn := intN w
    obtain ⟨b, ha, hl1⟩ := intAt w hc
    rw [slices_Index_S_int_int_p1010_s, if_pos (show decide ((i : Int) < (y.n : Int)) = true from decide_eq_true (by omega)), ha]
    simp only [optK_s]
    rw [if_pos (show (0 : Int) ≤ (i : Int) ∧ (i : Int) < (y.n : Int) by omega), hl1]
    simp only [optK_s, asI_s]
    by_cases e : x = a
    · rw [if_pos (show decide (x = a) = true from decide_eq_true e)]
      exact ⟨i, rfl, by subst e; simp⟩
    · rw [if_neg (show ¬ decide (x = a) = true from dneg e), wi (by omega)]
      obtain ⟨n, e1, e2⟩ := ih m (i + 1) (by omega) hdr (by omega)
      exact ⟨n, e1, by rw [e2]; simp [e]⟩
theorem Contains_s (d : Nat) {H : Heap} {y : Sl} {l : List Int} (w : Whole H y (intL l) t_int 1) (hl : l.length ≤ 1000) (x : Int) : X (d + 2) n_slices_Contains_S_int_int [y.v, .int .i64 x] H = some (.bool (decide (x ∈ l)), H) := by
  rw [slices_Contains_S_int_int_eq, slices_Index_S_int_int_eq]
  obtain ⟨n, e1, e2⟩ := Index_loop d w hl x l NN 0 (NN_big _ (by omega)) rfl (by omega)
  rw [show (0 : Int) = ((0 : Nat) : Int) from rfl, e1]
  simp only [callK_s, asI_s]
  rw [show decide (((0 : Nat) : Int) ≤ n) = decide (x ∈ l) from decide_eq_decide.2 e2]

/-! ### the style -/
def Cl.sty (c : Cl) (k : Int) : Cl :=
  if k = 0 then zeroC
  else if k = 1 then { c with s := bitsI .or .i64 c.s 1 }
  else if k = 4 then { c with s := bitsI .or .i64 c.s 2 }
  else if k = 7 then { c with s := bitsI .or .i64 c.s 4 }
  else if k = 22 then { c with s := bitsI .andNot .i64 c.s 1 }
  else if k = 24 then { c with s := bitsI .andNot .i64 c.s 2 }
  else if k = 27 then { c with s := bitsI .andNot .i64 c.s 4 }
  else if 30 ≤ k ∧ k ≤ 37 then { c with f := k - 29 }
  else if k = 39 then { c with f := 0 }
  else if 40 ≤ k ∧ k ≤ 47 then { c with b := k - 39 }
  else if k = 49 then { c with b := 0 }
  else c
def G.style (g : G) (k : Int) : G := { g with c := { g.c with st := g.c.st.sty k } }
theorem WF.style {g : G} (w : WF g) (k : Int) : WF (g.style k) := w.sc rfl rfl w.row w.col w.top w.tb w.bot w.srow w.scol w.arow w.acol
theorem Rep.s6 {H : Heap} {D : GD} {g : G} (h : Rep H D g) : ∃ H', Heap.stN H ⟨D.p, 6, none⟩ [.int .i32 0, .int .i64 0, .int .i64 0, .int .i64 0] = some H' ∧ Rep H' D { g with c := { g.c with st := zeroC } } ∧ Stp H D H' D :=
  ⟨H.put D.p (.cells (gridL { g.c with st := zeroC } D) t_grid_Grid false 0 false), by simp only [Heap.stN, h.get]; rfl, h.setc _, Stp.setc h _⟩

theorem style_s (d : Nat) {H : Heap} {D : GD} {g : G} (h : Rep H D g) (k : Int) : ∃ H', X (d + 1) n_grid_Grid_style [P0 D.p, .int .i64 k] H = some (.tuple #[], H') ∧ Rep H' D (g.style k) ∧ Stp H D H' D := by
  rw [grid_Grid_style_eq]
  have l9 : Heap.ld1 H ⟨D.p, 9, none⟩ = some (.int .i64 g.c.st.s) := h.l9
  unfold G.style Cl.sty
  by_cases c0 : k = 0
  · rw [if_pos (show decide (k = 0) = true from decide_eq_true c0), if_pos c0]
    obtain ⟨H', e, r, s⟩ := h.s6
    rw [e]
    exact ⟨H', rfl, r, s⟩
  rw [if_neg (show ¬ decide (k = 0) = true from dneg c0), if_neg c0]
  by_cases c1 : k = 1
  · rw [if_pos (show decide (k = 1) = true from decide_eq_true c1), if_pos c1, l9]
    obtain ⟨H', e, r, s⟩ := h.s9 (bitsI .or .i64 g.c.st.s 1)
    simp only [optK_s, asI_s, e]
    exact ⟨H', rfl, r, s⟩
  rw [if_neg (show ¬ decide (k = 1) = true from dneg c1), if_neg c1]
  by_cases c2 : k = 4
  · rw [if_pos (show decide (k = 4) = true from decide_eq_true c2), if_pos c2, l9]
    obtain ⟨H', e, r, s⟩ := h.s9 (bitsI .or .i64 g.c.st.s 2)
    simp only [optK_s, asI_s, e]
    exact ⟨H', rfl, r, s⟩
  rw [if_neg (show ¬ decide (k = 4) = true from dneg c2), if_neg c2]
  by_cases c3 : k = 7
  · rw [if_pos (show decide (k = 7) = true from decide_eq_true c3), if_pos c3, l9]
    obtain ⟨H', e, r, s⟩ := h.s9 (bitsI .or .i64 g.c.st.s 4)
    simp only [optK_s, asI_s, e]
    exact ⟨H', rfl, r, s⟩
  rw [if_neg (show ¬ decide (k = 7) = true from dneg c3), if_neg c3]
  by_cases c4 : k = 22
  · rw [if_pos (show decide (k = 22) = true from decide_eq_true c4), if_pos c4, l9]
    obtain ⟨H', e, r, s⟩ := h.s9 (bitsI .andNot .i64 g.c.st.s 1)
    simp only [optK_s, asI_s, e]
    exact ⟨H', rfl, r, s⟩
  rw [if_neg (show ¬ decide (k = 22) = true from dneg c4), if_neg c4]
  by_cases c5 : k = 24
  · rw [if_pos (show decide (k = 24) = true from decide_eq_true c5), if_pos c5, l9]
    obtain ⟨H', e, r, s⟩ := h.s9 (bitsI .andNot .i64 g.c.st.s 2)
    simp only [optK_s, asI_s, e]
    exact ⟨H', rfl, r, s⟩
  rw [if_neg (show ¬ decide (k = 24) = true from dneg c5), if_neg c5]
  by_cases c6 : k = 27
  · rw [if_pos (show decide (k = 27) = true from decide_eq_true c6), if_pos c6, l9]
    obtain ⟨H', e, r, s⟩ := h.s9 (bitsI .andNot .i64 g.c.st.s 4)
    simp only [optK_s, asI_s, e]
    exact ⟨H', rfl, r, s⟩
  rw [if_neg (show ¬ decide (k = 27) = true from dneg c6), if_neg c6]
  have pE : ∀ b : Bool, b = decide (40 ≤ k ∧ k ≤ 47) → ∃ H', grid_Grid_style_p1011111111111111101111 d k ⟨D.p, 6, none⟩ b H = some (.tuple #[], H') ∧ Rep H' D { g with c := { g.c with st := if 40 ≤ k ∧ k ≤ 47 then { g.c.st with b := k - 39 } else if k = 49 then { g.c.st with b := 0 } else g.c.st } } ∧ Stp H D H' D := fun b hb => by
    rw [grid_Grid_style_p1011111111111111101111_eq]
    by_cases c9 : 40 ≤ k ∧ k ≤ 47
    · rw [if_pos (show b = true by rw [hb]; exact decide_eq_true c9), if_pos c9, w64 (by omega)]
      obtain ⟨H', e, r, s⟩ := h.s8 (k - 39)
      rw [show ap ⟨D.p, 6, none⟩ 2 = ⟨D.p, 8, none⟩ from rfl, e]
      exact ⟨H', rfl, r, s⟩
    · rw [if_neg (show ¬ b = true by rw [hb]; exact dneg c9), if_neg c9]
      by_cases c10 : k = 49
      · rw [if_pos (show decide (k = 49) = true from decide_eq_true c10), if_pos c10]
        obtain ⟨H', e, r, s⟩ := h.s8 0
        rw [show ap ⟨D.p, 6, none⟩ 2 = ⟨D.p, 8, none⟩ from rfl, e]
        exact ⟨H', rfl, r, s⟩
      · rw [if_neg (show ¬ decide (k = 49) = true from dneg c10), if_neg c10]
        exact ⟨H, rfl, h, Stp.refl _ _⟩
  have pF : ∀ b : Bool, b = decide (30 ≤ k ∧ k ≤ 37) → ∃ H', grid_Grid_style_p10111111111111111 d k ⟨D.p, 6, none⟩ b H = some (.tuple #[], H') ∧ Rep H' D { g with c := { g.c with st := if 30 ≤ k ∧ k ≤ 37 then { g.c.st with f := k - 29 } else if k = 39 then { g.c.st with f := 0 } else if 40 ≤ k ∧ k ≤ 47 then { g.c.st with b := k - 39 } else if k = 49 then { g.c.st with b := 0 } else g.c.st } } ∧ Stp H D H' D := fun b hb => by
    rw [grid_Grid_style_p10111111111111111_eq]
    by_cases c7 : 30 ≤ k ∧ k ≤ 37
    · rw [if_pos (show b = true by rw [hb]; exact decide_eq_true c7), if_pos c7, w64 (by omega)]
      obtain ⟨H', e, r, s⟩ := h.s7 (k - 29)
      rw [show ap ⟨D.p, 6, none⟩ 1 = ⟨D.p, 7, none⟩ from rfl, e]
      exact ⟨H', rfl, r, s⟩
    rw [if_neg (show ¬ b = true by rw [hb]; exact dneg c7), if_neg c7]
    by_cases c8 : k = 39
    · rw [if_pos (show decide (k = 39) = true from decide_eq_true c8), if_pos c8]
      obtain ⟨H', e, r, s⟩ := h.s7 0
      rw [show ap ⟨D.p, 6, none⟩ 1 = ⟨D.p, 7, none⟩ from rfl, e]
      exact ⟨H', rfl, r, s⟩
    rw [if_neg (show ¬ decide (k = 39) = true from dneg c8), if_neg c8]
    by_cases c9 : 40 ≤ k
    · rw [if_pos (show decide ((40 : Int) ≤ k) = true from decide_eq_true c9)]
      exact pE _ (decide_eq_decide.2 (by omega))
    · rw [if_neg (show ¬ decide ((40 : Int) ≤ k) = true from dneg c9)]
      exact pE _ (by rw [decide_eq_false (by omega)])
  by_cases c7 : 30 ≤ k
  · rw [if_pos (show decide ((30 : Int) ≤ k) = true from decide_eq_true c7)]
    exact pF _ (decide_eq_decide.2 (by omega))
  · rw [if_neg (show ¬ decide ((30 : Int) ≤ k) = true from dneg c7)]
    exact pF _ (by rw [decide_eq_false (by omega)])
end Go.Proofs.YtjmiehbiindjdaaGreatDoor.dec

namespace Go.Proofs.YtjmiehbiindjdaaGreatDoor.dec
open Go Go.Cm

attribute [local congr] optK_congr asI_congr asN_congr asB_congr asS_congr asP_congr asA_congr asSL_congr callK_congr castT_congr chk_congr

def Sc.init (r c : Nat) : Sc := ⟨r, c, 0, 0, false, zeroC, 0, 0, false, zeroC, 0, r - 1, true, false, false, 0, 0, false, zeroC⟩
def tabs0 (n : Nat) : List Bool := (List.range n).map fun i => decide (0 < i) && decide (i % 8 = 0)
def G.fresh (r c : Nat) (past : List (List Cl)) : G := ⟨Sc.init r c, List.replicate r (List.replicate c blank), tabs0 c, none, past⟩

theorem tabs0_succ (n : Nat) : tabs0 (n + 1) = tabs0 n ++ [decide (0 < n) && decide (n % 8 = 0)] := by
  simp [tabs0, List.range_succ]

theorem TabO.push {H : Heap} {s : Sl} {cs : List Value} (h : TabO H s cs) (hq : cs.length ≤ 100000) (v : Value) :
    ∃ s' H', (∀ K, appendK t_bool 1 1 false s.v (.slice (some ⟨H.next, 0, none⟩) 1 1) (H.new (.cells [v] t_bool false 0 false)) K = K s'.v H') ∧ Whole H' s' (cs ++ [v]) t_bool 1 ∧ Keep s.at H H' ∧ (∀ k, s'.at k → H.next < k) := by
  rcases h with ⟨rfl, rfl⟩ | ⟨b, Z, h, hc⟩
  · obtain ⟨s', H', e1, e2, e3, _, e5, _⟩ := push_whole (H := H) (s := Sl.nil) (cs := []) (e := t_bool) (sz := 1) (bytes := 1) (new := [v]) (.inl ⟨rfl, rfl⟩) rfl (by show (0 + 1) * 1 ≤ _; omega) (by omega) (by omega)
    exact ⟨s', H', e1, e2, e3, e5⟩
  · obtain ⟨a1, a2, _, a4, o, st, a5⟩ := h
    rw [List.nil_append] at a5
    rw [List.length_nil] at a1
    have hn : s.n = cs.length := by omega
    have g1 : (H.new (.cells [v] t_bool false 0 false)).get b = some (.cells (cs ++ Z) t_bool o 0 st) := by rw [Heap.get_new_ne _ _ (by omega)]; exact a5
    have hsrc : srcCells (H.new (.cells [v] t_bool false 0 false)) 1 1 (.slice (some ⟨H.next, 0, none⟩) 1 1) = some [v] := by
      simp only [srcCells]
      rw [if_neg (by omega), ldN_s (Heap.get_new_same H _) (by simp)]; rfl
    have ht2 : List.take s.n (cs ++ Z) = cs := by rw [hn, List.take_append_of_le_length (Nat.le_refl _), List.take_length]
    have hlen : (cs ++ Z).length = s.n + Z.length := by rw [List.length_append, hn]
    have fin : ∀ H1 : Heap, H1.next = H.next + 1 → (∀ k, k < H.next → k ≠ b → H1.get k = H.get k) → ∀ st2, Whole (H1.new (.cells (cs ++ [v]) t_bool true 0 st2)) ⟨some ⟨H1.next, 0, none⟩, s.n + 1, s.n + 1⟩ (cs ++ [v]) t_bool 1 ∧ Keep s.at H (H1.new (.cells (cs ++ [v]) t_bool true 0 st2)) := fun H1 e1 e2 st2 =>
      ⟨.inr ⟨_, _, rfl, by simp [hn], by simp, true, st2, by simp⟩, by simp [e1]; omega, fun k hk hs => by
        rw [Heap.get_new_ne _ _ (by omega)]
        exact e2 k hk fun h => hs ⟨_, a1, h.symm⟩⟩
    by_cases hx : exact 1 (cs ++ Z).length 0 s.n o = true
    · obtain ⟨k1, k2⟩ := fin (H.new (.cells [v] t_bool false 0 false)) (by simp) (fun k hk hb => by rw [Heap.get_new_ne _ _ (by omega)]) false
      refine ⟨⟨some ⟨(H.new (.cells [v] t_bool false 0 false)).next, 0, none⟩, s.n + 1, s.n + 1⟩, _, fun K => ?_, k1, k2, ?_⟩
      · simp only [appendK, asSl, Sl.v, srcN, optK, hsrc, a1, g1, hc]
        rw [if_neg (by omega), if_pos (by omega), if_pos (by omega), if_pos ⟨hx, .inr trivial⟩, Nat.mul_one, List.drop_zero, ht2]
      · rintro k ⟨a, h, rfl⟩; cases h; simp
    · obtain ⟨k1, k2⟩ := fin ((H.new (.cells [v] t_bool false 0 false)).kill b) (by simp) (fun k hk hb => by rw [Heap.get_kill_ne _ hb, Heap.get_new_ne _ _ (by omega)]) st
      refine ⟨⟨some ⟨((H.new (.cells [v] t_bool false 0 false)).kill b).next, 0, none⟩, s.n + 1, s.n + 1⟩, _, fun K => ?_, k1, k2, ?_⟩
      · simp only [appendK, asSl, Sl.v, srcN, optK, hsrc, a1, g1, hc]
        rw [if_neg (by omega), if_pos (by omega), if_pos (by omega), if_neg (fun e => hx e.1), if_pos ⟨trivial, by omega⟩, Nat.mul_one, List.drop_zero, ht2]
        simp
      · rintro k ⟨a, h, rfl⟩; cases h; simp
/-- one tab more -/
theorem Rep.tab {H : Heap} {D : GD} {g : G} (h : Rep H D g) (hn : g.tabs.length ≤ 1000) (b : Bool) :
    ∃ y H1 H', (∀ K, appendK t_bool 1 1 false D.tabs.v (.slice (some ⟨H.next, 0, none⟩) 1 1) (H.new (.cells [.bool b] t_bool false 0 false)) K = K (Sl.v y) H1) ∧ Heap.st1 H1 ⟨D.p, 22, none⟩ y.v = some H' ∧ Rep H' { D with tabs := y } { g with tabs := g.tabs ++ [b] } ∧ Stp H D H' { D with tabs := y } := by
  have hl := h.ta.n
  rw [List.length_map] at hl
  obtain ⟨y, H1, e1, w1, k1, f1⟩ := h.ta.push (by rw [List.length_map]; omega) (.bool b)
  have hS : ∀ k, D.tabs.at k → D.cmp 3 k := fun k e => e
  have g1 := h.o0 k1 hS (by decide)
  have kp : Keep (fun k => k = D.p) H1 (H1.put D.p (.cells (gridL g.c { D with tabs := y }) t_grid_Grid false 0 false)) := Keep.put _ _ _ rfl
  have hn1 := k1.1
  have k2 : Keep (fun k => D.cmp 0 k ∨ D.cmp 3 k) H (H1.put D.p (.cells (gridL g.c { D with tabs := y }) t_grid_Grid false 0 false)) :=
    (k1.mono fun k _ e => .inr e).trans (kp.mono (T := fun k => D.cmp 0 k ∨ D.cmp 3 k) fun k _ e => .inl e) fun _ _ e => e
  have hS2 : ∀ i, i ≠ 0 → i ≠ 3 → ∀ k, D.cmp i k → ¬ (D.cmp 0 k ∨ D.cmp 3 k) := fun i h0 h3 k e e' => e'.elim (fun e' => h0 (h.sep _ _ k e e')) (fun e' => h3 (h.sep _ _ k e e'))
  have hyp : ¬ y.at D.p := fun e => by have := f1 _ e; have := h.lt; omega
  refine ⟨y, H1, H1.put D.p (.cells (gridL g.c { D with tabs := y }) t_grid_Grid false 0 false), e1, (st1_s g1 (v := y.v) (by show 22 < 33; omega) (by omega)).trans rfl, ?_, ⟨rfl, rfl, k2.mono fun k _ e => e.elim (fun e => ⟨0, e⟩) (fun e => ⟨3, e⟩), fun k ⟨i, e⟩ => ?_⟩⟩
  · refine ⟨by simp, Nat.lt_of_lt_of_le h.lt k2.1, Whole.keep h.co k2 (hS2 1 (by decide) (by decide)), h.cr.keep k2 (hS2 2 (by decide) (by decide)), h.cL, ?_, h.oo.keep k2 (hS2 4 (by decide) (by decide)), h.or.keep k2 (hS2 5 (by decide) (by decide)), h.po.keep k2 (hS2 6 (by decide) (by decide)), h.pr.keep k2 (hS2 7 (by decide) (by decide)), h.pL, ?_⟩
    · have := TabO.of <| Whole.keep w1 kp fun k e e' => hyp (by have e'' : k = D.p := e'; rw [← e'']; exact e)
      simpa using this
    · refine sep_of (D := D) (N := H.next + 1) h.sep (fun i k e => ?_) (fun i j k hN e e' => ?_)
      · match i, e with
        | 0, e => exact .inl e
        | 1, e => exact .inl e
        | 2, e => exact .inl e
        | 3, e => exact .inr (f1 k e)
        | 4, e => exact .inl e
        | 5, e => exact .inl e
        | 6, e => exact .inl e
        | 7, e => exact .inl e
      · have z : ∀ i, ({ D with tabs := y } : GD).cmp i k → i = 3 := fun i e => by
          have old : ∀ i, D.cmp i k → False := fun i e => by have := cmp_lt h e; omega
          match i, e with
          | 0, e => exact (old 0 e).elim
          | 1, e => exact (old 1 e).elim
          | 2, e => exact (old 2 e).elim
          | 3, e => rfl
          | 4, e => exact (old 4 e).elim
          | 5, e => exact (old 5 e).elim
          | 6, e => exact (old 6 e).elim
          | 7, e => exact (old 7 e).elim
        rw [z i e, z j e']
  · match i, e with
    | 0, e => exact .inl ⟨0, e⟩
    | 1, e => exact .inl ⟨1, e⟩
    | 2, e => exact .inl ⟨2, e⟩
    | 3, e => exact .inr (by have := f1 k e; omega)
    | 4, e => exact .inl ⟨4, e⟩
    | 5, e => exact .inl ⟨5, e⟩
    | 6, e => exact .inl ⟨6, e⟩
    | 7, e => exact .inl ⟨7, e⟩

theorem tabs_loop (d n : Nat) (hn : n ≤ 1000) {c : Sc} (h1 : c.st = zeroC) (h2 : c.sst = zeroC) : ∀ (m i : Nat) {H : Heap} {D : GD} {g : G}, n - i < m → i ≤ n → g.c = c → g.tabs = tabs0 i → Rep H D g →
    ∃ H' y, grid_Grid_reset_p1111010 d m D.p (n : Int) (i : Int) H = some (.tuple #[], H') ∧ Rep H' { D with tabs := y } { g with tabs := tabs0 n } ∧ Stp H D H' { D with tabs := y } := fun m => by
  induction m with
  | zero => intro i H D g hm; omega
  | succ m ih =>
    intro i H D g hm hi hc ht h
    rw [grid_Grid_reset_p1111010_s]
    by_cases hlt : i < n
    · rw [if_pos (show decide ((i : Int) < (n : Int)) = true from decide_eq_true (by omega)), h.l22]
      simp only [optK_s, asSL_k]
      have A : ∀ (z : Bool), z = (decide (0 < i) && decide (i % 8 = 0)) → ∃ H' y, newK H (.cells [.bool z] t_bool false 0 false) (fun p3 H4 =>
          appendK t_bool 1 1 false D.tabs.v (.slice (some ⟨p3, 0, none⟩) 1 1) H4 fun v5 H6 =>
          asSL v5 fun l7 => optK (Heap.st1 H6 ⟨D.p, 22, none⟩ l7.v) fun H8 => grid_Grid_reset_p11110100111 d m D.p (n : Int) (i : Int) H8) = some (.tuple #[], H') ∧ Rep H' { D with tabs := y } { g with tabs := tabs0 n } ∧ Stp H D H' { D with tabs := y } := fun z hz => by
        have htl : g.tabs.length ≤ 1000 := by rw [ht]; simp [tabs0]; omega
        obtain ⟨y, H1, H2, e1, e2, h', s'⟩ := h.tab htl z
        simp only [newK_s]
        rw [e1]
        simp only [asSL_k]
        rw [e2]
        simp only [optK_s]
        rw [grid_Grid_reset_p11110100111_eq, wi (by omega)]
        obtain ⟨H3, y3, e3, h3, s3⟩ := ih (i + 1) (by omega) (by omega) (g := { g with tabs := g.tabs ++ [z] }) hc (by show g.tabs ++ [z] = _; rw [tabs0_succ, ht, hz]) h'
        exact ⟨H3, y3, e3, h3, s'.trans s3⟩
      by_cases h0 : 0 < i
      · rw [if_pos (show decide ((0 : Int) < (i : Int)) = true from decide_eq_true (by omega))]
        refine A _ ?_
        rw [decide_eq_true h0, Bool.true_and]
        have : Int.tmod (i : Int) 8 = ((i % 8 : Nat) : Int) := by rw [Int.tmod_eq_emod_of_nonneg (by omega)]; omega
        rw [this]
        exact decide_eq_decide.2 (by omega)
      · rw [if_neg (show ¬ decide ((0 : Int) < (i : Int)) = true from dneg (by omega))]
        exact A false (by rw [decide_eq_false h0]; rfl)
    · rw [if_neg (show ¬ decide ((i : Int) < (n : Int)) = true from dneg (by omega))]
      have hin : i = n := by omega
      subst hin
      have z : Heap.stN H ⟨D.p, 6, none⟩ [.int .i32 0, .int .i64 0, .int .i64 0, .int .i64 0] = some (H.put D.p (.cells (gridL g.c D) t_grid_Grid false 0 false)) := by
        simp only [Heap.stN, h.get]
        rw [hc]
        simp only [gridL, h1, h2]
        rfl
      rw [z]
      simp only [optK_s]
      have hg2 : (H.put D.p (.cells (gridL g.c D) t_grid_Grid false 0 false)).get D.p = some (.cells (gridL g.c D) t_grid_Grid false 0 false) := by simp
      have z2 : Heap.stN (H.put D.p (.cells (gridL g.c D) t_grid_Grid false 0 false)) ⟨D.p, 13, none⟩ [.int .i32 0, .int .i64 0, .int .i64 0, .int .i64 0] = some ((H.put D.p (.cells (gridL g.c D) t_grid_Grid false 0 false)).put D.p (.cells (gridL g.c D) t_grid_Grid false 0 false)) := by
        simp only [Heap.stN, hg2]
        rw [hc]
        simp only [gridL, h1, h2]
        rfl
      rw [z2]
      simp only [optK_s]
      have h3 := h.setc g.c
      have s3 := Stp.setc h g.c
      have h4 := h3.setc g.c
      have s4 := Stp.setc h3 g.c
      refine ⟨_, D.tabs, rfl, ?_, s3.trans s4⟩
      rw [← ht]
      exact h4

/-- a grid's cells ahead of reset -/
theorem reset_s (d : Nat) {H : Heap} {p pp r c : Nat} {past : Sl} {pq : Q} {L : List Value} (hr : 1 ≤ r ∧ r ≤ 60) (hc : 1 ≤ c ∧ c ≤ 120) (hg : H.get p = some (.cells L t_grid_Grid false 0 false)) (hL : L.length = 33) (l0 : L[0]? = some (.int .i64 (r : Int))) (l1 : L[1]? = some (.int .i64 (c : Int)))
    (l31 : L[31]? = some past.v) (l32 : L[32]? = some (P0 pp)) (hp : p < H.next) (po : PastO H past pq) (pr : Rows H pq) (n1 : ¬ past.at p) (n2 : ¬ bl pq p) (n3 : ∀ k, past.at k → ¬ bl pq k) :
    ∃ H' D', X (d + 6) n_grid_Grid_reset [P0 p] H = some (.tuple #[], H') ∧ Rep H' D' (G.fresh r c (pq.map Prod.snd)) ∧ D'.p = p ∧ D'.pp = pp ∧ Keep (fun k => k = p ∨ past.at k ∨ bl pq k) H H' ∧ (∀ k, D'.foot k → k = p ∨ past.at k ∨ bl pq k ∨ H.next ≤ k) := by
  rw [grid_Grid_reset_eq, (ld1_s hg).trans l0]
  simp only [optK_s, asI_s]
  rw [(ld1_s hg).trans l1]
  simp only [optK_s, asI_s]
  rw [(ld1_s hg).trans l31]
  simp only [optK_s, asSL_k]
  rw [(ld1_s hg).trans l32]
  simp only [optK_s, P0, asP_s]
  -- all but the past is new
  let c9 : Sc := { Sc.init r c with bottom := 0, wrap := false }
  let D9 : GD := ⟨p, pp, Sl.nil, [], Sl.nil, Sl.nil, [], past, pq⟩
  have e9 : Heap.stN H ⟨p, 0, none⟩ [.int .i64 r, .int .i64 c, .slice none 0 0, .int .i64 0, .int .i64 0, .bool false, .int .i32 0, .int .i64 0, .int .i64 0, .int .i64 0, .int .i64 0, .int .i64 0, .bool false, .int .i32 0, .int .i64 0, .int .i64 0, .int .i64 0, .int .i64 0, .int .i64 0, .bool false, .bool false, .bool false, .slice none 0 0, .slice none 0 0, .int .i64 0, .int .i64 0, .bool false, .int .i32 0, .int .i64 0, .int .i64 0, .int .i64 0, past.v, .pointer (some ⟨pp, 0, none⟩)] = some (H.put p (.cells (gridL c9 D9) t_grid_Grid false 0 false)) := by
    simp only [Heap.stN, hg]
    rw [if_pos (by rw [hL]; exact ⟨Nat.le_refl 33, Nat.le_refl 0⟩)]
    simp only [splice, List.take_zero, List.nil_append, Nat.zero_add]
    rw [List.drop_eq_nil_of_le (by rw [hL]; exact Nat.le_refl 33), List.append_nil]
    rfl
  rw [e9]
  simp only [optK_s]
  have g9 : (H.put p (.cells (gridL c9 D9) t_grid_Grid false 0 false)).get p = some (.cells (gridL c9 D9) t_grid_Grid false 0 false) := by simp
  have k9 : Keep (fun k => k = p) H (H.put p (.cells (gridL c9 D9) t_grid_Grid false 0 false)) := Keep.put _ _ _ rfl
  have n9 : (H.put p (.cells (gridL c9 D9) t_grid_Grid false 0 false)).next = H.next := rfl
  generalize H.put p (.cells (gridL c9 D9) t_grid_Grid false 0 false) = H9 at *
  rw [(ld1_s g9).trans (show (gridL c9 D9)[0]? = some (.int .i64 (r : Int)) from rfl)]
  simp only [optK_s, asI_s]
  rw [(ld1_s g9).trans (show (gridL c9 D9)[1]? = some (.int .i64 (c : Int)) from rfl)]
  simp only [optK_s, asI_s]
  obtain ⟨s, q, H15, e15, o15, r15, q15, s15, b15, d15, k15⟩ := sheet_s d r c (by omega) (by omega) H9
  rw [e15]
  simp only [callK_s, asSL_k]
  have g15 := k15.get (by omega) g9
  let D17 : GD := ⟨p, pp, s, q, Sl.nil, Sl.nil, [], past, pq⟩
  have e17 : Heap.st1 H15 ⟨p, 2, none⟩ s.v = some (H15.put p (.cells (gridL c9 D17) t_grid_Grid false 0 false)) := (st1_s g15 (v := s.v) (by show 2 < 33; omega) (by omega)).trans rfl
  rw [e17]
  simp only [optK_s]
  have kp : Keep (fun k => k = p) H15 (H15.put p (.cells (gridL c9 D17) t_grid_Grid false 0 false)) := Keep.put _ _ _ rfl
  have g17 : (H15.put p (.cells (gridL c9 D17) t_grid_Grid false 0 false)).get p = some (.cells (gridL c9 D17) t_grid_Grid false 0 false) := by simp
  generalize H15.put p (.cells (gridL c9 D17) t_grid_Grid false 0 false) = H17 at *
  have n15 := k15.1
  have n17 := kp.1
  have k017 : Keep (fun k => k = p) H H17 := (k9.trans k15.to fun _ _ e => e).trans kp fun _ _ e => e
  have po17 : PastO H17 past pq := po.keep k017 fun k e e' => n1 (by have e'' : k = p := e'; rw [← e'']; exact e)
  have pr17 : Rows H17 pq := pr.keep k017 fun k e e' => n2 (by have e'' : k = p := e'; rw [← e'']; exact e)
  have o17 : Outer H17 s q := Whole.keep o15 kp fun k e e' => by have e'' : k = p := e'; have := s15 k e; omega
  have r17 : Rows H17 q := r15.keep kp fun k e e' => by have e'' : k = p := e'; have := b15 k e; omega
  have cs : ∀ i k, D17.cmp i k → (i = 0 ∧ k = p) ∨ (i = 1 ∧ s.at k ∧ H.next ≤ k) ∨ (i = 2 ∧ bl q k ∧ H.next ≤ k) ∨ (i = 6 ∧ past.at k ∧ k < H.next ∧ k ≠ p) ∨ (i = 7 ∧ bl pq k ∧ k < H.next ∧ k ≠ p) := fun i k e => by
    match i, e with
    | 0, e => exact .inl ⟨rfl, e⟩
    | 1, e => exact .inr (.inl ⟨rfl, e, by have := s15 k e; omega⟩)
    | 2, e => exact .inr (.inr (.inl ⟨rfl, e, by have := b15 k e; omega⟩))
    | 3, e => exact absurd e Sl.at_nil
    | 4, e => exact absurd e Sl.at_nil
    | 5, e => exact absurd e bl_nil
    | 6, e => exact .inr (.inr (.inr (.inl ⟨rfl, e, po.lt e, fun e' => n1 (e' ▸ e)⟩)))
    | 7, e => exact .inr (.inr (.inr (.inr ⟨rfl, e, pr.lt e, fun e' => n2 (e' ▸ e)⟩)))
  have rep17 : Rep H17 D17 ⟨c9, List.replicate r (List.replicate c blank), [], none, pq.map Prod.snd⟩ := by
    refine ⟨g17, by show p < H17.next; omega, o17, r17, q15, .inl ⟨rfl, rfl⟩, ⟨rfl, rfl⟩, ⟨by simp [D17], by simp [D17]⟩, po17, pr17, rfl, fun i j k e1 e2 => ?_⟩
    rcases cs i k e1 with ⟨rfl, a1⟩ | ⟨rfl, a1, b1⟩ | ⟨rfl, a1, b1⟩ | ⟨rfl, a1, b1, z1⟩ | ⟨rfl, a1, b1, z1⟩ <;> rcases cs j k e2 with ⟨rfl, a2⟩ | ⟨rfl, a2, b2⟩ | ⟨rfl, a2, b2⟩ | ⟨rfl, a2, b2, z2⟩ | ⟨rfl, a2, b2, z2⟩ <;>
      first | rfl | (exfalso; omega) | exact absurd a2 (d15 k a1) | exact absurd a1 (d15 k a2) | exact absurd a2 (n3 k a1) | exact absurd a1 (n3 k a2)
  rw [show Heap.ld1 H17 ⟨p, 0, none⟩ = some (.int .i64 (r : Int)) from rep17.l0]
  simp only [optK_s, asI_s]
  obtain ⟨H20, e20, rep20, s20⟩ := rep17.s18 (r - 1)
  rw [show IntKind.wrap .i64 ((r : Int) - 1) = ((r - 1 : Nat) : Int) by rw [w64 (by omega)]; omega, show Heap.st1 H17 ⟨p, 18, none⟩ (.int .i64 ((r - 1 : Nat) : Int)) = some H20 from e20]
  simp only [optK_s]
  obtain ⟨H21, e21, rep21, s21⟩ := rep20.s19 true
  rw [show Heap.st1 H20 ⟨p, 19, none⟩ (.bool true) = some H21 from e21]
  simp only [optK_s]
  rw [show Heap.ld1 H21 ⟨p, 1, none⟩ = some (.int .i64 (c : Int)) from rep21.l1]
  simp only [optK_s, asI_s]
  obtain ⟨H', y, e', rep', s'⟩ := tabs_loop (d + 5) c (by omega) (c := Sc.init r c) rfl rfl NN 0 (NN_big _ (by omega)) (by omega) rfl rfl rep21
  rw [show (0 : Int) = ((0 : Nat) : Int) from rfl]
  have st := (s20.trans s21).trans s'
  refine ⟨H', { D17 with tabs := y }, e', rep', rfl, rfl, ?_, fun k e => ?_⟩
  · have hf : ∀ k, D17.foot k → k = p ∨ past.at k ∨ bl pq k ∨ H.next ≤ k := fun k ⟨i, e⟩ => by
      rcases cs i k e with ⟨_, a⟩ | ⟨_, a, b⟩ | ⟨_, a, b⟩ | ⟨_, a, _⟩ | ⟨_, a, _⟩
      · exact .inl a
      · exact .inr (.inr (.inr b))
      · exact .inr (.inr (.inr b))
      · exact .inr (.inl a)
      · exact .inr (.inr (.inl a))
    exact (k017.mono (T := fun k => k = p ∨ past.at k ∨ bl pq k) fun k _ e => .inl e).trans st.kp fun k hk e => by
      rcases hf k e with e | e | e | e
      · exact .inl e
      · exact .inr (.inl e)
      · exact .inr (.inr e)
      · omega
  · rcases st.ft k e with ⟨i, e⟩ | e
    · rcases cs i k e with ⟨_, a⟩ | ⟨_, a, b⟩ | ⟨_, a, b⟩ | ⟨_, a, _⟩ | ⟨_, a, _⟩
      · exact .inl a
      · exact .inr (.inr (.inr b))
      · exact .inr (.inr (.inr b))
      · exact .inr (.inl a)
      · exact .inr (.inr (.inl a))
    · exact .inr (.inr (.inr (by omega)))

theorem WF.fresh {r c : Nat} (hr : 1 ≤ r ∧ r ≤ 60) (hc : 1 ≤ c ∧ c ≤ 120) {past : List (List Cl)} (h1 : past.length ≤ 200) (h2 : ∀ l ∈ past, l ≠ [] ∧ l.length ≤ 120) : WF (G.fresh r c past) := by
  refine ⟨hr.1, hr.2, hc.1, hc.2, ?_, ?_, ?_, Nat.zero_le _, ?_, by show 0 ≤ 1000; omega, by show 0 ≤ 1000; omega, ?_, ?_, ?_, ?_, ?_, fun M h => (by cases h), h1, h2⟩
  · show 0 < r; omega
  · show 0 < c; omega
  · show 0 < r; omega
  · show r - 1 < r; omega
  · show 0 < r; omega
  · show 0 < c; omega
  · show (List.replicate r (List.replicate c blank)).length = r; simp
  · intro l hl
    have := (List.mem_replicate.1 hl).2
    rw [this]; simp; rfl
  · show (tabs0 c).length = c; simp [tabs0]

def PS.new : PS := ⟨0, false, false, false, false, []⟩
def GP.new (r c : Nat) : GP := ⟨G.fresh r c [], PS.new, []⟩
theorem size_s (d : Nat) (H : Heap) {r c : Nat} (hr : 1 ≤ r ∧ r ≤ 60) (hc : 1 ≤ c ∧ c ≤ 120) : X (d + 1) n_grid_size [.int .i64 (r : Int), .int .i64 (c : Int)] H = some (.bool true, H) := by
  rw [grid_size_eq, if_pos (decide_eq_true (by omega)), if_pos (decide_eq_true (by omega)), if_pos (decide_eq_true (by omega)), decide_eq_true (show (c : Int) ≤ 120 by omega)]
theorem New_s (d : Nat) {H : Heap} (hH : 3 < H.next) {r c : Nat} (hr : 1 ≤ r ∧ r ≤ 60) (hc : 1 ≤ c ∧ c ≤ 120) :
    ∃ H' A, X (d + 7) n_grid_New [.int .i64 (r : Int), .int .i64 (c : Int)] H = some (.tuple #[P0 A.D.p, .int .i64 0], H') ∧ Gr H' A (GP.new r c) ∧ Keep0 H H' ∧ (∀ k, A.foot k → H.next ≤ k) := by
  rw [grid_New_eq, size_s (d + 5) H hr hc]
  simp only [callK_s, asB_s]
  rw [if_neg (show ¬ (!true) = true by simp), vt_New_eq, utf_New_eq]
  simp only [newK_s, callK_s, P0, asP_s]
  have k1 : Keep0 H (H.new (.cells [.slice none 0 0] t_utf_Decoder false 0 false)) := Keep.new _ _
  have g1 : (H.new (.cells [.slice none 0 0] t_utf_Decoder false 0 false)).get H.next = some (.cells [.slice none 0 0] t_utf_Decoder false 0 false) := by simp
  have n1 : (H.new (.cells [.slice none 0 0] t_utf_Decoder false 0 false)).next = H.next + 1 := by simp
  generalize H.new (.cells [.slice none 0 0] t_utf_Decoder false 0 false) = H1 at *
  have k2 : Keep0 H1 (H1.new (.cells [.pointer (some ⟨H.next, 0, none⟩), .int .i64 0, .bool false, .bool false, .bool false, .bool false, .slice none 0 0] t_vt_Parser false 0 false)) := Keep.new _ _
  have g2 : (H1.new (.cells [.pointer (some ⟨H.next, 0, none⟩), .int .i64 0, .bool false, .bool false, .bool false, .bool false, .slice none 0 0] t_vt_Parser false 0 false)).get H1.next = some (.cells [.pointer (some ⟨H.next, 0, none⟩), .int .i64 0, .bool false, .bool false, .bool false, .bool false, .slice none 0 0] t_vt_Parser false 0 false) := by simp
  have n2 : (H1.new (.cells [.pointer (some ⟨H.next, 0, none⟩), .int .i64 0, .bool false, .bool false, .bool false, .bool false, .slice none 0 0] t_vt_Parser false 0 false)).next = H1.next + 1 := by simp
  generalize H1.new (.cells [.pointer (some ⟨H.next, 0, none⟩), .int .i64 0, .bool false, .bool false, .bool false, .bool false, .slice none 0 0] t_vt_Parser false 0 false) = H2 at *
  have g12 := k2.get (show H.next < H1.next by omega) g1
  generalize hLL : [Value.int .i64 (r : Int), Value.int .i64 (c : Int), .slice none 0 0, .int .i64 0, .int .i64 0, .bool false, .int .i32 0, .int .i64 0, .int .i64 0, .int .i64 0, .int .i64 0, .int .i64 0, .bool false, .int .i32 0, .int .i64 0, .int .i64 0, .int .i64 0, .int .i64 0, .int .i64 0, .bool false, .bool false, .bool false, .slice none 0 0, .slice none 0 0, .int .i64 0, .int .i64 0, .bool false, .int .i32 0, .int .i64 0, .int .i64 0, .int .i64 0, .slice none 0 0, .pointer (some ⟨H1.next, 0, none⟩)] = L
  have k3 : Keep0 H2 (H2.new (.cells L t_grid_Grid false 0 false)) := Keep.new _ _
  have g3 : (H2.new (.cells L t_grid_Grid false 0 false)).get H2.next = some (.cells L t_grid_Grid false 0 false) := by simp
  have n3 : (H2.new (.cells L t_grid_Grid false 0 false)).next = H2.next + 1 := by simp
  generalize H2.new (.cells L t_grid_Grid false 0 false) = H3 at *
  obtain ⟨H', D', e', rep, dp, dpp, kk, ff⟩ := reset_s d (p := H2.next) (pp := H1.next) (past := Sl.nil) (pq := []) hr hc g3 (by rw [← hLL]; rfl) (by rw [← hLL]; rfl) (by rw [← hLL]; rfl) (by rw [← hLL]; rfl) (by rw [← hLL]; rfl) (by omega) (.inl ⟨rfl, rfl⟩) ⟨by simp, by simp⟩ Sl.at_nil bl_nil fun k e => absurd e Sl.at_nil
  rw [show X (d + 6) n_grid_Grid_reset [.pointer (some ⟨H2.next, 0, none⟩)] H3 = some (.tuple #[], H') from e']
  simp only [callK_s]
  have hf : ∀ k, D'.foot k → k = H2.next ∨ H3.next ≤ k := fun k e => by
    rcases ff k e with e | e | e | e
    · exact .inl e
    · exact absurd e Sl.at_nil
    · exact absurd e bl_nil
    · exact .inr e
  have hkS : ∀ k, (k = H2.next ∨ Sl.nil.at k ∨ bl [] k) → k = H2.next := fun k e => by
    rcases e with e | e | e
    · exact e
    · exact absurd e Sl.at_nil
    · exact absurd e bl_nil
  have kk3 := kk.1
  have gp : H'.get H1.next = some (.cells (psL PS.new H.next Sl.nil) t_vt_Parser false 0 false) := (kk.2 H1.next (by omega) fun e => by have := hkS _ e; omega).trans (k3.get (by omega) g2)
  have gd : H'.get H.next = some (.cells [Sl.nil.v] t_utf_Decoder false 0 false) := (kk.2 H.next (by omega) fun e => by have := hkS _ e; omega).trans (k3.get (by omega) g12)
  have hfoot : ∀ k, (⟨D', H.next, Sl.nil, Sl.nil⟩ : GA).foot k → H.next ≤ k := fun k e => by
    rcases e with e | e | e | e | e
    · have := hf k e; omega
    · have e' : k = D'.pp := e
      omega
    · have e' : k = H.next := e
      omega
    · exact absurd e Sl.at_nil
    · exact absurd e Sl.at_nil
  refine ⟨H', ⟨D', H.next, Sl.nil, Sl.nil⟩, by rw [show (⟨D', H.next, Sl.nil, Sl.nil⟩ : GA).D.p = H2.next from dp], ⟨rep, WF.fresh hr hc (by simp) (by simp), ?_, fun k e => by have := hfoot k e; omega, ?_, ?_, fun k e => absurd e Sl.at_nil, fun k e => absurd e Sl.at_nil⟩, ?_, hfoot⟩
  · show PD H' D'.pp H.next Sl.nil Sl.nil PS.new []
    rw [dpp]
    exact ⟨⟨gp, by omega, .inl ⟨rfl, rfl⟩, Sl.at_nil⟩, fun h => absurd h (by decide), ⟨⟨_, _, _, gd⟩, by omega, .inl ⟨rfl, rfl⟩, Sl.at_nil⟩, by simp, by omega, Sl.at_nil, Sl.at_nil, fun k e => absurd e Sl.at_nil, hH⟩
  · show ¬ D'.foot D'.pp
    rw [dpp]; intro e; have := hf _ e; omega
  · show ¬ D'.foot H.next
    intro e; have := hf _ e; omega
  · exact (((k1.trans k2).trans k3).fresh (kk.mono (T := fun k => k = H2.next) fun k _ e => hkS k e) fun k e => by have e' : k = H2.next := e; omega)
end Go.Proofs.YtjmiehbiindjdaaGreatDoor.dec

namespace Go.Proofs.YtjmiehbiindjdaaGreatDoor.dec
open Go Go.Cm

attribute [local congr] optK_congr asI_congr asN_congr asB_congr asS_congr asP_congr asA_congr asSL_congr callK_congr castT_congr chk_congr

/-- a cursor's cells -/
def curL (row col : Nat) (due : Bool) (st : Cl) : List Value := [.int .i64 row, .int .i64 col, .bool due, .int .i32 st.r, .int .i64 st.f, .int .i64 st.b, .int .i64 st.s]
section
variable {H : Heap} {D : GD} {g : G} (h : Rep H D g)
include h
theorem Rep.lda3 : ldA H ⟨D.p, 3, none⟩ 7 = some (.agg ⟨curL g.c.row g.c.col g.c.due g.c.st⟩) := by
  unfold ldA
  rw [ldN_s h.get (by show 3 + 7 ≤ 33; omega)]; rfl
theorem Rep.lda10 : ldA H ⟨D.p, 10, none⟩ 7 = some (.agg ⟨curL g.c.srow g.c.scol g.c.sdue g.c.sst⟩) := by
  unfold ldA
  rw [ldN_s h.get (by show 10 + 7 ≤ 33; omega)]; rfl
theorem Rep.lda24 : ldA H ⟨D.p, 24, none⟩ 7 = some (.agg ⟨curL g.c.arow g.c.acol g.c.adue g.c.ast⟩) := by
  unfold ldA
  rw [ldN_s h.get (by show 24 + 7 ≤ 33; omega)]; rfl
theorem Rep.sta3 (row col : Nat) (due : Bool) (st : Cl) : ∃ H', (∀ K, effK (.store 7) [.pointer (some ⟨D.p, 3, none⟩), .agg ⟨curL row col due st⟩] H K = K (.tuple #[]) H') ∧ Rep H' D { g with c := { g.c with row := row, col := col, due := due, st := st } } ∧ Stp H D H' D := by
  refine ⟨H.put D.p (.cells (gridL { g.c with row := row, col := col, due := due, st := st } D) t_grid_Grid false 0 false), fun K => ?_, h.setc _, Stp.setc h _⟩
  simp only [effK]
  rw [if_neg (by omega), if_pos ⟨rfl, rfl, by omega⟩, show H.stN ⟨D.p, 3, none⟩ (cellsL (.agg ⟨curL row col due st⟩)) = some (H.put D.p (.cells (gridL { g.c with row := row, col := col, due := due, st := st } D) t_grid_Grid false 0 false)) from by simp only [Heap.stN, h.get]; rfl]
  rfl
theorem Rep.sta10 (row col : Nat) (due : Bool) (st : Cl) : ∃ H', (∀ K, effK (.store 7) [.pointer (some ⟨D.p, 10, none⟩), .agg ⟨curL row col due st⟩] H K = K (.tuple #[]) H') ∧ Rep H' D { g with c := { g.c with srow := row, scol := col, sdue := due, sst := st } } ∧ Stp H D H' D := by
  refine ⟨H.put D.p (.cells (gridL { g.c with srow := row, scol := col, sdue := due, sst := st } D) t_grid_Grid false 0 false), fun K => ?_, h.setc _, Stp.setc h _⟩
  simp only [effK]
  rw [if_neg (by omega), if_pos ⟨rfl, rfl, by omega⟩, show H.stN ⟨D.p, 10, none⟩ (cellsL (.agg ⟨curL row col due st⟩)) = some (H.put D.p (.cells (gridL { g.c with srow := row, scol := col, sdue := due, sst := st } D) t_grid_Grid false 0 false)) from by simp only [Heap.stN, h.get]; rfl]
  rfl
/-- move, of a cursor that may lie anywhere -/
theorem move_b (d : Nat) (r1 : 1 ≤ g.c.rows) (r2 : g.c.rows ≤ 60) (c1 : 1 ≤ g.c.cols) (c2 : g.c.cols ≤ 120) (row col : Int) : ∃ H', X (d + 1) n_grid_Grid_move [P0 D.p, .int .i64 row, .int .i64 col] H = some (.tuple #[], H') ∧ Rep H' D (g.move row col) ∧ Stp H D H' D := by
  rw [grid_Grid_move_eq, h.l0, h.l1]
  simp only [optK_s, asI_s]
  have e1 : (if (IntKind.wrap .i64 ((g.c.rows : Int) - 1)) < (if row < 0 then 0 else row) then (IntKind.wrap .i64 ((g.c.rows : Int) - 1)) else (if row < 0 then 0 else row)) = (((min (max row 0) ((g.c.rows : Int) - 1)).toNat : Nat) : Int) := by
    rw [w64 (by omega)]; split <;> split <;> omega
  have e2 : (if (IntKind.wrap .i64 ((g.c.cols : Int) - 1)) < (if col < 0 then 0 else col) then (IntKind.wrap .i64 ((g.c.cols : Int) - 1)) else (if col < 0 then 0 else col)) = (((min (max col 0) ((g.c.cols : Int) - 1)).toNat : Nat) : Int) := by
    rw [w64 (by omega)]; split <;> split <;> omega
  rw [e1, e2]
  obtain ⟨H1, f1, h1, s1⟩ := h.s3 (min (max row 0) ((g.c.rows : Int) - 1)).toNat
  rw [f1]
  simp only [optK_s]
  obtain ⟨H2, f2, h2, s2⟩ := h1.s4 (min (max col 0) ((g.c.cols : Int) - 1)).toNat
  rw [f2]
  simp only [optK_s]
  obtain ⟨H3, f3, h3, s3⟩ := h2.s5 false
  rw [f3]
  simp only [optK_s]
  exact ⟨H3, rfl, h3, (s1.trans s2).trans s3⟩
/-- a stop is set -/
theorem Rep.tabset (hn : 0 < g.tabs.length) {i : Nat} (hi : i < g.tabs.length) (v : Bool) : ∃ b H', D.tabs.a = some ⟨b, 0, none⟩ ∧ D.tabs.n = g.tabs.length ∧ Heap.st1 H (ap ⟨b, 0, none⟩ (((i : Int).toNat) * 1)) (.bool v) = some H' ∧ Rep H' D { g with tabs := g.tabs.set i v } ∧ Stp H D H' D := by
  have hl := h.ta.n
  rw [List.length_map] at hl
  obtain ⟨b, Z, v0, hcc⟩ := h.ta.vw (by rw [List.length_map]; omega)
  have hat := v0.at
  obtain ⟨H', e, v', k', n'⟩ := v0.st1 (x := .bool v) (i := i) (by simpa using hi)
  have hS : ∀ k, (fun k => k = b) k → D.cmp 3 k := fun k e => by have e' : k = b := e; subst e'; exact hat
  refine ⟨b, H', v0.sa, by omega, by rw [show ap ⟨b, 0, none⟩ (((i : Int).toNat) * 1) = ⟨b, ([] : List Value).length + i, none⟩ by simp [ap]]; exact e, ?_, Stp.of k' fun k e => ⟨3, hS k e⟩⟩
  refine ⟨h.o0 k' hS (by decide), by have := k'.1; have := h.lt; show D.p < _; omega, h.o1 k' hS (by decide), h.o2 k' hS (by decide), h.cL, ?_, h.o4 k' hS (by decide), h.o5 k' hS (by decide), h.o6 k' hS (by decide), h.o7 k' hS (by decide), h.pL, h.sep⟩
  refine .inr ⟨b, Z, ?_, hcc⟩
  rw [← List.map_set] at v'
  exact v'
end

/-! ### escape sequences -/
def G.save (g : G) : G := { g with c := { g.c with srow := g.c.row, scol := g.c.col, sdue := g.c.due, sst := g.c.st } }
def G.restore (g : G) : G := (({ g with c := { g.c with row := g.c.srow, col := g.c.scol, due := g.c.sdue, st := g.c.sst } } : G).move g.c.srow g.c.scol).due g.c.sdue
def G.esc (g : G) (r : Int) : G :=
  if r = 68 ∨ r = 69 ∨ r = 77 then g.esc3 r
  else if r = 55 then g.save
  else if r = 56 then g.restore
  else if r = 99 then G.fresh g.c.rows g.c.cols g.past
  else if r = 72 then { g with tabs := g.tabs.set g.c.col true }
  else g
theorem WF.tabset {g : G} (w : WF g) {l : List Bool} (hl : l.length = g.c.cols) : WF { g with tabs := l } := by
  obtain ⟨h1, h2, h3, h4, h5, h6, h7, h8, h9, h10, h11, h12, h13, h14, h15, h16, h17, h18, h19⟩ := w
  exact ⟨h1, h2, h3, h4, h5, h6, h7, h8, h9, h10, h11, h12, h13, h14, h15, hl, h17, h18, h19⟩
theorem WF.restore {g : G} (w : WF g) : WF g.restore := by
  have r1 := w.r1; have c1 := w.c1
  obtain ⟨h1, h2, h3, h4, h5, h6, h7, h8, h9, h10, h11, h12, h13, h14, h15, h16, h17, h18, h19⟩ := w
  exact ⟨h1, h2, h3, h4, by show (min (max (g.c.srow : Int) 0) ((g.c.rows : Int) - 1)).toNat < g.c.rows; omega, by show (min (max (g.c.scol : Int) 0) ((g.c.cols : Int) - 1)).toNat < g.c.cols; omega, h7, h8, h9, h10, h11, h12, h13, h14, h15, h16, h17, h18, h19⟩
theorem WF.esc {g : G} (w : WF g) (r : Int) : WF (g.esc r) := by
  unfold G.esc
  split; · exact w.esc3 r
  have := w.row; have := w.col; have := w.r2; have := w.c2
  split; · exact w.sc rfl rfl w.row w.col w.top w.tb w.bot (by show g.c.row ≤ 1000; omega) (by show g.c.col ≤ 1000; omega) w.arow w.acol
  split; · exact w.restore
  split; · exact WF.fresh ⟨w.r1, w.r2⟩ ⟨w.c1, w.c2⟩ w.pn w.pw
  split; · exact w.tabset (by simpa using w.tn)
  exact w

theorem esc_s (d : Nat) {H : Heap} {D : GD} {g : G} (h : Rep H D g) (w : WF g) (r : Int) :
    ∃ H' D', X (d + 9) n_grid_Grid_esc [P0 D.p, .int .i32 r] H = some (.tuple #[], H') ∧ Rep H' D' (g.esc r) ∧ Stp H D H' D' := by
  unfold G.esc
  by_cases c0 : r = 68 ∨ r = 69 ∨ r = 77
  · rw [if_pos c0]
    exact esc3_s d h w c0
  rw [if_neg c0, grid_Grid_esc_eq, if_neg (show ¬ decide (r = 68) = true from dneg (by omega)), if_neg (show ¬ decide (r = 69) = true from dneg (by omega)), if_neg (show ¬ decide (r = 77) = true from dneg (by omega))]
  by_cases c1 : r = 55
  · rw [if_pos (show decide (r = 55) = true from decide_eq_true c1), if_pos c1, h.lda3]
    simp only [optK_s, asA_s]
    obtain ⟨H', e, h', s'⟩ := h.sta10 g.c.row g.c.col g.c.due g.c.st
    rw [e]
    exact ⟨H', D, rfl, h', s'⟩
  rw [if_neg (show ¬ decide (r = 55) = true from dneg c1), if_neg c1]
  by_cases c2 : r = 56
  · rw [if_pos (show decide (r = 56) = true from decide_eq_true c2), if_pos c2, h.l12]
    simp only [optK_s, asB_s]
    rw [h.lda10]
    simp only [optK_s, asA_s]
    obtain ⟨H1, e1, h1, s1⟩ := h.sta3 g.c.srow g.c.scol g.c.sdue g.c.sst
    rw [e1, h1.l3, h1.l4]
    simp only [optK_s, asI_s]
    obtain ⟨H2, e2, h2, s2⟩ := move_b h1 (d + 7) w.r1 w.r2 w.c1 w.c2 g.c.srow g.c.scol
    rw [e2]
    simp only [callK_s]
    obtain ⟨H3, e3, h3, s3⟩ := h2.s5 g.c.sdue
    rw [e3]
    exact ⟨H3, D, rfl, h3, (s1.trans s2).trans s3⟩
  rw [if_neg (show ¬ decide (r = 56) = true from dneg c2), if_neg c2]
  by_cases c3 : r = 99
  · rw [if_pos (show decide (r = 99) = true from decide_eq_true c3), if_pos c3]
    obtain ⟨H', D', e, h', p1, p2, k', f'⟩ := reset_s (d + 2) (p := D.p) (pp := D.pp) (r := g.c.rows) (c := g.c.cols) ⟨w.r1, w.r2⟩ ⟨w.c1, w.c2⟩ h.get rfl rfl rfl rfl rfl h.lt h.po h.pr
      (fun e => absurd (h.sep 0 6 _ rfl e) (by decide)) (fun e => absurd (h.sep 0 7 _ rfl e) (by decide)) (fun k e e' => absurd (h.sep 6 7 k e e') (by decide))
    rw [h.pL] at h'
    rw [e]
    refine ⟨H', D', rfl, h', ⟨p1, p2, k'.mono fun k _ e => ?_, fun k e => ?_⟩⟩
    · rcases e with e | e | e
      · exact ⟨0, e⟩
      · exact ⟨6, e⟩
      · exact ⟨7, e⟩
    · rcases f' k e with e | e | e | e
      · exact .inl ⟨0, e⟩
      · exact .inl ⟨6, e⟩
      · exact .inl ⟨7, e⟩
      · exact .inr e
  rw [if_neg (show ¬ decide (r = 99) = true from dneg c3), if_neg c3]
  by_cases c4 : r = 72
  · have hc := w.col; have ht := w.tn
    rw [if_pos (show decide (r = 72) = true from decide_eq_true c4), if_pos c4, h.l22]
    simp only [optK_s, asSL_k]
    rw [h.l4]
    simp only [optK_s, asI_s]
    obtain ⟨b, H', e1, e2, e3, h', s'⟩ := h.tabset (by omega) (i := g.c.col) (by omega) true
    rw [e1]
    simp only [optK_s]
    rw [if_pos (show (0 : Int) ≤ (g.c.col : Int) ∧ (g.c.col : Int) < (D.tabs.n : Int) by omega), e3]
    exact ⟨H', D, rfl, h', s'⟩
  rw [if_neg (show ¬ decide (r = 72) = true from dneg c4), if_neg c4]
  exact ⟨H, D, rfl, h, Stp.refl _ _⟩
end Go.Proofs.YtjmiehbiindjdaaGreatDoor.dec

namespace Go.Proofs.YtjmiehbiindjdaaGreatDoor.dec
open Go Go.Cm

attribute [local congr] optK_congr asI_congr asN_congr asB_congr asS_congr asP_congr asA_congr asSL_congr callK_congr castT_congr chk_congr

theorem raw1 {H : Heap} {p i : Nat} {c c' : Sc} {D D' : GD} {v : Value} (hg : H.get p = some (.cells (gridL c D) t_grid_Grid false 0 false)) (hi : i < 33) (e : (gridL c D).set i v = gridL c' D') :
    ∃ H', Heap.st1 H ⟨p, i, none⟩ v = some H' ∧ H'.get p = some (.cells (gridL c' D') t_grid_Grid false 0 false) ∧ Keep (fun k => k = p) H H' ∧ H'.next = H.next :=
  ⟨H.put p (.cells (gridL c' D') t_grid_Grid false 0 false), by rw [st1_s hg hi (by omega), e], by simp, Keep.put _ _ _ rfl, rfl⟩
theorem raw7 {H : Heap} {p i : Nat} {c c' : Sc} {D D' : GD} {row col : Nat} {due : Bool} {st : Cl} (hg : H.get p = some (.cells (gridL c D) t_grid_Grid false 0 false)) (hi : i + 7 ≤ 33) (e : splice (gridL c D) i (curL row col due st) = gridL c' D') :
    ∃ H', H.stN ⟨p, i, none⟩ (curL row col due st) = some H' ∧ (∀ K, effK (.store 7) [.pointer (some ⟨p, i, none⟩), .agg ⟨curL row col due st⟩] H K = K (.tuple #[]) H') ∧ H'.get p = some (.cells (gridL c' D') t_grid_Grid false 0 false) ∧ Keep (fun k => k = p) H H' ∧ H'.next = H.next := by
  have es : H.stN ⟨p, i, none⟩ (curL row col due st) = some (H.put p (.cells (gridL c' D') t_grid_Grid false 0 false)) := by
    simp only [Heap.stN, hg]
    rw [if_pos (show i + (curL row col due st).length ≤ (gridL c D).length ∧ 0 ≤ i from ⟨hi, by omega⟩), e]
  refine ⟨_, es, fun K => ?_, by simp, Keep.put _ _ _ rfl, rfl⟩
  simp only [effK]
  rw [if_neg (by omega), if_pos ⟨rfl, rfl, by omega⟩, show H.stN ⟨p, i, none⟩ (cellsL (.agg ⟨curL row col due st⟩)) = _ from es]
  rfl

def G.alternate (g : G) (on : Bool) : G :=
  match on, g.other with
  | true, none => { g with other := some g.L, L := List.replicate g.c.rows (List.replicate g.c.cols blank), c := { g.c with arow := g.c.row, acol := g.c.col, adue := g.c.due, ast := g.c.st } }
  | false, some M => { g with L := M, other := none, c := { g.c with row := g.c.arow, col := g.c.acol, due := g.c.adue, st := g.c.ast, arow := 0, acol := 0, adue := false, ast := zeroC } }
  | _, _ => g
theorem WF.alternate {g : G} (w : WF g) (on : Bool) : WF (g.alternate on) := by
  have r1 := w.r1; have c1 := w.c1
  obtain ⟨gc, gL, gt, go, gp⟩ := g
  obtain ⟨h1, h2, h3, h4, h5, h6, h7, h8, h9, h10, h11, h12, h13, h14, h15, h16, h17, h18, h19⟩ := w
  cases on with
  | true =>
    cases go with
    | none =>
      refine ⟨h1, h2, h3, h4, h5, h6, h7, h8, h9, h10, h11, h5, h6, by simp [G.alternate], fun l hl => ?_, h16, fun M hM => ?_, h18, h19⟩
      · simp only [G.alternate, List.mem_replicate] at hl
        rw [hl.2]; simp [G.alternate]
      · simp only [G.alternate, Option.some.injEq] at hM
        subst hM
        exact ⟨h14, h15⟩
    | some M => exact ⟨h1, h2, h3, h4, h5, h6, h7, h8, h9, h10, h11, h12, h13, h14, h15, h16, h17, h18, h19⟩
  | false =>
    cases go with
    | none => exact ⟨h1, h2, h3, h4, h5, h6, h7, h8, h9, h10, h11, h12, h13, h14, h15, h16, h17, h18, h19⟩
    | some M =>
      obtain ⟨m1, m2⟩ := h17 M rfl
      exact ⟨h1, h2, h3, h4, h12, h13, h7, h8, h9, h10, h11, r1, c1, m1, m2, h16, fun M hM => by simp [G.alternate] at hM, h18, h19⟩

theorem alternate_s (d : Nat) {H : Heap} {D : GD} {g : G} (h : Rep H D g) (w : WF g) (on : Bool) :
    ∃ H' D', X (d + 6) n_grid_Grid_alternate [P0 D.p, .bool on] H = some (.tuple #[], H') ∧ Rep H' D' (g.alternate on) ∧ Stp H D H' D' := by
  have r1 := w.r1; have r2 := w.r2; have c2 := w.c2; have hql := h.ql; have hLn := w.Ln
  have hne : D.cells.a ≠ none := h.co.some (by intro e; rw [e] at hql; simp at hql; omega)
  have hp := h.lt
  rw [grid_Grid_alternate_eq]
  cases on with
  | true =>
    rw [if_pos rfl, h.l23]
    simp only [optK_s, asSL_k]
    cases ho : g.other with
    | some M =>
      have hoo := h.oo
      rw [ho] at hoo
      rw [show D.other.a.isNone = false by cases h : D.other.a with
        | none => exact absurd h hoo.1
        | some _ => rfl, grid_Grid_alternate_p01_eq, if_neg ff, if_neg (show ¬ (!true) = true by simp), grid_Grid_alternate_p01011_eq, if_neg ff]
      have e : g.alternate true = g := by unfold G.alternate; rw [ho]
      rw [e]
      exact ⟨H, D, rfl, h, Stp.refl _ _⟩
    | none =>
      have hoo := h.oo
      rw [ho] at hoo
      obtain ⟨ho1, ho2⟩ := hoo
      rw [ho1, show Sl.nil.a.isNone = true from rfl, grid_Grid_alternate_p01_eq, if_pos rfl, h.l2]
      simp only [optK_s, asSL_k]
      rw [h.lda3]
      simp only [optK_s, asA_s]
      let c1 : Sc := { g.c with arow := g.c.row, acol := g.c.col, adue := g.c.due, ast := g.c.st }
      obtain ⟨H5, e5, g5, k5, n5⟩ := raw1 (i := 23) (v := D.cells.v) (c' := g.c) (D' := { D with other := D.cells }) h.get (by omega) rfl
      rw [e5]
      simp only [optK_s]
      obtain ⟨H7, _, e7, g7, k7, n7⟩ := raw7 (i := 24) (row := g.c.row) (col := g.c.col) (due := g.c.due) (st := g.c.st) (c' := c1) (D' := { D with other := D.cells }) g5 (by omega) rfl
      rw [e7, (ld1_s g7).trans (show (gridL c1 { D with other := D.cells })[0]? = some (.int .i64 (g.c.rows : Int)) from rfl)]
      simp only [optK_s, asI_s]
      rw [(ld1_s g7).trans (show (gridL c1 { D with other := D.cells })[1]? = some (.int .i64 (g.c.cols : Int)) from rfl)]
      simp only [optK_s, asI_s]
      obtain ⟨s, p, H13, e13, o13, r13, L13, fs, fp, dj, k13⟩ := sheet_s d g.c.rows g.c.cols (by omega) (by omega) H7
      rw [e13]
      simp only [callK_s, asSL_k]
      have g13 := k13.get (by omega) g7
      let D' : GD := { D with cells := s, q := p, other := D.cells, oq := D.q }
      obtain ⟨H15, e15, g15, k15, n15⟩ := raw1 (i := 2) (v := s.v) (c' := c1) (D' := D') g13 (by omega) rfl
      rw [e15]
      simp only [optK_s]
      have n13 := k13.1
      have kk : Keep (fun k => k = D.p) H H15 := ((k5.trans k7 fun _ _ e => e).trans k13.to fun _ _ e => e).trans k15 fun _ _ e => e
      have ap : ∀ i k, i ≠ 0 → D.cmp i k → ¬ (k = D.p) := fun i k h0 e e' => h0 (h.sep _ _ _ (show D.cmp i D.p from e' ▸ e) (show D.cmp 0 D.p from rfl))
      have e0 : g.alternate true = { g with other := some g.L, L := List.replicate g.c.rows (List.replicate g.c.cols blank), c := c1 } := by unfold G.alternate; rw [ho]
      rw [e0]
      have cs : ∀ i k, D'.cmp i k → (i = 1 ∧ s.at k ∧ H.next ≤ k) ∨ (i = 2 ∧ bl p k ∧ H.next ≤ k) ∨ (i = 4 ∧ D.cmp 1 k ∧ k < H.next) ∨ (i = 5 ∧ D.cmp 2 k ∧ k < H.next) ∨ (i ≠ 1 ∧ i ≠ 2 ∧ i ≠ 4 ∧ i ≠ 5 ∧ D.cmp i k ∧ k < H.next) := fun i k e => by
        match i, e with
        | 0, e => exact .inr (.inr (.inr (.inr ⟨by decide, by decide, by decide, by decide, e, cmp_lt h (i := 0) e⟩)))
        | 1, e => exact .inl ⟨rfl, e, by have := fs k e; omega⟩
        | 2, e => exact .inr (.inl ⟨rfl, e, by have := fp k e; omega⟩)
        | 3, e => exact .inr (.inr (.inr (.inr ⟨by decide, by decide, by decide, by decide, e, cmp_lt h (i := 3) e⟩)))
        | 4, e => exact .inr (.inr (.inl ⟨rfl, e, cmp_lt h (i := 1) e⟩))
        | 5, e => exact .inr (.inr (.inr (.inl ⟨rfl, e, cmp_lt h (i := 2) e⟩)))
        | 6, e => exact .inr (.inr (.inr (.inr ⟨by decide, by decide, by decide, by decide, e, cmp_lt h (i := 6) e⟩)))
        | 7, e => exact .inr (.inr (.inr (.inr ⟨by decide, by decide, by decide, by decide, e, cmp_lt h (i := 7) e⟩)))
      refine ⟨H15, D', rfl, ⟨g15, by show D.p < _; omega, Whole.keep o13 k15 fun k e e' => by have := fs k e; have e'' : k = D.p := e'; omega, r13.keep k15 fun k e e' => by have := fp k e; have e'' : k = D.p := e'; omega, L13, TabO.keep h.ta kk (ap 3 · (by decide)),
        ⟨hne, Whole.keep h.co kk (ap 1 · (by decide)), h.cL⟩, h.cr.keep kk (ap 2 · (by decide)), h.po.keep kk (ap 6 · (by decide)), h.pr.keep kk (ap 7 · (by decide)), h.pL, fun i j k a0 b0 => ?_⟩, ⟨rfl, rfl, kk.mono fun k _ e => ⟨0, e⟩, fun k ⟨i, e⟩ => ?_⟩⟩
      · rcases cs i k a0 with ⟨rfl, a, u⟩ | ⟨rfl, a, u⟩ | ⟨rfl, a, u⟩ | ⟨rfl, a, u⟩ | ⟨i1, i2, i4, i5, a, u⟩ <;> rcases cs j k b0 with ⟨rfl, b, v⟩ | ⟨rfl, b, v⟩ | ⟨rfl, b, v⟩ | ⟨rfl, b, v⟩ | ⟨j1, j2, j4, j5, b, v⟩ <;>
          first | rfl | (exfalso; omega) | exact absurd b (dj k a) | exact absurd a (dj k b) | exact h.sep _ _ k a b | (have := h.sep _ _ k a b; omega)
      · rcases cs i k e with ⟨_, _, u⟩ | ⟨_, _, u⟩ | ⟨_, a, _⟩ | ⟨_, a, _⟩ | ⟨_, _, _, _, a, _⟩
        · exact .inr u
        · exact .inr u
        · exact .inl ⟨1, a⟩
        · exact .inl ⟨2, a⟩
        · exact .inl ⟨i, a⟩
  | false =>
    rw [if_neg ff, grid_Grid_alternate_p01_eq, if_neg ff, if_pos (show (!false) = true from rfl), h.l23]
    simp only [optK_s, asSL_k]
    cases ho : g.other with
    | none =>
      have hoo := h.oo
      rw [ho] at hoo
      rw [hoo.1, show (!Sl.nil.a.isNone) = false from rfl, grid_Grid_alternate_p01011_eq, if_neg ff]
      have e : g.alternate false = g := by unfold G.alternate; rw [ho]
      rw [e]
      exact ⟨H, D, rfl, h, Stp.refl _ _⟩
    | some M =>
      have hoo := h.oo
      rw [ho] at hoo
      obtain ⟨ho1, ho2, ho3⟩ := hoo
      rw [show (!D.other.a.isNone) = true by cases h : D.other.a with
        | none => exact absurd h ho1
        | some _ => rfl, grid_Grid_alternate_p01011_eq, if_pos rfl, h.l23]
      simp only [optK_s, asSL_k]
      rw [h.lda24]
      simp only [optK_s, asA_s]
      let c1 : Sc := { g.c with row := g.c.arow, col := g.c.acol, due := g.c.adue, st := g.c.ast }
      let c2 : Sc := { c1 with arow := 0, acol := 0, adue := false, ast := zeroC }
      let D' : GD := { D with cells := D.other, q := D.oq, other := Sl.nil, oq := [] }
      obtain ⟨H5, e5, g5, k5, n5⟩ := raw1 (i := 2) (v := D.other.v) (c' := g.c) (D' := { D with cells := D.other }) h.get (by omega) rfl
      rw [e5]
      simp only [optK_s]
      obtain ⟨H7, _, e7, g7, k7, n7⟩ := raw7 (i := 3) (row := g.c.arow) (col := g.c.acol) (due := g.c.adue) (st := g.c.ast) (c' := c1) (D' := { D with cells := D.other }) g5 (by omega) rfl
      rw [e7]
      obtain ⟨H8, e8, g8, k8, n8⟩ := raw1 (i := 23) (v := .slice none 0 0) (c' := c1) (D' := D') g7 (by omega) rfl
      rw [e8]
      simp only [optK_s]
      obtain ⟨H9, e9, _, g9, k9, n9⟩ := raw7 (i := 24) (row := 0) (col := 0) (due := false) (st := zeroC) (c' := c2) (D' := D') g8 (by omega) rfl
      rw [show Heap.stN H8 ⟨D.p, 24, none⟩ [.int .i64 0, .int .i64 0, .bool false, .int .i32 0, .int .i64 0, .int .i64 0, .int .i64 0] = some H9 from e9]
      simp only [optK_s]
      have kk : Keep (fun k => k = D.p) H H9 := ((k5.trans k7 fun _ _ e => e).trans k8 fun _ _ e => e).trans k9 fun _ _ e => e
      have ap : ∀ i k, i ≠ 0 → D.cmp i k → ¬ (k = D.p) := fun i k h0 e e' => h0 (h.sep _ _ _ (show D.cmp i D.p from e' ▸ e) (show D.cmp 0 D.p from rfl))
      have e0 : g.alternate false = { g with L := M, other := none, c := c2 } := by unfold G.alternate; rw [ho]
      rw [e0]
      have cs : ∀ i k, D'.cmp i k → (i = 1 ∧ D.cmp 4 k) ∨ (i = 2 ∧ D.cmp 5 k) ∨ (i ≠ 1 ∧ i ≠ 2 ∧ i ≠ 4 ∧ i ≠ 5 ∧ D.cmp i k) := fun i k e => by
        match i, e with
        | 0, e => exact .inr (.inr ⟨by decide, by decide, by decide, by decide, e⟩)
        | 1, e => exact .inl ⟨rfl, e⟩
        | 2, e => exact .inr (.inl ⟨rfl, e⟩)
        | 3, e => exact .inr (.inr ⟨by decide, by decide, by decide, by decide, e⟩)
        | 4, e => exact absurd e Sl.at_nil
        | 5, e => exact absurd e bl_nil
        | 6, e => exact .inr (.inr ⟨by decide, by decide, by decide, by decide, e⟩)
        | 7, e => exact .inr (.inr ⟨by decide, by decide, by decide, by decide, e⟩)
      refine ⟨H9, D', rfl, ⟨g9, by show D.p < _; omega, Whole.keep ho2 kk (ap 4 · (by decide)), h.or.keep kk (ap 5 · (by decide)), ho3, TabO.keep h.ta kk (ap 3 · (by decide)), ⟨rfl, rfl⟩, ⟨(fun x hx => nomatch hx), List.nodup_nil⟩, h.po.keep kk (ap 6 · (by decide)), h.pr.keep kk (ap 7 · (by decide)), h.pL, fun i j k a0 b0 => ?_⟩,
        ⟨rfl, rfl, kk.mono fun k _ e => ⟨0, e⟩, fun k ⟨i, e⟩ => ?_⟩⟩
      · rcases cs i k a0 with ⟨rfl, a⟩ | ⟨rfl, a⟩ | ⟨i1, i2, i4, i5, a⟩ <;> rcases cs j k b0 with ⟨rfl, b⟩ | ⟨rfl, b⟩ | ⟨j1, j2, j4, j5, b⟩ <;>
          first | rfl | exact h.sep _ _ k a b | (have := h.sep _ _ k a b; omega)
      · rcases cs i k e with ⟨_, a⟩ | ⟨_, a⟩ | ⟨_, _, _, _, a⟩
        · exact .inl ⟨4, a⟩
        · exact .inl ⟨5, a⟩
        · exact .inl ⟨i, a⟩

/-! ### modes -/
def G.mode (on : Bool) (g : G) (n : Int) : G :=
  if n = 7 then { g with c := { g.c with wrap := on, due := g.c.due && on } }
  else if n = 25 then { g with c := { g.c with hidden := !on } }
  else if n = 1049 then g.alternate on
  else g
def G.modes (g : G) (a : Act) : G := if a.rune = 104 ∨ a.rune = 108 then a.params.foldl (G.mode (decide (a.rune = 104))) g else g
theorem WF.mode {g : G} (w : WF g) (on : Bool) (n : Int) : WF (g.mode on n) := by
  unfold G.mode
  split; · exact w.sc rfl rfl w.row w.col w.top w.tb w.bot w.srow w.scol w.arow w.acol
  split; · exact w.sc rfl rfl w.row w.col w.top w.tb w.bot w.srow w.scol w.arow w.acol
  split; · exact w.alternate on
  exact w
theorem WF.foldl {α : Type} {f : G → α → G} (hf : ∀ g a, WF g → WF (f g a)) : ∀ (l : List α) {g : G}, WF g → WF (l.foldl f g) := fun l => by
  induction l with
  | nil => intro g w; exact w
  | cons a l ih => intro g w; exact ih (hf g a w)
theorem WF.modes {g : G} (w : WF g) (a : Act) : WF (g.modes a) := by
  unfold G.modes
  split
  · exact WF.foldl (fun g n w => w.mode _ n) _ w
  · exact w
theorem modes_loop (d : Nat) {y : Sl} {l : List Int} (hl : l.length ≤ 1000) (on : Bool) : ∀ (r : List Int) (m i : Nat) {H : Heap} {D : GD} {g : G}, r.length < m → l.drop i = r → i + r.length = l.length → Rep H D g → WF g → Whole H y (intL l) t_int 1 → (∀ k, y.at k → ¬ D.foot k) →
    ∃ H' D', grid_Grid_modes_p11110 (d + 6) m D.p on y (y.n : Int) (i : Int) H = some (.tuple #[], H') ∧ Rep H' D' (r.foldl (G.mode on) g) ∧ Stp H D H' D' := fun r => by
  induction r with
  | nil =>
    intro m i H D g hm _ hi h w wy hy
    obtain ⟨m, rfl⟩ : ∃ m', m = m' + 1 := ⟨m - 1, by simp at hm; omega⟩
    have hn := intN wy
    simp only [List.length_nil] at hi
    rw [grid_Grid_modes_p11110_s, if_neg (show ¬ decide ((i : Int) < (y.n : Int)) = true from dneg (by omega))]
    exact ⟨H, D, rfl, h, Stp.refl _ _⟩
  | cons n r ih =>
    intro m i H D g hm hd hi h w wy hy
    simp only [List.length_cons] at hm hi
    obtain ⟨m, rfl⟩ : ∃ m', m = m' + 1 := ⟨m - 1, by omega⟩
    have hc : l[i]? = some n := by have := congrArg (fun x => x[0]?) hd; simpa using this
    have hdr : l.drop (i + 1) = r := by rw [← List.drop_drop, hd]; rfl
    have hn := intN wy
    obtain ⟨b, ha, hl1⟩ := intAt wy hc
    have next : ∀ {H1 : Heap} {D1 : GD}, Rep H1 D1 (g.mode on n) → Stp H D H1 D1 → ∃ H' D', grid_Grid_modes_p111100111 (d + 6) m D.p on y (y.n : Int) (i : Int) H1 = some (.tuple #[], H') ∧ Rep H' D' ((n :: r).foldl (G.mode on) g) ∧ Stp H D H' D' := fun {H1 D1} h1 s1 => by
      rw [grid_Grid_modes_p111100111_eq, wi (by omega)]
      have hyl : ∀ k, y.at k → k < H.next := fun k e => Whole.lt wy e
      obtain ⟨H', D', e', h', s'⟩ := ih m (i + 1) (by omega) hdr (by omega) h1 (w.mode on n) (Whole.keep wy s1.kp hy) (fun k e e' => (s1.ft k e').elim (hy k e) (fun e' => by have := hyl k e; omega))
      rw [s1.p] at e'
      exact ⟨H', D', e', h', s1.trans s'⟩
    rw [grid_Grid_modes_p11110_s, if_pos (show decide ((i : Int) < (y.n : Int)) = true from decide_eq_true (by omega)), ha]
    simp only [optK_s]
    rw [if_pos (show (0 : Int) ≤ (i : Int) ∧ (i : Int) < (y.n : Int) by omega), hl1]
    simp only [optK_s, asI_s]
    by_cases c7 : n = 7
    · rw [if_pos (show decide (n = 7) = true from decide_eq_true c7)]
      obtain ⟨H1, e1, h1, s1⟩ := h.s19 on
      rw [e1]
      simp only [optK_s]
      rw [h1.l5]
      simp only [optK_s, asB_s]
      by_cases cd : g.c.due = true
      · rw [if_pos (show ({ g with c := { g.c with wrap := on } } : G).c.due = true from cd)]
        obtain ⟨H2, e2, h2, s2⟩ := h1.s5 on
        rw [e2]
        simp only [optK_s]
        refine next ?_ (s1.trans s2)
        have e : g.mode on n = { g with c := { g.c with wrap := on, due := on } } := by unfold G.mode; rw [if_pos c7, cd, Bool.true_and]
        rw [e]; exact h2
      · have cd' : g.c.due = false := by simpa using cd
        rw [if_neg (show ¬ ({ g with c := { g.c with wrap := on } } : G).c.due = true from cd)]
        obtain ⟨H2, e2, h2, s2⟩ := h1.s5 false
        rw [e2]
        simp only [optK_s]
        refine next ?_ (s1.trans s2)
        have e : g.mode on n = { g with c := { g.c with wrap := on, due := false } } := by unfold G.mode; rw [if_pos c7, cd', Bool.false_and]
        rw [e]; exact h2
    rw [if_neg (show ¬ decide (n = 7) = true from dneg c7)]
    by_cases c25 : n = 25
    · rw [if_pos (show decide (n = 25) = true from decide_eq_true c25)]
      obtain ⟨H1, e1, h1, s1⟩ := h.s21 (!on)
      rw [e1]
      simp only [optK_s]
      refine next ?_ s1
      have e : g.mode on n = { g with c := { g.c with hidden := !on } } := by unfold G.mode; rw [if_neg c7, if_pos c25]
      rw [e]; exact h1
    rw [if_neg (show ¬ decide (n = 25) = true from dneg c25)]
    by_cases cA : n = 1049
    · rw [if_pos (show decide (n = 1049) = true from decide_eq_true cA)]
      obtain ⟨H1, D1, e1, h1, s1⟩ := alternate_s d h w on
      rw [e1]
      simp only [callK_s]
      refine next ?_ s1
      have e : g.mode on n = g.alternate on := by unfold G.mode; rw [if_neg c7, if_neg c25, if_pos cA]
      rw [e]; exact h1
    rw [if_neg (show ¬ decide (n = 1049) = true from dneg cA)]
    refine next ?_ (Stp.refl _ _)
    have e : g.mode on n = g := by unfold G.mode; rw [if_neg c7, if_neg c25, if_neg cA]
    rw [e]; exact h
theorem modes_s (d : Nat) {H : Heap} {D : GD} {g : G} (h : Rep H D g) (w : WF g) {a : Act} {y : Sl} (ok : a.ok) (wy : Whole H y (intL a.params) t_int 1) (hy : ∀ k, y.at k → ¬ D.foot k) :
    ∃ H' D', X (d + 7) n_grid_Grid_modes [P0 D.p, .agg ⟨actL a y⟩] H = some (.tuple #[], H') ∧ Rep H' D' (g.modes a) ∧ Stp H D H' D' := by
  rw [grid_Grid_modes_eq, boxA]
  have k1 : Keep0 H (H.new (.cells (actL a y) t_vt_Act false 0 false)) := Keep.new _ _
  have g1 : (H.new (.cells (actL a y) t_vt_Act false 0 false)).get H.next = some (.cells (actL a y) t_vt_Act false 0 false) := by simp
  generalize H.new (.cells (actL a y) t_vt_Act false 0 false) = H1 at *
  have l1 : Heap.ld1 H1 (ap ⟨H.next, 0, none⟩ 1) = some (.int .i32 a.rune) := (ld1_s g1).trans rfl
  have l3 : Heap.ld1 H1 (ap ⟨H.next, 0, none⟩ 3) = some y.v := (ld1_s g1).trans rfl
  simp only [P0, asP_s, optK_s]
  rw [l1]
  simp only [optK_s, asI_s]
  have go : a.rune = 104 ∨ a.rune = 108 → ∃ H' D', grid_Grid_modes_p11110 (d + 6) NN D.p (decide (a.rune = 104)) y (y.n : Int) 0 H1 = some (.tuple #[], H') ∧ Rep H' D' (g.modes a) ∧ Stp H D H' D' := fun hr => by
    have hl := ok.1
    obtain ⟨H', D', e', h', s'⟩ := modes_loop d ok.1 (decide (a.rune = 104)) a.params NN 0 (NN_big _ (by omega)) rfl (by omega) (h.new k1) w (Whole.keep wy k1 fun _ _ e => e) hy
    refine ⟨H', D', e', ?_, (Stp.new k1).trans s'⟩
    unfold G.modes
    rw [if_pos hr]
    exact h'
  by_cases c1 : a.rune = 104
  · rw [if_neg (show ¬ (!decide (a.rune = 104)) = true by simp [c1]), grid_Grid_modes_p101_eq, if_neg ff]
    simp only [asP_s, optK_s]
    rw [l1]
    simp only [optK_s, asI_s]
    rw [l3]
    simp only [optK_s, asSL_k]
    exact go (.inl c1)
  · rw [if_pos (show (!decide (a.rune = 104)) = true by simp [c1])]
    by_cases c2 : a.rune = 108
    · rw [show (!decide (a.rune = 108)) = false by simp [c2], grid_Grid_modes_p101_eq, if_neg ff]
      simp only [asP_s, optK_s]
      rw [l1]
      simp only [optK_s, asI_s]
      rw [l3]
      simp only [optK_s, asSL_k]
      exact go (.inr c2)
    · rw [show (!decide (a.rune = 108)) = true by simp [c2], grid_Grid_modes_p101_eq, if_pos rfl]
      unfold G.modes
      rw [if_neg (by omega)]
      exact ⟨H1, D, rfl, h.new k1, Stp.new k1⟩
end Go.Proofs.YtjmiehbiindjdaaGreatDoor.dec

namespace Go.Proofs.YtjmiehbiindjdaaGreatDoor.dec
open Go Go.Cm

attribute [local congr] optK_congr asI_congr asN_congr asB_congr asS_congr asP_congr asA_congr asSL_congr callK_congr castT_congr chk_congr

def wipeL (l : List Cl) (f t : Nat) : List Cl := l.take f ++ (List.replicate (t - f) blank ++ l.drop t)
def G.wipe (g : G) (i f t : Nat) : G := { g with L := g.L.modify i fun l => wipeL l f t }
theorem wipeL_len {l : List Cl} {f t : Nat} (h : f ≤ t) (h2 : t ≤ l.length) : (wipeL l f t).length = l.length := by
  simp only [wipeL, List.length_append, List.length_take, List.length_replicate, List.length_drop]; omega
theorem WF.modL {g : G} (w : WF g) {i : Nat} {f : List Cl → List Cl} (h : ∀ l, l.length = g.c.cols → (f l).length = g.c.cols) : WF { g with L := g.L.modify i f } := by
  refine w.setL (by simpa using w.Ln) fun l hl => ?_
  obtain ⟨j, hj, e⟩ := List.getElem_of_mem hl
  rw [List.getElem_modify] at e
  split at e
  · rw [← e]; exact h _ (w.Lw _ (List.getElem_mem _))
  · rw [← e]; exact w.Lw _ (List.getElem_mem _)
theorem WF.wipe {g : G} (w : WF g) {i f t : Nat} (h : f ≤ t) (h2 : t ≤ g.c.cols) : WF (g.wipe i f t) := w.modL fun l hl => by rw [wipeL_len h (by omega)]; exact hl

theorem wipe_s (d : Nat) {H : Heap} {D : GD} {g : G} (h : Rep H D g) (w : WF g) {i f t : Nat} (hi : i < g.c.rows) (hf : f ≤ t) (ht : t ≤ g.c.cols) :
    ∃ H' D', X (d + 5) n_grid_Grid_wipe [P0 D.p, .int .i64 (i : Int), .int .i64 (f : Int), .int .i64 (t : Int)] H = some (.tuple #[], H') ∧ Rep H' D' (g.wipe i f t) ∧ Stp H D H' D' := by
  have c2 := w.c2; have r2 := w.r2
  obtain ⟨x, b, hx, hxL, hxn, hca, hcn, hld, hrow, hat⟩ := h.rowat w hi
  rw [grid_Grid_wipe_eq, h.l2]
  simp only [optK_s, asSL_k]
  rw [hca]
  simp only [optK_s]
  have hap : ap ⟨b, 0, none⟩ (((i : Int).toNat) * 1) = ⟨b, i, none⟩ := by simp [ap]
  rw [if_pos (show (0 : Int) ≤ (i : Int) ∧ (i : Int) < (D.cells.n : Int) by omega), hap, hld]
  simp only [optK_s, asSL_k]
  have v := hrow.cv
  rw [v.s_lh hf (by omega)]
  simp only [optK_s, asSL_k]
  have vs := v.sub hf (show t ≤ x.2.length by omega)
  rw [show IntKind.wrap .i64 ((t : Int) - (f : Int)) = ((t - f : Nat) : Int) by rw [w64 (by omega)]; omega]
  obtain ⟨b9, H9, e9, hb9, r9, k9⟩ := line_s d (t - f) (by omega) H
  rw [e9]
  simp only [callK_s, asSL_k]
  have vs9 := vs.keep k9 id
  have hsn : ((x.2.drop f).take (t - f)).length = t - f := by rw [List.length_take, List.length_drop]; omega
  have v9 := r9.cv
  rw [show wsl b9 (List.replicate (t - f) blank).length = wsl b9 (t - f) by rw [List.length_replicate]] at v9
  obtain ⟨H12, e12, v12, k12, n12⟩ := vs9.copy (x := wsl b9 (t - f)) (new := List.replicate (t - f) blank) (by
    rw [hsn, show (wsl b9 (t - f)).n = t - f from rfl, Nat.min_self]
    have := v9.src (n := t - f) (by simp)
    rw [this, List.take_of_length_le (by simp)]) (by rw [hsn, List.length_replicate, show (wsl b9 (t - f)).n = t - f from rfl, Nat.min_self])
  rw [e12]
  simp only [asI_s]
  have h9 := h.new k9
  have ld0 : ∀ {H1 : Heap}, Keep0 H H1 → readD (.load 1 false) [.pointer (some ⟨b, i, none⟩)] H1 = some (wsl x.1 x.2.length).v := fun {H1} k => by
    obtain ⟨x', b', hx', _, _, hca', _, hld', _, _⟩ := (h.new k).rowat w hi
    rw [hx] at hx'; cases hx'
    rw [hca] at hca'; cases hca'
    exact hld'
  rw [show rdsOk [H, H9, H12] [⟨.subSl t_api_Cell 4 true true false, [(wsl x.1 x.2.length).v, .int .i64 (f : Int), .int .i64 (t : Int)], (subS (wsl x.1 x.2.length) f t 4).v, 0, 1⟩, ⟨.load 1 false, [.pointer (some ⟨b, i, none⟩)], (wsl x.1 x.2.length).v, 0, 1⟩, ⟨.load 1 false, [.pointer (some ⟨D.p, 2, none⟩)], D.cells.v, 0, 1⟩] = true from by
    simp only [rdsOk, Bool.and_true]
    rw [show 1 + 1 - 0 = 2 from rfl, rdOk_2, rdOk_2, rdOk_2, rdAt_s rfl (v.s_lh hf (by omega)) (same_sl _ _ _), rdAt_s rfl ((v.keep k9 id).s_lh hf (by omega)) (same_sl _ _ _), rdAt_s rfl (ld0 (Keep.refl H)) (same_sl _ _ _), rdAt_s rfl (ld0 k9) (same_sl _ _ _), rdAt_s rfl (rd1 h.l2) (same_sl _ _ _), rdAt_s rfl (rd1 h9.l2) (same_sl _ _ _)]; rfl]
  simp only [chk_s]
  have r12 := v12.row
  have hre : [] ++ x.2.take f ++ (List.replicate (t - f) blank ++ ((x.2.drop f).take (t - f)).drop (List.replicate (t - f) blank).length ++ (x.2.drop t ++ [])) = wipeL x.2 f t := by
    have hd9 : ((x.2.drop f).take (t - f)).drop (List.replicate (t - f) blank).length = [] := List.drop_eq_nil_of_le (by rw [hsn, List.length_replicate]; exact Nat.le_refl _)
    rw [hd9]
    simp [wipeL]
  rw [hre] at r12
  obtain ⟨h12, s12⟩ := h9.rowput hx k12 r12 (wipeL_len hf (by omega))
  refine ⟨H12, _, rfl, ?_, (Stp.new k9).trans s12⟩
  unfold G.wipe
  rw [modify_at hxL]
  exact h12

def G.eraseLine (g : G) (p : Int) : G :=
  if p = 0 then g.wipe g.c.row g.c.col g.c.cols
  else if p = 1 then g.wipe g.c.row 0 (g.c.col + 1)
  else if p = 2 then g.wipe g.c.row 0 g.c.cols
  else g
theorem WF.eraseLine {g : G} (w : WF g) (p : Int) : WF (g.eraseLine p) := by
  have := w.col
  unfold G.eraseLine
  split; · exact w.wipe (by omega) (Nat.le_refl _)
  split; · exact w.wipe (by omega) (by omega)
  split; · exact w.wipe (by omega) (Nat.le_refl _)
  exact w
theorem eraseLine_s (d : Nat) {H : Heap} {D : GD} {g : G} (h : Rep H D g) (w : WF g) (p : Int) :
    ∃ H' D', X (d + 6) n_grid_Grid_eraseLine [P0 D.p, .int .i64 p] H = some (.tuple #[], H') ∧ Rep H' D' (g.eraseLine p) ∧ Stp H D H' D' := by
  have hc := w.col; have hr := w.row; have c2 := w.c2
  rw [grid_Grid_eraseLine_eq]
  unfold G.eraseLine
  by_cases c0 : p = 0
  · rw [if_pos (show decide (p = 0) = true from decide_eq_true c0), if_pos c0, h.l3, h.l4]
    simp only [optK_s, asI_s]
    rw [h.l1]
    simp only [optK_s, asI_s]
    obtain ⟨H', D', e, h', s'⟩ := wipe_s d h w hr (show g.c.col ≤ g.c.cols by omega) (Nat.le_refl _)
    rw [e]
    exact ⟨H', D', rfl, h', s'⟩
  rw [if_neg (show ¬ decide (p = 0) = true from dneg c0), if_neg c0]
  by_cases c1 : p = 1
  · rw [if_pos (show decide (p = 1) = true from decide_eq_true c1), if_pos c1, h.l3, h.l4]
    simp only [optK_s, asI_s]
    obtain ⟨H', D', e, h', s'⟩ := wipe_s d h w hr (f := 0) (t := g.c.col + 1) (by omega) (by omega)
    rw [wi (by omega), show (0 : Int) = ((0 : Nat) : Int) from rfl, e]
    exact ⟨H', D', rfl, h', s'⟩
  rw [if_neg (show ¬ decide (p = 1) = true from dneg c1), if_neg c1]
  by_cases c2 : p = 2
  · rw [if_pos (show decide (p = 2) = true from decide_eq_true c2), if_pos c2, h.l3]
    simp only [optK_s, asI_s]
    rw [h.l1]
    simp only [optK_s, asI_s]
    obtain ⟨H', D', e, h', s'⟩ := wipe_s d h w hr (f := 0) (t := g.c.cols) (by omega) (Nat.le_refl _)
    rw [show (0 : Int) = ((0 : Nat) : Int) from rfl, e]
    exact ⟨H', D', rfl, h', s'⟩
  rw [if_neg (show ¬ decide (p = 2) = true from dneg c2), if_neg c2]
  exact ⟨H, D, rfl, h, Stp.refl _ _⟩

/-- is row i erased too? -/
def gone (p : Int) (row i : Nat) : Prop := p = 2 ∨ (p = 0 ∧ row < i) ∨ (p = 1 ∧ i < row)
instance (p : Int) (row i : Nat) : Decidable (gone p row i) := by unfold gone; infer_instance
def G.wipeIf (p : Int) (row : Nat) (g : G) (i : Nat) : G := if gone p row i then g.wipe i 0 g.c.cols else g
def G.erase (g : G) (p : Int) : G :=
  if p < 0 ∨ 2 < p then (if p = 3 then { g with past := [] } else g)
  else (List.range g.c.rows).foldl (G.wipeIf p g.c.row) (g.eraseLine p)
theorem wipeIf_c (p : Int) (row : Nat) (g : G) (i : Nat) : (g.wipeIf p row i).c = g.c := by unfold G.wipeIf; split <;> rfl
theorem wipeIfs_c (p : Int) (row : Nat) : ∀ (l : List Nat) (g : G), (l.foldl (G.wipeIf p row) g).c = g.c := fun l => by
  induction l with
  | nil => intro g; rfl
  | cons a l ih => intro g; exact (ih _).trans (wipeIf_c _ _ _ _)
theorem eraseLine_c (g : G) (p : Int) : (g.eraseLine p).c = g.c := by
  unfold G.eraseLine
  split; · rfl
  split; · rfl
  split; · rfl
  rfl
theorem WF.nopast {g : G} (w : WF g) : WF { g with past := [] } := by
  obtain ⟨h1, h2, h3, h4, h5, h6, h7, h8, h9, h10, h11, h12, h13, h14, h15, h16, h17, h18, h19⟩ := w
  exact ⟨h1, h2, h3, h4, h5, h6, h7, h8, h9, h10, h11, h12, h13, h14, h15, h16, h17, by simp, fun l hl => by cases hl⟩
theorem WF.wipeIf {g : G} (w : WF g) (p : Int) (row i : Nat) : WF (g.wipeIf p row i) := by
  unfold G.wipeIf
  split
  · exact w.wipe (Nat.zero_le _) (Nat.le_refl _)
  · exact w
theorem WF.erase {g : G} (w : WF g) (p : Int) : WF (g.erase p) := by
  unfold G.erase
  split
  · split
    · exact w.nopast
    · exact w
  · exact WF.foldl (fun g i w => w.wipeIf p _ i) _ (w.eraseLine p)
theorem Rep.nopast {H : Heap} {D : GD} {g : G} (h : Rep H D g) : ∃ H', Heap.st1 H ⟨D.p, 31, none⟩ (.slice none 0 0) = some H' ∧ Rep H' { D with past := Sl.nil, pq := [] } { g with past := [] } ∧ Stp H D H' { D with past := Sl.nil, pq := [] } := by
  obtain ⟨H1, e1, g1, k1, n1⟩ := raw1 (i := 31) (v := .slice none 0 0) (c' := g.c) (D' := { D with past := Sl.nil, pq := [] }) h.get (by omega) rfl
  have hS : ∀ k, (fun k => k = D.p) k → D.cmp 0 k := fun k e => e
  have cs : ∀ i k, ({ D with past := Sl.nil, pq := [] } : GD).cmp i k → D.cmp i k := fun i k e => by
    rcases cmp_past e with ⟨_, e⟩ | ⟨_, e⟩ | e
    · exact absurd e Sl.at_nil
    · exact absurd e bl_nil
    · exact e
  exact ⟨H1, e1, ⟨g1, by have := h.lt; show D.p < _; omega, h.o1 k1 hS (by decide), h.o2 k1 hS (by decide), h.cL, h.o3 k1 hS (by decide), h.o4 k1 hS (by decide), h.o5 k1 hS (by decide), .inl ⟨rfl, rfl⟩, ⟨(fun x hx => nomatch hx), List.nodup_nil⟩, rfl, fun i j k a b => h.sep i j k (cs i k a) (cs j k b)⟩,
    ⟨rfl, rfl, k1.mono fun k _ e => ⟨0, e⟩, fun k ⟨i, e⟩ => .inl ⟨i, cs i k e⟩⟩⟩
theorem erase_loop (d : Nat) {p : Int} {rows row : Nat} (hr : rows ≤ 60) (_hrow : row < rows) : ∀ (r : List Nat) (m i : Nat) {H : Heap} {D : GD} {g : G}, r.length < m → (List.range rows).drop i = r → i + r.length = rows → g.c.rows = rows → g.c.row = row → Rep H D g → WF g →
    ∃ H' D', grid_Grid_erase_p101110 (d + 5) m D.p p (rows : Int) (i : Int) H = some (.tuple #[], H') ∧ Rep H' D' (r.foldl (G.wipeIf p row) g) ∧ Stp H D H' D' := fun r => by
  induction r with
  | nil =>
    intro m i H D g hm _ hi _ _ h w
    obtain ⟨m, rfl⟩ : ∃ m', m = m' + 1 := ⟨m - 1, by simp at hm; omega⟩
    simp only [List.length_nil] at hi
    rw [grid_Grid_erase_p101110_s, if_neg (show ¬ decide ((i : Int) < (rows : Int)) = true from dneg (by omega))]
    exact ⟨H, D, rfl, h, Stp.refl _ _⟩
  | cons a r ih =>
    intro m i H D g hm hd hi e1 e2 h w
    simp only [List.length_cons] at hm hi
    obtain ⟨m, rfl⟩ : ∃ m', m = m' + 1 := ⟨m - 1, by omega⟩
    have hc : (List.range rows)[i]? = some a := by have := congrArg (fun x => x[0]?) hd; simpa using this
    rw [List.getElem?_range (by omega)] at hc
    obtain rfl : i = a := Option.some.inj hc
    have hdr : (List.range rows).drop (i + 1) = r := by rw [← List.drop_drop, hd]; rfl
    have next : ∀ b : Bool, b = decide (gone p row i) → ∃ H' D', grid_Grid_erase_p1011100110011 (d + 5) m D.p p (i : Int) (rows : Int) (i : Int) b H = some (.tuple #[], H') ∧ Rep H' D' ((i :: r).foldl (G.wipeIf p row) g) ∧ Stp H D H' D' := fun b hb => by
      rw [grid_Grid_erase_p1011100110011_eq]
      have fin : ∀ {H1 : Heap} {D1 : GD}, Rep H1 D1 (g.wipeIf p row i) → Stp H D H1 D1 → ∃ H' D', grid_Grid_erase_p1011100111 (d + 5) m D.p p (rows : Int) (i : Int) H1 = some (.tuple #[], H') ∧ Rep H' D' ((i :: r).foldl (G.wipeIf p row) g) ∧ Stp H D H' D' := fun {H1 D1} h1 s1 => by
        rw [grid_Grid_erase_p1011100111_eq, wi (by omega)]
        obtain ⟨H', D', e', h', s'⟩ := ih m (i + 1) (by omega) hdr (by omega) (by rw [wipeIf_c]; exact e1) (by rw [wipeIf_c]; exact e2) h1 (w.wipeIf p row i)
        rw [s1.p] at e'
        exact ⟨H', D', e', h', s1.trans s'⟩
      by_cases hg : gone p row i
      · rw [if_pos (show b = true by rw [hb]; exact decide_eq_true hg), h.l1]
        simp only [optK_s, asI_s]
        obtain ⟨H1, D1, f1, h1, s1⟩ := wipe_s d h w (i := i) (f := 0) (t := g.c.cols) (by omega) (by omega) (Nat.le_refl _)
        rw [show (.int .i64 0 : Value) = .int .i64 ((0 : Nat) : Int) from rfl, f1]
        simp only [callK_s]
        refine fin ?_ s1
        unfold G.wipeIf
        rw [if_pos hg]; exact h1
      · rw [if_neg (show ¬ b = true by rw [hb]; exact dneg hg)]
        refine fin ?_ (Stp.refl _ _)
        unfold G.wipeIf
        rw [if_neg hg]; exact h
    rw [grid_Grid_erase_p101110_s, if_pos (show decide ((i : Int) < (rows : Int)) = true from decide_eq_true (by omega))]
    have l3 : Heap.ld1 H ⟨D.p, 3, none⟩ = some (.int .i64 (row : Int)) := by rw [← e2]; exact h.l3
    by_cases c2 : p = 2
    · rw [if_pos (show decide (p = 2) = true from decide_eq_true c2)]
      exact next true (by rw [decide_eq_true (show gone p row i from .inl c2)])
    rw [if_neg (show ¬ decide (p = 2) = true from dneg c2)]
    by_cases c0 : p = 0
    · rw [if_pos (show decide (p = 0) = true from decide_eq_true c0), l3]
      simp only [optK_s, asI_s]
      by_cases c3 : row < i
      · rw [if_pos (show decide ((row : Int) < (i : Int)) = true from decide_eq_true (by omega))]
        exact next true (by rw [decide_eq_true (show gone p row i from .inr (.inl ⟨c0, c3⟩))])
      · rw [if_neg (show ¬ decide ((row : Int) < (i : Int)) = true from dneg (by omega)), if_neg (show ¬ decide (p = 1) = true from dneg (by omega))]
        exact next false (by rw [decide_eq_false (show ¬ gone p row i by unfold gone; omega)])
    rw [if_neg (show ¬ decide (p = 0) = true from dneg c0)]
    by_cases c1 : p = 1
    · rw [if_pos (show decide (p = 1) = true from decide_eq_true c1), l3]
      simp only [optK_s, asI_s]
      exact next _ (decide_eq_decide.2 (by unfold gone; omega))
    · rw [if_neg (show ¬ decide (p = 1) = true from dneg c1)]
      exact next false (by rw [decide_eq_false (show ¬ gone p row i by unfold gone; omega)])
theorem erase_s (d : Nat) {H : Heap} {D : GD} {g : G} (h : Rep H D g) (w : WF g) (p : Int) :
    ∃ H' D', X (d + 7) n_grid_Grid_erase [P0 D.p, .int .i64 p] H = some (.tuple #[], H') ∧ Rep H' D' (g.erase p) ∧ Stp H D H' D' := by
  have r2 := w.r2
  have out : ∀ {H1 : Heap}, (p < 0 ∨ 2 < p) → grid_Grid_erase_p1 (d + 6) D.p p H1 = some (.tuple #[], H1) := fun {H1} hp => by
    rw [grid_Grid_erase_p1_eq]
    by_cases c0 : p < 0
    · rw [if_pos (show decide (p < 0) = true from decide_eq_true c0), grid_Grid_erase_p1001_eq, if_pos rfl]
    · rw [if_neg (show ¬ decide (p < 0) = true from dneg c0), grid_Grid_erase_p1001_eq, if_pos (show decide ((2 : Int) < p) = true from decide_eq_true (by omega))]
  rw [grid_Grid_erase_eq]
  unfold G.erase
  by_cases c3 : p = 3
  · rw [if_pos (show decide (p = 3) = true from decide_eq_true c3), if_pos (show p < 0 ∨ 2 < p by omega), if_pos c3]
    obtain ⟨H1, e1, h1, s1⟩ := h.nopast
    rw [e1]
    simp only [optK_s]
    exact ⟨H1, _, out (by omega), h1, s1⟩
  rw [if_neg (show ¬ decide (p = 3) = true from dneg c3)]
  by_cases cp : p < 0 ∨ 2 < p
  · rw [if_pos cp, if_neg c3]
    exact ⟨H, D, out cp, h, Stp.refl _ _⟩
  rw [if_neg cp, grid_Grid_erase_p1_eq, if_neg (show ¬ decide (p < 0) = true from dneg (by omega)), grid_Grid_erase_p1001_eq, if_neg (show ¬ decide ((2 : Int) < p) = true from dneg (by omega))]
  obtain ⟨H1, D1, e1, h1, s1⟩ := eraseLine_s d h w p
  rw [e1]
  simp only [callK_s]
  rw [← s1.p, h1.l0]
  simp only [optK_s, asI_s]
  have hc := eraseLine_c g p
  obtain ⟨H', D', e', h', s'⟩ := erase_loop (d + 1) (p := p) (rows := g.c.rows) (row := g.c.row) w.r2 w.row (List.range g.c.rows) NN 0 (NN_big _ (by simp; omega)) rfl (by simp) (by rw [hc]) (by rw [hc]) h1 (w.eraseLine p)
  rw [hc, show (0 : Int) = ((0 : Nat) : Int) from rfl, e']
  exact ⟨H', D', rfl, h', s1.trans s'⟩
end Go.Proofs.YtjmiehbiindjdaaGreatDoor.dec

namespace Go.Proofs.YtjmiehbiindjdaaGreatDoor.dec
open Go Go.Cm

attribute [local congr] optK_congr asI_congr asN_congr asB_congr asS_congr asP_congr asA_congr asSL_congr callK_congr castT_congr chk_congr

def cutL (l : List Cl) (col : Nat) (what : Int) (n : Nat) : List Cl :=
  l.take col ++ (if what = 64 then List.replicate (min n (l.length - col)) blank ++ (l.drop col).take (l.length - col - min n (l.length - col))
    else if what = 80 then (l.drop col).drop (min n (l.length - col)) ++ List.replicate (min n (l.length - col)) blank
    else List.replicate (min n (l.length - col)) blank ++ (l.drop col).drop (min n (l.length - col)))
theorem cutL_len {l : List Cl} {col : Nat} (what : Int) (n : Nat) (h : col ≤ l.length) : (cutL l col what n).length = l.length := by
  unfold cutL
  split
  · simp only [List.length_append, List.length_take, List.length_replicate, List.length_drop]; omega
  split
  · simp only [List.length_append, List.length_take, List.length_replicate, List.length_drop]; omega
  · simp only [List.length_append, List.length_take, List.length_replicate, List.length_drop]; omega
def G.cut (g : G) (what : Int) (n : Nat) : G := { g with L := g.L.modify g.c.row fun l => cutL l g.c.col what n }
theorem WF.cut {g : G} (w : WF g) (what : Int) (n : Nat) : WF (g.cut what n) := w.modL fun l hl => by have := w.col; rw [cutL_len _ _ (by omega)]; exact hl

theorem cut_s (d : Nat) {H : Heap} {D : GD} {g : G} (h : Rep H D g) (w : WF g) (what : Int) (n : Nat) :
    ∃ H' D', X (d + 5) n_grid_Grid_cut [P0 D.p, .int .i32 what, .int .i64 (n : Int)] H = some (.tuple #[], H') ∧ Rep H' D' (g.cut what n) ∧ Stp H D H' D' := by
  have hr := w.row; have hc := w.col; have c2 := w.c2
  obtain ⟨x, b, hx, hxL, hxn, hca, hcn, hld, hrow, hat⟩ := h.rowat w hr
  rw [grid_Grid_cut_eq, h.l2]
  simp only [optK_s, asSL_k]
  rw [h.l3]
  simp only [optK_s, asI_s]
  rw [hca]
  simp only [optK_s]
  have hap : ap ⟨b, 0, none⟩ (((g.c.row : Int).toNat) * 1) = ⟨b, g.c.row, none⟩ := by simp [ap]
  rw [if_pos (show (0 : Int) ≤ (g.c.row : Int) ∧ (g.c.row : Int) < (D.cells.n : Int) by omega), hap, hld]
  simp only [optK_s, asSL_k]
  rw [h.l4]
  simp only [optK_s, asI_s]
  have v := hrow.cv
  rw [v.s_l (show g.c.col ≤ x.2.length by omega)]
  simp only [optK_s, asSL_k]
  have vs := v.sub (l := g.c.col) (k := x.2.length) (by omega) (Nat.le_refl _)
  have hT : (x.2.drop g.c.col).take (x.2.length - g.c.col) = x.2.drop g.c.col := List.take_of_length_le (by simp)
  rw [hT, List.drop_length, List.append_nil, List.nil_append] at vs
  have hTl : (x.2.drop g.c.col).length = x.2.length - g.c.col := by simp
  have hsn : (subS (wsl x.1 x.2.length) g.c.col x.2.length 4).n = x.2.length - g.c.col := rfl
  generalize hseg : subS (wsl x.1 x.2.length) g.c.col x.2.length 4 = seg at *
  have hm : (if (seg.n : Int) < (n : Int) then (seg.n : Int) else (n : Int)) = ((min n (x.2.length - g.c.col) : Nat) : Int) := by
    rw [hsn]; split <;> omega
  rw [hm]
  generalize hmm : min n (x.2.length - g.c.col) = m at *
  have hmle : m ≤ x.2.length - g.c.col := by rw [← hmm]; exact Nat.min_le_right _ _
  -- the end: the row's rest is new
  have fin : ∀ {H1 H2 : Heap} {z : Sl} {new : List Cl}, Keep0 H H1 → srcCells H1 4 z.n z.v = some (flat new) → z.n = x.2.length - g.c.col → new.length = x.2.length - g.c.col → new = (if what = 64 then List.replicate m blank ++ (x.2.drop g.c.col).take (x.2.length - g.c.col - m) else if what = 80 then (x.2.drop g.c.col).drop m ++ List.replicate m blank else List.replicate m blank ++ (x.2.drop g.c.col).drop m) →
      (∀ K, effK (.copy 4 false) [seg.v, z.v] H1 K = K (.int .i64 (new.length : Int)) H2) → CV H2 seg x.1 (x.2.take g.c.col) (new ++ (x.2.drop g.c.col).drop new.length) [] → Keep (fun k => k = x.1) H1 H2 → ∃ D', Rep H2 D' (g.cut what n) ∧ Stp H D H2 D' := fun {H1 H2 z new} k1 _ _ hl e _ v2 k2 => by
    have r2 := v2.row
    have hre : x.2.take g.c.col ++ (new ++ (x.2.drop g.c.col).drop new.length ++ []) = cutL x.2 g.c.col what n := by
      rw [List.drop_eq_nil_of_le (by rw [hTl, hl]; exact Nat.le_refl _), List.append_nil, List.append_nil, e]
      unfold cutL
      rw [hmm]
    rw [hre] at r2
    obtain ⟨h2, s2⟩ := (h.new k1).rowput hx k2 r2 (cutL_len _ _ (by omega))
    refine ⟨_, ?_, (Stp.new k1).trans s2⟩
    unfold G.cut
    rw [modify_at hxL]
    exact h2
  by_cases c1 : what = 64
  · rw [if_pos (show decide (what = 64) = true from decide_eq_true c1)]
    obtain ⟨b2, H2, e2, hb2, r2, k2⟩ := line_s d m (by omega) H
    rw [e2]
    simp only [callK_s, asSL_k]
    have hsub : IntKind.wrap .i64 ((seg.n : Int) - ((m : Nat) : Int)) = ((seg.n - m : Nat) : Int) := by rw [w64 (by omega)]; omega
    have vs2 := vs.keep k2 id
    rw [hsub, hsn, vs2.s_h (by rw [hTl]; omega)]
    simp only [optK_s, asSL_k]
    have v3 := vs2.sub (l := 0) (k := x.2.length - g.c.col - m) (by omega) (by rw [hTl]; omega)
    rw [List.drop_zero, Nat.sub_zero] at v3
    have hpl : ((x.2.drop g.c.col).take (x.2.length - g.c.col - m)).length = x.2.length - g.c.col - m := by rw [List.length_take, hTl]; omega
    have w2 : Whole H2 (wsl b2 m) (flat (List.replicate m blank)) t_api_Cell 4 := by
      have := r2; unfold Row at this; rw [List.length_replicate] at this; exact this
    have hpn : (subS seg 0 (x.2.length - g.c.col - m) 4).n = x.2.length - g.c.col - m := rfl
    obtain ⟨z, H3, e3, w3, k3, f3, n3, _⟩ := append_whole (bytes := 32) (str := false) (x := (subS seg 0 (x.2.length - g.c.col - m) 4).v) (n := x.2.length - g.c.col - m) (new := flat ((x.2.drop g.c.col).take (x.2.length - g.c.col - m))) w2 rfl
      (by have := v3.src (n := x.2.length - g.c.col - m) (by omega); rw [this, List.take_of_length_le (by omega)]) (by rw [flat_ln, hpl]) (by show (m + (x.2.length - g.c.col - m)) * 32 ≤ _; omega) (by omega) (by omega)
    rw [e3]
    simp only [asSL_k]
    have k03 : Keep0 H H3 := k2.fresh k3 fun k e => by obtain ⟨a, ha, e⟩ := e; cases ha; subst e; exact hb2
    have hzn : z.n = x.2.length - g.c.col := by rw [n3]; show m + (x.2.length - g.c.col - m) = _; omega
    have hsrc := Whole.src w3
    rw [← List.flatMap_append] at hsrc
    have hnl : (List.replicate m blank ++ (x.2.drop g.c.col).take (x.2.length - g.c.col - m)).length = x.2.length - g.c.col := by rw [List.length_append, List.length_replicate, hpl]; omega
    obtain ⟨H4, e4, v4, k4, n4⟩ := (vs.keep k03 id).copy (x := z) (new := List.replicate m blank ++ (x.2.drop g.c.col).take (x.2.length - g.c.col - m)) (by rw [hTl, hzn, Nat.min_self]; rw [hzn] at hsrc; exact hsrc) (by rw [hnl, hTl, hzn, Nat.min_self])
    obtain ⟨D', q1, q2⟩ := fin k03 hsrc hzn hnl (by rw [if_pos c1]) e4 v4 k4
    rw [e4]
    simp only [asI_s]
    rw [show rdsOk [H, H2, H3, H4] [⟨.subSl t_api_Cell 4 false true false, [seg.v, .int .i64 ((x.2.length - g.c.col - m : Nat) : Int)], (subS seg 0 (x.2.length - g.c.col - m) 4).v, 0, 1⟩] = true from by
      simp only [rdsOk, Bool.and_true]
      rw [show 1 + 1 - 0 = 2 from rfl, rdOk_2, rdAt_s rfl (vs.s_h (by rw [hTl]; omega)) (same_sl _ _ _), rdAt_s rfl (vs2.s_h (by rw [hTl]; omega)) (same_sl _ _ _)]; rfl]
    exact ⟨H4, D', rfl, q1, q2⟩
  rw [if_neg (show ¬ decide (what = 64) = true from dneg c1)]
  by_cases c2 : what = 80
  · rw [if_pos (show decide (what = 80) = true from decide_eq_true c2), vs.s_l (by rw [hTl]; exact hmle)]
    simp only [optK_s, asSL_k]
    have v1 := vs.sub (l := m) (k := (x.2.drop g.c.col).length) (by rw [hTl]; exact hmle) (Nat.le_refl _)
    have hpt : ((x.2.drop g.c.col).drop m).take ((x.2.drop g.c.col).length - m) = (x.2.drop g.c.col).drop m := List.take_of_length_le (by rw [List.length_drop]; exact Nat.le_refl _)
    rw [hpt] at v1
    have hpl : ((x.2.drop g.c.col).drop m).length = x.2.length - g.c.col - m := by rw [List.length_drop, hTl]
    obtain ⟨y, H2, e2, w2, f2, yn, k2⟩ := Clone_s (d + 3) v1 (by rw [hpl]; omega)
    rw [e2]
    simp only [callK_s, asSL_k]
    obtain ⟨b3, H3, e3, hb3, r3, k3⟩ := line_s d m (by omega) H2
    rw [e3]
    simp only [callK_s, asSL_k]
    have w3 : Whole H3 (wsl b3 m) (flat (List.replicate m blank)) t_api_Cell 4 := by
      have := r3; unfold Row at this; rw [List.length_replicate] at this; exact this
    obtain ⟨z, H5, e5, w5, k5, f5, n5, _⟩ := append_whole (bytes := 32) (str := false) (x := (wsl b3 m).v) (n := m) (new := flat (List.replicate m blank)) (Whole.keep w2 k3 fun _ _ e => e) rfl (Whole.src w3) (by rw [flat_ln, List.length_replicate]) (by rw [yn, hpl]; omega) (by omega) (by omega)
    rw [e5]
    simp only [asSL_k]
    have k05 : Keep0 H H5 := (k2.trans k3).fresh k5 fun k e => f2 k e
    have hzn : z.n = x.2.length - g.c.col := by rw [n5, yn, hpl]; omega
    have hsrc := Whole.src w5
    rw [← List.flatMap_append] at hsrc
    have hnl : ((x.2.drop g.c.col).drop m ++ List.replicate m blank).length = x.2.length - g.c.col := by rw [List.length_append, List.length_replicate, hpl]; omega
    obtain ⟨H4, e4, v4, k4, n4⟩ := (vs.keep k05 id).copy (x := z) (new := (x.2.drop g.c.col).drop m ++ List.replicate m blank) (by rw [hTl, hzn, Nat.min_self]; rw [hzn] at hsrc; exact hsrc) (by rw [hnl, hTl, hzn, Nat.min_self])
    obtain ⟨D', q1, q2⟩ := fin k05 hsrc hzn hnl (by rw [if_neg c1, if_pos c2]) e4 v4 k4
    rw [e4]
    simp only [asI_s]
    exact ⟨H4, D', rfl, q1, q2⟩
  rw [if_neg (show ¬ decide (what = 80) = true from dneg c2)]
  obtain ⟨b3, H3, e3, hb3, r3, k3⟩ := line_s d m (by omega) H
  rw [e3]
  simp only [callK_s, asSL_k]
  have w3 : Whole H3 (wsl b3 m) (flat (List.replicate m blank)) t_api_Cell 4 := by
    have := r3; unfold Row at this; rw [List.length_replicate] at this; exact this
  have vs3 := vs.keep k3 id
  obtain ⟨H4, e4, v4, k4, n4⟩ := vs3.copy (x := wsl b3 m) (new := List.replicate m blank) (by rw [hTl, show (wsl b3 m).n = m from rfl, Nat.min_eq_left hmle]; exact Whole.src w3) (by rw [hTl, List.length_replicate, show (wsl b3 m).n = m from rfl, Nat.min_eq_left hmle])
  rw [e4]
  simp only [asI_s]
  have r4 := v4.row
  have hre : x.2.take g.c.col ++ (List.replicate m blank ++ (x.2.drop g.c.col).drop (List.replicate m blank).length ++ []) = cutL x.2 g.c.col what n := by
    unfold cutL
    rw [if_neg c1, if_neg c2, hmm, List.length_replicate, List.append_nil]
  rw [hre] at r4
  obtain ⟨h4, s4⟩ := (h.new k3).rowput hx k4 r4 (cutL_len _ _ (by omega))
  refine ⟨H4, _, rfl, ?_, (Stp.new k3).trans s4⟩
  unfold G.cut
  rw [modify_at hxL]
  exact h4
end Go.Proofs.YtjmiehbiindjdaaGreatDoor.dec

namespace Go.Proofs.YtjmiehbiindjdaaGreatDoor.dec
open Go Go.Cm

/-- what stands at a place of a shifted row -/
def shiftC (l : List Cl) (col : Nat) (n : Int) (j : Nat) : Cl := if ((col + j : Nat) : Int) - n < (col : Int) ∨ (l.length : Int) ≤ ((col + j : Nat) : Int) - n then blank else l.getD (((col + j : Nat) : Int) - n).toNat blank
def shiftL (l : List Cl) (col : Nat) (n : Int) : List Cl := l.take col ++ (List.range (l.length - col)).map (shiftC l col n)
theorem shift_at {l : List Cl} {col : Nat} (n : Int) (h : col ≤ l.length) (i : Nat) : (shiftL l col n)[i]? = if i < col then l[i]? else if i < l.length then some (shiftC l col n (i - col)) else none := by
  unfold shiftL
  have a1 : (l.take col).length = col := by rw [List.length_take]; omega
  by_cases c1 : i < col
  · rw [List.getElem?_append_left (by omega), List.getElem?_take_of_lt c1, if_pos c1]
  rw [List.getElem?_append_right (by omega), a1, if_neg c1, List.getElem?_map]
  by_cases c2 : i < l.length
  · rw [List.getElem?_range (by omega), if_pos c2]; rfl
  · rw [List.getElem?_eq_none (by rw [List.length_range]; omega), if_neg c2]; rfl
theorem shiftC_in {l : List Cl} {col j k : Nat} {n : Int} (e : ((col + j : Nat) : Int) - n = (k : Int)) (h : col ≤ k) (h2 : k < l.length) : some (shiftC l col n j) = l[k]? := by
  unfold shiftC
  rw [if_neg (by omega), e, Int.toNat_natCast, List.getD_eq_getElem?_getD, List.getElem?_eq_getElem h2]; rfl
theorem shiftC_out {l : List Cl} {col j : Nat} {n : Int} (h : ((col + j : Nat) : Int) - n < (col : Int) ∨ (l.length : Int) ≤ ((col + j : Nat) : Int) - n) : shiftC l col n j = blank := by
  unfold shiftC
  rw [if_pos h]
theorem shift_put {l : List Cl} {col n : Nat} (h : col ≤ l.length) : shiftL l col (n : Int) = cutL l col 64 n := by
  apply List.ext_getElem?
  intro i
  have a1 : (l.take col).length = col := by rw [List.length_take]; omega
  rw [shift_at _ h, cutL, if_pos (show (64 : Int) = 64 from rfl)]
  by_cases c1 : i < col
  · rw [if_pos c1, List.getElem?_append_left (by omega), List.getElem?_take_of_lt c1]
  rw [if_neg c1, List.getElem?_append_right (by omega), a1]
  by_cases c2 : i < l.length
  · rw [if_pos c2]
    by_cases c3 : i - col < min n (l.length - col)
    · rw [shiftC_out (by omega), List.getElem?_append_left (by rw [List.length_replicate]; omega), List.getElem?_replicate, if_pos (by omega)]
    · rw [List.getElem?_append_right (by rw [List.length_replicate]; omega), List.length_replicate, List.getElem?_take_of_lt (by omega), List.getElem?_drop, shiftC_in (k := i - n) (by omega) (by omega) (by omega)]
      congr 1; omega
  · rw [if_neg c2, List.getElem?_eq_none]
    rw [List.length_append, List.length_replicate, List.length_take, List.length_drop]; omega
theorem shift_take {l : List Cl} {col n : Nat} (h : col ≤ l.length) : shiftL l col (-(n : Int)) = cutL l col 80 n := by
  apply List.ext_getElem?
  intro i
  have a1 : (l.take col).length = col := by rw [List.length_take]; omega
  rw [shift_at _ h, cutL, if_neg (show ¬ ((80 : Int) = 64) by decide), if_pos (show (80 : Int) = 80 from rfl)]
  by_cases c1 : i < col
  · rw [if_pos c1, List.getElem?_append_left (by omega), List.getElem?_take_of_lt c1]
  rw [if_neg c1, List.getElem?_append_right (by omega), a1]
  have a2 : ((l.drop col).drop (min n (l.length - col))).length = l.length - col - min n (l.length - col) := by rw [List.length_drop, List.length_drop]
  by_cases c2 : i < l.length
  · rw [if_pos c2]
    by_cases c3 : i + n < l.length
    · rw [List.getElem?_append_left (by omega), List.getElem?_drop, List.getElem?_drop, shiftC_in (k := i + n) (by omega) (by omega) (by omega)]
      congr 1; omega
    · rw [List.getElem?_append_right (by omega), a2, List.getElem?_replicate, if_pos (by omega), shiftC_out (by omega)]
  · rw [if_neg c2, List.getElem?_eq_none]
    rw [List.length_append, List.length_replicate, a2]; omega
theorem shift_ins {l : List Cl} {col : Nat} (c : Cl) (h : col < l.length) : (shiftL l col 1).set col c = (insRow l col).set col c := by
  apply List.ext_getElem?
  intro i
  have e1 : (shiftL l col 1).length = l.length := by unfold shiftL; rw [List.length_append, List.length_take, List.length_map, List.length_range]; omega
  have e2 : (insRow l col).length = l.length := by unfold insRow; rw [List.length_append, List.length_take, List.length_take, List.length_drop]; omega
  rw [List.getElem?_set, List.getElem?_set, e1, e2]
  by_cases c0 : col = i
  · rw [if_pos c0, if_pos c0]
  rw [if_neg c0, if_neg c0, shift_at _ (by omega), insRow]
  have a1 : (l.take (col + 1)).length = col + 1 := by rw [List.length_take]; omega
  by_cases c1 : i < col
  · rw [if_pos c1, List.getElem?_append_left (by omega), List.getElem?_take_of_lt (by omega)]
  rw [if_neg c1, List.getElem?_append_right (by omega), a1]
  by_cases c2 : i < l.length
  · rw [if_pos c2, List.getElem?_take_of_lt (by omega), List.getElem?_drop, shiftC_in (k := i - 1) (by omega) (by omega) (by omega)]
    congr 1; omega
  · rw [if_neg c2, List.getElem?_eq_none]
    rw [List.length_take, List.length_drop]; omega
end Go.Proofs.YtjmiehbiindjdaaGreatDoor.dec

namespace Go.Proofs.YtjmiehbiindjdaaGreatDoor.dec
open Go Go.Cm

attribute [local congr] optK_congr asI_congr asN_congr asB_congr asS_congr asP_congr asA_congr asSL_congr callK_congr castT_congr chk_congr

def enc (r : Int) : W := lst (Utf8.encode r)
def rr (l : List Cl) : List Int := l.map Cl.r
theorem Row.lda {H : Heap} {b : Nat} {L : List Cl} (h : Row H b L) {i : Nat} {c : Cl} (hc : L[i]? = some c) : ldA H ⟨b, i * 4, none⟩ 4 = some (.agg ⟨cellV c⟩) := by
  obtain ⟨_, _, _, _, o, st, g0⟩ := h.vw
  have hi := (List.getElem?_eq_some_iff.1 hc).1
  unfold ldA
  rw [List.nil_append, List.append_nil] at g0
  rw [ldN_s g0 (by rw [flat_ln]; omega), fm_at cellV 4 cellV_len hc]
theorem Past_s (d : Nat) {H : Heap} {D : GD} {g : G} (h : Rep H D g) (w : WF g) : ∃ y p H', X (d + 3) n_grid_Grid_Past [P0 D.p] H = some (Sl.v y, H') ∧ Outer H' y p ∧ Rows H' p ∧ p.map Prod.snd = g.past ∧ (∀ k, y.at k → H.next ≤ k) ∧ (∀ k, bl p k → H.next ≤ k) ∧ (∀ k, y.at k → ¬ bl p k) ∧ Keep0 H H' := by
  rw [grid_Grid_Past_eq, h.l31]
  simp only [optK_s, asSL_k]
  have hpl : D.pq.length = g.past.length := by rw [← h.pL, List.length_map]
  have hpn := w.pn
  have hpw : ∀ x ∈ D.pq, x.2 ≠ [] ∧ x.2.length ≤ 1000 := fun x hx => by
    have := w.pw x.2 (by rw [← h.pL]; exact List.mem_map_of_mem hx)
    exact ⟨this.1, by omega⟩
  have key : ∃ y p H', X (d + 2) n_grid_copied [D.past.v] H = some (Sl.v y, H') ∧ Outer H' y p ∧ Rows H' p ∧ p.map Prod.snd = D.pq.map Prod.snd ∧ (∀ k, y.at k → H.next ≤ k) ∧ (∀ k, bl p k → H.next ≤ k) ∧ (∀ k, y.at k → ¬ bl p k) ∧ Keep0 H H' := by
    rcases h.po with hn | ⟨b, A, v, _⟩
    · exact copied_s d (b := 0) (A := []) (Z := []) (.inr hn) h.pr hpw (by omega)
    · exact copied_s d (.inl v) h.pr hpw (by omega)
  obtain ⟨y, p, H', e, a1, a2, a3, a4, a5, a6, a7⟩ := key
  rw [e]
  simp only [callK_s, asSL_k]
  exact ⟨y, p, H', rfl, a1, a2, a3.trans h.pL, a4, a5, a6, a7⟩

/-! ### the reference's text of a row -/
end Go.Proofs.YtjmiehbiindjdaaGreatDoor.dec

namespace Go.Proofs.YtjmiehbiindjdaaGreatDoor.dec
open Go Go.Cm

attribute [local congr] optK_congr asI_congr asN_congr asB_congr asS_congr asP_congr asA_congr asSL_congr callK_congr castT_congr chk_congr

/-- a part of a row is appended to a new, empty slice -/
theorem clone_part {H : Heap} {s : Sl} {b : Nat} {A cs Z : List Cl} (v : CV H s b A cs Z) (hl : cs.length ≤ 100000) : ∃ y H', (∀ K : Value → Heap → Res, appendK t_api_Cell 4 32 false (.slice (some ⟨H.next, 0, none⟩) 0 0) s.v (H.new (.cells [] t_api_Cell false 0 false)) K = K y.v H') ∧ Whole H' y (flat cs) t_api_Cell 4 ∧ (∀ k, y.at k → H.next ≤ k) ∧ y.n = cs.length ∧ Keep0 H H' := by
  have hn := v.n
  have k1 : Keep0 H (H.new (.cells [] t_api_Cell false 0 false)) := Keep.new _ _
  have w1 : Whole (H.new (.cells [] t_api_Cell false 0 false)) ⟨some ⟨H.next, 0, none⟩, 0, 0⟩ [] t_api_Cell 4 := .inr ⟨H.next, 0, rfl, rfl, by simp, false, false, by simp⟩
  have v1 := v.keep k1 (fun h => h)
  generalize hH1 : H.new (.cells [] t_api_Cell false 0 false) = H1 at *
  have n1 : H1.next = H.next + 1 := by rw [← hH1]; simp
  obtain ⟨y, H', e1, e2, e3, e4, e5, _⟩ := append_whole (bytes := 32) (str := false) (x := s.v) (n := s.n) (new := flat cs) w1 rfl (by rw [v1.src (by omega), hn, List.take_length]) (by rw [flat_ln, hn]) (by show (0 + s.n) * 32 ≤ _; omega) (by omega) (by omega)
  refine ⟨y, H', fun K => e1 K, by simpa using e2, fun k hk => ?_, by rw [e5, hn]; show 0 + cs.length = _; omega, k1.fresh e3 fun k hk => ?_⟩
  · rcases e4 k hk with ⟨_, h1, h2⟩ | h
    · cases h1; simp only at h2; omega
    · omega
  · obtain ⟨_, h1, h2⟩ := hk; cases h1; simp only at h2; omega
theorem fill_cell (c : Cl) : fillL [(0, 4)] [.agg ⟨cellV c⟩] [.int .i32 0, .int .i64 0, .int .i64 0, .int .i64 0] = some (cellV c) := rfl
/-- one more cell -/
theorem push_cell {H : Heap} {s : Sl} {L : List Cl} (h : Whole H s (flat L) t_api_Cell 4) (hl : L.length ≤ 100000) (c : Cl) :
    ∃ s' H', (∀ K : Value → Heap → Res, appendK t_api_Cell 4 32 false s.v (.slice (some ⟨H.next, 0, none⟩) 1 1) (H.new (.cells (cellV c) t_api_Cell false 0 false)) K = K s'.v H') ∧ Whole H' s' (flat (L ++ [c])) t_api_Cell 4 ∧ Keep s.at H H' ∧ (∀ k, s'.at k → H.next < k) := by
  have hn := (Whole.len h).1
  rw [flat_ln] at hn
  obtain ⟨s', H', e1, w1, k1, _, f1, _⟩ := push_whole (bytes := 32) (new := cellV c) h rfl (by omega) (by omega) (by omega)
  refine ⟨s', H', e1, ?_, k1, f1⟩
  have : flat (L ++ [c]) = flat L ++ cellV c := by simp [flat]
  rw [this]; exact w1

section
variable {H : Heap} {D : RD} {g : G}
theorem RRep.ldrow (h : RRep H D g) {i : Nat} {x : Nat × List Cl} {a : Addr} (hx : D.q[i]? = some x) (ha : D.cells.a = some a) : Heap.ld1 H (ap a (i * 1)) = some (wsl x.1 x.2.length).v := by
  obtain ⟨a', e1, e2⟩ := h.co.ld hx
  rw [ha] at e1; cases e1; exact e2
theorem RRep.lda12 (h : RRep H D g) : ldA H ⟨D.p, 12, none⟩ 4 = some (.agg ⟨cellV g.c.st⟩) := by
  unfold ldA
  rw [ldN_s h.get (by show 12 + 4 ≤ 39; omega)]; rfl

theorem rshift_s (d : Nat) (h : RRep H D g) (w : WF g) {by' : Int} (hby : -100000 ≤ by' ∧ by' ≤ 100000) :
    ∃ H' D', X (d + 2) n_ref19_Grid_shift [P0 D.p, .int .i64 by'] H = some (.tuple #[], H') ∧ RRep H' D' { g with L := g.L.modify g.c.row fun l => shiftL l g.c.col by' } ∧ RStp H D H' D' := by
  have hr := w.row; have hc := w.col; have hc2 := w.c2; have hr2 := w.r2
  obtain ⟨x, a, hx, hxL, hxn, hca, hcn, hld, hrow, hno, hrd⟩ := h.rowat w hr
  rw [ref19_Grid_shift_eq, h.l8]
  simp only [optK_s, asSL_k]
  rw [h.l9]
  simp only [optK_s, asI_s]
  rw [hca]
  simp only [optK_s]
  rw [if_pos (show (0 : Int) ≤ (g.c.row : Int) ∧ (g.c.row : Int) < (D.cells.n : Int) by omega), Int.toNat_natCast, hld]
  simp only [optK_s, asSL_k, newK_s]
  have k1 : Keep0 H (H.new (.cells [] t_api_Cell false 0 false)) := Keep.new _ _
  rw [(h.new k1).l10]
  simp only [optK_s, asI_s]
  rw [(hrow.keep k1 id).cv.s_h (by omega)]
  simp only [optK_s, asSL_k]
  have v0 := hrow.cv.sub (l := 0) (k := g.c.col) (by omega) (by omega)
  obtain ⟨y, H2, e2, w2, f2, _, k2⟩ := clone_part v0 (by simp; omega)
  rw [e2]
  simp only [asSL_k]
  have h2 := h.new k2
  rw [h2.l10]
  simp only [optK_s, asI_s]
  have ew2 : ((x.2.drop 0).take (g.c.col - 0)) = (shiftL x.2 g.c.col by').take g.c.col := by
    unfold shiftL
    rw [List.drop_zero, Nat.sub_zero, List.take_left' (by rw [List.length_take]; omega)]
  rw [ew2] at w2
  have hsl : (shiftL x.2 g.c.col by').length = g.c.cols := by unfold shiftL; rw [List.length_append, List.length_take, List.length_map, List.length_range]; omega
  have sat := fun i => shift_at (l := x.2) (col := g.c.col) by' (by omega) i
  generalize hT : shiftL x.2 g.c.col by' = T at *
  have loop : ∀ (m i : Nat) (y : Sl) (H1 : Heap), g.c.col ≤ i → i ≤ g.c.cols → g.c.cols - i < m → Keep0 H H1 → Whole H1 y (flat (T.take i)) t_api_Cell 4 → (∀ k, y.at k → H.next ≤ k) →
      ∃ H' D', ref19_Grid_shift_p11010 (d + 1) m D.p by' (wsl x.1 x.2.length) y (i : Int) H1 = some (.tuple #[], H') ∧ RRep H' D' { g with L := g.L.modify g.c.row fun l => shiftL l g.c.col by' } ∧ RStp H D H' D' := by
    intro m
    induction m with
    | zero => intro i y H1 _ _ hm; omega
    | succ m ih =>
      intro i y H1 hci hi hm k1 w1 f1
      have h1 := h.new k1
      have n1 := k1.1
      rw [ref19_Grid_shift_p11010_s, h1.l7]
      simp only [optK_s, asI_s]
      by_cases c : i < g.c.cols
      · rw [if_pos (show decide ((i : Int) < (g.c.cols : Int)) = true from decide_eq_true (by omega)), h1.l10]
        simp only [optK_s, asI_s]
        have ek : IntKind.wrap .i64 ((i : Int) - by') = (i : Int) - by' := w64 (by omega)
        rw [ek]
        have hTi : T[i]? = some (shiftC x.2 g.c.col by' (i - g.c.col)) := by
          rw [sat, if_neg (by omega), if_pos (by omega)]
        have htk : T.take (i + 1) = T.take i ++ [shiftC x.2 g.c.col by' (i - g.c.col)] := by rw [List.take_add_one, hTi]; rfl
        have hci' : ((g.c.col + (i - g.c.col) : Nat) : Int) = (i : Int) := by omega
        have step : ∀ (c : Cl) (H3 : Heap), c = shiftC x.2 g.c.col by' (i - g.c.col) → Keep0 H H3 → Whole H3 y (flat (T.take i)) t_api_Cell 4 →
            ∃ H' D', (appendK t_api_Cell 4 32 false y.v (.slice (some ⟨H3.next, 0, none⟩) 1 1) (H3.new (.cells (cellV c) t_api_Cell false 0 false)) fun v7 H8 => asSL v7 fun l9 => ref19_Grid_shift_p11010011 (d + 1) m D.p by' (wsl x.1 x.2.length) l9 (i : Int) H8) = some (.tuple #[], H') ∧ RRep H' D' { g with L := g.L.modify g.c.row fun l => shiftL l g.c.col by' } ∧ RStp H D H' D' := fun c H3 hc k3 w3 => by
          obtain ⟨y4, H4, e4, w4, k4, f4⟩ := push_cell w3 (by rw [List.length_take]; omega) c
          rw [e4]
          simp only [asSL_k]
          rw [ref19_Grid_shift_p11010011_eq, wi (by omega)]
          have n3 := k3.1
          exact ih (i + 1) y4 H4 (by omega) (by omega) (by omega) (k3.fresh k4 f1) (by rw [htk, ← hc]; exact w4) fun k e => by have := f4 k e; omega
        have out : ((i : Int) - by' < (g.c.col : Int) ∨ (g.c.cols : Int) ≤ (i : Int) - by') → ∃ H' D', ref19_Grid_shift_p11010010011 (d + 1) m D.p by' (wsl x.1 x.2.length) y (i : Int) ((i : Int) - by') true H1 = some (.tuple #[], H') ∧ RRep H' D' { g with L := g.L.modify g.c.row fun l => shiftL l g.c.col by' } ∧ RStp H D H' D' := fun ho => by
          rw [ref19_Grid_shift_p11010010011_eq, if_pos rfl]
          obtain ⟨H3, e3, k3⟩ := rblank_s d H1
          rw [e3]
          simp only [callK_s, asA_s]
          rw [fill_cell]
          simp only [optK_s, newK_s]
          exact step blank H3 (by rw [shiftC_out (by rw [hci', hxn]; exact ho)]) (k1.trans k3) (Whole.keep w1 k3 fun _ _ e => e)
        by_cases c1 : (i : Int) - by' < (g.c.col : Int)
        · rw [if_pos (show decide ((i : Int) - by' < (g.c.col : Int)) = true from decide_eq_true c1)]
          exact out (.inl c1)
        · rw [if_neg (show ¬ decide ((i : Int) - by' < (g.c.col : Int)) = true by rw [decide_eq_true_eq]; exact c1)]
          by_cases c2 : (g.c.cols : Int) ≤ (i : Int) - by'
          · rw [decide_eq_true c2]
            exact out (.inr c2)
          · rw [decide_eq_false c2, ref19_Grid_shift_p11010010011_eq, if_neg (by simp)]
            obtain ⟨k, hk⟩ : ∃ k : Nat, (i : Int) - by' = (k : Int) := ⟨((i : Int) - by').toNat, by omega⟩
            rw [hk]
            simp only [optK_s]
            rw [if_pos (show (0 : Int) ≤ (k : Int) ∧ (k : Int) < (x.2.length : Int) by omega), Int.toNat_natCast]
            have hkl : x.2[k]? = some x.2[k] := List.getElem?_eq_getElem (by omega)
            have hsc := shiftC_in (l := x.2) (col := g.c.col) (j := i - g.c.col) (k := k) (n := by') (by rw [hci']; exact hk) (by omega) (by omega)
            have hl := (hrow.keep k1 id).lda hkl
            generalize x.2[k] = c at hkl hl
            rw [show ap ⟨x.1, 0, none⟩ (k * 4) = ⟨x.1, k * 4, none⟩ by simp [ap], hl]
            simp only [optK_s, asA_s]
            rw [fill_cell]
            simp only [optK_s, newK_s]
            exact step c H1 (by rw [hkl] at hsc; exact (Option.some.inj hsc).symm) k1 w1
      · have : i = g.c.cols := by omega
        subst this
        rw [if_neg (show ¬ decide ((g.c.cols : Int) < (g.c.cols : Int)) = true by rw [decide_eq_true_eq]; omega), h1.l8]
        simp only [optK_s, asSL_k]
        rw [h1.l9]
        simp only [optK_s, asI_s]
        rw [List.take_of_length_le (by omega)] at w1
        obtain ⟨b, hyb, rb⟩ := Whole.row w1 (by intro e; rw [e] at hsl; simp at hsl; omega)
        subst hyb
        have hbn := f1 b ⟨_, rfl, rfl⟩
        obtain ⟨a', H3, D3, ea, e3, _, h3, s3⟩ := h1.fresh w (i := g.c.row) hr rb (fun e => by have := h.ltO e; omega)
        rw [ea]
        simp only [optK_s]
        rw [if_pos (show (0 : Int) ≤ (g.c.row : Int) ∧ (g.c.row : Int) < (D.cells.n : Int) by omega), Int.toNat_natCast, e3]
        simp only [optK_s]
        refine ⟨H3, D3, rfl, ?_, s3 (RStp.new k1) hbn⟩
        rw [modify_at hxL, hT]
        exact h3
  exact loop NN g.c.col y H2 (Nat.le_refl _) (by omega) (NN_big _ (by omega)) k2 w2 f2

theorem st4 (H : Heap) (p : Nat) (a b : Cl) (K : Value → Heap → Res) (hg : H.get p = some (.cells (cellV a) t_api_Cell false 0 false)) : effK (.store 4) [P0 p, .agg ⟨cellV b⟩] H K = K (.tuple #[]) (H.put p (.cells (cellV b) t_api_Cell false 0 false)) := by
  have hst : H.stN ⟨p, 0, none⟩ (cellV b) = some (H.put p (.cells (cellV b) t_api_Cell false 0 false)) := by
    simp only [Heap.stN, hg]; rfl
  simp only [effK]
  rw [if_neg (by omega), if_pos ⟨rfl, rfl, by omega⟩, show H.stN ⟨p, 0, none⟩ (cellsL (.agg ⟨cellV b⟩)) = _ from hst]
  rfl

/-- a cell is put into the row at the cursor -/
def G.cell0 (g : G) (r : Int) : G := { g with L := g.L.modify g.c.row fun l => l.set g.c.col { g.c.st with r := r } }
theorem rprint1_s (d : Nat) (h : RRep H D g) (w : WF g) (r : Int) :
    ∃ H' D', ref19_Grid_print_p101 (d + 1) D.p r H = some (.tuple #[], H') ∧ RRep H' D' (if g.c.col + 1 = g.c.cols then { g.cell0 r with c := { g.c with due := g.c.wrap } } else { g.cell0 r with c := { g.c with due := false, col := g.c.col + 1 } }) ∧ RStp H D H' D' := by
  have hr := w.row; have hc := w.col; have hc2 := w.c2; have hr2 := w.r2
  rw [ref19_Grid_print_p101_eq, h.lda12]
  simp only [optK_s, asA_s, newK_s]
  have k4 : Keep0 H (H.new (.cells [.int .i32 0, .int .i64 0, .int .i64 0, .int .i64 0] t_api_Cell false 0 false)) := Keep.new _ _
  have g4 : (H.new (.cells [.int .i32 0, .int .i64 0, .int .i64 0, .int .i64 0] t_api_Cell false 0 false)).get H.next = some (.cells (cellV zeroC) t_api_Cell false 0 false) := by simp; rfl
  have n4 : (H.new (.cells [.int .i32 0, .int .i64 0, .int .i64 0, .int .i64 0] t_api_Cell false 0 false)).next = H.next + 1 := by simp
  generalize H.new (.cells [.int .i32 0, .int .i64 0, .int .i64 0, .int .i64 0] t_api_Cell false 0 false) = H4 at *
  rw [st4 H4 H.next zeroC g.c.st _ g4]
  have hs : Heap.st1 (H4.put H.next (.cells (cellV g.c.st) t_api_Cell false 0 false)) ⟨H.next, 0, none⟩ (.int .i32 r) = some ((H4.put H.next (.cells (cellV g.c.st) t_api_Cell false 0 false)).put H.next (.cells (cellV { g.c.st with r := r }) t_api_Cell false 0 false)) := (st1_s (Heap.get_put_same _ _ _) (by show 0 < 4; omega) (by omega)).trans rfl
  rw [hs]
  simp only [optK_s]
  have g7 : ((H4.put H.next (.cells (cellV g.c.st) t_api_Cell false 0 false)).put H.next (.cells (cellV { g.c.st with r := r }) t_api_Cell false 0 false)).get H.next = some (.cells (cellV { g.c.st with r := r }) t_api_Cell false 0 false) := by simp
  have n7 : ((H4.put H.next (.cells (cellV g.c.st) t_api_Cell false 0 false)).put H.next (.cells (cellV { g.c.st with r := r }) t_api_Cell false 0 false)).next = H.next + 1 := by simp [n4]
  have k7 : Keep0 H ((H4.put H.next (.cells (cellV g.c.st) t_api_Cell false 0 false)).put H.next (.cells (cellV { g.c.st with r := r }) t_api_Cell false 0 false)) := ⟨by omega, fun k hk _ => by
    rw [Heap.get_put_ne _ _ (by omega), Heap.get_put_ne _ _ (by omega)]; exact k4.2 k hk id⟩
  generalize ((H4.put H.next (.cells (cellV g.c.st) t_api_Cell false 0 false)).put H.next (.cells (cellV { g.c.st with r := r }) t_api_Cell false 0 false)) = H7 at *
  have h7 := h.new k7
  obtain ⟨x, a, hx, hxL, hxn, hca, hcn, hld7, hrow, hno, hrd⟩ := h7.rowat w hr
  have k9 : Keep0 H7 (H7.new (.cells [] t_api_Cell false 0 false)) := Keep.new _ _
  have h9 := h7.new k9
  rw [h9.l8]
  simp only [optK_s, asSL_k]
  rw [h9.l9]
  simp only [optK_s, asI_s]
  rw [hca]
  simp only [optK_s]
  rw [if_pos (show (0 : Int) ≤ (g.c.row : Int) ∧ (g.c.row : Int) < (D.cells.n : Int) by omega), Int.toNat_natCast, h9.ldrow hx hca]
  simp only [optK_s, asSL_k]
  obtain ⟨y, H18, e18, w18, f18, _, k18⟩ := clone_part hrow.cv (by omega)
  rw [e18]
  simp only [asSL_k]
  rw [show rdsOk [H7, H7.new (.cells [] t_api_Cell false 0 false), H18] [⟨.load 1 false, [.pointer (some (ap a (g.c.row * 1)))], (wsl x.1 x.2.length).v, 0, 1⟩, ⟨.load 1 false, [.pointer (some ⟨D.p, 9, none⟩)], .int .i64 (g.c.row : Int), 0, 1⟩, ⟨.load 1 false, [.pointer (some ⟨D.p, 8, none⟩)], D.cells.v, 0, 1⟩] = true from by
    simp only [rdsOk, Bool.and_true]
    rw [show 1 + 1 - 0 = 2 from rfl, rdOk_2, rdOk_2, rdOk_2, rdAt_s rfl (rd1 (h7.ldrow hx hca)) (same_sl _ _ _), rdAt_s rfl (rd1 (h9.ldrow hx hca)) (same_sl _ _ _), rdAt_s rfl (rd1 h7.l9) (same_int _ _), rdAt_s rfl (rd1 h9.l9) (same_int _ _), rdAt_s rfl (rd1 h7.l8) (same_sl _ _ _), rdAt_s rfl (rd1 h9.l8) (same_sl _ _ _)]; rfl]
  simp only [chk_s]
  have h18 := h7.new k18
  rw [h18.l10]
  simp only [optK_s, asI_s]
  have g18 := k18.get (by omega) g7
  have hld18 : Cm.ldA H18 ⟨H.next, 0, none⟩ 4 = some (.agg ⟨cellV { g.c.st with r := r }⟩) := by
    unfold Cm.ldA
    rw [ldN_s g18 (by show 0 + 4 ≤ 4; omega)]; rfl
  rw [hld18]
  simp only [optK_s, asA_s]
  obtain ⟨b, rfl, r18⟩ := Whole.row w18 (by intro e; rw [e] at hxn; simp at hxn; omega)
  have hb := f18 b ⟨_, rfl, rfl⟩
  simp only [optK_s]
  rw [if_pos (show (0 : Int) ≤ (g.c.col : Int) ∧ (g.c.col : Int) < (x.2.length : Int) by omega), Int.toNat_natCast]
  obtain ⟨H26, e26, r26, k26, n26⟩ := r18.stc (i := g.c.col) (by omega) { g.c.st with r := r }
  rw [e26]
  have k7_26 : Keep0 H7 H26 := k18.fresh k26 fun k e => by have e' : k = b := e; omega
  have h26 := h7.new k7_26
  rw [h26.l8]
  simp only [optK_s, asSL_k]
  rw [h26.l9]
  simp only [optK_s, asI_s]
  rw [hca]
  simp only [optK_s]
  obtain ⟨a', H32, D32, ea, e32, _, h32, s32⟩ := h26.fresh w (i := g.c.row) hr r26 (fun e => by have := h.ltO e; omega)
  rw [hca] at ea; cases ea
  rw [List.length_set] at e32
  rw [if_pos (show (0 : Int) ≤ (g.c.row : Int) ∧ (g.c.row : Int) < (D.cells.n : Int) by omega), Int.toNat_natCast, e32]
  simp only [optK_s]
  have s32' := s32 (RStp.new (k7.trans k7_26)) (by omega)
  rw [← modify_at hxL fun l => l.set g.c.col { g.c.st with r := r }] at h32
  change RRep H32 D32 (g.cell0 r) at h32
  rw [← s32'.p]
  obtain ⟨H33, e33, h33, s33⟩ := h32.s11 false
  rw [e33]
  simp only [optK_s]
  rw [h33.l10, h33.l7]
  simp only [optK_s, asI_s]
  have ew : IntKind.wrap .i64 ((g.c.cols : Int) - 1) = (g.c.cols : Int) - 1 := w64 (by omega)
  by_cases cc : g.c.col + 1 = g.c.cols
  · rw [if_pos (show decide (((g.cell0 r).c.col : Int) = IntKind.wrap .i64 (((g.cell0 r).c.cols : Int) - 1)) = true by rw [decide_eq_true_eq]; show (g.c.col : Int) = IntKind.wrap .i64 ((g.c.cols : Int) - 1); omega), if_pos cc, h33.l25]
    simp only [optK_s, asB_s]
    obtain ⟨H40, e40, h40, s40⟩ := h33.s11 g.c.wrap
    rw [show Heap.st1 H33 ⟨D32.p, 11, none⟩ (.bool (g.cell0 r).c.wrap) = some H40 from e40]
    simp only [optK_s]
    exact ⟨H40, D32, rfl, h40, (s32'.trans s33).trans s40⟩
  · rw [if_neg (show ¬ decide (((g.cell0 r).c.col : Int) = IntKind.wrap .i64 (((g.cell0 r).c.cols : Int) - 1)) = true by rw [decide_eq_true_eq]; show ¬ (g.c.col : Int) = IntKind.wrap .i64 ((g.c.cols : Int) - 1); omega), if_neg cc]
    rw [show (IntKind.wrap .i64 ((((g.cell0 r).c.col : Nat) : Int) + 1)) = ((g.c.col + 1 : Nat) : Int) from wi (i := g.c.col) (by omega)]
    obtain ⟨H40, e40, h40, s40⟩ := h33.s10 (g.c.col + 1)
    rw [e40]
    simp only [optK_s]
    exact ⟨H40, D32, rfl, h40, (s32'.trans s33).trans s40⟩

/-- a pending wrap stands in the last column -/
structure DU (g : G) : Prop where
  d : g.c.due = true → g.c.col + 1 = g.c.cols
  s : g.c.sdue = true → g.c.scol + 1 = g.c.cols
  a : g.other.isSome = true → g.c.adue = true → g.c.acol + 1 = g.c.cols
theorem rprint_s (d : Nat) (h : RRep H D g) (w : WF g) (u : DU g) (r : Int) :
    ∃ H' D', X (d + 6) n_ref19_Grid_print [P0 D.p, .int .i32 r] H = some (.tuple #[], H') ∧ RRep H' D' (g.print r) ∧ RStp H D H' D' := by
  have p1 : ∀ {H : Heap} {D : RD} {g : G}, RRep H D g → WF g → (g.c.due = true → g.c.col + 1 = g.c.cols) → ∃ H' D', ref19_Grid_print_p1 (d + 5) D.p r H = some (.tuple #[], H') ∧ RRep H' D' (g.print0 r) ∧ RStp H D H' D' := by
    intro H D g h w u
    have hr := w.row; have hc := w.col; have hc2 := w.c2
    have fin : ∀ {H1 : Heap} {D1 : RD} (g1 : G), RRep H1 D1 g1 → WF g1 → g1.c = g.c → (g1.cell0 r).L = (if g.c.insert then g.L.modify g.c.row (fun l => insRow l g.c.col) else g.L).modify g.c.row (fun l => l.set g.c.col { g.c.st with r := r }) → g1.tabs = g.tabs → g1.other = g.other → g1.past = g.past → RStp H D H1 D1 → ∃ H' D', ref19_Grid_print_p101 (d + 5) D.p r H1 = some (.tuple #[], H') ∧ RRep H' D' (g.print0 r) ∧ RStp H D H' D' := fun {H1 D1} g1 h1 w1 ec eL et eo ep s1 => by
      obtain ⟨H', D', e, h', s'⟩ := rprint1_s (d + 4) h1 w1 r
      rw [s1.p] at e
      refine ⟨H', D', e, ?_, s1.trans s'⟩
      have : g.print0 r = (if g1.c.col + 1 = g1.c.cols then { g1.cell0 r with c := { g1.c with due := g1.c.wrap } } else { g1.cell0 r with c := { g1.c with due := false, col := g1.c.col + 1 } }) := by
        rw [ec]
        unfold G.print0
        simp only
        rw [← eL]
        by_cases cc : g.c.col + 1 = g.c.cols
        · rw [if_pos cc, if_pos cc]
          show G.mk _ _ _ _ _ = G.mk _ (g1.cell0 r).L g1.tabs g1.other g1.past
          rw [et, eo, ep]
        · rw [if_neg cc, if_neg cc]
          have hd : g.c.due = false := by
            cases hd : g.c.due with
            | false => rfl
            | true => exact absurd (u hd) cc
          show G.mk { g.c with col := g.c.col + 1 } _ _ _ _ = G.mk _ (g1.cell0 r).L g1.tabs g1.other g1.past
          rw [et, eo, ep]
          show G.mk { g.c with due := g.c.due, col := g.c.col + 1 } _ _ _ _ = _
          rw [hd]
      rw [this]
      exact h'
    rw [ref19_Grid_print_p1_eq, h.l26]
    simp only [optK_s, asB_s]
    cases hi : g.c.insert with
    | false =>
      rw [if_neg (by simp)]
      exact fin g h w rfl (by rw [hi, if_neg (by simp)]; rfl) rfl rfl rfl (RStp.refl H D)
    | true =>
      rw [if_pos rfl]
      obtain ⟨H1, D1, e1, h1, s1⟩ := rshift_s (d + 3) h w (by' := 1) (by omega)
      rw [e1]
      simp only [callK_s]
      obtain ⟨x, hx⟩ : ∃ x, g.L[g.c.row]? = some x := ⟨_, List.getElem?_eq_getElem (by have := w.Ln; omega)⟩
      have hxn := w.Lw _ (List.mem_of_getElem? hx)
      have hsl : (shiftL x g.c.col 1).length = g.c.cols := by unfold shiftL; rw [List.length_append, List.length_take, List.length_map, List.length_range]; omega
      refine fin _ h1 (w.modL fun l hl => by unfold shiftL; rw [List.length_append, List.length_take, List.length_map, List.length_range]; omega) rfl ?_ rfl rfl rfl s1
      rw [hi, if_pos rfl]
      show (g.L.modify g.c.row fun l => shiftL l g.c.col 1).modify g.c.row (fun l => l.set g.c.col { g.c.st with r := r }) = (g.L.modify g.c.row fun l => insRow l g.c.col).modify g.c.row fun l => l.set g.c.col { g.c.st with r := r }
      have lt := (List.getElem?_eq_some_iff.1 hx).1
      rw [modify_at hx, modify_at hx, modify_at (x := shiftL x g.c.col 1) (by rw [List.getElem?_set_self lt]), modify_at (x := insRow x g.c.col) (by rw [List.getElem?_set_self lt]), List.set_set, List.set_set, shift_ins _ (by omega)]
  rw [ref19_Grid_print_eq, h.l11]
  simp only [optK_s, asB_s]
  unfold G.print
  by_cases hd : g.c.due = true
  · rw [if_pos hd, h.l25]
    simp only [optK_s, asB_s]
    rw [ref19_Grid_print_p01_eq]
    by_cases hw : g.c.wrap = true
    · rw [if_pos hw, if_pos ⟨hd, hw⟩]
      obtain ⟨H1, e1, h1, s1⟩ := h.s10 0
      rw [show (0 : Int) = ((0 : Nat) : Int) from rfl, e1]
      simp only [optK_s]
      have w1 : WF { g with c := { g.c with col := 0 } } := w.sc rfl rfl w.row (by have := w.c1; show 0 < g.c.cols; omega) w.top w.tb w.bot w.srow w.scol w.arow w.acol
      obtain ⟨H2, D2, e2, h2, s2⟩ := rindex_s d h1 w1
      rw [e2]
      simp only [callK_s]
      have hdue : (({ g with c := { g.c with col := 0 } } : G).index).c.due = false := by
        unfold G.index
        split
        · unfold G.up
          split
          · show (G.keeps _ _).c.due = false
            rw [(keeps_c _ _).1]; rfl
          · rfl
        · split <;> rfl
      obtain ⟨H3, D3, e3, h3, s3⟩ := p1 h2 w1.index (fun e => by rw [hdue] at e; cases e)
      rw [s2.p] at e3
      exact ⟨H3, D3, e3, h3, (s1.trans s2).trans s3⟩
    · rw [if_neg hw, if_neg (fun h => hw h.2)]
      exact p1 h w u.d
  · rw [if_neg hd, ref19_Grid_print_p01_eq, if_neg (by simp), if_neg (fun h => hd h.1)]
    exact p1 h w u.d
end
end Go.Proofs.YtjmiehbiindjdaaGreatDoor.dec

namespace Go.Proofs.YtjmiehbiindjdaaGreatDoor.dec
open Go Go.Cm

attribute [local congr] optK_congr asI_congr asN_congr asB_congr asS_congr asP_congr asA_congr asSL_congr callK_congr castT_congr chk_congr

theorem move_eq {g : G} {r c : Int} {r' c' : Nat} (h1 : (min (max r 0) ((g.c.rows : Int) - 1)).toNat = r') (h2 : (min (max c 0) ((g.c.cols : Int) - 1)).toNat = c') : g.move r c = { g with c := { g.c with row := r', col := c', due := false } } := by
  unfold G.move
  rw [h1, h2]
section
variable {H : Heap} {D : RD} {g : G}
theorem rto_s (d : Nat) (h : RRep H D g) (w : WF g) (row col : Int) : ∃ H', X (d + 2) n_ref19_Grid_to [P0 D.p, .int .i64 row, .int .i64 col] H = some (.tuple #[], H') ∧ RRep H' D (g.move row col) ∧ RStp H D H' D := by
  have r1 := w.r1; have r2 := w.r2; have c1 := w.c1; have c2 := w.c2
  rw [ref19_Grid_to_eq, h.l6]
  simp only [optK_s, asI_s]
  rw [ref19_clip_eq]
  simp only [callK_s, asI_s]
  have ew : IntKind.wrap .i64 ((g.c.rows : Int) - 1) = (g.c.rows : Int) - 1 := w64 (by omega)
  have ew2 : IntKind.wrap .i64 ((g.c.cols : Int) - 1) = (g.c.cols : Int) - 1 := w64 (by omega)
  have e1 : (if (0 : Int) < (if (g.c.rows : Int) - 1 < row then (g.c.rows : Int) - 1 else row) then (if (g.c.rows : Int) - 1 < row then (g.c.rows : Int) - 1 else row) else 0) = (((min (max row 0) ((g.c.rows : Int) - 1)).toNat : Nat) : Int) := by
    split <;> split <;> omega
  have e2 : (if (0 : Int) < (if (g.c.cols : Int) - 1 < col then (g.c.cols : Int) - 1 else col) then (if (g.c.cols : Int) - 1 < col then (g.c.cols : Int) - 1 else col) else 0) = (((min (max col 0) ((g.c.cols : Int) - 1)).toNat : Nat) : Int) := by
    split <;> split <;> omega
  rw [ew, e1]
  obtain ⟨H1, f1, h1, s1⟩ := h.s9 (min (max row 0) ((g.c.rows : Int) - 1)).toNat
  rw [f1]
  simp only [optK_s]
  rw [h1.l7]
  simp only [optK_s, asI_s]
  rw [ref19_clip_eq]
  simp only [callK_s, asI_s]
  rw [ew2, e2]
  obtain ⟨H2, f2, h2, s2⟩ := h1.s10 (min (max col 0) ((g.c.cols : Int) - 1)).toNat
  rw [f2]
  simp only [optK_s]
  obtain ⟨H3, f3, h3, s3⟩ := h2.s11 false
  rw [f3]
  simp only [optK_s]
  exact ⟨H3, rfl, h3, (s1.trans s2).trans s3⟩
theorem rlineUp_s (d : Nat) (h : RRep H D g) (w : WF g) {n : Int} (hn : 0 ≤ n ∧ n ≤ 9999) : X (d + 1) n_ref19_Grid_lineUp [P0 D.p, .int .i64 n] H = some (.int .i64 (max ((g.c.row : Int) - n) (if g.c.top ≤ g.c.row then (g.c.top : Int) else 0)), H) := by
  have r2 := w.r2; have hr := w.row
  rw [ref19_Grid_lineUp_eq, h.l9, h.l23]
  simp only [optK_s, asI_s]
  rw [w64 (by omega)]
  by_cases c : g.c.top ≤ g.c.row
  · rw [if_pos (show decide ((g.c.top : Int) ≤ (g.c.row : Int)) = true from decide_eq_true (by omega)), if_pos c]
    congr 3; split <;> omega
  · rw [if_neg (show ¬ decide ((g.c.top : Int) ≤ (g.c.row : Int)) = true from dneg (by omega)), if_neg c]
    congr 3; split <;> omega
theorem rlineDown_s (d : Nat) (h : RRep H D g) (w : WF g) {n : Int} (hn : 0 ≤ n ∧ n ≤ 9999) : X (d + 1) n_ref19_Grid_lineDown [P0 D.p, .int .i64 n] H = some (.int .i64 (min ((g.c.row : Int) + n) (if g.c.row ≤ g.c.bottom then (g.c.bottom : Int) else (g.c.rows : Int) - 1)), H) := by
  have r2 := w.r2; have hr := w.row
  rw [ref19_Grid_lineDown_eq, h.l9, h.l24, h.l6]
  simp only [optK_s, asI_s]
  rw [w64 (n := (g.c.row : Int) + n) (by omega), w64 (n := (g.c.rows : Int) - 1) (by omega)]
  by_cases c : g.c.row ≤ g.c.bottom
  · rw [if_pos (show decide ((g.c.row : Int) ≤ (g.c.bottom : Int)) = true from decide_eq_true (by omega)), if_pos c]
    congr 3; split <;> omega
  · rw [if_neg (show ¬ decide ((g.c.row : Int) ≤ (g.c.bottom : Int)) = true from dneg (by omega)), if_neg c]
    congr 3; split <;> omega
/-- a stop read -/
theorem RRep.ldtab (h : RRep H D g) (w : WF g) {i : Nat} (hi : i < g.c.cols) : ∃ a, D.tabs.a = some a ∧ Heap.ld1 H (ap a (i * 1)) = some (.bool (g.tabs.getD i false)) ∧ D.tabs.n = g.c.cols := by
  have tn := w.tn
  have hn := (Whole.len h.ta).1
  rw [List.length_map] at hn
  have hne : D.tabs.a ≠ none := by
    rcases h.ta with ⟨h1, h2⟩ | ⟨b, n, h1, _⟩
    · have := congrArg List.length h2; simp at this; rw [this] at tn; simp at tn; omega
    · rw [h1]; simp
  obtain ⟨b, v, _⟩ := Vw.of h.ta hne
  have hld := v.ld (i := i) (x := .bool (g.tabs.getD i false)) (by rw [List.getElem?_map, List.getElem?_eq_getElem (by omega), List.getD_eq_getElem?_getD, List.getElem?_eq_getElem (by omega)]; rfl)
  exact ⟨_, v.sa, by simpa [ap] using hld, by omega⟩
theorem rtab_s (d : Nat) (h : RRep H D g) (w : WF g) : ∀ (m n x : Nat), m < n → g.c.cols ≤ x + m → ∃ H', ref19_Grid_control_p101110100 (d + 1) n D.p (x : Int) H = some (.tuple #[], H') ∧ RRep H' D (g.move g.c.row (tabTo g.tabs (g.c.cols - 1) m x : Nat)) ∧ RStp H D H' D := fun m => by
  have c2 := w.c2; have c1 := w.c1; have tn := w.tn; have hr := w.row
  have fin : ∀ (n x : Nat), ∃ H', ref19_Grid_control_p101110100001 (d + 1) n D.p (x : Int) false H = some (.tuple #[], H') ∧ RRep H' D (g.move g.c.row (x : Nat)) ∧ RStp H D H' D := fun n x => by
    rw [ref19_Grid_control_p101110100001_eq, if_neg ff, h.l7]
    simp only [optK_s, asI_s]
    have e : (if IntKind.wrap .i64 ((g.c.cols : Int) - 1) < (x : Int) then IntKind.wrap .i64 ((g.c.cols : Int) - 1) else (x : Int)) = ((min x (g.c.cols - 1) : Nat) : Int) := by
      rw [w64 (by omega)]; split <;> omega
    rw [e]
    obtain ⟨H1, f1, h1, s1⟩ := h.s10 (min x (g.c.cols - 1))
    rw [f1]
    simp only [optK_s]
    obtain ⟨H2, f2, h2, s2⟩ := h1.s11 false
    rw [f2]
    simp only [optK_s]
    refine ⟨H2, rfl, ?_, s1.trans s2⟩
    rw [move_eq (r' := g.c.row) (c' := min x (g.c.cols - 1)) (by omega) (by omega)]
    exact h2
  induction m with
  | zero =>
    intro n x hn hx
    obtain ⟨n, rfl⟩ : ∃ n', n = n' + 1 := ⟨n - 1, by omega⟩
    rw [ref19_Grid_control_p101110100_s, h.l7]
    simp only [optK_s, asI_s]
    rw [w64 (by omega), if_neg (show ¬ decide ((x : Int) < (g.c.cols : Int) - 1) = true from dneg (by omega))]
    exact fin n x
  | succ m ih =>
    intro n x hn hx
    obtain ⟨n, rfl⟩ : ∃ n', n = n' + 1 := ⟨n - 1, by omega⟩
    rw [ref19_Grid_control_p101110100_s, h.l7]
    simp only [optK_s, asI_s]
    rw [w64 (by omega)]
    unfold tabTo
    by_cases hlt : x < g.c.cols - 1
    · rw [if_pos (show decide ((x : Int) < (g.c.cols : Int) - 1) = true from decide_eq_true (by omega)), h.l28]
      simp only [optK_s, asSL_k]
      obtain ⟨a, ea, el, en⟩ := h.ldtab w (i := x) (by omega)
      rw [ea]
      simp only [optK_s]
      rw [if_pos (show (0 : Int) ≤ (x : Int) ∧ (x : Int) < (D.tabs.n : Int) by omega), Int.toNat_natCast, el]
      simp only [optK_s, asB_s]
      by_cases ht : g.tabs.getD x false = true
      · rw [show (!g.tabs.getD x false) = false by rw [ht]; rfl, if_neg (show ¬ (x < g.c.cols - 1 ∧ g.tabs.getD x false = false) from fun e => by rw [ht] at e; simp at e)]
        exact fin n x
      · have ht' : g.tabs.getD x false = false := by simpa using ht
        rw [show (!g.tabs.getD x false) = true by rw [ht']; rfl, ref19_Grid_control_p101110100001_eq, if_pos rfl, if_pos (show x < g.c.cols - 1 ∧ g.tabs.getD x false = false from ⟨hlt, ht'⟩), wi (by omega)]
        exact ih n (x + 1) (by omega) (by omega)
    · rw [if_neg (show ¬ decide ((x : Int) < (g.c.cols : Int) - 1) = true from dneg (by omega)), if_neg (fun e => hlt e.1)]
      exact fin n x
theorem rcontrol_s (d : Nat) (h : RRep H D g) (w : WF g) (r : Int) :
    ∃ H' D', X (d + 6) n_ref19_Grid_control [P0 D.p, .int .i32 r] H = some (.tuple #[], H') ∧ RRep H' D' (g.control r) ∧ RStp H D H' D' := by
  have hr := w.row; have hr2 := w.r2; have hc := w.col; have hc2 := w.c2
  rw [ref19_Grid_control_eq]
  unfold G.control
  by_cases c8 : r = 8
  · rw [if_pos (show decide (r = 8) = true from decide_eq_true c8), if_pos c8, h.l10]
    simp only [optK_s, asI_s]
    have e : (if 0 < IntKind.wrap .i64 ((g.c.col : Int) - 1) then IntKind.wrap .i64 ((g.c.col : Int) - 1) else 0) = ((g.c.col - 1 : Nat) : Int) := by
      rw [w64 (by omega)]; split <;> omega
    rw [e]
    obtain ⟨H1, f1, h1, s1⟩ := h.s10 (g.c.col - 1)
    rw [f1]
    simp only [optK_s]
    obtain ⟨H2, f2, h2, s2⟩ := h1.s11 false
    rw [f2]
    refine ⟨H2, D, rfl, ?_, s1.trans s2⟩
    rw [move_eq (r' := g.c.row) (c' := g.c.col - 1) (by omega) (by omega)]
    exact h2
  rw [if_neg (show ¬ decide (r = 8) = true from dneg c8), if_neg c8]
  by_cases c9 : r = 9
  · rw [if_pos (show decide (r = 9) = true from decide_eq_true c9), if_pos c9, h.l10]
    simp only [optK_s, asI_s]
    rw [wi (by omega)]
    obtain ⟨H', e, h', s'⟩ := rtab_s (d + 4) h w g.c.cols NN (g.c.col + 1) (NN_big _ (by omega)) (by omega)
    exact ⟨H', D, e, h', s'⟩
  rw [if_neg (show ¬ decide (r = 9) = true from dneg c9), if_neg c9]
  have A : ∀ z : Bool, z = decide (r = 10 ∨ r = 11 ∨ r = 12) → ∃ H' D', ref19_Grid_control_p1011111 (d + 5) D.p r z H = some (.tuple #[], H') ∧ RRep H' D' (if r = 10 ∨ r = 11 ∨ r = 12 then g.index else if r = 13 then g.move g.c.row 0 else g) ∧ RStp H D H' D' := fun z hz => by
    rw [ref19_Grid_control_p1011111_eq]
    by_cases hA : r = 10 ∨ r = 11 ∨ r = 12
    · rw [if_pos (show z = true by rw [hz]; exact decide_eq_true hA), if_pos hA]
      obtain ⟨H', D', e, h', s'⟩ := rindex_s d h w
      rw [e]
      exact ⟨H', D', rfl, h', s'⟩
    · rw [if_neg (show ¬ z = true by rw [hz]; exact dneg hA), if_neg hA]
      by_cases c13 : r = 13
      · rw [if_pos (show decide (r = 13) = true from decide_eq_true c13), if_pos c13]
        obtain ⟨H1, f1, h1, s1⟩ := h.s10 0
        rw [show (0 : Int) = ((0 : Nat) : Int) from rfl, f1]
        simp only [optK_s]
        obtain ⟨H2, f2, h2, s2⟩ := h1.s11 false
        rw [f2]
        refine ⟨H2, D, rfl, ?_, s1.trans s2⟩
        rw [move_eq (r' := g.c.row) (c' := 0) (by omega) (by omega)]
        exact h2
      · rw [if_neg (show ¬ decide (r = 13) = true from dneg c13), if_neg c13]
        exact ⟨H, D, rfl, h, RStp.refl _ _⟩
  by_cases c10 : r = 10
  · rw [if_pos (show decide (r = 10) = true from decide_eq_true c10)]; exact A _ (decide_eq_decide.2 (by omega))
  rw [if_neg (show ¬ decide (r = 10) = true from dneg c10)]
  by_cases c11 : r = 11
  · rw [if_pos (show decide (r = 11) = true from decide_eq_true c11)]; exact A _ (decide_eq_decide.2 (by omega))
  rw [if_neg (show ¬ decide (r = 11) = true from dneg c11)]
  exact A _ (decide_eq_decide.2 (by omega))

/-! ### cursors as wholes -/
theorem RRep.lda9 (h : RRep H D g) : ldA H ⟨D.p, 9, none⟩ 7 = some (.agg ⟨curL g.c.row g.c.col g.c.due g.c.st⟩) := by
  unfold ldA
  rw [ldN_s h.get (by show 9 + 7 ≤ 39; omega)]; rfl
theorem RRep.lda16 (h : RRep H D g) : ldA H ⟨D.p, 16, none⟩ 7 = some (.agg ⟨curL g.c.srow g.c.scol g.c.sdue g.c.sst⟩) := by
  unfold ldA
  rw [ldN_s h.get (by show 16 + 7 ≤ 39; omega)]; rfl
theorem RRep.sta9 (h : RRep H D g) (row col : Nat) (due : Bool) (st : Cl) : ∃ H', (∀ K : Value → Heap → Res, effK (.store 7) [.pointer (some ⟨D.p, 9, none⟩), .agg ⟨curL row col due st⟩] H K = K (.tuple #[]) H') ∧ RRep H' D { g with c := { g.c with row := row, col := col, due := due, st := st } } ∧ RStp H D H' D := by
  refine ⟨H.put D.p (.cells (refL { g.c with row := row, col := col, due := due, st := st } g.other.isSome D) t_ref19_Grid false 0 false), fun K => ?_, h.setc _ rfl rfl rfl rfl, RStp.setc D _⟩
  simp only [effK]
  rw [if_neg (by omega), if_pos ⟨rfl, rfl, by omega⟩, show H.stN ⟨D.p, 9, none⟩ (cellsL (.agg ⟨curL row col due st⟩)) = some (H.put D.p (.cells (refL { g.c with row := row, col := col, due := due, st := st } g.other.isSome D) t_ref19_Grid false 0 false)) from by simp only [Heap.stN, h.get]; rfl]
  rfl
theorem RRep.sta16 (h : RRep H D g) (row col : Nat) (due : Bool) (st : Cl) : ∃ H', (∀ K : Value → Heap → Res, effK (.store 7) [.pointer (some ⟨D.p, 16, none⟩), .agg ⟨curL row col due st⟩] H K = K (.tuple #[]) H') ∧ RRep H' D { g with c := { g.c with srow := row, scol := col, sdue := due, sst := st } } ∧ RStp H D H' D := by
  refine ⟨H.put D.p (.cells (refL { g.c with srow := row, scol := col, sdue := due, sst := st } g.other.isSome D) t_ref19_Grid false 0 false), fun K => ?_, h.setc _ rfl rfl rfl rfl, RStp.setc D _⟩
  simp only [effK]
  rw [if_neg (by omega), if_pos ⟨rfl, rfl, by omega⟩, show H.stN ⟨D.p, 16, none⟩ (cellsL (.agg ⟨curL row col due st⟩)) = some (H.put D.p (.cells (refL { g.c with srow := row, scol := col, sdue := due, sst := st } g.other.isSome D) t_ref19_Grid false 0 false)) from by simp only [Heap.stN, h.get]; rfl]
  rfl
/-! ### stops in new memory -/
theorem RRep.clonetabs (h : RRep H D g) (w : WF g) : ∃ y H', (∀ K : Value → Heap → Res, appendK t_bool 1 1 false (.slice (some ⟨H.next, 0, none⟩) 0 0) D.tabs.v (H.new (.cells [] t_bool false 0 false)) K = K (Sl.v y) H') ∧ Whole H' y (g.tabs.map Value.bool) t_bool 1 ∧ (∀ k, y.at k → H.next ≤ k) ∧ y.n = g.c.cols ∧ Keep0 H H' := by
  have tn := w.tn; have c2 := w.c2
  have k1 : Keep0 H (H.new (.cells [] t_bool false 0 false)) := Keep.new _ _
  have w1 : Whole (H.new (.cells [] t_bool false 0 false)) ⟨some ⟨H.next, 0, none⟩, 0, 0⟩ [] t_bool 1 := .inr ⟨H.next, 0, rfl, rfl, by simp, false, false, by simp⟩
  have v1 : Whole (H.new (.cells [] t_bool false 0 false)) D.tabs (g.tabs.map Value.bool) t_bool 1 := Whole.keep h.ta k1 fun _ _ e => e
  generalize hH1 : H.new (.cells [] t_bool false 0 false) = H1 at *
  have n1 : H1.next = H.next + 1 := by rw [← hH1]; simp
  have hn := (Whole.len v1).1
  rw [List.length_map] at hn
  obtain ⟨y, H', e1, e2, e3, e4, e5, _⟩ := append_whole (bytes := 1) (str := false) (x := D.tabs.v) (n := D.tabs.n) (new := g.tabs.map Value.bool) w1 rfl (Whole.src v1) (by rw [List.length_map]; exact hn) (by show (0 + D.tabs.n) * 1 ≤ _; omega) (by omega) (by omega)
  refine ⟨y, H', fun K => e1 K, by simpa using e2, fun k hk => ?_, by rw [e5]; show 0 + D.tabs.n = _; omega, k1.fresh e3 fun k hk => ?_⟩
  · rcases e4 k hk with ⟨_, h1, h2⟩ | h
    · cases h1; simp only at h2; omega
    · omega
  · obtain ⟨_, h1, h2⟩ := hk; cases h1; simp only at h2; omega
theorem bools_st {H : Heap} {y : Sl} {T : List Bool} (h : Whole H y (T.map Value.bool) t_bool 1) {i : Nat} (hi : i < T.length) (v : Bool) : ∃ a H', y.a = some a ∧ Heap.st1 H (ap a (i * 1)) (.bool v) = some H' ∧ Whole H' y ((T.set i v).map Value.bool) t_bool 1 ∧ Keep y.at H H' ∧ H'.next = H.next := by
  rcases h with ⟨h1, h2⟩ | ⟨b, n, rfl, h1, h2, o, st, h3⟩
  · have := congrArg List.length h2; simp at this; rw [this] at hi; simp at hi
  · have e := st1_s (v := .bool v) h3 (off := i) (by simpa using hi) (by omega)
    refine ⟨_, H.put b (.cells ((T.map Value.bool).set i (.bool v)) t_bool o 0 st), rfl, by rw [show ap ⟨b, 0, none⟩ (i * 1) = ⟨b, i, none⟩ by simp [ap]]; exact e, .inr ⟨b, n, rfl, by simpa using h1, h2, o, st, by rw [List.map_set]; simp⟩, Keep.put _ _ _ ⟨_, rfl, rfl⟩, rfl⟩

/-! ### escape sequences, but c -/
theorem resc3_s (d : Nat) (h : RRep H D g) (w : WF g) {r : Int} (hr : r = 68 ∨ r = 69 ∨ r = 77) :
    ∃ H' D', X (d + 6) n_ref19_Grid_esc [P0 D.p, .int .i32 r] H = some (.tuple #[], H') ∧ RRep H' D' (g.esc3 r) ∧ RStp H D H' D' := by
  have hrow := w.row; have hr2 := w.r2; have hcol := w.col
  rw [ref19_Grid_esc_eq]
  unfold G.esc3
  by_cases c1 : r = 68
  · rw [if_pos (show decide (r = 68) = true from decide_eq_true c1), if_pos c1]
    obtain ⟨H', D', e, h', s'⟩ := rindex_s d h w
    rw [e]
    exact ⟨H', D', rfl, h', s'⟩
  rw [if_neg (show ¬ decide (r = 68) = true from dneg c1), if_neg c1]
  by_cases c2 : r = 69
  · rw [if_pos (show decide (r = 69) = true from decide_eq_true c2), if_pos c2]
    obtain ⟨H1, e1, h1, s1⟩ := h.s10 0
    rw [show (0 : Int) = ((0 : Nat) : Int) from rfl, e1]
    simp only [optK_s]
    have w1 : WF { g with c := { g.c with col := 0 } } := w.sc rfl rfl w.row (by have := w.c1; show 0 < g.c.cols; omega) w.top w.tb w.bot w.srow w.scol w.arow w.acol
    obtain ⟨H', D', e, h', s'⟩ := rindex_s d h1 w1
    rw [e]
    exact ⟨H', D', rfl, h', s1.trans s'⟩
  rw [if_neg (show ¬ decide (r = 69) = true from dneg c2), if_neg c2, if_pos (show decide (r = 77) = true from decide_eq_true (by omega))]
  obtain ⟨H1, e1, h1, s1⟩ := h.s11 false
  rw [e1]
  simp only [optK_s]
  rw [h1.l9, h1.l23]
  simp only [optK_s, asI_s]
  by_cases c3 : g.c.row = g.c.top
  · rw [if_pos (show decide ((g.c.row : Int) = (g.c.top : Int)) = true from decide_eq_true (by omega)), if_pos c3]
    obtain ⟨H', D', e, h', s'⟩ := rdown_s (d + 2) h1 (w.due false) (row := g.c.top) (n := 1) w.tb
    rw [show (1 : Int) = ((1 : Nat) : Int) from rfl, show X (d + 5) n_ref19_Grid_down [P0 D.p, .int .i64 (g.c.top : Int), .int .i64 ((1 : Nat) : Int)] H1 = _ from e]
    exact ⟨H', D', rfl, h', s1.trans s'⟩
  · rw [if_neg (show ¬ decide ((g.c.row : Int) = (g.c.top : Int)) = true from dneg (by omega)), if_neg c3]
    have e : (if 0 < IntKind.wrap .i64 ((g.c.row : Int) - 1) then IntKind.wrap .i64 ((g.c.row : Int) - 1) else 0) = ((g.c.row - 1 : Nat) : Int) := by
      rw [w64 (by omega)]; split <;> omega
    rw [e]
    obtain ⟨H2, f2, h2, s2⟩ := h1.s9 (g.c.row - 1)
    rw [f2]
    refine ⟨H2, D, rfl, ?_, s1.trans s2⟩
    rw [move_eq (g := g.due false) (r' := g.c.row - 1) (c' := g.c.col) (by show (min (max ((g.c.row : Int) - 1) 0) ((g.c.rows : Int) - 1)).toNat = _; omega) (by show (min (max (g.c.col : Int) 0) ((g.c.cols : Int) - 1)).toNat = _; omega)]
    exact h2
end
theorem rsgr_s (d : Nat) {H : Heap} {D : RD} {g : G} (h : RRep H D g) (k : Int) : ∃ H', X (d + 1) n_ref19_Grid_sgr [P0 D.p, .int .i64 k] H = some (.tuple #[], H') ∧ RRep H' D (g.style k) ∧ RStp H D H' D := by
  rw [ref19_Grid_sgr_eq]
  have l9 : Heap.ld1 H ⟨D.p, 15, none⟩ = some (.int .i64 g.c.st.s) := h.l15
  unfold G.style Cl.sty
  by_cases c0 : k = 0
  · rw [if_pos (show decide (k = 0) = true from decide_eq_true c0), if_pos c0]
    obtain ⟨H', e, r, s⟩ := h.s12
    rw [e]
    exact ⟨H', rfl, r, s⟩
  rw [if_neg (show ¬ decide (k = 0) = true from dneg c0), if_neg c0]
  by_cases c1 : k = 1
  · rw [if_pos (show decide (k = 1) = true from decide_eq_true c1), if_pos c1, l9]
    obtain ⟨H', e, r, s⟩ := h.s15 (bitsI .or .i64 g.c.st.s 1)
    simp only [optK_s, asI_s, e]
    exact ⟨H', rfl, r, s⟩
  rw [if_neg (show ¬ decide (k = 1) = true from dneg c1), if_neg c1]
  by_cases c2 : k = 4
  · rw [if_pos (show decide (k = 4) = true from decide_eq_true c2), if_pos c2, l9]
    obtain ⟨H', e, r, s⟩ := h.s15 (bitsI .or .i64 g.c.st.s 2)
    simp only [optK_s, asI_s, e]
    exact ⟨H', rfl, r, s⟩
  rw [if_neg (show ¬ decide (k = 4) = true from dneg c2), if_neg c2]
  by_cases c3 : k = 7
  · rw [if_pos (show decide (k = 7) = true from decide_eq_true c3), if_pos c3, l9]
    obtain ⟨H', e, r, s⟩ := h.s15 (bitsI .or .i64 g.c.st.s 4)
    simp only [optK_s, asI_s, e]
    exact ⟨H', rfl, r, s⟩
  rw [if_neg (show ¬ decide (k = 7) = true from dneg c3), if_neg c3]
  by_cases c4 : k = 22
  · rw [if_pos (show decide (k = 22) = true from decide_eq_true c4), if_pos c4, l9]
    obtain ⟨H', e, r, s⟩ := h.s15 (bitsI .andNot .i64 g.c.st.s 1)
    simp only [optK_s, asI_s, e]
    exact ⟨H', rfl, r, s⟩
  rw [if_neg (show ¬ decide (k = 22) = true from dneg c4), if_neg c4]
  by_cases c5 : k = 24
  · rw [if_pos (show decide (k = 24) = true from decide_eq_true c5), if_pos c5, l9]
    obtain ⟨H', e, r, s⟩ := h.s15 (bitsI .andNot .i64 g.c.st.s 2)
    simp only [optK_s, asI_s, e]
    exact ⟨H', rfl, r, s⟩
  rw [if_neg (show ¬ decide (k = 24) = true from dneg c5), if_neg c5]
  by_cases c6 : k = 27
  · rw [if_pos (show decide (k = 27) = true from decide_eq_true c6), if_pos c6, l9]
    obtain ⟨H', e, r, s⟩ := h.s15 (bitsI .andNot .i64 g.c.st.s 4)
    simp only [optK_s, asI_s, e]
    exact ⟨H', rfl, r, s⟩
  rw [if_neg (show ¬ decide (k = 27) = true from dneg c6), if_neg c6]
  have pE : ∀ b : Bool, b = decide (40 ≤ k ∧ k ≤ 47) → ∃ H', ref19_Grid_sgr_p1011111111111111101111 d k ⟨D.p, 12, none⟩ b H = some (.tuple #[], H') ∧ RRep H' D { g with c := { g.c with st := if 40 ≤ k ∧ k ≤ 47 then { g.c.st with b := k - 39 } else if k = 49 then { g.c.st with b := 0 } else g.c.st } } ∧ RStp H D H' D := fun b hb => by
    rw [ref19_Grid_sgr_p1011111111111111101111_eq]
    by_cases c9 : 40 ≤ k ∧ k ≤ 47
    · rw [if_pos (show b = true by rw [hb]; exact decide_eq_true c9), if_pos c9, w64 (by omega)]
      obtain ⟨H', e, r, s⟩ := h.s14 (k - 39)
      rw [show ap ⟨D.p, 12, none⟩ 2 = ⟨D.p, 14, none⟩ from rfl, e]
      exact ⟨H', rfl, r, s⟩
    · rw [if_neg (show ¬ b = true by rw [hb]; exact dneg c9), if_neg c9]
      by_cases c10 : k = 49
      · rw [if_pos (show decide (k = 49) = true from decide_eq_true c10), if_pos c10]
        obtain ⟨H', e, r, s⟩ := h.s14 0
        rw [show ap ⟨D.p, 12, none⟩ 2 = ⟨D.p, 14, none⟩ from rfl, e]
        exact ⟨H', rfl, r, s⟩
      · rw [if_neg (show ¬ decide (k = 49) = true from dneg c10), if_neg c10]
        exact ⟨H, rfl, h, RStp.refl _ _⟩
  have pF : ∀ b : Bool, b = decide (30 ≤ k ∧ k ≤ 37) → ∃ H', ref19_Grid_sgr_p10111111111111111 d k ⟨D.p, 12, none⟩ b H = some (.tuple #[], H') ∧ RRep H' D { g with c := { g.c with st := if 30 ≤ k ∧ k ≤ 37 then { g.c.st with f := k - 29 } else if k = 39 then { g.c.st with f := 0 } else if 40 ≤ k ∧ k ≤ 47 then { g.c.st with b := k - 39 } else if k = 49 then { g.c.st with b := 0 } else g.c.st } } ∧ RStp H D H' D := fun b hb => by
    rw [ref19_Grid_sgr_p10111111111111111_eq]
    by_cases c7 : 30 ≤ k ∧ k ≤ 37
    · rw [if_pos (show b = true by rw [hb]; exact decide_eq_true c7), if_pos c7, w64 (by omega)]
      obtain ⟨H', e, r, s⟩ := h.s13 (k - 29)
      rw [show ap ⟨D.p, 12, none⟩ 1 = ⟨D.p, 13, none⟩ from rfl, e]
      exact ⟨H', rfl, r, s⟩
    rw [if_neg (show ¬ b = true by rw [hb]; exact dneg c7), if_neg c7]
    by_cases c8 : k = 39
    · rw [if_pos (show decide (k = 39) = true from decide_eq_true c8), if_pos c8]
      obtain ⟨H', e, r, s⟩ := h.s13 0
      rw [show ap ⟨D.p, 12, none⟩ 1 = ⟨D.p, 13, none⟩ from rfl, e]
      exact ⟨H', rfl, r, s⟩
    rw [if_neg (show ¬ decide (k = 39) = true from dneg c8), if_neg c8]
    by_cases c9 : 40 ≤ k
    · rw [if_pos (show decide ((40 : Int) ≤ k) = true from decide_eq_true c9)]
      exact pE _ (decide_eq_decide.2 (by omega))
    · rw [if_neg (show ¬ decide ((40 : Int) ≤ k) = true from dneg c9)]
      exact pE _ (by rw [decide_eq_false (by omega)])
  by_cases c7 : 30 ≤ k
  · rw [if_pos (show decide ((30 : Int) ≤ k) = true from decide_eq_true c7)]
    exact pF _ (decide_eq_decide.2 (by omega))
  · rw [if_neg (show ¬ decide ((30 : Int) ≤ k) = true from dneg c7)]
    exact pF _ (by rw [decide_eq_false (by omega)])
end Go.Proofs.YtjmiehbiindjdaaGreatDoor.dec

namespace Go.Proofs.YtjmiehbiindjdaaGreatDoor.dec
open Go Go.Cm

attribute [local congr] optK_congr asI_congr asN_congr asB_congr asS_congr asP_congr asA_congr asSL_congr callK_congr castT_congr chk_congr

theorem cell_st {H : Heap} {p : Nat} {L : List Value} {t : TypeId} (hg : H.get p = some (.cells L t false 0 false)) (i : Nat) (v : Value) (hi : i < L.length) {L' : List Value} (hl : L.set i v = L') : ∃ H', Heap.st1 H ⟨p, i, none⟩ v = some H' ∧ H'.get p = some (.cells L' t false 0 false) ∧ Keep (fun k => k = p) H H' ∧ H'.next = H.next :=
  ⟨H.put p (.cells L' t false 0 false), by rw [← hl]; exact st1_s hg hi (by omega), by simp, Keep.put _ _ _ rfl, rfl⟩
theorem cell_stN {H : Heap} {p : Nat} {L : List Value} {t : TypeId} (hg : H.get p = some (.cells L t false 0 false)) (i : Nat) (vs : List Value) (hi : i + vs.length ≤ L.length) {L' : List Value} (hl : splice L i vs = L') : ∃ H', Heap.stN H ⟨p, i, none⟩ vs = some H' ∧ H'.get p = some (.cells L' t false 0 false) ∧ Keep (fun k => k = p) H H' ∧ H'.next = H.next := by
  refine ⟨H.put p (.cells L' t false 0 false), ?_, by simp, Keep.put _ _ _ rfl, rfl⟩
  simp only [Heap.stN, hg]
  rw [if_pos ⟨hi, Nat.zero_le _⟩, hl]
theorem mk_bools {n : Nat} (hn : n ≤ 1000) (H : Heap) (K : Value → Heap → Res) : effK (.mkSl t_bool 1 1 [.bool false]) [.int .i64 (n : Int), .int .i64 (n : Int)] H K = K (.slice (some ⟨H.next, 0, none⟩) n n) (H.new (.cells ((List.replicate n false).map Value.bool) t_bool false 0 false)) := by
  simp only [effK, asN_s]
  rw [if_pos (by omega), Int.toNat_natCast, List.map_replicate]
  have : rep [Value.bool false] n = List.replicate n (Value.bool false) := by
    clear hn
    induction n with
    | zero => rfl
    | succ n ih => simp only [rep, ih, List.replicate_succ]; rfl
  rw [this]
/-- the stops below a place -/
def tabsTo (n i : Nat) : List Bool := (List.range n).map fun j => decide (0 < j) && decide (j % 8 = 0) && decide (j < i)
theorem tabsTo_at (n i j : Nat) : (tabsTo n i)[j]? = if j < n then some (decide (0 < j) && decide (j % 8 = 0) && decide (j < i)) else none := by
  unfold tabsTo
  rw [List.getElem?_map]
  by_cases c : j < n
  · rw [List.getElem?_range c, if_pos c]; rfl
  · rw [if_neg c, List.getElem?_eq_none (by rw [List.length_range]; omega)]; rfl
theorem tabsTo_len (n i : Nat) : (tabsTo n i).length = n := by unfold tabsTo; rw [List.length_map, List.length_range]
theorem tabsTo_8 (n : Nat) : tabsTo n 8 = List.replicate n false := by
  apply List.ext_getElem?
  intro j
  rw [tabsTo_at, List.getElem?_replicate]
  by_cases c : j < n
  · rw [if_pos c, if_pos c]
    congr 1
    by_cases h : j < 8
    · by_cases h0 : 0 < j
      · rw [decide_eq_false (show ¬ j % 8 = 0 by omega)]; simp
      · rw [decide_eq_false h0]; simp
    · rw [decide_eq_false h]; simp
  · rw [if_neg c, if_neg c]
theorem tabsTo_set {n k : Nat} (hk : 8 * (k + 1) < n) : (tabsTo n (8 * (k + 1))).set (8 * (k + 1)) true = tabsTo n (8 * (k + 2)) := by
  apply List.ext_getElem?
  intro j
  rw [List.getElem?_set, tabsTo_len, tabsTo_at, tabsTo_at]
  by_cases c : 8 * (k + 1) = j
  · subst c
    rw [if_pos rfl, if_pos hk, if_pos hk]
    congr 1
    rw [decide_eq_true (show 0 < 8 * (k + 1) by omega), decide_eq_true (show 8 * (k + 1) % 8 = 0 by omega), decide_eq_true (show 8 * (k + 1) < 8 * (k + 2) by omega)]; rfl
  · rw [if_neg c]
    by_cases cn : j < n
    · rw [if_pos cn, if_pos cn]
      congr 1
      by_cases h : j % 8 = 0
      · by_cases h2 : j < 8 * (k + 1)
        · rw [decide_eq_true h2, decide_eq_true (show j < 8 * (k + 2) by omega)]
        · rw [decide_eq_false h2, decide_eq_false (show ¬ j < 8 * (k + 2) by omega)]
      · rw [decide_eq_false h]; simp
    · rw [if_neg cn, if_neg cn]
theorem tabsTo_all {n i : Nat} (h : n ≤ i) : tabsTo n i = tabs0 n := by
  unfold tabsTo tabs0
  apply List.map_congr_left
  intro j hj
  rw [decide_eq_true (show j < i by have := List.mem_range.1 hj; omega), Bool.and_true]

/-- the grid's cells ahead of reset: any -/
theorem rreset_s (d : Nat) {H : Heap} {c0 : Sc} {o : Bool} {D0 : RD} (hr : 1 ≤ c0.rows ∧ c0.rows ≤ 60) (hc : 1 ≤ c0.cols ∧ c0.cols ≤ 120) (hg : H.get D0.p = some (.cells (refL c0 o D0) t_ref19_Grid false 0 false)) (hp : D0.p < H.next) (po : PastV H D0.past D0.pq) (pr : RowsR H D0.pq) (n1 : ¬ D0.past.at D0.p) (n2 : ¬ bl D0.pq D0.p) :
    ∃ H' D', X (d + 4) n_ref19_Grid_reset [P0 D0.p] H = some (.tuple #[], H') ∧ RRep H' D' (G.fresh c0.rows c0.cols (D0.pq.map Prod.snd)) ∧ D'.p = D0.p ∧ (D'.v0, D'.v1, D'.v2, D'.v3, D'.v4, D'.v5) = (D0.v0, D0.v1, D0.v2, D0.v3, D0.v4, D0.v5) ∧ D'.past = D0.past ∧ D'.pq = D0.pq ∧ Keep (fun k => k = D0.p) H H' ∧ (∀ k, D'.own k → k = D0.p ∨ H.next ≤ k) ∧ (∀ k, D'.rd k → D0.past.at k ∨ bl D0.pq k ∨ H.next ≤ k) := by
  rw [ref19_Grid_reset_eq, (ld1_s hg).trans (show (refL c0 o D0)[6]? = some (.int .i64 (c0.rows : Int)) from rfl)]
  simp only [optK_s, asI_s]
  rw [(ld1_s hg).trans (show (refL c0 o D0)[7]? = some (.int .i64 (c0.cols : Int)) from rfl)]
  simp only [optK_s, asI_s]
  obtain ⟨s, q, H6, e6, o6, r6, q6, f6, b6, d6, k6⟩ := rsheet_s d c0.rows c0.cols (by omega) (by omega) H
  rw [e6]
  simp only [callK_s, asSL_k]
  have g6 := k6.get hp hg
  obtain ⟨H8, e8, g8, k8, n8⟩ := cell_st g6 8 s.v (by show 8 < 39; omega) (L' := refL c0 o { D0 with cells := s }) rfl
  rw [e8]
  simp only [optK_s]
  obtain ⟨H9, e9, g9, k9, n9⟩ := cell_stN g8 9 [.int .i64 0, .int .i64 0, .bool false, .int .i32 0, .int .i64 0, .int .i64 0, .int .i64 0] (by show 9 + 7 ≤ 39; omega) (L' := refL { c0 with row := 0, col := 0, due := false, st := zeroC } o { D0 with cells := s }) rfl
  rw [e9]
  simp only [optK_s]
  obtain ⟨H10, e10, g10, k10, n10⟩ := cell_stN g9 16 [.int .i64 0, .int .i64 0, .bool false, .int .i32 0, .int .i64 0, .int .i64 0, .int .i64 0] (by show 16 + 7 ≤ 39; omega) (L' := refL { c0 with row := 0, col := 0, due := false, st := zeroC, srow := 0, scol := 0, sdue := false, sst := zeroC } o { D0 with cells := s }) rfl
  rw [e10]
  simp only [optK_s]
  obtain ⟨H11, e11, g11, k11, n11⟩ := cell_st g10 23 (.int .i64 0) (by show 23 < 39; omega) (L' := refL { c0 with row := 0, col := 0, due := false, st := zeroC, srow := 0, scol := 0, sdue := false, sst := zeroC, top := 0 } o { D0 with cells := s }) rfl
  rw [e11]
  simp only [optK_s]
  rw [(ld1_s g11).trans (show _ = some (.int .i64 (c0.rows : Int)) from rfl)]
  simp only [optK_s, asI_s]
  rw [show IntKind.wrap .i64 ((c0.rows : Int) - 1) = ((c0.rows - 1 : Nat) : Int) by rw [w64 (by omega)]; omega]
  obtain ⟨H14, e14, g14, k14, n14⟩ := cell_st g11 24 (.int .i64 ((c0.rows - 1 : Nat) : Int)) (by show 24 < 39; omega) (L' := refL { c0 with row := 0, col := 0, due := false, st := zeroC, srow := 0, scol := 0, sdue := false, sst := zeroC, top := 0, bottom := c0.rows - 1 } o { D0 with cells := s }) rfl
  rw [e14]
  simp only [optK_s]
  obtain ⟨H15, e15, g15, k15, n15⟩ := cell_st g14 25 (.bool true) (by show 25 < 39; omega) (L' := refL { c0 with row := 0, col := 0, due := false, st := zeroC, srow := 0, scol := 0, sdue := false, sst := zeroC, top := 0, bottom := c0.rows - 1, wrap := true } o { D0 with cells := s }) rfl
  rw [e15]
  simp only [optK_s]
  obtain ⟨H16, e16, g16, k16, n16⟩ := cell_st g15 26 (.bool false) (by show 26 < 39; omega) (L' := refL { c0 with row := 0, col := 0, due := false, st := zeroC, srow := 0, scol := 0, sdue := false, sst := zeroC, top := 0, bottom := c0.rows - 1, wrap := true, insert := false } o { D0 with cells := s }) rfl
  rw [e16]
  simp only [optK_s]
  obtain ⟨H17, e17, g17, k17, n17⟩ := cell_st g16 27 (.bool false) (by show 27 < 39; omega) (L' := refL (Sc.init c0.rows c0.cols) o { D0 with cells := s }) rfl
  rw [e17]
  simp only [optK_s]
  obtain ⟨H18, e18, g18, k18, n18⟩ := cell_st g17 29 (.bool false) (by show 29 < 39; omega) (L' := refL (Sc.init c0.rows c0.cols) false { D0 with cells := s }) rfl
  rw [e18]
  simp only [optK_s]
  obtain ⟨H19, e19, g19, k19, n19⟩ := cell_st g18 30 (.slice none 0 0) (by show 30 < 39; omega) (L' := refL (Sc.init c0.rows c0.cols) false { D0 with cells := s, away := Sl.nil }) rfl
  rw [e19]
  simp only [optK_s]
  obtain ⟨H20, e20, g20, k20, n20⟩ := cell_stN g19 31 [.int .i64 0, .int .i64 0, .bool false, .int .i32 0, .int .i64 0, .int .i64 0, .int .i64 0] (by show 31 + 7 ≤ 39; omega) (L' := refL (Sc.init c0.rows c0.cols) false { D0 with cells := s, away := Sl.nil, ar := 0, ac := 0, ad := false, ast := zeroC }) rfl
  rw [e20]
  simp only [optK_s]
  rw [(ld1_s g20).trans (show _ = some (.int .i64 (c0.cols : Int)) from rfl)]
  simp only [optK_s, asI_s]
  have kk : Keep (fun k => k = D0.p) H6 H20 := ((((((((((k8.trans k9 fun _ _ e => e).trans k10 fun _ _ e => e).trans k11 fun _ _ e => e).trans k14 fun _ _ e => e).trans k15 fun _ _ e => e).trans k16 fun _ _ e => e).trans k17 fun _ _ e => e).trans k18 fun _ _ e => e).trans k19 fun _ _ e => e).trans k20 fun _ _ e => e)
  have nn : H20.next = H6.next := by omega
  clear k8 k9 k10 k11 k14 k15 k16 k17 k18 k19 k20 g6 g8 g9 g10 g11 g14 g15 g16 g17 g18 g19
  rw [mk_bools (by omega)]
  simp only [asSL_s]
  have k24 : Keep0 H20 (H20.new (.cells ((List.replicate c0.cols false).map Value.bool) t_bool false 0 false)) := Keep.new _ _
  have w24 : Whole (H20.new (.cells ((List.replicate c0.cols false).map Value.bool) t_bool false 0 false)) ⟨some ⟨H20.next, 0, none⟩, c0.cols, c0.cols⟩ ((tabsTo c0.cols (8 * (0 + 1))).map Value.bool) t_bool 1 := .inr ⟨H20.next, c0.cols, rfl, by rw [List.length_map, tabsTo_len, Nat.mul_one], by simp, false, false, by rw [tabsTo_8]; simp⟩
  generalize H20.new (.cells ((List.replicate c0.cols false).map Value.bool) t_bool false 0 false) = H24 at *
  have n24 := k24.1
  have n6 := k6.1
  have g24 := k24.get (by omega) g20
  obtain ⟨H26, e26, g26, k26, n26⟩ := cell_st g24 28 (⟨some ⟨H20.next, 0, none⟩, c0.cols, c0.cols⟩ : Sl).v (by show 28 < 39; omega) (L' := refL (Sc.init c0.rows c0.cols) false { D0 with cells := s, away := Sl.nil, ar := 0, ac := 0, ad := false, ast := zeroC, tabs := ⟨some ⟨H20.next, 0, none⟩, c0.cols, c0.cols⟩ }) rfl
  rw [e26]
  simp only [optK_s]
  have w26 := Whole.keep w24 k26 fun k ⟨a, ha, e⟩ e' => by cases ha; have e'' : k = D0.p := e'; simp only at e; omega
  have k26' : Keep (fun k => k = D0.p) H6 H26 := (kk.trans k24.to fun _ _ e => e).trans k26 fun _ _ e => e
  have ty : ∀ k, Sl.at ⟨some ⟨H20.next, 0, none⟩, c0.cols, c0.cols⟩ k → k = H20.next := fun k ⟨a, ha, e⟩ => by cases ha; exact e.symm
  generalize hy : (⟨some ⟨H20.next, 0, none⟩, c0.cols, c0.cols⟩ : Sl) = y at *
  have yn : y.n = c0.cols := by rw [← hy]
  have loop : ∀ (m k : Nat) (H1 : Heap), c0.cols - 8 * (k + 1) < m → H1.get D0.p = some (.cells (refL (Sc.init c0.rows c0.cols) false { D0 with cells := s, away := Sl.nil, ar := 0, ac := 0, ad := false, ast := zeroC, tabs := y }) t_ref19_Grid false 0 false) → Whole H1 y ((tabsTo c0.cols (8 * (k + 1))).map Value.bool) t_bool 1 → Keep (fun k => k = D0.p) H6 H1 →
      ∃ H', ref19_Grid_reset_p11111111111110 (d + 3) m D0.p ((8 * (k + 1) : Nat) : Int) H1 = some (.tuple #[], H') ∧ H'.get D0.p = some (.cells (refL (Sc.init c0.rows c0.cols) false { D0 with cells := s, away := Sl.nil, ar := 0, ac := 0, ad := false, ast := zeroC, tabs := y }) t_ref19_Grid false 0 false) ∧ Whole H' y ((tabs0 c0.cols).map Value.bool) t_bool 1 ∧ Keep (fun k => k = D0.p) H6 H' := by
    intro m
    induction m with
    | zero => intro k H1 h; omega
    | succ m ih =>
      intro k H1 hm g1 w1 k1
      rw [ref19_Grid_reset_p11111111111110_s, (ld1_s g1).trans (show _ = some (.int .i64 (c0.cols : Int)) from rfl)]
      simp only [optK_s, asI_s]
      by_cases c : 8 * (k + 1) < c0.cols
      · rw [if_pos (show decide (((8 * (k + 1) : Nat) : Int) < (c0.cols : Int)) = true from decide_eq_true (by omega)), (ld1_s g1).trans (show _ = some y.v from rfl)]
        simp only [optK_s, asSL_k]
        obtain ⟨a, H2, ea, e2, w2, k2, n2⟩ := bools_st w1 (i := 8 * (k + 1)) (by rw [tabsTo_len]; exact c) true
        rw [ea]
        simp only [optK_s]
        rw [if_pos (show (0 : Int) ≤ ((8 * (k + 1) : Nat) : Int) ∧ ((8 * (k + 1) : Nat) : Int) < (y.n : Int) by omega), Int.toNat_natCast, e2]
        simp only [optK_s]
        rw [show IntKind.wrap .i64 (((8 * (k + 1) : Nat) : Int) + 8) = ((8 * (k + 1 + 1) : Nat) : Int) by rw [w64 (by omega)]; omega]
        rw [tabsTo_set c] at w2
        have np : ¬ y.at D0.p := fun e => by have := ty _ e; omega
        exact ih (k + 1) H2 (by omega) ((k2.2 _ (by have := k1.1; omega) np).trans g1) w2 (k1.trans k2 fun k hk e => by have := ty _ e; omega)
      · rw [if_neg (show ¬ decide (((8 * (k + 1) : Nat) : Int) < (c0.cols : Int)) = true by rw [decide_eq_true_eq]; omega)]
        rw [tabsTo_all (by omega)] at w1
        exact ⟨H1, rfl, g1, w1, k1⟩
  obtain ⟨H', e', g', w', k'⟩ := loop NN 0 H26 (NN_big _ (by omega)) g26 w26 k26'
  have nk := k'.1
  have hq : ∀ k, bl D0.pq k → k < H.next := fun k e => pr.lt e
  have hpa : ∀ k, D0.past.at k → k < H.next := fun k e => po.lt e
  have kall : Keep (fun k => k = D0.p) H H' := k6.to.trans k' fun _ _ e => e
  refine ⟨H', { D0 with cells := s, q := q, away := Sl.nil, aq := [], ar := 0, ac := 0, ad := false, ast := zeroC, tabs := y }, by rw [show (8 : Int) = ((8 * (0 + 1) : Nat) : Int) from rfl]; exact e', ⟨g', by show D0.p < H'.next; omega, RV.keep o6 k' fun k e e' => by have := f6 k e; have e'' : k = D0.p := e'; omega, r6.keep k' fun k e e' => by have := b6 k e; have e'' : k = D0.p := e'; omega, q6, w',
    ⟨rfl, rfl⟩, fun x hx => absurd hx List.not_mem_nil, po.keep kall fun k e e' => n1 (by have e'' : k = D0.p := e'; rw [← e'']; exact e), pr.keep kall fun k e e' => n2 (by have e'' : k = D0.p := e'; rw [← e'']; exact e), rfl, fun e => by have := f6 _ e; simp only at this; omega, Sl.at_nil, fun k _ => Sl.at_nil, fun k e e' => ?_⟩, rfl, rfl, rfl, rfl, kall, fun k e => ?_, fun k e => ?_⟩
  · have lt6 : ∀ k, s.at k → k < H6.next := fun k e => RV.lt o6 e
    rcases e with e | e | e
    · have ek : k = D0.p := e
      rcases e' with e' | e' | e' | e' | e'
      · have := b6 k e'; omega
      · exact bl_nil e'
      · exact n2 (ek ▸ e')
      · have := ty k e'; omega
      · exact n1 (ek ▸ e')
    · have h1 := f6 k e
      have h2 := lt6 k e
      rcases e' with e' | e' | e' | e' | e'
      · exact d6 k e e'
      · exact bl_nil e'
      · have := hq k e'; omega
      · have := ty k e'; omega
      · have := hpa k e'; omega
    · exact Sl.at_nil e
  · rcases e with e | e | e
    · exact .inl e
    · exact .inr (f6 k e)
    · exact absurd e Sl.at_nil
  · rcases e with e | e | e | e | e
    · exact .inr (.inr (b6 k e))
    · exact absurd e bl_nil
    · exact .inr (.inl e)
    · exact .inr (.inr (by have := ty k e; omega))
    · exact .inl e

theorem rNew_s (d : Nat) (H : Heap) {r c : Nat} (hr : 1 ≤ r ∧ r ≤ 60) (hc : 1 ≤ c ∧ c ≤ 120) :
    ∃ H' D, X (d + 5) n_ref19_New [.int .i64 (r : Int), .int .i64 (c : Int)] H = some (P0 D.p, H') ∧ RRep H' D (G.fresh r c []) ∧ (D.v0, D.v1, D.v2, D.v3, D.v4, D.v5) = (.slice none 0 0, .int .i64 0, .slice none 0 0, .bool false, .bool false, .bool false) ∧ Keep0 H H' ∧ (∀ k, D.own k → H.next ≤ k) ∧ (∀ k, D.rd k → H.next ≤ k) := by
  rw [ref19_New_eq, newK_s]
  let D0 : RD := ⟨H.next, .slice none 0 0, .int .i64 0, .slice none 0 0, .bool false, .bool false, .bool false, Sl.nil, [], Sl.nil, Sl.nil, [], 0, 0, false, zeroC, Sl.nil, []⟩
  let c0 : Sc := ⟨r, c, 0, 0, false, zeroC, 0, 0, false, zeroC, 0, 0, false, false, false, 0, 0, false, zeroC⟩
  have g1 : (H.new (.cells (refL c0 false D0) t_ref19_Grid false 0 false)).get D0.p = some (.cells (refL c0 false D0) t_ref19_Grid false 0 false) := by simp [D0]
  have k1 : Keep0 H (H.new (.cells (refL c0 false D0) t_ref19_Grid false 0 false)) := Keep.new _ _
  obtain ⟨H', D', e, h', p', v', _, _, k', o', f'⟩ := rreset_s d (c0 := c0) (o := false) (D0 := D0) hr hc g1 (by simp [D0]) (.inl ⟨rfl, rfl⟩) (fun x hx => absurd hx List.not_mem_nil) Sl.at_nil bl_nil
  have e2 : X (d + 4) n_ref19_Grid_reset [P0 H.next] (H.new (.cells [.slice none 0 0, .int .i64 0, .slice none 0 0, .bool false, .bool false, .bool false, .int .i64 r, .int .i64 c, .slice none 0 0, .int .i64 0, .int .i64 0, .bool false, .int .i32 0, .int .i64 0, .int .i64 0, .int .i64 0, .int .i64 0, .int .i64 0, .bool false, .int .i32 0, .int .i64 0, .int .i64 0, .int .i64 0, .int .i64 0, .int .i64 0, .bool false, .bool false, .bool false, .slice none 0 0, .bool false, .slice none 0 0, .int .i64 0, .int .i64 0, .bool false, .int .i32 0, .int .i64 0, .int .i64 0, .int .i64 0, .slice none 0 0] t_ref19_Grid false 0 false)) = some (.tuple #[], H') := e
  rw [e2]
  simp only [callK_s]
  have nx : (H.new (.cells (refL c0 false D0) t_ref19_Grid false 0 false)).next = H.next + 1 := by simp
  refine ⟨H', D', by rw [p'], h', v', k1.fresh k' fun k e => by have e' : k = H.next := e; omega, fun k e => ?_, fun k e => ?_⟩
  · rcases o' k e with e | e
    · have e' : k = H.next := e; omega
    · omega
  · rcases f' k e with e | e | e
    · exact absurd e Sl.at_nil
    · exact absurd e bl_nil
    · omega

section
variable {H : Heap} {D : RD} {g : G}
theorem resc_s (d : Nat) (h : RRep H D g) (w : WF g) (r : Int) :
    ∃ H' D', X (d + 6) n_ref19_Grid_esc [P0 D.p, .int .i32 r] H = some (.tuple #[], H') ∧ RRep H' D' (g.esc r) ∧ RStp H D H' D' := by
  have hr2 := w.r2; have hc2 := w.c2; have hr1 := w.r1; have hc1 := w.c1; have sr := w.srow; have scl := w.scol
  unfold G.esc
  by_cases c0 : r = 68 ∨ r = 69 ∨ r = 77
  · rw [if_pos c0]
    exact resc3_s d h w c0
  rw [if_neg c0, ref19_Grid_esc_eq, if_neg (show ¬ decide (r = 68) = true from dneg (by omega)), if_neg (show ¬ decide (r = 69) = true from dneg (by omega)), if_neg (show ¬ decide (r = 77) = true from dneg (by omega))]
  by_cases c1 : r = 55
  · rw [if_pos (show decide (r = 55) = true from decide_eq_true c1), if_pos c1, h.lda9]
    simp only [optK_s, asA_s]
    obtain ⟨H', e, h', s'⟩ := h.sta16 g.c.row g.c.col g.c.due g.c.st
    rw [e]
    exact ⟨H', D, rfl, h', s'⟩
  rw [if_neg (show ¬ decide (r = 55) = true from dneg c1), if_neg c1]
  by_cases c2 : r = 56
  · rw [if_pos (show decide (r = 56) = true from decide_eq_true c2), if_pos c2, h.lda16]
    simp only [optK_s, asA_s]
    obtain ⟨H1, e1, h1, s1⟩ := h.sta9 g.c.srow g.c.scol g.c.sdue g.c.sst
    rw [e1, h1.l9, h1.l6]
    simp only [optK_s, asI_s]
    have e : (if IntKind.wrap .i64 ((g.c.rows : Int) - 1) < (g.c.srow : Int) then IntKind.wrap .i64 ((g.c.rows : Int) - 1) else (g.c.srow : Int)) = ((min g.c.srow (g.c.rows - 1) : Nat) : Int) := by
      rw [w64 (by omega)]; split <;> omega
    rw [e]
    obtain ⟨H2, e2, h2, s2⟩ := h1.s9 (min g.c.srow (g.c.rows - 1))
    rw [e2]
    simp only [optK_s]
    rw [h2.l10, h2.l7]
    simp only [optK_s, asI_s]
    have e' : (if IntKind.wrap .i64 ((g.c.cols : Int) - 1) < (g.c.scol : Int) then IntKind.wrap .i64 ((g.c.cols : Int) - 1) else (g.c.scol : Int)) = ((min g.c.scol (g.c.cols - 1) : Nat) : Int) := by
      rw [w64 (by omega)]; split <;> omega
    rw [e']
    obtain ⟨H3, e3, h3, s3⟩ := h2.s10 (min g.c.scol (g.c.cols - 1))
    rw [e3]
    refine ⟨H3, D, rfl, ?_, (s1.trans s2).trans s3⟩
    unfold G.restore
    rw [move_eq (g := { g with c := { g.c with row := g.c.srow, col := g.c.scol, due := g.c.sdue, st := g.c.sst } }) (r' := min g.c.srow (g.c.rows - 1)) (c' := min g.c.scol (g.c.cols - 1)) (by show (min (max (g.c.srow : Int) 0) ((g.c.rows : Int) - 1)).toNat = _; omega) (by show (min (max (g.c.scol : Int) 0) ((g.c.cols : Int) - 1)).toNat = _; omega)]
    exact h3
  rw [if_neg (show ¬ decide (r = 56) = true from dneg c2), if_neg c2]
  by_cases c3 : r = 99
  · rw [if_pos (show decide (r = 99) = true from decide_eq_true c3), if_pos c3, h.l38]
    simp only [optK_s, asSL_k]
    have n1 : ¬ D.past.at D.p := fun e => h.s4 _ (.inl rfl) (.inr (.inr (.inr (.inr e))))
    have n2 : ¬ bl D.pq D.p := fun e => h.s4 _ (.inl rfl) (.inr (.inr (.inl e)))
    obtain ⟨H1, D1, e1, h1, p1, v1, a1, q1, k1, o1, f1⟩ := rreset_s (d + 1) (c0 := g.c) (o := g.other.isSome) (D0 := D) ⟨w.r1, w.r2⟩ ⟨w.c1, w.c2⟩ h.get h.lt h.po h.pr n1 n2
    rw [e1]
    simp only [callK_s]
    have s1 : RStp H D H1 D1 := ⟨p1, v1, k1.mono fun _ _ e => .inl e, fun k e => (o1 k e).imp (fun e => .inl e) id, fun k e => by
      rcases f1 k e with e | e | e
      · exact .inl (.inr (.inr (.inr (.inr e))))
      · exact .inl (.inr (.inr (.inl e)))
      · exact .inr e⟩
    obtain ⟨H2, e2, h2, n2, s2⟩ := h1.s38 h1.po h1.pr (fun k e e' => h1.s4 k e' (.inr (.inr (.inr (.inr e))))) (fun k e e' => h1.s4 k e' (.inr (.inr (.inl e))))
    rw [p1, a1] at e2
    rw [e2]
    refine ⟨H2, _, rfl, ?_, s2 s1 (fun k e => s1.fr k (.inr (.inr (.inr (.inr e))))) (fun k e => s1.fr k (.inr (.inr (.inl e))))⟩
    have : G.fresh g.c.rows g.c.cols g.past = { (G.fresh g.c.rows g.c.cols (D.pq.map Prod.snd)) with past := D1.pq.map Prod.snd } := by
      rw [q1, h.pL]; rfl
    rw [this]
    exact h2
  rw [if_neg (show ¬ decide (r = 99) = true from dneg c3), if_neg c3]
  by_cases c4 : r = 72
  · have hc := w.col; have ht := w.tn
    rw [if_pos (show decide (r = 72) = true from decide_eq_true c4), if_pos c4, newK_s, (h.new (Keep.new H (.cells [] t_bool false 0 false))).l28]
    simp only [optK_s, asSL_k]
    obtain ⟨y, H1, e1, w1, f1, yn, k1⟩ := h.clonetabs w
    rw [e1]
    simp only [asSL_k]
    have h1 := h.new k1
    rw [h1.l10]
    simp only [optK_s, asI_s]
    obtain ⟨a, H2, ea, e2, w2, k2, n2⟩ := bools_st w1 (i := g.c.col) (by omega) true
    rw [ea]
    simp only [optK_s]
    rw [if_pos (show (0 : Int) ≤ (g.c.col : Int) ∧ (g.c.col : Int) < (y.n : Int) by omega), Int.toNat_natCast, e2]
    simp only [optK_s]
    have k02 : Keep0 H H2 := k1.fresh k2 f1
    obtain ⟨H3, e3, h3, n3, s3⟩ := (h.new k02).s28 w2 (fun k e e' => by have := f1 k e; have := h.ltO e'; omega)
    rw [e3]
    exact ⟨H3, _, rfl, h3, s3 (RStp.new k02) fun k e => .inr (f1 k e)⟩
  rw [if_neg (show ¬ decide (r = 72) = true from dneg c4), if_neg c4]
  exact ⟨H, D, rfl, h, RStp.refl _ _⟩
end
end Go.Proofs.YtjmiehbiindjdaaGreatDoor.dec

namespace Go.Proofs.YtjmiehbiindjdaaGreatDoor.dec
open Go Go.Cm

attribute [local congr] optK_congr asI_congr asN_congr asB_congr asS_congr asP_congr asA_congr asSL_congr callK_congr castT_congr chk_congr

theorem eff_store7 {H H' : Heap} {p i : Nat} {vs : List Value} (hv : (cellsL (.agg ⟨vs⟩)).length = 7) (ho : (cellsL (.agg ⟨vs⟩)).all one = true) (e : Heap.stN H ⟨p, i, none⟩ vs = some H') (K : Value → Heap → Res) : effK (.store 7) [.pointer (some ⟨p, i, none⟩), .agg ⟨vs⟩] H K = K (.tuple #[]) H' := by
  simp only [effK]
  rw [if_neg (by omega), if_pos ⟨hv, ho, by omega⟩, show H.stN ⟨p, i, none⟩ (cellsL (.agg ⟨vs⟩)) = some H' from e]
  rfl
section
variable {H : Heap} {D : RD} {g : G}
/-- alternate is switched on -/
theorem RRep.altOn (d : Nat) (h : RRep H D g) (w : WF g) (ho : g.other = none) :
    ∃ H3 H7 H13 H15 H16 D' s, Heap.st1 H ⟨D.p, 30, none⟩ D.cells.v = some H3 ∧ ldA H3 ⟨D.p, 9, none⟩ 7 = some (.agg ⟨curL g.c.row g.c.col g.c.due g.c.st⟩) ∧ (∀ K : Value → Heap → Res, effK (.store 7) [.pointer (some ⟨D.p, 31, none⟩), .agg ⟨curL g.c.row g.c.col g.c.due g.c.st⟩] H3 K = K (.tuple #[]) H7) ∧
      Heap.ld1 H7 ⟨D.p, 6, none⟩ = some (.int .i64 (g.c.rows : Int)) ∧ Heap.ld1 H7 ⟨D.p, 7, none⟩ = some (.int .i64 (g.c.cols : Int)) ∧ X (d + 3) n_ref19_sheet [.int .i64 (g.c.rows : Int), .int .i64 (g.c.cols : Int)] H7 = some (Sl.v s, H13) ∧ Heap.st1 H13 ⟨D.p, 8, none⟩ s.v = some H15 ∧ Heap.st1 H15 ⟨D.p, 29, none⟩ (.bool true) = some H16 ∧
      RRep H16 D' (g.alternate true) ∧ RStp H D H16 D' := by
  have r1 := w.r1; have r2 := w.r2; have c2 := w.c2
  have hg := h.get
  rw [ho] at hg
  obtain ⟨H3, e3, g3, k3, n3⟩ := cell_st hg 30 D.cells.v (by show 30 < 39; omega) (L' := refL g.c false { D with away := D.cells }) rfl
  have l3 : ldA H3 ⟨D.p, 9, none⟩ 7 = some (.agg ⟨curL g.c.row g.c.col g.c.due g.c.st⟩) := by
    unfold ldA
    rw [ldN_s g3 (by show 9 + 7 ≤ 39; omega)]; rfl
  obtain ⟨H7, e7, g7, k7, n7⟩ := cell_stN g3 31 (curL g.c.row g.c.col g.c.due g.c.st) (by show 31 + 7 ≤ 39; omega) (L' := refL g.c false { D with away := D.cells, ar := g.c.row, ac := g.c.col, ad := g.c.due, ast := g.c.st }) rfl
  obtain ⟨s, q, H13, e13, o13, r13, q13, f13, b13, d13, k13⟩ := rsheet_s d g.c.rows g.c.cols (by omega) (by omega) H7
  have lt := h.lt
  have g13 := k13.get (by omega) g7
  obtain ⟨H15, e15, g15, k15, n15⟩ := cell_st g13 8 s.v (by show 8 < 39; omega) (L' := refL g.c false { D with away := D.cells, ar := g.c.row, ac := g.c.col, ad := g.c.due, ast := g.c.st, cells := s }) rfl
  obtain ⟨H16, e16, g16, k16, n16⟩ := cell_st g15 29 (.bool true) (by show 29 < 39; omega) (L' := refL (g.alternate true).c true { D with away := D.cells, aq := D.q, ar := g.c.row, ac := g.c.col, ad := g.c.due, ast := g.c.st, cells := s, q := q }) (by
    unfold G.alternate; rw [ho]; rfl)
  have kp : Keep (fun k => k = D.p) H H16 := (((k3.trans k7 fun _ _ e => e).trans k13.to fun _ _ e => e).trans k15 fun _ _ e => e).trans k16 fun _ _ e => e
  have kp13 : Keep (fun k => k = D.p) H13 H16 := k15.trans k16 fun _ _ e => e
  have n13 := k13.1
  have nr : ∀ k, D.rd k → ¬ k = D.p := fun k e e' => h.s4 k (.inl e') e
  have hf : ∀ k, s.at k → H.next ≤ k := fun k e => by have := f13 k e; omega
  have hb : ∀ k, bl q k → H.next ≤ k := fun k e => by have := b13 k e; omega
  refine ⟨H3, H7, H13, H15, H16, { D with away := D.cells, aq := D.q, ar := g.c.row, ac := g.c.col, ad := g.c.due, ast := g.c.st, cells := s, q := q }, s, e3, l3, fun K => eff_store7 rfl rfl e7 K, (ld1_s g7).trans rfl, (ld1_s g7).trans rfl, e13, e15, e16, ?_, ?_⟩
  · have eg : g.alternate true = { g with other := some g.L, L := List.replicate g.c.rows (List.replicate g.c.cols blank), c := { g.c with arow := g.c.row, acol := g.c.col, adue := g.c.due, ast := g.c.st } } := by
      unfold G.alternate; rw [ho]
    rw [eg] at g16 ⊢
    refine ⟨g16, by show D.p < H16.next; have := kp.1; omega, RV.keep o13 kp13 fun k e e' => by have := hf k e; have e'' : k = D.p := e'; omega, r13.keep kp13 fun k e e' => by have := hb k e; have e'' : k = D.p := e'; omega, q13, Whole.keep h.ta kp fun k e => nr k (.inr (.inr (.inr (.inl e)))),
      ⟨RV.keep h.co kp fun k e e' => h.s1 (by have e'' : k = D.p := e'; rw [← e'']; exact e), h.cL, rfl, rfl, rfl, rfl⟩, h.cr.keep kp fun k e => nr k (.inl e), h.po.keep kp fun k e => nr k (.inr (.inr (.inr (.inr e)))), h.pr.keep kp fun k e => nr k (.inr (.inr (.inl e))), h.pL, fun e => by have := hf _ e; simp only at this; omega, h.s1, fun k e e' => by have := hf k e; have := h.ltO (.inr (.inl e')); omega, fun k e e' => ?_⟩
    have old : D.own k → ¬ (bl D.q k ∨ bl D.pq k ∨ D.tabs.at k ∨ D.past.at k) := fun e e' => by
      rcases e' with e' | e' | e' | e'
      · exact h.s4 k e (.inl e')
      · exact h.s4 k e (.inr (.inr (.inl e')))
      · exact h.s4 k e (.inr (.inr (.inr (.inl e'))))
      · exact h.s4 k e (.inr (.inr (.inr (.inr e'))))
    have olt : (bl D.q k ∨ bl D.pq k ∨ D.tabs.at k ∨ D.past.at k) → k < H.next := fun e' => h.ltR (by
      rcases e' with e' | e' | e' | e'
      · exact .inl e'
      · exact .inr (.inr (.inl e'))
      · exact .inr (.inr (.inr (.inl e')))
      · exact .inr (.inr (.inr (.inr e'))))
    have sp : bl q k ∨ (bl D.q k ∨ bl D.pq k ∨ D.tabs.at k ∨ D.past.at k) := by
      rcases e' with e' | e' | e' | e' | e'
      · exact .inl e'
      · exact .inr (.inl e')
      · exact .inr (.inr (.inl e'))
      · exact .inr (.inr (.inr (.inl e')))
      · exact .inr (.inr (.inr (.inr e')))
    rcases e with e | e | e
    · have ek : k = D.p := e
      rcases sp with sp | sp
      · have := hb k sp; omega
      · exact old (.inl ek) sp
    · have h1 := hf k e
      rcases sp with sp | sp
      · exact d13 k e sp
      · have := olt sp; omega
    · rcases sp with sp | sp
      · have := hb k sp; have := h.ltO (.inr (.inl e)); omega
      · exact old (.inr (.inl e)) sp
  · refine ⟨rfl, rfl, kp.mono fun _ _ e => .inl e, fun k e => ?_, fun k e => ?_⟩
    · rcases e with e | e | e
      · exact .inl (.inl e)
      · exact .inr (hf k e)
      · exact .inl (.inr (.inl e))
    · rcases e with e | e | e | e | e
      · exact .inr (hb k e)
      · exact .inl (.inl e)
      · exact .inl (.inr (.inr (.inl e)))
      · exact .inl (.inr (.inr (.inr (.inl e))))
      · exact .inl (.inr (.inr (.inr (.inr e))))
/-- alternate is switched off -/
theorem RRep.altOff (h : RRep H D g) {M : List (List Cl)} (ho : g.other = some M) :
    ∃ H3 H7 H8 H16 D', Heap.st1 H ⟨D.p, 8, none⟩ D.away.v = some H3 ∧ ldA H3 ⟨D.p, 31, none⟩ 7 = some (.agg ⟨curL D.ar D.ac D.ad D.ast⟩) ∧ (∀ K : Value → Heap → Res, effK (.store 7) [.pointer (some ⟨D.p, 9, none⟩), .agg ⟨curL D.ar D.ac D.ad D.ast⟩] H3 K = K (.tuple #[]) H7) ∧
      Heap.st1 H7 ⟨D.p, 30, none⟩ (.slice none 0 0) = some H8 ∧ Heap.st1 H8 ⟨D.p, 29, none⟩ (.bool false) = some H16 ∧ RRep H16 D' (g.alternate false) ∧ RStp H D H16 D' := by
  have hg := h.get
  have hoo := h.oo
  rw [ho] at hg hoo
  obtain ⟨a1, a2, a3, a4, a5, a6⟩ := hoo
  obtain ⟨H3, e3, g3, k3, n3⟩ := cell_st hg 8 D.away.v (by show 8 < 39; omega) (L' := refL g.c true { D with cells := D.away }) rfl
  have l3 : ldA H3 ⟨D.p, 31, none⟩ 7 = some (.agg ⟨curL D.ar D.ac D.ad D.ast⟩) := by
    unfold ldA
    rw [ldN_s g3 (by show 31 + 7 ≤ 39; omega)]; rfl
  obtain ⟨H7, e7, g7, k7, n7⟩ := cell_stN g3 9 (curL D.ar D.ac D.ad D.ast) (by show 9 + 7 ≤ 39; omega) (L' := refL { g.c with row := D.ar, col := D.ac, due := D.ad, st := D.ast } true { D with cells := D.away }) rfl
  obtain ⟨H8, e8, g8, k8, n8⟩ := cell_st g7 30 (.slice none 0 0) (by show 30 < 39; omega) (L' := refL { g.c with row := D.ar, col := D.ac, due := D.ad, st := D.ast } true { D with cells := D.away, away := Sl.nil }) rfl
  have eg : g.alternate false = { g with L := M, other := none, c := { g.c with row := g.c.arow, col := g.c.acol, due := g.c.adue, st := g.c.ast, arow := 0, acol := 0, adue := false, ast := zeroC } } := by
    unfold G.alternate; rw [ho]
  obtain ⟨H16, e16, g16, k16, n16⟩ := cell_st g8 29 (.bool false) (by show 29 < 39; omega) (L' := refL (g.alternate false).c false { D with cells := D.away, q := D.aq, away := Sl.nil, aq := [] }) (by
    rw [eg, a3, a4, a5, a6]; rfl)
  have kp : Keep (fun k => k = D.p) H H16 := ((k3.trans k7 fun _ _ e => e).trans k8 fun _ _ e => e).trans k16 fun _ _ e => e
  have nr : ∀ k, D.rd k → ¬ k = D.p := fun k e e' => h.s4 k (.inl e') e
  have lt := h.lt
  refine ⟨H3, H7, H8, H16, { D with cells := D.away, q := D.aq, away := Sl.nil, aq := [] }, e3, l3, fun K => eff_store7 rfl rfl e7 K, e8, e16, ?_, ?_⟩
  · rw [eg] at g16 ⊢
    refine ⟨g16, by show D.p < H16.next; have := kp.1; omega, RV.keep a1 kp fun k e e' => h.s2 (by have e'' : k = D.p := e'; rw [← e'']; exact e), h.ar.keep kp fun k e => nr k (.inr (.inl e)), a2, Whole.keep h.ta kp fun k e => nr k (.inr (.inr (.inr (.inl e)))),
      ⟨rfl, rfl⟩, fun x hx => absurd hx List.not_mem_nil, h.po.keep kp fun k e => nr k (.inr (.inr (.inr (.inr e)))), h.pr.keep kp fun k e => nr k (.inr (.inr (.inl e))), h.pL, h.s2, Sl.at_nil, fun k _ => Sl.at_nil, fun k e e' => ?_⟩
    have eo : D.own k := by
      rcases e with e | e | e
      · exact .inl e
      · exact .inr (.inr e)
      · exact absurd e Sl.at_nil
    rcases e' with e' | e' | e' | e' | e'
    · exact h.s4 k eo (.inr (.inl e'))
    · exact bl_nil e'
    · exact h.s4 k eo (.inr (.inr (.inl e')))
    · exact h.s4 k eo (.inr (.inr (.inr (.inl e'))))
    · exact h.s4 k eo (.inr (.inr (.inr (.inr e'))))
  · refine ⟨rfl, rfl, kp.mono fun _ _ e => .inl e, fun k e => ?_, fun k e => ?_⟩
    · rcases e with e | e | e
      · exact .inl (.inl e)
      · exact .inl (.inr (.inr e))
      · exact absurd e Sl.at_nil
    · rcases e with e | e | e | e | e
      · exact .inl (.inr (.inl e))
      · exact absurd e bl_nil
      · exact .inl (.inr (.inr (.inl e)))
      · exact .inl (.inr (.inr (.inr (.inl e))))
      · exact .inl (.inr (.inr (.inr (.inr e))))
/-- the flag stays -/
theorem RRep.s29 (h : RRep H D g) {on : Bool} (ho : g.other.isSome = on) : ∃ H', Heap.st1 H ⟨D.p, 29, none⟩ (.bool on) = some H' ∧ RRep H' D g ∧ RStp H D H' D := by
  obtain ⟨H', e, g', k', n'⟩ := cell_st h.get 29 (.bool on) (by show 29 < 39; omega) (L' := refL g.c g.other.isSome D) (by rw [← ho]; rfl)
  have := h.setc g.c rfl rfl rfl rfl
  have e2 : Heap.st1 H ⟨D.p, 29, none⟩ (.bool on) = some (H.put D.p (.cells (refL g.c g.other.isSome D) t_ref19_Grid false 0 false)) := by
    rw [st1_s h.get (by show 29 < 39; omega) (by omega), ← ho]; rfl
  exact ⟨_, e2, this, RStp.setc D _⟩

theorem rmodes_loop (d : Nat) {H : Heap} {D : RD} {a : Act} {y : Sl} {b : Nat} (gb : H.get b = some (.cells (actL a y) t_vt_Act false 0 false)) (lb : b < H.next) (nb : ¬ D.own b) (wy : Whole H y (intL a.params) t_int 1) (ny : ∀ k, y.at k → ¬ D.own k) (hl : a.params.length ≤ 1000) (on : Bool) :
    ∀ (m i : Nat) {H1 : Heap} {D1 : RD} {g1 : G}, a.params.length - i < m → i ≤ a.params.length → RRep H1 D1 g1 → WF g1 → RStp H D H1 D1 →
      ∃ H' D', ref19_Grid_modes_p11110 (d + 3) m D.p (P0 b) on (i : Int) H1 = some (.tuple #[], H') ∧ RRep H' D' ((a.params.drop i).foldl (G.mode on) g1) ∧ WF ((a.params.drop i).foldl (G.mode on) g1) ∧ RStp H D H' D' := fun m => by
  induction m with
  | zero => intro i H1 D1 g1 hm; omega
  | succ m ih =>
    intro i H1 D1 g1 hm hi h1 w1 s1
    have g1b : H1.get b = some (.cells (actL a y) t_vt_Act false 0 false) := (s1.kp.2 b lb nb).trans gb
    have wy1 := Whole.keep wy s1.kp ny
    have yn : y.n = a.params.length := by have := (Whole.len wy).1; rw [intL_len] at this; omega
    rw [ref19_Grid_modes_p11110_s]
    simp only [P0, asP_s, optK_s]
    have l3 : Heap.ld1 H1 (ap ⟨b, 0, none⟩ 3) = some y.v := (ld1_s g1b).trans rfl
    rw [l3]
    simp only [optK_s, asSL_k]
    by_cases c : i < a.params.length
    · rw [if_pos (show decide ((i : Int) < (y.n : Int)) = true from decide_eq_true (by omega))]
      have hx : a.params[i]? = some a.params[i] := List.getElem?_eq_getElem c
      have hdr : a.params.drop i = a.params[i] :: a.params.drop (i + 1) := List.drop_eq_getElem_cons c
      generalize a.params[i] = n at hx hdr
      have hne : y.a ≠ none := by
        rcases wy1 with ⟨h1, h2⟩ | ⟨b', n', h1, _⟩
        · have : a.params.length = 0 := by rw [← intL_len, h2]; rfl
          omega
        · rw [h1]; simp
      obtain ⟨b', v, _⟩ := Vw.of wy1 hne
      have hld := v.ld (i := i) (x := .int .i64 n) (by rw [intL, List.getElem?_map, hx]; rfl)
      rw [v.sa]
      simp only [optK_s]
      rw [if_pos (show (0 : Int) ≤ (i : Int) ∧ (i : Int) < (y.n : Int) by omega), Int.toNat_natCast, show ap ⟨b', ([] : List Value).length, none⟩ (i * 1) = ⟨b', ([] : List Value).length + i, none⟩ by simp [ap], hld]
      simp only [optK_s, asI_s]
      rw [hdr, List.foldl_cons]
      have next : ∀ {H2 : Heap} {D2 : RD}, RRep H2 D2 (g1.mode on n) → RStp H D H2 D2 → ∃ H' D', ref19_Grid_modes_p11110011 (d + 3) m D.p (.pointer (some ⟨b, 0, none⟩)) on (i : Int) H2 = some (.tuple #[], H') ∧ RRep H' D' ((a.params.drop (i + 1)).foldl (G.mode on) (g1.mode on n)) ∧ WF ((a.params.drop (i + 1)).foldl (G.mode on) (g1.mode on n)) ∧ RStp H D H' D' := fun h2 s2 => by
        rw [ref19_Grid_modes_p11110011_eq, wi (by omega)]
        exact ih (i + 1) (by omega) (by omega) h2 (w1.mode on n) s2
      rw [← s1.p] at next ⊢
      by_cases c7 : n = 7
      · rw [if_pos (show decide (n = 7) = true from decide_eq_true c7)]
        have em : g1.mode on n = { g1 with c := { g1.c with wrap := on, due := g1.c.due && on } } := by unfold G.mode; rw [if_pos c7]
        obtain ⟨H2, e2, h2, s2⟩ := h1.s25 on
        rw [e2]
        simp only [optK_s]
        rw [h2.l11]
        simp only [optK_s, asB_s]
        cases hd : g1.c.due with
        | true =>
          rw [if_pos rfl]
          obtain ⟨H3, e3, h3, s3⟩ := h2.s11 on
          rw [e3]
          simp only [optK_s]
          exact next (by rw [em, hd]; exact h3) ((s1.trans s2).trans s3)
        | false =>
          rw [if_neg ff]
          obtain ⟨H3, e3, h3, s3⟩ := h2.s11 false
          rw [e3]
          simp only [optK_s]
          exact next (by rw [em, hd]; exact h3) ((s1.trans s2).trans s3)
      rw [if_neg (show ¬ decide (n = 7) = true from dneg c7)]
      by_cases c25 : n = 25
      · rw [if_pos (show decide (n = 25) = true from decide_eq_true c25)]
        have em : g1.mode on n = { g1 with c := { g1.c with hidden := !on } } := by unfold G.mode; rw [if_neg c7, if_pos c25]
        obtain ⟨H2, e2, h2, s2⟩ := h1.s27 (!on)
        rw [e2]
        simp only [optK_s]
        exact next (by rw [em]; exact h2) (s1.trans s2)
      rw [if_neg (show ¬ decide (n = 25) = true from dneg c25)]
      by_cases c49 : n = 1049
      · rw [if_pos (show decide (n = 1049) = true from decide_eq_true c49)]
        have em : g1.mode on n = g1.alternate on := by unfold G.mode; rw [if_neg c7, if_neg c25, if_pos c49]
        rw [em] at next ⊢
        cases on with
        | true =>
          rw [if_pos rfl, h1.l29]
          simp only [optK_s, asB_s]
          cases ho : g1.other with
          | none =>
            obtain ⟨H3, H7, H13, H15, H16, D', s, e3, l3, e7, l6, l7, e13, e15, e16, h16, s16⟩ := h1.altOn d w1 ho
            rw [show (!(none : Option (List (List Cl))).isSome) = true from rfl, ref19_Grid_modes_p1111001001011111001_eq, if_pos rfl, h1.l8]
            simp only [optK_s, asSL_k]
            rw [e3]
            simp only [optK_s]
            rw [l3]
            simp only [optK_s, asA_s]
            rw [e7, l6, l7]
            simp only [optK_s, asI_s]
            rw [e13]
            simp only [callK_s, asSL_k]
            rw [e15]
            simp only [optK_s]
            rw [ref19_Grid_modes_p111100100101111101_eq, if_neg (by simp), ref19_Grid_modes_p111100100101111101001_eq, if_neg ff, ref19_Grid_modes_p11110010010111110101_eq, e16]
            simp only [optK_s]
            exact next h16 (s1.trans s16)
          | some M =>
            rw [show (!(some M : Option (List (List Cl))).isSome) = false from rfl, ref19_Grid_modes_p1111001001011111001_eq, if_neg ff, ref19_Grid_modes_p111100100101111101_eq, if_neg (by simp), ref19_Grid_modes_p111100100101111101001_eq, if_neg ff, ref19_Grid_modes_p11110010010111110101_eq]
            obtain ⟨H2, e2, h2, s2⟩ := h1.s29 (on := true) (by rw [ho]; rfl)
            rw [e2]
            simp only [optK_s]
            exact next (by unfold G.alternate; rw [ho]; exact h2) (s1.trans s2)
        | false =>
          rw [if_neg ff, ref19_Grid_modes_p1111001001011111001_eq, if_neg ff, ref19_Grid_modes_p111100100101111101_eq, if_pos (show (!false) = true from rfl), h1.l29]
          simp only [optK_s, asB_s]
          cases ho : g1.other with
          | none =>
            rw [show (none : Option (List (List Cl))).isSome = false from rfl, ref19_Grid_modes_p111100100101111101001_eq, if_neg ff, ref19_Grid_modes_p11110010010111110101_eq]
            obtain ⟨H2, e2, h2, s2⟩ := h1.s29 (on := false) (by rw [ho]; rfl)
            rw [e2]
            simp only [optK_s]
            exact next (by unfold G.alternate; rw [ho]; exact h2) (s1.trans s2)
          | some M =>
            obtain ⟨H3, H7, H8, H16, D', e3, l3, e7, e8, e16, h16, s16⟩ := h1.altOff ho
            rw [show (some M : Option (List (List Cl))).isSome = true from rfl, ref19_Grid_modes_p111100100101111101001_eq, if_pos rfl, h1.l30]
            simp only [optK_s, asSL_k]
            rw [e3]
            simp only [optK_s]
            rw [l3]
            simp only [optK_s, asA_s]
            rw [e7, e8]
            simp only [optK_s]
            rw [ref19_Grid_modes_p11110010010111110101_eq, e16]
            simp only [optK_s]
            exact next h16 (s1.trans s16)
      · rw [if_neg (show ¬ decide (n = 1049) = true from dneg c49)]
        exact next (by unfold G.mode; rw [if_neg c7, if_neg c25, if_neg c49]; exact h1) s1
    · have : i = a.params.length := by omega
      subst this
      rw [if_neg (show ¬ decide (((a.params.length : Nat) : Int) < (y.n : Int)) = true from dneg (by omega)), List.drop_length]
      exact ⟨H1, D1, rfl, h1, w1, s1⟩
theorem rmodes_s (d : Nat) (h : RRep H D g) (w : WF g) {a : Act} {y : Sl} (wy : Whole H y (intL a.params) t_int 1) (ny : ∀ k, y.at k → ¬ D.own k) (hl : a.params.length ≤ 1000) :
    ∃ H' D', X (d + 4) n_ref19_Grid_modes [P0 D.p, .agg ⟨actL a y⟩] H = some (.tuple #[], H') ∧ RRep H' D' (g.modes a) ∧ WF (g.modes a) ∧ RStp H D H' D' := by
  rw [ref19_Grid_modes_eq, boxA]
  have k1 : Keep0 H (H.new (.cells (actL a y) t_vt_Act false 0 false)) := Keep.new _ _
  have g1 : (H.new (.cells (actL a y) t_vt_Act false 0 false)).get H.next = some (.cells (actL a y) t_vt_Act false 0 false) := by simp
  have n1 : (H.new (.cells (actL a y) t_vt_Act false 0 false)).next = H.next + 1 := by simp
  generalize H.new (.cells (actL a y) t_vt_Act false 0 false) = H1 at *
  have h1 := h.new k1
  have wy1 := Whole.keep wy k1 fun _ _ e => e
  simp only [P0, asP_s, optK_s]
  have lr : Heap.ld1 H1 (ap ⟨H.next, 0, none⟩ 1) = some (.int .i32 a.rune) := (ld1_s g1).trans rfl
  rw [lr]
  simp only [optK_s, asI_s]
  unfold G.modes
  have none' : ∀ z, z = true → ¬ (a.rune = 104 ∨ a.rune = 108) → ∃ H' D', ref19_Grid_modes_p101 (d + 3) D.p (.pointer (some ⟨H.next, 0, none⟩)) z H1 = some (.tuple #[], H') ∧ RRep H' D' (if a.rune = 104 ∨ a.rune = 108 then a.params.foldl (G.mode (decide (a.rune = 104))) g else g) ∧ WF (if a.rune = 104 ∨ a.rune = 108 then a.params.foldl (G.mode (decide (a.rune = 104))) g else g) ∧ RStp H D H' D' := fun z hz hn => by
    rw [ref19_Grid_modes_p101_eq, if_pos hz, if_neg hn]
    exact ⟨H1, D, rfl, h1, w, RStp.new k1⟩
  have some' : ∀ z, z = false → (a.rune = 104 ∨ a.rune = 108) → ∃ H' D', ref19_Grid_modes_p101 (d + 3) D.p (.pointer (some ⟨H.next, 0, none⟩)) z H1 = some (.tuple #[], H') ∧ RRep H' D' (if a.rune = 104 ∨ a.rune = 108 then a.params.foldl (G.mode (decide (a.rune = 104))) g else g) ∧ WF (if a.rune = 104 ∨ a.rune = 108 then a.params.foldl (G.mode (decide (a.rune = 104))) g else g) ∧ RStp H D H' D' := fun z hz hn => by
    rw [ref19_Grid_modes_p101_eq, if_neg (by rw [hz]; simp), if_pos hn]
    simp only [asP_s, optK_s]
    rw [lr]
    simp only [optK_s, asI_s]
    obtain ⟨H', D', e, h', w', s'⟩ := rmodes_loop d g1 (by omega) (fun e => by have := h.ltO e; omega) wy1 ny hl (decide (a.rune = 104)) NN 0 (NN_big _ (by omega)) (by omega) h1 w (RStp.refl H1 D)
    exact ⟨H', D', e, h', w', (RStp.new k1).trans s'⟩
  by_cases c4 : a.rune = 104
  · rw [if_neg (show ¬ (!decide (a.rune = 104)) = true by rw [decide_eq_true c4]; simp)]
    exact some' _ rfl (.inl c4)
  · rw [if_pos (show (!decide (a.rune = 104)) = true by rw [decide_eq_false c4]; rfl)]
    by_cases c8 : a.rune = 108
    · exact some' _ (by rw [decide_eq_true c8]; rfl) (.inr c8)
    · exact none' _ (by rw [decide_eq_false c8]; rfl) (by omega)
end
end Go.Proofs.YtjmiehbiindjdaaGreatDoor.dec

namespace Go.Proofs.YtjmiehbiindjdaaGreatDoor.dec
open Go Go.Cm

def wipeR (l : List Cl) (o f t : Nat) : List Cl := l.mapIdx fun k c => if f ≤ o + k ∧ o + k < t then blank else c
def wipeAt (L : List (List Cl)) (C f t : Nat) : List (List Cl) := L.mapIdx fun a l => wipeR l (a * C) f t
theorem wipeR_eq {l : List Cl} {o f t : Nat} (h : f ≤ t) : wipeR l o f t = wipeL l (min (f - o) l.length) (min (t - o) l.length) := by
  apply List.ext_getElem?
  intro i
  unfold wipeR wipeL
  have a1 : (l.take (min (f - o) l.length)).length = min (f - o) l.length := by rw [List.length_take]; omega
  rw [List.getElem?_mapIdx]
  by_cases c0 : i < l.length
  · rw [List.getElem?_eq_getElem c0, Option.map_some]
    by_cases c1 : i < min (f - o) l.length
    · rw [List.getElem?_append_left (by omega), List.getElem?_take_of_lt c1, if_neg (by omega), List.getElem?_eq_getElem c0]
    rw [List.getElem?_append_right (by omega), a1]
    by_cases c2 : i < min (t - o) l.length
    · rw [List.getElem?_append_left (by rw [List.length_replicate]; omega), List.getElem?_replicate, if_pos (by omega), if_pos (by omega)]
    · rw [List.getElem?_append_right (by rw [List.length_replicate]; omega), List.length_replicate, List.getElem?_drop, if_neg (by omega), show min (t - o) l.length + (i - min (f - o) l.length - (min (t - o) l.length - min (f - o) l.length)) = i by omega, List.getElem?_eq_getElem c0]
  · rw [List.getElem?_eq_none (by omega), List.getElem?_eq_none]; · rfl
    rw [List.length_append, List.length_append, a1, List.length_replicate, List.length_drop]; omega
theorem wipeR_none {l : List Cl} {o f t : Nat} (h : t ≤ o ∨ o + l.length ≤ f ∨ t ≤ f) : wipeR l o f t = l := by
  apply List.ext_getElem?
  intro i
  unfold wipeR
  rw [List.getElem?_mapIdx]
  by_cases c0 : i < l.length
  · rw [List.getElem?_eq_getElem c0, Option.map_some, if_neg (by omega)]
  · rw [List.getElem?_eq_none (by omega)]; rfl
/-- one place more -/
theorem wipe_step {L : List (List Cl)} {C f i : Nat} (hf : f ≤ i) (hw : ∀ l ∈ L, l.length = C) (hC : 0 < C) : wipeAt L C f (i + 1) = (wipeAt L C f i).modify (i / C) fun l => l.set (i % C) blank := by
  have hd := Nat.div_add_mod i C
  have hm := Nat.mod_lt i hC
  apply List.ext_getElem?
  intro a
  rw [List.getElem?_modify]
  unfold wipeAt
  rw [List.getElem?_mapIdx, List.getElem?_mapIdx]
  cases hL : L[a]? with
  | none => simp
  | some l =>
    have hl := hw l (List.mem_of_getElem? hL)
    simp only [Option.map_some]
    congr 1
    apply List.ext_getElem?
    intro k
    by_cases ca : i / C = a
    · subst ca
      show (wipeR l (i / C * C) f (i + 1))[k]? = (if i / C = i / C then (wipeR l (i / C * C) f i).set (i % C) blank else wipeR l (i / C * C) f i)[k]?
      rw [if_pos rfl, List.getElem?_set]
      unfold wipeR
      rw [List.length_mapIdx, List.getElem?_mapIdx, List.getElem?_mapIdx, hl]
      rw [Nat.mul_comm] at hd
      by_cases ck : i % C = k
      · subst ck
        rw [if_pos rfl, if_pos hm, List.getElem?_eq_getElem (by omega), Option.map_some, if_pos (by omega)]
      · rw [if_neg ck]
        congr 1
        funext c
        by_cases c1 : f ≤ i / C * C + k ∧ i / C * C + k < i
        · rw [if_pos c1, if_pos (by omega)]
        · rw [if_neg c1, if_neg (by omega)]
    · show (wipeR l (a * C) f (i + 1))[k]? = (if i / C = a then (wipeR l (a * C) f i).set (i % C) blank else wipeR l (a * C) f i)[k]?
      rw [if_neg ca]
      by_cases ck : k < C
      · unfold wipeR
        rw [List.getElem?_mapIdx, List.getElem?_mapIdx]
        congr 1
        funext c
        have ne : a * C + k ≠ i := fun e => ca (by rw [← e, Nat.mul_comm, Nat.mul_add_div hC, Nat.div_eq_of_lt ck]; omega)
        by_cases c1 : f ≤ a * C + k ∧ a * C + k < i
        · rw [if_pos c1, if_pos (by omega)]
        · rw [if_neg c1, if_neg (by omega)]
      · unfold wipeR
        rw [List.getElem?_eq_none (by rw [List.length_mapIdx]; omega), List.getElem?_eq_none (by rw [List.length_mapIdx]; omega)]
theorem wipe_zero (L : List (List Cl)) (C f : Nat) : wipeAt L C f f = L := by
  apply List.ext_getElem?
  intro a
  unfold wipeAt
  rw [List.getElem?_mapIdx]
  cases hL : L[a]? with
  | none => rfl
  | some l => rw [Option.map_some, wipeR_none (by omega)]
/-- in one row -/
theorem wipe_one {L : List (List Cl)} {C r x y : Nat} (hw : ∀ l ∈ L, l.length = C) (hxy : x ≤ y) (hy : y ≤ C) : wipeAt L C (r * C + x) (r * C + y) = L.modify r fun l => wipeL l x y := by
  apply List.ext_getElem?
  intro a
  rw [List.getElem?_modify]
  unfold wipeAt
  rw [List.getElem?_mapIdx]
  cases hL : L[a]? with
  | none => rfl
  | some l =>
    have hl := hw l (List.mem_of_getElem? hL)
    rw [Option.map_some]
    show some (wipeR l (a * C) (r * C + x) (r * C + y)) = some (if r = a then wipeL l x y else l)
    congr 1
    by_cases c : r = a
    · subst c
      rw [if_pos rfl, wipeR_eq (by omega), Nat.add_sub_cancel_left, Nat.add_sub_cancel_left, hl, Nat.min_eq_left (by omega), Nat.min_eq_left hy]
    · rw [if_neg c]
      rcases Nat.lt_or_ge a r with h | h
      · have : (a + 1) * C ≤ r * C := Nat.mul_le_mul_right C h
        rw [Nat.succ_mul] at this
        exact wipeR_none (.inr (.inl (by omega)))
      · have : (r + 1) * C ≤ a * C := Nat.mul_le_mul_right C (by omega)
        rw [Nat.succ_mul] at this
        exact wipeR_none (.inl (by omega))
end Go.Proofs.YtjmiehbiindjdaaGreatDoor.dec

namespace Go.Proofs.YtjmiehbiindjdaaGreatDoor.dec
open Go Go.Cm

theorem wipeIfs_L (p : Int) (row : Nat) (g : G) : ∀ n, ((List.range n).foldl (G.wipeIf p row) g).L = g.L.mapIdx fun a l => if a < n ∧ gone p row a then wipeL l 0 g.c.cols else l := fun n => by
  induction n with
  | zero =>
    apply List.ext_getElem?
    intro a
    rw [List.getElem?_mapIdx]
    cases h : g.L[a]? with
    | none => exact h
    | some l => exact h.trans (by rw [Option.map_some, if_neg (by omega)])
  | succ n ih =>
    rw [List.range_succ, List.foldl_append, List.foldl_cons, List.foldl_nil]
    have hc := wipeIfs_c p row (List.range n) g
    generalize (List.range n).foldl (G.wipeIf p row) g = g' at ih hc
    apply List.ext_getElem?
    intro a
    have h1 : (G.wipeIf p row g' n).L = if gone p row n then g'.L.modify n (fun l => wipeL l 0 g.c.cols) else g'.L := by
      unfold G.wipeIf
      split
      · show g'.L.modify n (fun l => wipeL l 0 g'.c.cols) = _
        rw [hc]
      · rfl
    rw [h1, List.getElem?_mapIdx]
    by_cases c : gone p row n
    · rw [if_pos c, List.getElem?_modify, ih, List.getElem?_mapIdx]
      cases g.L[a]? with
      | none => rfl
      | some l =>
        show some (if n = a then wipeL (if a < n ∧ gone p row a then wipeL l 0 g.c.cols else l) 0 g.c.cols else (if a < n ∧ gone p row a then wipeL l 0 g.c.cols else l)) = some (if a < n + 1 ∧ gone p row a then wipeL l 0 g.c.cols else l)
        congr 1
        by_cases e : n = a
        · subst e
          rw [if_pos rfl, if_neg (by omega), if_pos ⟨by omega, c⟩]
        · rw [if_neg e]
          by_cases e2 : a < n ∧ gone p row a
          · rw [if_pos e2, if_pos ⟨by omega, e2.2⟩]
          · rw [if_neg e2, if_neg fun h => e2 ⟨by omega, h.2⟩]
    · rw [if_neg c, ih, List.getElem?_mapIdx]
      cases g.L[a]? with
      | none => rfl
      | some l =>
        simp only [Option.map_some]
        congr 1
        by_cases e2 : a < n ∧ gone p row a
        · rw [if_pos e2, if_pos ⟨by omega, e2.2⟩]
        · rw [if_neg e2, if_neg fun h => e2 ⟨by
            rcases Nat.lt_or_eq_of_le (Nat.le_of_lt_succ h.1) with h' | h'
            · exact h'
            · subst h'; exact absurd h.2 c, h.2⟩]
theorem gone0 (row a : Nat) : gone 0 row a ↔ row < a := by unfold gone; constructor <;> intro h <;> omega
theorem gone1 (row a : Nat) : gone 1 row a ↔ a < row := by unfold gone; constructor <;> intro h <;> omega
theorem gone2 (row a : Nat) : gone 2 row a := .inl rfl
theorem mul_lt_rows {a r C : Nat} (h : a < r) : a * C + C ≤ r * C := by
  have := Nat.mul_le_mul_right C (show a + 1 ≤ r by omega)
  rw [Nat.succ_mul] at this
  exact this
/-- the whole of a row is wiped -/
theorem wipeR_all {l : List Cl} {C o f t : Nat} (hl : l.length = C) (h1 : f ≤ o) (h2 : o + C ≤ t) : wipeR l o f t = wipeL l 0 C := by
  rw [wipeR_eq (by omega), hl, show min (f - o) C = 0 by omega, show min (t - o) C = C by omega]
theorem wipeL_all {l : List Cl} {C x y : Nat} (hl : l.length = C) (hx : x ≤ y) (hy : y ≤ C) : wipeL (wipeL l x y) 0 C = wipeL l 0 C := by
  have := wipeL_len (l := l) hx (by omega)
  unfold wipeL at this ⊢
  rw [List.take_zero, List.take_zero, List.drop_eq_nil_of_le (by omega), List.drop_eq_nil_of_le (by omega)]
theorem erase0_L {g : G} (w : WF g) : (g.erase 0).L = wipeAt g.L g.c.cols (g.c.row * g.c.cols + g.c.col) (g.c.rows * g.c.cols) := by
  have hcol := w.col; have hrow := w.row
  unfold G.erase
  rw [if_neg (by omega), wipeIfs_L, eraseLine_c]
  show (g.L.modify g.c.row fun l => wipeL l g.c.col g.c.cols).mapIdx _ = _
  apply List.ext_getElem?
  intro a
  unfold wipeAt
  rw [List.getElem?_mapIdx, List.getElem?_mapIdx, List.getElem?_modify]
  cases hL : g.L[a]? with
  | none => rfl
  | some l =>
    have hl := w.Lw l (List.mem_of_getElem? hL)
    have ha : a < g.c.rows := by rw [← w.Ln]; exact (List.getElem?_eq_some_iff.1 hL).1
    have hm := mul_lt_rows (C := g.c.cols) ha
    show some (if a < g.c.rows ∧ gone 0 g.c.row a then wipeL (if g.c.row = a then wipeL l g.c.col g.c.cols else l) 0 g.c.cols else (if g.c.row = a then wipeL l g.c.col g.c.cols else l)) = some (wipeR l (a * g.c.cols) (g.c.row * g.c.cols + g.c.col) (g.c.rows * g.c.cols))
    congr 1
    rcases Nat.lt_trichotomy a g.c.row with h | h | h
    · have := mul_lt_rows (C := g.c.cols) h
      rw [if_neg (fun e => by have := (gone0 _ _).1 e.2; omega), if_neg (by omega), wipeR_none (.inr (.inl (by omega)))]
    · subst h
      rw [if_neg (fun e => by have := (gone0 _ _).1 e.2; omega), if_pos rfl, wipeR_eq (by omega), hl, show min (g.c.row * g.c.cols + g.c.col - g.c.row * g.c.cols) g.c.cols = g.c.col by omega, show min (g.c.rows * g.c.cols - g.c.row * g.c.cols) g.c.cols = g.c.cols by omega]
    · have := mul_lt_rows (C := g.c.cols) h
      rw [if_pos ⟨ha, (gone0 _ _).2 h⟩, if_neg (by omega), wipeR_all hl (by omega) (by omega)]
theorem erase1_L {g : G} (w : WF g) : (g.erase 1).L = wipeAt g.L g.c.cols 0 (g.c.row * g.c.cols + g.c.col + 1) := by
  have hcol := w.col; have hrow := w.row
  unfold G.erase
  rw [if_neg (by omega), wipeIfs_L, eraseLine_c]
  show (g.L.modify g.c.row fun l => wipeL l 0 (g.c.col + 1)).mapIdx _ = _
  apply List.ext_getElem?
  intro a
  unfold wipeAt
  rw [List.getElem?_mapIdx, List.getElem?_mapIdx, List.getElem?_modify]
  cases hL : g.L[a]? with
  | none => rfl
  | some l =>
    have hl := w.Lw l (List.mem_of_getElem? hL)
    have ha : a < g.c.rows := by rw [← w.Ln]; exact (List.getElem?_eq_some_iff.1 hL).1
    show some (if a < g.c.rows ∧ gone 1 g.c.row a then wipeL (if g.c.row = a then wipeL l 0 (g.c.col + 1) else l) 0 g.c.cols else (if g.c.row = a then wipeL l 0 (g.c.col + 1) else l)) = some (wipeR l (a * g.c.cols) 0 (g.c.row * g.c.cols + g.c.col + 1))
    congr 1
    rcases Nat.lt_trichotomy a g.c.row with h | h | h
    · have := mul_lt_rows (C := g.c.cols) h
      rw [if_pos ⟨ha, (gone1 _ _).2 h⟩, if_neg (by omega), wipeR_all hl (by omega) (by omega)]
    · subst h
      rw [if_neg (fun e => by have := (gone1 _ _).1 e.2; omega), if_pos rfl, wipeR_eq (by omega), hl, show min (0 - g.c.row * g.c.cols) g.c.cols = 0 by omega, show min (g.c.row * g.c.cols + g.c.col + 1 - g.c.row * g.c.cols) g.c.cols = g.c.col + 1 by omega]
    · have := mul_lt_rows (C := g.c.cols) h
      rw [if_neg (fun e => by have := (gone1 _ _).1 e.2; omega), if_neg (by omega), wipeR_none (.inl (by omega))]
theorem erase2_L {g : G} (w : WF g) : (g.erase 2).L = wipeAt g.L g.c.cols 0 (g.c.rows * g.c.cols) := by
  have hcol := w.col; have hrow := w.row
  unfold G.erase
  rw [if_neg (by omega), wipeIfs_L, eraseLine_c]
  show (g.L.modify g.c.row fun l => wipeL l 0 g.c.cols).mapIdx _ = _
  apply List.ext_getElem?
  intro a
  unfold wipeAt
  rw [List.getElem?_mapIdx, List.getElem?_mapIdx, List.getElem?_modify]
  cases hL : g.L[a]? with
  | none => rfl
  | some l =>
    have hl := w.Lw l (List.mem_of_getElem? hL)
    have ha : a < g.c.rows := by rw [← w.Ln]; exact (List.getElem?_eq_some_iff.1 hL).1
    have hm := mul_lt_rows (C := g.c.cols) ha
    show some (if a < g.c.rows ∧ gone 2 g.c.row a then wipeL (if g.c.row = a then wipeL l 0 g.c.cols else l) 0 g.c.cols else (if g.c.row = a then wipeL l 0 g.c.cols else l)) = some (wipeR l (a * g.c.cols) 0 (g.c.rows * g.c.cols))
    congr 1
    rw [if_pos ⟨ha, gone2 _ _⟩, wipeR_all hl (by omega) (by omega)]
    split
    · exact wipeL_all hl (by omega) (by omega)
    · rfl
theorem cut88 (l : List Cl) (col n : Nat) : cutL l col 88 n = wipeL l col (col + min n (l.length - col)) := by
  unfold cutL wipeL
  rw [if_neg (show ¬ ((88 : Int) = 64) by decide), if_neg (show ¬ ((88 : Int) = 80) by decide), Nat.add_sub_cancel_left, List.drop_drop]
end Go.Proofs.YtjmiehbiindjdaaGreatDoor.dec

namespace Go.Proofs.YtjmiehbiindjdaaGreatDoor.dec
open Go Go.Cm

attribute [local congr] optK_congr asI_congr asN_congr asB_congr asS_congr asP_congr asA_congr asSL_congr callK_congr castT_congr chk_congr

theorem wipeR_len (l : List Cl) (o f t : Nat) : (wipeR l o f t).length = l.length := by unfold wipeR; rw [List.length_mapIdx]
theorem WF.wipeAt {g : G} (w : WF g) (C f t : Nat) : WF { g with L := wipeAt g.L C f t } := by
  refine w.setL (by unfold dec.wipeAt; rw [List.length_mapIdx]; exact w.Ln) fun l hl => ?_
  obtain ⟨j, hj, e⟩ := List.getElem_of_mem hl
  unfold dec.wipeAt at e hj
  rw [List.getElem_mapIdx] at e
  rw [← e, wipeR_len]
  exact w.Lw _ (List.getElem_mem _)
section
variable {H : Heap} {D : RD} {g : G}
theorem rwipe_s (d : Nat) (h : RRep H D g) (w : WF g) {f t : Nat} (hft : f ≤ g.c.rows * g.c.cols) (ht : t ≤ g.c.rows * g.c.cols) :
    ∃ H' D', X (d + 2) n_ref19_Grid_wipe [P0 D.p, .int .i64 (f : Int), .int .i64 (t : Int)] H = some (.tuple #[], H') ∧ RRep H' D' { g with L := wipeAt g.L g.c.cols f t } ∧ RStp H D H' D' := by
  have r2 := w.r2; have c2 := w.c2; have c1 := w.c1
  have hbig : g.c.rows * g.c.cols ≤ 60 * 120 := Nat.mul_le_mul r2 c2
  rw [ref19_Grid_wipe_eq, if_neg (show ¬ (f : Int) < 0 by omega)]
  have loop : ∀ (m i : Nat) {H1 : Heap} {D1 : RD}, t - i < m → f ≤ i → (i = f ∨ i ≤ t) → RRep H1 D1 { g with L := wipeAt g.L g.c.cols f i } → RStp H D H1 D1 →
      ∃ H' D', ref19_Grid_wipe_p10 (d + 1) m D.p (t : Int) (i : Int) H1 = some (.tuple #[], H') ∧ RRep H' D' { g with L := wipeAt g.L g.c.cols f t } ∧ RStp H D H' D' := by
    intro m
    induction m with
    | zero => intro i H1 D1 hm; omega
    | succ m ih =>
      intro i H1 D1 hm hfi hit h1 s1
      have w1 := w.wipeAt g.c.cols f i
      rw [← s1.p, ref19_Grid_wipe_p10_s]
      by_cases c : i < t
      · rw [if_pos (show decide ((i : Int) < (t : Int)) = true from decide_eq_true (by omega)), h1.l6, h1.l7]
        simp only [optK_s, asI_s]
        have em : IntKind.wrap .i64 ((g.c.rows : Int) * (g.c.cols : Int)) = ((g.c.rows * g.c.cols : Nat) : Int) := by
          have e0 : (g.c.rows : Int) * (g.c.cols : Int) = ((g.c.rows * g.c.cols : Nat) : Int) := by simp
          rw [e0, w64 (by omega)]
        rw [em, decide_eq_true (show (i : Int) < ((g.c.rows * g.c.cols : Nat) : Int) by omega), ref19_Grid_wipe_p10001_eq, if_pos rfl, newK_s]
        have k2 : Keep0 H1 (H1.new (.cells [] t_api_Cell false 0 false)) := Keep.new _ _
        have h2 := h1.new k2
        rw [h2.l8]
        simp only [optK_s, asSL_k]
        rw [h2.l7]
        simp only [optK_s, asI_s]
        rw [if_neg (show ¬ (g.c.cols : Int) = 0 by omega)]
        obtain ⟨ρ, hρ⟩ : ∃ ρ, ρ = i / g.c.cols := ⟨_, rfl⟩
        obtain ⟨κ, hκ⟩ : ∃ κ, κ = i % g.c.cols := ⟨_, rfl⟩
        have hρi : ρ ≤ i := by rw [hρ]; exact Nat.div_le_self i g.c.cols
        have ed : IntKind.wrap .i64 (Int.tdiv (i : Int) (g.c.cols : Int)) = (ρ : Int) := by
          have e0 : Int.tdiv (i : Int) (g.c.cols : Int) = ((i / g.c.cols : Nat) : Int) := rfl
          rw [e0, ← hρ, w64 (by omega)]
        have emd : Int.tmod (i : Int) (g.c.cols : Int) = (κ : Int) := by
          have e0 : Int.tmod (i : Int) (g.c.cols : Int) = ((i % g.c.cols : Nat) : Int) := rfl
          rw [e0, ← hκ]
        have hrow : ρ < g.c.rows := by rw [hρ]; exact (Nat.div_lt_iff_lt_mul (by omega)).2 (by omega)
        have hcol : κ < g.c.cols := by rw [hκ]; exact Nat.mod_lt _ (by omega)
        obtain ⟨x, a, hx, hxL, hxn, hca, hcn, hld, hrw, hno, hrd⟩ := h1.rowat w1 hrow
        change x.2.length = g.c.cols at hxn
        change D1.cells.n = g.c.rows at hcn
        rw [ed, hca]
        simp only [optK_s]
        rw [if_pos (show (0 : Int) ≤ (ρ : Int) ∧ (ρ : Int) < (D1.cells.n : Int) by omega), Int.toNat_natCast, h2.ldrow hx hca]
        simp only [optK_s, asSL_k]
        obtain ⟨y, H11, e11, w11, f11, _, k11⟩ := clone_part hrw.cv (by omega)
        rw [e11]
        simp only [asSL_k]
        rw [show rdsOk [H1, H1.new (.cells [] t_api_Cell false 0 false), H11] [⟨.load 1 false, [.pointer (some (ap a (ρ * 1)))], (wsl x.1 x.2.length).v, 0, 1⟩, ⟨.load 1 false, [.pointer (some ⟨D1.p, 7, none⟩)], .int .i64 (g.c.cols : Int), 0, 1⟩, ⟨.load 1 false, [.pointer (some ⟨D1.p, 8, none⟩)], D1.cells.v, 0, 1⟩] = true from by
          simp only [rdsOk, Bool.and_true]
          rw [show 1 + 1 - 0 = 2 from rfl, rdOk_2, rdOk_2, rdOk_2, rdAt_s rfl (rd1 (h1.ldrow hx hca)) (same_sl _ _ _), rdAt_s rfl (rd1 (h2.ldrow hx hca)) (same_sl _ _ _), rdAt_s rfl (rd1 h1.l7) (same_int _ _), rdAt_s rfl (rd1 h2.l7) (same_int _ _), rdAt_s rfl (rd1 h1.l8) (same_sl _ _ _), rdAt_s rfl (rd1 h2.l8) (same_sl _ _ _)]; rfl]
        simp only [chk_s]
        have h11 := h1.new k11
        rw [h11.l7]
        simp only [optK_s, asI_s]
        rw [if_neg (show ¬ (g.c.cols : Int) = 0 by omega)]
        obtain ⟨H16, e16, k16⟩ := rblank_s d H11
        rw [e16]
        simp only [callK_s, asA_s]
        obtain ⟨b, rfl, r11⟩ := Whole.row w11 (by intro e; rw [e] at hxn; simp at hxn; omega)
        have hb := f11 b ⟨_, rfl, rfl⟩
        rw [emd]
        simp only [optK_s]
        rw [if_pos (show (0 : Int) ≤ (κ : Int) ∧ (κ : Int) < (x.2.length : Int) by omega), Int.toNat_natCast]
        have h16 := h11.new k16
        obtain ⟨H20, e20, r20, k20, n20⟩ := (r11.keep k16 id).stc (i := κ) (by omega) blank
        rw [e20, show rdsOk [H11, H16, H20] [⟨.load 1 false, [.pointer (some ⟨D1.p, 7, none⟩)], .int .i64 (g.c.cols : Int), 0, 1⟩] = true from by
          simp only [rdsOk, Bool.and_true]
          rw [show 1 + 1 - 0 = 2 from rfl, rdOk_2, rdAt_s rfl (rd1 h11.l7) (same_int _ _), rdAt_s rfl (rd1 h16.l7) (same_int _ _)]; rfl]
        simp only [chk_s]
        have k1_20 : Keep0 H1 H20 := (k11.trans k16).fresh k20 fun k e => by have e' : k = b := e; omega
        have h20 := h1.new k1_20
        rw [h20.l8]
        simp only [optK_s, asSL_k]
        rw [h20.l7]
        simp only [optK_s, asI_s]
        rw [if_neg (show ¬ (g.c.cols : Int) = 0 by omega), ed, hca]
        simp only [optK_s]
        obtain ⟨a', H26, D26, ea, e26, _, h26, s26⟩ := h20.fresh w1 (i := ρ) hrow r20 (fun e => by have := h1.ltO e; omega)
        rw [hca] at ea; cases ea
        rw [List.length_set] at e26
        rw [if_pos (show (0 : Int) ≤ (ρ : Int) ∧ (ρ : Int) < (D1.cells.n : Int) by omega), Int.toNat_natCast, e26]
        simp only [optK_s]
        rw [wi (by omega), s1.p]
        have n1 := s1.kp.1
        refine ih (i + 1) (by omega) (by omega) (.inr (by omega)) ?_ (s26 (s1.trans (RStp.new k1_20)) (by omega))
        rw [wipe_step hfi w.Lw (by omega), ← hρ, ← hκ, modify_at hxL]
        exact h26
      · rw [if_neg (show ¬ decide ((i : Int) < (t : Int)) = true by rw [decide_eq_true_eq]; omega), ref19_Grid_wipe_p10001_eq, if_neg ff]
        refine ⟨H1, D1, rfl, ?_, s1⟩
        rcases hit with e | e
        · have e1 : wipeAt g.L g.c.cols f t = wipeAt g.L g.c.cols f i := by
            subst e
            apply List.ext_getElem?
            intro a
            unfold wipeAt
            rw [List.getElem?_mapIdx, List.getElem?_mapIdx]
            cases hL : g.L[a]? with
            | none => rfl
            | some l => rw [Option.map_some, Option.map_some, wipeR_none (by omega), wipeR_none (by omega)]
          rw [e1]; exact h1
        · have : i = t := by omega
          subst this
          exact h1
  exact loop NN f (NN_big _ (by omega)) (Nat.le_refl _) (.inl rfl) (by rw [wipe_zero]; exact h) (RStp.refl H D)
end
end Go.Proofs.YtjmiehbiindjdaaGreatDoor.dec

namespace Go.Proofs.YtjmiehbiindjdaaGreatDoor.dec
open Go Go.Cm

attribute [local congr] optK_congr asI_congr asN_congr asB_congr asS_congr asP_congr asA_congr asSL_congr callK_congr castT_congr chk_congr

def G.region (g : G) (top bottom : Int) : G :=
  if top < bottom then ({ g with c := { g.c with top := top.toNat, bottom := bottom.toNat } } : G).move 0 0 else g
def G.clearTabs (g : G) (p : Int) : G :=
  if p = 0 then { g with tabs := g.tabs.set g.c.col false } else if p = 3 then { g with tabs := List.replicate g.c.cols false } else g
def G.edit (g : G) (a : Act) (n : Nat) : G :=
  if a.rune = 74 then g.erase (a.par 0 0)
  else if a.rune = 75 then g.eraseLine (a.par 0 0)
  else if a.rune = 76 ∨ a.rune = 77 then (if g.c.row < g.c.top ∨ g.c.bottom < g.c.row then g else (if a.rune = 76 then g.put g.c.row n else g.take g.c.row n).move g.c.row 0)
  else if a.rune = 64 ∨ a.rune = 80 ∨ a.rune = 88 then g.cut a.rune n
  else if a.rune = 83 then g.up n
  else if a.rune = 84 then g.down n
  else if a.rune = 114 then g.region (a.par 0 1 - 1) (min (a.par 1 g.c.rows - 1) (g.c.rows - 1))
  else if a.rune = 103 then g.clearTabs (a.par 0 0)
  else g
theorem Act.par_pos {a : Act} (ok : a.ok) (i : Nat) {dflt : Int} (hd : 1 ≤ dflt ∧ dflt ≤ 9999) : 1 ≤ a.par i dflt ∧ a.par i dflt ≤ 9999 := by
  unfold Act.par
  split
  · rename_i n hn
    have := ok.2 n (List.mem_of_getElem? hn)
    split
    · exact hd
    · omega
  · exact hd
theorem WF.region {g : G} (w : WF g) {top bottom : Int} (h0 : 0 ≤ top) (h1 : bottom ≤ (g.c.rows : Int) - 1) : WF (g.region top bottom) := by
  unfold G.region
  split
  · exact (w.sc rfl rfl w.row w.col (by show top.toNat < g.c.rows; omega) (by show top.toNat ≤ bottom.toNat; omega) (by show bottom.toNat < g.c.rows; omega) w.srow w.scol w.arow w.acol : WF { g with c := { g.c with top := top.toNat, bottom := bottom.toNat } }).move 0 0
  · exact w
theorem WF.clearTabs {g : G} (w : WF g) (p : Int) : WF (g.clearTabs p) := by
  unfold G.clearTabs
  split; · exact w.tabset (by simpa using w.tn)
  split; · exact w.tabset (by simp)
  exact w
theorem WF.edit {g : G} (w : WF g) {a : Act} (ok : a.ok) (n : Nat) : WF (g.edit a n) := by
  have r1 := w.r1; have r2 := w.r2
  unfold G.edit
  split; · exact w.erase _
  split; · exact w.eraseLine _
  split
  · split
    · exact w
    · split
      · exact (w.put (by omega)).move _ _
      · exact (w.take (by omega)).move _ _
  split; · exact w.cut _ _
  split; · exact w.up _
  split; · exact w.down _
  split; · exact w.region (by have := (Act.par_pos ok 0 (dflt := 1) (by omega)).1; omega) (by omega)
  split; · exact w.clearTabs _
  exact w

theorem rdAct {H : Heap} {p : Nat} {a : Act} {y : Sl} (h : H.get p = some (.cells (actL a y) t_vt_Act false 0 false)) : readD (.load 4 true) [.pointer (some ⟨p, 0, none⟩)] H = some (.agg ⟨actL a y⟩) := by
  simp only [readD, if_true]
  rw [ldN_s h (show 0 + 4 ≤ 4 by omega)]; rfl
theorem cmp_tabs {D : GD} {s : Sl} : ∀ {i k : Nat}, ({ D with tabs := s } : GD).cmp i k → (i = 3 ∧ s.at k) ∨ D.cmp i k
  | 0, _, h => .inr h
  | 1, _, h => .inr h
  | 2, _, h => .inr h
  | 3, _, h => .inl ⟨rfl, h⟩
  | 4, _, h => .inr h
  | 5, _, h => .inr h
  | 6, _, h => .inr h
  | 7, _, h => .inr h
theorem rep_false (n : Nat) : rep [Value.bool false] n = (List.replicate n false).map Value.bool := by
  induction n with
  | zero => rfl
  | succ n ih => simp only [rep, ih, List.replicate_succ, List.map_cons]; rfl
/-- all stops are taken out -/
theorem Rep.notabs {H : Heap} {D : GD} {g : G} (h : Rep H D g) (n : Nat) (hn : n ≤ 1000) : ∃ (y : Sl) (H1 H' : Heap), (∀ K, effK (.mkSl t_bool 1 1 [.bool false]) [.int .i64 (n : Int), .int .i64 (n : Int)] H K = K (Sl.v y) H1) ∧ Heap.st1 H1 ⟨D.p, 22, none⟩ y.v = some H' ∧ Rep H' { D with tabs := y } { g with tabs := List.replicate n false } ∧ Stp H D H' { D with tabs := y } := by
  let y : Sl := ⟨some ⟨H.next, 0, none⟩, n, n⟩
  have k1 : Keep0 H (H.new (.cells ((List.replicate n false).map Value.bool) t_bool false 0 false)) := Keep.new _ _
  have w1 : Whole (H.new (.cells ((List.replicate n false).map Value.bool) t_bool false 0 false)) y ((List.replicate n false).map Value.bool) t_bool 1 := .inr ⟨H.next, n, rfl, by simp, by simp, false, false, by simp⟩
  have e1 : ∀ K, effK (.mkSl t_bool 1 1 [.bool false]) [.int .i64 (n : Int), .int .i64 (n : Int)] H K = K (Sl.v y) (H.new (.cells ((List.replicate n false).map Value.bool) t_bool false 0 false)) := fun K => by
    simp only [effK, asN_s]
    rw [if_pos (by omega), Int.toNat_natCast, rep_false]
  have h1 := h.new k1
  generalize H.new (.cells ((List.replicate n false).map Value.bool) t_bool false 0 false) = H1 at *
  obtain ⟨H2, e2, g2, k2, n2⟩ := raw1 (i := 22) (v := y.v) (c' := g.c) (D' := { D with tabs := y }) h1.get (by omega) rfl
  have hS : ∀ k, (fun k => k = D.p) k → D.cmp 0 k := fun k e => e
  have hy : ∀ k, y.at k → k = H.next := fun k ⟨a, ha, e⟩ => by cases ha; exact e.symm
  have hlt := h.lt
  refine ⟨y, H1, H2, e1, e2, ⟨g2, by have := k2.1; have := k1.1; show D.p < _; omega, h1.o1 k2 hS (by decide), h1.o2 k2 hS (by decide), h.cL, TabO.of <| Whole.keep w1 k2 fun k e e' => by have := hy k e; have e'' : k = D.p := e'; omega, h1.o4 k2 hS (by decide), h1.o5 k2 hS (by decide), h1.o6 k2 hS (by decide), h1.o7 k2 hS (by decide), h.pL, fun i j k a b => ?_⟩, ⟨rfl, rfl, (k1.to.trans k2 fun _ _ e => e).mono fun k _ e => ⟨0, e⟩, fun k ⟨i, e⟩ => ?_⟩⟩
  · rcases cmp_tabs a with ⟨rfl, a1⟩ | a1 <;> rcases cmp_tabs b with ⟨rfl, b1⟩ | b1
    · rfl
    · have := hy k a1; have := cmp_lt h b1; omega
    · have := hy k b1; have := cmp_lt h a1; omega
    · exact h.sep i j k a1 b1
  · rcases cmp_tabs e with ⟨_, e⟩ | e
    · exact .inr (by rw [hy k e]; exact Nat.le_refl _)
    · exact .inl ⟨i, e⟩

theorem edit_s (d : Nat) {H : Heap} {D : GD} {g : G} (h : Rep H D g) (w : WF g) {a : Act} {y : Sl} (ok : a.ok) (wy : Whole H y (intL a.params) t_int 1) (n : Nat) :
    ∃ H' D', X (d + 8) n_grid_Grid_edit [P0 D.p, .agg ⟨actL a y⟩, .int .i64 (n : Int)] H = some (.tuple #[], H') ∧ Rep H' D' (g.edit a n) ∧ Stp H D H' D' := by
  have hr := w.row; have hc := w.col; have c2 := w.c2; have r1 := w.r1; have r2 := w.r2; have ht := w.tn
  rw [grid_Grid_edit_eq, boxA]
  have k1 : Keep0 H (H.new (.cells (actL a y) t_vt_Act false 0 false)) := Keep.new _ _
  have g1 : (H.new (.cells (actL a y) t_vt_Act false 0 false)).get H.next = some (.cells (actL a y) t_vt_Act false 0 false) := by simp
  have n1 : (H.new (.cells (actL a y) t_vt_Act false 0 false)).next = H.next + 1 := by simp
  generalize H.new (.cells (actL a y) t_vt_Act false 0 false) = H1 at *
  simp only [P0]
  rw [rdAct g1]
  simp only [optK_s, asA_s]
  obtain ⟨H2, e2, k2⟩ := Params_s (d + 6) (Whole.keep wy k1 fun _ _ e => e) 0 0
  rw [show (.int .i64 0 : Value) = .int .i64 ((0 : Nat) : Int) from rfl, show X (d + 7) n_vt_Params [.agg ⟨actL a y⟩, .int .i64 ((0 : Nat) : Int), .int .i64 ((0 : Nat) : Int)] H1 = _ from e2]
  simp only [callK_s, asI_s, asP_s, optK_s]
  have g2 := k2.get (by omega) g1
  have k02 : Keep0 H H2 := k1.trans k2
  have h2 := h.new k02
  have l1 : Heap.ld1 H2 (ap ⟨H.next, 0, none⟩ 1) = some (.int .i32 a.rune) := (ld1_s g2).trans rfl
  rw [l1]
  simp only [optK_s, asI_s]
  have up : ∀ {H' : Heap} {D' : GD}, Stp H2 D H' D' → Stp H D H' D' := fun s => (Stp.new k02).trans s
  unfold G.edit
  by_cases c0 : a.rune = 74
  · rw [if_pos (show decide (a.rune = 74) = true from decide_eq_true c0), if_pos c0]
    obtain ⟨H', D', e, h', s'⟩ := erase_s d h2 w (a.par 0 0)
    rw [show X (d + 7) n_grid_Grid_erase [.pointer (some ⟨D.p, 0, none⟩), .int .i64 (a.par 0 0)] H2 = _ from e]
    exact ⟨H', D', rfl, h', up s'⟩
  rw [if_neg (show ¬ decide (a.rune = 74) = true from dneg c0), if_neg c0]
  by_cases c1 : a.rune = 75
  · rw [if_pos (show decide (a.rune = 75) = true from decide_eq_true c1), if_pos c1]
    obtain ⟨H', D', e, h', s'⟩ := eraseLine_s (d + 1) h2 w (a.par 0 0)
    rw [show X (d + 7) n_grid_Grid_eraseLine [.pointer (some ⟨D.p, 0, none⟩), .int .i64 (a.par 0 0)] H2 = _ from e]
    exact ⟨H', D', rfl, h', up s'⟩
  rw [if_neg (show ¬ decide (a.rune = 75) = true from dneg c1), if_neg c1]
  -- lines
  have mv : ∀ {H3 : Heap} {D3 : GD} {g3 : G}, Rep H3 D3 g3 → WF g3 → g3.c = g.c → Stp H D H3 D3 → ∃ H' D', grid_Grid_edit_p1110111110011 (d + 7) D.p H3 = some (.tuple #[], H') ∧ Rep H' D' (g3.move g.c.row 0) ∧ Stp H D H' D' := fun {H3 D3 g3} h3 w3 ec s3 => by
    rw [grid_Grid_edit_p1110111110011_eq, ← s3.p, h3.l3, ec]
    simp only [optK_s, asI_s]
    obtain ⟨H', e, h', s'⟩ := move_s (d + 6) h3 w3 g.c.row 0
    rw [e]
    exact ⟨H', D3, rfl, h', s3.trans s'⟩
  have lines : (a.rune = 76 ∨ a.rune = 77) → ∃ H' D', grid_Grid_edit_p111011111 (d + 7) D.p (n : Int) (.pointer (some ⟨H.next, 0, none⟩)) (a.par 0 0) a.rune true H2 = some (.tuple #[], H') ∧ Rep H' D' (if g.c.row < g.c.top ∨ g.c.bottom < g.c.row then g else (if a.rune = 76 then g.put g.c.row n else g.take g.c.row n).move g.c.row 0) ∧ Stp H D H' D' := fun hl => by
    rw [grid_Grid_edit_p111011111_eq, if_pos rfl, h2.l3, h2.l17]
    simp only [optK_s, asI_s]
    by_cases cT : g.c.row < g.c.top
    · rw [if_pos (show decide ((g.c.row : Int) < (g.c.top : Int)) = true from decide_eq_true (by omega)), grid_Grid_edit_p1110111110001_eq, if_pos rfl, if_pos (show g.c.row < g.c.top ∨ g.c.bottom < g.c.row from .inl cT)]
      exact ⟨H2, D, rfl, h2, Stp.new k02⟩
    rw [if_neg (show ¬ decide ((g.c.row : Int) < (g.c.top : Int)) = true from dneg (by omega)), h2.l18]
    simp only [optK_s, asI_s]
    rw [grid_Grid_edit_p1110111110001_eq]
    by_cases cB : g.c.bottom < g.c.row
    · rw [if_pos (show decide ((g.c.bottom : Int) < (g.c.row : Int)) = true from decide_eq_true (by omega)), if_pos (show g.c.row < g.c.top ∨ g.c.bottom < g.c.row from .inr cB)]
      exact ⟨H2, D, rfl, h2, Stp.new k02⟩
    rw [if_neg (show ¬ decide ((g.c.bottom : Int) < (g.c.row : Int)) = true from dneg (by omega)), if_neg (show ¬ (g.c.row < g.c.top ∨ g.c.bottom < g.c.row) by omega)]
    simp only [asP_s, optK_s]
    rw [l1]
    simp only [optK_s, asI_s]
    by_cases cL : a.rune = 76
    · rw [if_pos (show decide (a.rune = 76) = true from decide_eq_true cL), if_pos cL]
      rw [h2.l3]
      simp only [optK_s, asI_s]
      obtain ⟨H3, q3, e3, h3, s3⟩ := put_s (d + 1) h2 w (row := g.c.row) (n := n) (by omega)
      rw [e3]
      simp only [callK_s]
      exact mv h3 (w.put (by omega)) rfl (up s3)
    · rw [if_neg (show ¬ decide (a.rune = 76) = true from dneg cL), if_neg cL]
      rw [h2.l3]
      simp only [optK_s, asI_s]
      obtain ⟨H3, q3, e3, h3, s3⟩ := take_s (d + 1) h2 w (row := g.c.row) (n := n) (by omega)
      rw [e3]
      simp only [callK_s]
      exact mv h3 (w.take (by omega)) rfl (up s3)
  by_cases cA : a.rune = 76
  · rw [if_pos (show decide (a.rune = 76) = true from decide_eq_true cA), if_pos (show a.rune = 76 ∨ a.rune = 77 from .inl cA), show decide (a.rune = 76) = true from decide_eq_true cA]
    exact lines (.inl cA)
  rw [if_neg (show ¬ decide (a.rune = 76) = true from dneg cA)]
  by_cases cB : a.rune = 77
  · rw [if_pos (show a.rune = 76 ∨ a.rune = 77 from .inr cB), show decide (a.rune = 77) = true from decide_eq_true cB]
    exact lines (.inr cB)
  rw [if_neg (show ¬ (a.rune = 76 ∨ a.rune = 77) by omega), show decide (a.rune = 77) = false from decide_eq_false cB, grid_Grid_edit_p111011111_eq, if_neg ff]
  -- cells
  by_cases cC : a.rune = 64 ∨ a.rune = 80 ∨ a.rune = 88
  · have cells : ∃ H' D', grid_Grid_edit_p111011111011 (d + 7) D.p (n : Int) (.pointer (some ⟨H.next, 0, none⟩)) (a.par 0 0) a.rune true H2 = some (.tuple #[], H') ∧ Rep H' D' (g.cut a.rune n) ∧ Stp H D H' D' := by
      rw [grid_Grid_edit_p111011111011_eq, if_pos rfl]
      simp only [asP_s, optK_s]
      rw [l1]
      simp only [optK_s, asI_s]
      obtain ⟨H', D', e, h', s'⟩ := cut_s (d + 2) h2 w a.rune n
      rw [show X (d + 7) n_grid_Grid_cut [.pointer (some ⟨D.p, 0, none⟩), .int .i32 a.rune, .int .i64 (n : Int)] H2 = _ from e]
      exact ⟨H', D', rfl, h', up s'⟩
    rw [if_pos cC]
    by_cases cC1 : a.rune = 64
    · rw [if_pos (show decide (a.rune = 64) = true from decide_eq_true cC1), show decide (a.rune = 64) = true from decide_eq_true cC1]
      exact cells
    rw [if_neg (show ¬ decide (a.rune = 64) = true from dneg cC1)]
    by_cases cC2 : a.rune = 80
    · rw [if_pos (show decide (a.rune = 80) = true from decide_eq_true cC2), show decide (a.rune = 80) = true from decide_eq_true cC2]
      exact cells
    rw [if_neg (show ¬ decide (a.rune = 80) = true from dneg cC2), show decide (a.rune = 88) = true from decide_eq_true (by omega)]
    exact cells
  rw [if_neg cC, if_neg (show ¬ decide (a.rune = 64) = true from dneg (by omega)), if_neg (show ¬ decide (a.rune = 80) = true from dneg (by omega)), show decide (a.rune = 88) = false from decide_eq_false (by omega), grid_Grid_edit_p111011111011_eq, if_neg ff]
  by_cases cS : a.rune = 83
  · rw [if_pos (show decide (a.rune = 83) = true from decide_eq_true cS), if_pos cS]
    obtain ⟨H', D', e, h', s'⟩ := up_s d h2 w n
    rw [show X (d + 7) n_grid_Grid_up [P0 D.p, .int .i64 (n : Int)] H2 = _ from e]
    exact ⟨H', D', rfl, h', up s'⟩
  rw [if_neg (show ¬ decide (a.rune = 83) = true from dneg cS), if_neg cS]
  by_cases cT : a.rune = 84
  · rw [if_pos (show decide (a.rune = 84) = true from decide_eq_true cT), if_pos cT]
    obtain ⟨H', D', e, h', s'⟩ := down_s d h2 w n
    rw [show X (d + 7) n_grid_Grid_down [P0 D.p, .int .i64 (n : Int)] H2 = _ from e]
    exact ⟨H', D', rfl, h', up s'⟩
  rw [if_neg (show ¬ decide (a.rune = 84) = true from dneg cT), if_neg cT]
  by_cases cR : a.rune = 114
  · rw [if_pos (show decide (a.rune = 114) = true from decide_eq_true cR), if_pos cR, rdAct g2]
    simp only [optK_s, asA_s]
    obtain ⟨H3, e3, k3⟩ := Params_s (d + 6) (Whole.keep wy k02 fun _ _ e => e) 0 1
    rw [show X (d + 7) n_vt_Params [.agg ⟨actL a y⟩, .int .i64 0, .int .i64 1] H2 = _ from e3]
    simp only [callK_s, asI_s]
    have n2 := k2.1
    have k03 : Keep0 H H3 := k02.trans k3
    have g3 := k3.get (by omega) g2
    have h3 := h.new k03
    rw [rdAct g3]
    simp only [optK_s, asA_s]
    rw [show Heap.ld1 H3 ⟨D.p, 0, none⟩ = some (.int .i64 (g.c.rows : Int)) from h3.l0]
    simp only [optK_s, asI_s]
    obtain ⟨H4, e4, k4⟩ := Params_s (d + 6) (Whole.keep wy k03 fun _ _ e => e) 1 g.c.rows
    rw [show X (d + 7) n_vt_Params [.agg ⟨actL a y⟩, .int .i64 1, .int .i64 (g.c.rows : Int)] H3 = _ from e4]
    simp only [callK_s, asI_s]
    have k04 : Keep0 H H4 := k03.trans k4
    have h4 := h.new k04
    rw [show Heap.ld1 H4 ⟨D.p, 0, none⟩ = some (.int .i64 (g.c.rows : Int)) from h4.l0]
    simp only [optK_s, asI_s]
    rw [show rdsOk [H2, H3, H4] [⟨.load 1 false, [.pointer (some ⟨D.p, 0, none⟩)], .int .i64 (g.c.rows : Int), 0, 2⟩, ⟨.load 1 false, [.pointer (some ⟨D.p, 0, none⟩)], .int .i64 (g.c.rows : Int), 0, 1⟩, ⟨.load 4 true, [.pointer (some ⟨H.next, 0, none⟩)], .agg ⟨actL a y⟩, 0, 1⟩] = true from by
      simp only [rdsOk, Bool.and_true]
      rw [show 2 + 1 - 0 = 3 from rfl, show 1 + 1 - 0 = 2 from rfl, rdOk_3, rdOk_2, rdOk_2, rdAt_s rfl (rd1 h2.l0) (same_int _ _), rdAt_s rfl (rd1 h3.l0) (same_int _ _), rdAt_s rfl (rd1 h4.l0) (same_int _ _), rdAt_s rfl (rd1 h2.l0) (same_int _ _), rdAt_s rfl (rd1 h3.l0) (same_int _ _), rdAt_s rfl (rdAct g2) (by simp [same, same0, sameL, actL, Sl.v]), rdAt_s rfl (rdAct g3) (by simp [same, same0, sameL, actL, Sl.v])]; rfl]
    simp only [chk_s]
    have p0 := Act.par_pos ok 0 (dflt := 1) (by omega)
    have p1 := Act.par_pos ok 1 (dflt := g.c.rows) (by omega)
    generalize a.par 0 1 = t at p0 ⊢
    generalize a.par 1 (g.c.rows : Int) = u at p1 ⊢
    have hm : (if (IntKind.wrap .i64 ((g.c.rows : Int) - 1)) < (IntKind.wrap .i64 (u - 1)) then (IntKind.wrap .i64 ((g.c.rows : Int) - 1)) else (IntKind.wrap .i64 (u - 1))) = min (u - 1) ((g.c.rows : Int) - 1) := by
      rw [w64 (n := (g.c.rows : Int) - 1) (by omega), w64 (n := u - 1) (by omega)]; split <;> omega
    rw [hm, w64 (n := t - 1) (by omega)]
    unfold G.region
    by_cases cc : t - 1 < min (u - 1) ((g.c.rows : Int) - 1)
    · rw [if_pos (show decide (t - 1 < min (u - 1) ((g.c.rows : Int) - 1)) = true from decide_eq_true cc), if_pos cc]
      obtain ⟨H5, e5, h5, s5⟩ := h4.s17 (t - 1).toNat
      rw [show (.int .i64 (t - 1) : Value) = .int .i64 (((t - 1).toNat : Nat) : Int) by rw [Int.toNat_of_nonneg (by omega)], e5]
      simp only [optK_s]
      obtain ⟨H6, e6, h6, s6⟩ := h5.s18 (min (u - 1) ((g.c.rows : Int) - 1)).toNat
      rw [show (.int .i64 (min (u - 1) ((g.c.rows : Int) - 1)) : Value) = .int .i64 (((min (u - 1) ((g.c.rows : Int) - 1)).toNat : Nat) : Int) by rw [Int.toNat_of_nonneg (by omega)], e6]
      simp only [optK_s]
      obtain ⟨H7, e7, h7, s7⟩ := move_b h6 (d + 6) w.r1 w.r2 w.c1 w.c2 0 0
      rw [show X (d + 7) n_grid_Grid_move [.pointer (some ⟨D.p, 0, none⟩), .int .i64 0, .int .i64 0] H6 = _ from e7]
      exact ⟨H7, D, rfl, h7, (((Stp.new k04).trans s5).trans s6).trans s7⟩
    · rw [if_neg (show ¬ decide (t - 1 < min (u - 1) ((g.c.rows : Int) - 1)) = true from dneg cc), if_neg cc]
      exact ⟨H4, D, rfl, h4, Stp.new k04⟩
  rw [if_neg (show ¬ decide (a.rune = 114) = true from dneg cR), if_neg cR]
  by_cases cG : a.rune = 103
  · rw [if_pos (show decide (a.rune = 103) = true from decide_eq_true cG), if_pos cG]
    unfold G.clearTabs
    by_cases z0 : a.par 0 0 = 0
    · rw [if_pos (show decide (a.par 0 0 = 0) = true from decide_eq_true z0), if_pos z0, h2.l22]
      simp only [optK_s, asSL_k]
      rw [h2.l4]
      simp only [optK_s, asI_s]
      obtain ⟨b, H', e1, e2, e3, h', s'⟩ := h2.tabset (by omega) (i := g.c.col) (by omega) false
      rw [e1]
      simp only [optK_s]
      rw [if_pos (show (0 : Int) ≤ (g.c.col : Int) ∧ (g.c.col : Int) < (D.tabs.n : Int) by omega), e3]
      simp only [optK_s]
      rw [grid_Grid_edit_p11101111101101111111101_eq, if_neg (show ¬ decide (a.par 0 0 = 3) = true from dneg (show ¬ a.par 0 0 = 3 by omega))]
      exact ⟨H', D, rfl, h', up s'⟩
    · rw [if_neg (show ¬ decide (a.par 0 0 = 0) = true from dneg z0), if_neg z0, grid_Grid_edit_p11101111101101111111101_eq]
      by_cases z3 : a.par 0 0 = 3
      · rw [if_pos (show decide (a.par 0 0 = 3) = true from decide_eq_true z3), if_pos z3, h2.l1]
        simp only [optK_s, asI_s]
        obtain ⟨y1, H3, H', e1, e2, h', s'⟩ := h2.notabs g.c.cols (by omega)
        rw [e1]
        simp only [asSL_k]
        rw [e2]
        exact ⟨H', _, rfl, h', up s'⟩
      · rw [if_neg (show ¬ decide (a.par 0 0 = 3) = true from dneg z3), if_neg z3]
        exact ⟨H2, D, rfl, h2, Stp.new k02⟩
  rw [if_neg (show ¬ decide (a.rune = 103) = true from dneg cG), if_neg cG]
  exact ⟨H2, D, rfl, h2, Stp.new k02⟩
end Go.Proofs.YtjmiehbiindjdaaGreatDoor.dec

namespace Go.Proofs.YtjmiehbiindjdaaGreatDoor.dec
open Go Go.Cm

/-! ### letters of one byte -/
def nums (l : W) : List Int := l.map fun b => (b.toNat : Int)
/-! ### rows that are filled -/
end Go.Proofs.YtjmiehbiindjdaaGreatDoor.dec

namespace Go.Proofs.YtjmiehbiindjdaaGreatDoor.dec
open Go Go.Cm


theorem pFeed_cons (c : PS) (r : Int) (l : List Int) : pFeed c (r :: l) = ((pFeed (pRune c r).1 l).1, (pRune c r).2.toList ++ (pFeed (pRune c r).1 l).2) := by
  rw [pFeed]
  cases (pRune c r).2 <;> rfl
theorem pFeed_app (l l' : List Int) : ∀ c : PS, pFeed c (l ++ l') = ((pFeed (pFeed c l).1 l').1, (pFeed c l).2 ++ (pFeed (pFeed c l).1 l').2) := by
  induction l with
  | nil => intro c; simp [pFeed]
  | cons r l ih => intro c; rw [List.cons_append, pFeed_cons, pFeed_cons, ih]; simp

/-- what a parser at rest makes of bytes -/
def Says (l : W) (al : List Act) : Prop := (∀ b ∈ l, b.toNat < 128) ∧ ∀ c : PS, c.state = 0 → (pFeed c (nums l)).1.state = 0 ∧ (pFeed c (nums l)).2 = al
theorem nums_app (l l' : W) : nums (l ++ l') = nums l ++ nums l' := List.map_append
theorem Says.nil : Says [] [] := ⟨(fun _ h => nomatch h), fun _ h => ⟨h, rfl⟩⟩
theorem Says.app {l l' : W} {al bl : List Act} (h : Says l al) (h' : Says l' bl) : Says (l ++ l') (al ++ bl) := by
  refine ⟨fun b hb => (List.mem_append.1 hb).elim (h.1 b) (h'.1 b), fun c hc => ?_⟩
  obtain ⟨h1, h2⟩ := h.2 c hc
  obtain ⟨h3, h4⟩ := h'.2 _ h1
  rw [nums_app, pFeed_app]
  exact ⟨h3, by rw [h2, h4]⟩
theorem Says.rune {b : UInt8} {a : Act} (hb : b.toNat < 128) (h : ∀ c : PS, c.state = 0 → (pRune c b.toNat).1.state = 0 ∧ (pRune c b.toNat).2 = some a) : Says [b] [a] := by
  refine ⟨fun x hx => by rw [List.mem_singleton.1 hx]; exact hb, fun c hc => ?_⟩
  have e : pFeed c (nums [b]) = ((pRune c b.toNat).1, (pRune c b.toNat).2.toList) := by
    show pFeed c [(b.toNat : Int)] = _
    rw [pFeed_cons]; simp [pFeed]
  rw [e, (h c hc).2]
  exact ⟨(h c hc).1, rfl⟩
/-- ESC and a letter -/
theorem Says.esc {b : UInt8} {a : Act} (hb : b.toNat < 128) (h : ∀ c : PS, c.state = 1 → (pEsc c b.toNat).1.state = 0 ∧ (pEsc c b.toNat).2 = some a) (hb2 : b.toNat ≠ 27) : Says [27, b] [a] := by
  refine ⟨fun x hx => ?_, fun c hc => ?_⟩
  · simp only [List.mem_cons, List.not_mem_nil, or_false] at hx
    rcases hx with rfl | rfl
    · decide
    · exact hb
  have e1 : pRune c 27 = ({ c with state := 1 }, none) := by
    unfold pRune
    rw [if_pos ⟨rfl, by omega⟩]
  have e2 : pRune { c with state := 1 } b.toNat = pEsc { c with state := 1 } b.toNat := by
    unfold pRune
    rw [if_neg (show ¬ ((b.toNat : Int) = 27 ∧ _) by omega), if_neg (show ¬ (b.toNat : Int) = 27 by omega), if_pos rfl]
  have h' := h { c with state := 1 } rfl
  have e : pFeed c (nums [27, b]) = ((pEsc { c with state := 1 } b.toNat).1, (pEsc { c with state := 1 } b.toNat).2.toList) := by
    show pFeed c [(27 : Int), (b.toNat : Int)] = _
    rw [pFeed_cons, e1, pFeed_cons, e2]; simp [pFeed]
  rw [e, h'.2]
  exact ⟨h'.1, rfl⟩

/-! ### control sequences -/
def csi0 : PS := ⟨3, false, false, false, false, [0]⟩
theorem feed_open {c : PS} (hc : c.state = 0) (rest : List Int) : pFeed c (27 :: 91 :: rest) = pFeed csi0 rest := by
  have e1 : pRune c 27 = ({ c with state := 1 }, none) := by
    unfold pRune
    rw [if_pos ⟨rfl, by omega⟩]
  have e2 : pRune { c with state := 1 } 91 = (csi0, none) := rfl
  rw [pFeed_cons, e1, pFeed_cons, e2]
  rfl
theorem Says.csi {l : W} {a : Act} (hl : ∀ b ∈ l, b.toNat < 128) (h : (pFeed csi0 (nums l)).1.state = 0 ∧ (pFeed csi0 (nums l)).2 = [a]) : Says (27 :: 91 :: l) [a] := by
  refine ⟨fun b hb => ?_, fun c hc => ?_⟩
  · simp only [List.mem_cons] at hb
    rcases hb with rfl | rfl | hb
    · decide
    · decide
    · exact hl b hb
  · rw [show pFeed c (nums (27 :: 91 :: l)) = pFeed csi0 (nums l) from feed_open hc _]
    exact h
end Go.Proofs.YtjmiehbiindjdaaGreatDoor.dec
