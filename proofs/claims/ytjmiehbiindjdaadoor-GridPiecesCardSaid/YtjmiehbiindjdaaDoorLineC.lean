/-
  grid: lines and screens compared; a text in pieces.
  And: grid: GridPieces.
-/
import Derived.Test.YtjmiehbiindjdaaDoorLineB
import Derived.Test.YtjmiehbiindjdaaDoorDec
namespace Go.Proofs.YtjmiehbiindjdaaDoor.dec
open Go Go.Cm

attribute [local congr] optK_congr asI_congr asN_congr asB_congr asS_congr asP_congr asA_congr asSL_congr callK_congr castT_congr chk_congr

/-- lines in memory -/
structure Lines (H : Heap) (L : List (List Cl)) (y : Sl) (p : Q) : Prop where
  o : Outer H y p
  r : Rows H p
  m : p.map Prod.snd = L
theorem Lines.keep {S : Nat → Prop} {H H' : Heap} {L : List (List Cl)} {y : Sl} {p : Q} (h : Lines H L y p) (k : Keep S H H') (h2 : ∀ k, y.at k → ¬ S k) (h3 : ∀ k, bl p k → ¬ S k) : Lines H' L y p :=
  ⟨Whole.keep h.o k h2, h.r.keep k h3, h.m⟩
theorem Lines.new {H H' : Heap} {L : List (List Cl)} {y : Sl} {p : Q} (h : Lines H L y p) (k : Keep0 H H') : Lines H' L y p := h.keep k (fun _ _ e => e) fun _ _ e => e
theorem Lines.n {H : Heap} {L : List (List Cl)} {y : Sl} {p : Q} (h : Lines H L y p) : y.n = L.length := by rw [h.o.n, ← h.m, List.length_map]
theorem Lines.row {H : Heap} {L : List (List Cl)} {y : Sl} {p : Q} (h : Lines H L y p) {a : Nat} {l : List Cl} (ha : L[a]? = some l) : ∃ ad x, y.a = some ad ∧ Heap.ld1 H (ap ad (((a : Int).toNat) * 1)) = some (wsl x l.length).v ∧ Row H x l := by
  have h0 := congrArg (fun l => l[a]?) h.m
  simp only [List.getElem?_map] at h0
  rw [ha] at h0
  obtain ⟨x, hx, hx2⟩ : ∃ x, p[a]? = some x ∧ x.2 = l := by
    cases hpa : p[a]? with
    | none => rw [hpa] at h0; cases h0
    | some x => rw [hpa] at h0; exact ⟨x, rfl, by simpa using h0⟩
  obtain ⟨bb, v, _⟩ := Outer.ov h.o (h.o.some (by intro e; rw [e] at hx; cases hx))
  obtain ⟨ad, ea, eb⟩ := v.ld hx
  refine ⟨ad, x.1, ea, ?_, ?_⟩
  · rw [← hx2]; exact eb
  · rw [← hx2]; exact h.r.1 x (List.mem_of_getElem? hx)

theorem same_cells (e : Nat) {H : Heap} {L : List (List Cl)} {y1 y2 : Sl} {p1 p2 : Q} (s1 : Lines H L y1 p1) (s2 : Lines H L y2 p2) {a : Nat} {l : List Cl} (ha : L[a]? = some l) (hl : l.length ≤ 1000) (m0 : Nat) (haL : L.length ≤ 1000) :
    ∀ (m k : Nat), l.length - k < m → k ≤ l.length → ref19_SameLines_p110100100110 e m0 m y1 y2 (a : Int) (k : Int) H = ref19_SameLines_p11010 e m0 y1 y2 ((a + 1 : Nat) : Int) H := fun m => by
  obtain ⟨ad1, x1, q1, r1, w1⟩ := s1.row ha
  obtain ⟨ad2, x2, q2, r2, w2⟩ := s2.row ha
  have n1 := s1.n; have n2 := s2.n
  have hal := (List.getElem?_eq_some_iff.1 ha).1
  induction m with
  | zero => intro k hm; omega
  | succ m ih =>
    intro k hm hk
    rw [ref19_SameLines_p110100100110_s, q1]
    simp only [optK_s]
    rw [if_pos (show (0 : Int) ≤ (a : Int) ∧ (a : Int) < (y1.n : Int) by omega), r1]
    simp only [optK_s, asSL_k]
    by_cases hlt : k < l.length
    · have hx : l[k]? = some l[k] := List.getElem?_eq_getElem hlt
      have g1 := w1.lda hx
      have g2 := w2.lda hx
      rw [if_pos (show decide ((k : Int) < ((wsl x1 l.length).n : Int)) = true from decide_eq_true (by show (k : Int) < (l.length : Int); omega))]
      rw [if_pos (show (0 : Int) ≤ (a : Int) ∧ (a : Int) < (y1.n : Int) by omega)]
      rw [if_pos (show (0 : Int) ≤ (k : Int) ∧ (k : Int) < (l.length : Int) by omega), show ap ⟨x1, 0, none⟩ (((k : Int).toNat) * 4) = ⟨x1, k * 4, none⟩ by simp [ap], g1]
      simp only [optK_s, asA_s]
      rw [q2]
      simp only [optK_s]
      rw [if_pos (show (0 : Int) ≤ (a : Int) ∧ (a : Int) < (y2.n : Int) by omega), r2]
      simp only [optK_s, asSL_k]
      rw [if_pos (show (0 : Int) ≤ (k : Int) ∧ (k : Int) < (l.length : Int) by omega), show ap ⟨x2, 0, none⟩ (((k : Int).toNat) * 4) = ⟨x2, k * 4, none⟩ by simp [ap], g2]
      simp only [optK_s, asA_s]
      rw [show (Array.size (⟨cellV l[k]⟩ : Array Value) == 4 && Array.size (⟨cellV l[k]⟩ : Array Value) == 4) = true from rfl]
      simp only [chk_s]
      rw [show eqL [.int .i32, .int .i64, .int .i64, .int .i64] (⟨cellV l[k]⟩ : Array Value).toList (⟨cellV l[k]⟩ : Array Value).toList = some (decide (l[k] = l[k])) from eq_cell _ _, decide_eq_true rfl]
      simp only [optK_s]
      rw [if_neg (show ¬ (!true) = true by simp), wi (by omega)]
      exact ih (k + 1) (by omega) (by omega)
    · rw [if_neg (show ¬ decide ((k : Int) < ((wsl x1 l.length).n : Int)) = true from dneg (by show ¬ (k : Int) < (l.length : Int); omega)), wi (by omega)]
theorem same_rows (e : Nat) {H : Heap} {L : List (List Cl)} {y1 y2 : Sl} {p1 p2 : Q} (s1 : Lines H L y1 p1) (s2 : Lines H L y2 p2) (haL : L.length ≤ 1000) (hL : ∀ l ∈ L, l.length ≤ 1000) :
    ∀ (m a : Nat), L.length - a < m → a ≤ L.length → ref19_SameLines_p11010 e m y1 y2 (a : Int) H = some (.bool true, H) := fun m => by
  have n1 := s1.n; have n2 := s2.n
  induction m with
  | zero => intro a hm; omega
  | succ m ih =>
    intro a hm ha
    rw [ref19_SameLines_p11010_s]
    by_cases hlt : a < L.length
    · have hx : L[a]? = some L[a] := List.getElem?_eq_getElem hlt
      have hl := hL _ (List.getElem_mem hlt)
      obtain ⟨ad1, x1, q1, r1, w1⟩ := s1.row hx
      obtain ⟨ad2, x2, q2, r2, w2⟩ := s2.row hx
      rw [if_pos (show decide ((a : Int) < (y1.n : Int)) = true from decide_eq_true (by omega)), q1]
      simp only [optK_s]
      rw [if_pos (show (0 : Int) ≤ (a : Int) ∧ (a : Int) < (y1.n : Int) by omega), r1]
      simp only [optK_s, asSL_k]
      rw [q2]
      simp only [optK_s]
      rw [if_pos (show (0 : Int) ≤ (a : Int) ∧ (a : Int) < (y2.n : Int) by omega), r2]
      simp only [optK_s, asSL_k]
      rw [if_neg (show ¬ (!decide True) = true by simp), show (0 : Int) = ((0 : Nat) : Int) from rfl, same_cells e s1 s2 hx hl m haL NN 0 (NN_big _ (by omega)) (by omega)]
      exact ih (a + 1) (by omega) (by omega)
    · rw [if_neg (show ¬ decide ((a : Int) < (y1.n : Int)) = true from dneg (by omega))]
theorem SameLines_s (e : Nat) {H : Heap} {L : List (List Cl)} {y1 y2 : Sl} {p1 p2 : Q} (s1 : Lines H L y1 p1) (s2 : Lines H L y2 p2) (haL : L.length ≤ 1000) (hL : ∀ l ∈ L, l.length ≤ 1000) : X (e + 1) n_ref19_SameLines [y1.v, y2.v] H = some (.bool true, H) := by
  have n1 := s1.n; have n2 := s2.n
  rw [ref19_SameLines_eq, if_neg (show ¬ (!decide ((y1.n : Int) = (y2.n : Int))) = true by rw [n1, n2]; simp)]
  exact same_rows e s1 s2 haL hL NN 0 (NN_big _ (by omega)) (by omega)

theorem boxS (c : Sc) (y : Sl) (H : Heap) (K : Value → Heap → Res) : effK (.box t_api_Screen) [.agg ⟨scrL c y⟩] H K = K (P0 H.next) (H.new (.cells (scrL c y) t_api_Screen false 0 false)) := rfl
theorem Same_s (e : Nat) {H : Heap} {L : List (List Cl)} {y1 y2 : Sl} {p1 p2 : Q} {c1 c2 : Sc} (s1 : Lines H L y1 p1) (s2 : Lines H L y2 p2) (haL : L.length ≤ 1000) (hL : ∀ l ∈ L, l.length ≤ 1000) (h1 : c1.rows = c2.rows) (h2 : c1.cols = c2.cols) (h3 : c1.row = c2.row) (h4 : c1.col = c2.col) (h5 : c1.hidden = c2.hidden) :
    ∃ H', X (e + 2) n_ref19_Same [.agg ⟨scrL c1 y1⟩, .agg ⟨scrL c2 y2⟩] H = some (.bool true, H') ∧ Keep0 H H' := by
  rw [ref19_Same_eq, boxS, boxS]
  have k2 : Keep0 H (H.new (.cells (scrL c1 y1) t_api_Screen false 0 false)) := Keep.new _ _
  have g2 : (H.new (.cells (scrL c1 y1) t_api_Screen false 0 false)).get H.next = some (.cells (scrL c1 y1) t_api_Screen false 0 false) := by simp
  have n2 : (H.new (.cells (scrL c1 y1) t_api_Screen false 0 false)).next = H.next + 1 := by simp
  generalize H.new (.cells (scrL c1 y1) t_api_Screen false 0 false) = H2 at *
  have k4 : Keep0 H2 (H2.new (.cells (scrL c2 y2) t_api_Screen false 0 false)) := Keep.new _ _
  have g4 : (H2.new (.cells (scrL c2 y2) t_api_Screen false 0 false)).get H2.next = some (.cells (scrL c2 y2) t_api_Screen false 0 false) := by simp
  generalize H2.new (.cells (scrL c2 y2) t_api_Screen false 0 false) = H4 at *
  have g4a := k4.get (by omega) g2
  simp only [P0, asP_s, optK_s]
  have a0 : Heap.ld1 H4 (ap ⟨H.next, 0, none⟩ 0) = some (.int .i64 c1.rows) := (ld1_s g4a).trans rfl
  have b0 : Heap.ld1 H4 (ap ⟨H2.next, 0, none⟩ 0) = some (.int .i64 c2.rows) := (ld1_s g4).trans rfl
  have a1 : Heap.ld1 H4 (ap ⟨H.next, 0, none⟩ 1) = some (.int .i64 c1.cols) := (ld1_s g4a).trans rfl
  have b1 : Heap.ld1 H4 (ap ⟨H2.next, 0, none⟩ 1) = some (.int .i64 c2.cols) := (ld1_s g4).trans rfl
  have a2 : Heap.ld1 H4 (ap ⟨H.next, 0, none⟩ 2) = some y1.v := (ld1_s g4a).trans rfl
  have b2 : Heap.ld1 H4 (ap ⟨H2.next, 0, none⟩ 2) = some y2.v := (ld1_s g4).trans rfl
  have a3 : Heap.ld1 H4 (ap ⟨H.next, 0, none⟩ 3) = some (.int .i64 c1.row) := (ld1_s g4a).trans rfl
  have b3 : Heap.ld1 H4 (ap ⟨H2.next, 0, none⟩ 3) = some (.int .i64 c2.row) := (ld1_s g4).trans rfl
  have a4 : Heap.ld1 H4 (ap ⟨H.next, 0, none⟩ 4) = some (.int .i64 c1.col) := (ld1_s g4a).trans rfl
  have b4 : Heap.ld1 H4 (ap ⟨H2.next, 0, none⟩ 4) = some (.int .i64 c2.col) := (ld1_s g4).trans rfl
  have a5 : Heap.ld1 H4 (ap ⟨H.next, 0, none⟩ 5) = some (.bool c1.hidden) := (ld1_s g4a).trans rfl
  have b5 : Heap.ld1 H4 (ap ⟨H2.next, 0, none⟩ 5) = some (.bool c2.hidden) := (ld1_s g4).trans rfl
  rw [a0, b0]
  simp only [optK_s, asI_s]
  rw [if_pos (show decide ((c1.rows : Int) = (c2.rows : Int)) = true from decide_eq_true (by omega))]
  rw [a1, b1]
  simp only [optK_s, asI_s]
  rw [if_pos (show decide ((c1.cols : Int) = (c2.cols : Int)) = true from decide_eq_true (by omega))]
  rw [a3, b3]
  simp only [optK_s, asI_s]
  rw [if_pos (show decide ((c1.row : Int) = (c2.row : Int)) = true from decide_eq_true (by omega))]
  rw [a4, b4]
  simp only [optK_s, asI_s]
  rw [if_pos (show decide ((c1.col : Int) = (c2.col : Int)) = true from decide_eq_true (by omega))]
  rw [a5, b5]
  simp only [optK_s, asB_s]
  rw [if_pos (show (c1.hidden == c2.hidden) = true by rw [h5]; simp), a2]
  simp only [optK_s, asSL_k]
  rw [b2]
  simp only [optK_s, asSL_k]
  have k := k2.trans k4
  rw [SameLines_s e (s1.new k) (s2.new k) haL hL]
  exact ⟨H4, rfl, k⟩

/-! ### pieces -/
structure Pc (H0 H : Heap) (y : Sl) (ps : List (Sl × W)) : Prop where
  w : Whole H y (ps.map fun x => x.1.v) t_S_uint8 1
  p : ∀ x ∈ ps, HV H x.1 x.2
  f : ∀ k, y.at k → H0.next ≤ k
  g : ∀ x ∈ ps, ∀ k, x.1.at k → H0.next ≤ k ∧ ¬ y.at k
theorem Pc.new {H0 H H' : Heap} {y : Sl} {ps : List (Sl × W)} (h : Pc H0 H y ps) (k : Keep0 H H') : Pc H0 H' y ps := ⟨Whole.keep h.w k fun _ _ e => e, fun x hx => (h.p x hx).keep k fun _ _ e => e, h.f, h.g⟩
theorem Pc.keep {S : Nat → Prop} {H0 H H' : Heap} {y : Sl} {ps : List (Sl × W)} (h : Pc H0 H y ps) (k : Keep S H H') (h1 : ∀ k, y.at k → ¬ S k) (h2 : ∀ x ∈ ps, ∀ k, x.1.at k → ¬ S k) : Pc H0 H' y ps := ⟨Whole.keep h.w k h1, fun x hx => (h.p x hx).keep k (h2 x hx), h.f, h.g⟩
theorem Pc.push {H0 H : Heap} {y : Sl} {ps : List (Sl × W)} (h : Pc H0 H y ps) (k0 : Keep0 H0 H) (hl : ps.length ≤ 1000) (l : W) :
    ∃ z H', (∀ K : Value → Heap → Res, (newK H (.cells ((lst (S l)).map fun b => .int .u8 b.toNat) t_uint8 true 0 true) fun p7 H8 => newK H8 (.cells [.slice (some ⟨p7, 0, none⟩) (slen (S l)) (slen (S l))] t_S_uint8 false 0 false) fun p9 H10 => appendK t_S_uint8 1 24 false y.v (.slice (some ⟨p9, 0, none⟩) 1 1) H10 K) = K (Sl.v z) H') ∧
      Pc H0 H' z (ps ++ [(⟨some ⟨H.next, 0, none⟩, l.length, l.length⟩, l)]) ∧ Keep0 H0 H' := by
  rw [lstS, slenS]
  have k8 : Keep0 H (H.new (.cells (l.map fun b => .int .u8 b.toNat) t_uint8 true 0 true)) := Keep.new _ _
  have v8 : BV (H.new (.cells (l.map fun b => .int .u8 b.toNat) t_uint8 true 0 true)) ⟨some ⟨H.next, 0, none⟩, l.length, l.length⟩ H.next [] l [] :=
    ⟨rfl, by rw [bytes_len]; show l.length = l.length * 1; omega, Nat.le_refl _, by simp, true, true, by simp [bytes]⟩
  have n8 : (H.new (.cells (l.map fun b => .int .u8 b.toNat) t_uint8 true 0 true)).next = H.next + 1 := by simp
  have e8 : ∀ K : Nat → Heap → Res, newK H (.cells (l.map fun b => .int .u8 b.toNat) t_uint8 true 0 true) K = K H.next (H.new (.cells (l.map fun b => .int .u8 b.toNat) t_uint8 true 0 true)) := fun K => newK_s
  generalize H.new (.cells (l.map fun b => .int .u8 b.toNat) t_uint8 true 0 true) = H8 at *
  have h8 := h.new k8
  have hn := (Whole.len h8.w).1
  rw [List.length_map] at hn
  obtain ⟨z, H', e1, w1, k1, _, f1, _⟩ := push_whole (bytes := 24) (new := [.slice (some ⟨H.next, 0, none⟩) l.length l.length]) h8.w rfl (by omega) (by omega) (by omega)
  have n0 := k0.1
  refine ⟨z, H', fun K => ?_, ⟨by simpa using w1, fun x hx => ?_, fun k e => by have := f1 k e; omega, fun x hx k e => ?_⟩, (k0.trans k8).fresh k1 h.f⟩
  · rw [e8, newK_s, e1]
  · rcases List.mem_append.1 hx with hx | hx
    · exact (h8.p x hx).keep k1 fun k e => (h.g x hx k e).2
    · rw [List.mem_singleton.1 hx]
      refine v8.hv.keep k1 fun k e e' => ?_
      obtain ⟨a, ha, hb⟩ := e
      cases ha
      subst hb
      have := Whole.lt h.w e'
      simp only at this
      omega
  · rcases List.mem_append.1 hx with hx | hx
    · exact ⟨(h.g x hx k e).1, fun e' => by have := f1 k e'; have := (h8.p x hx).lt e; omega⟩
    · rw [List.mem_singleton.1 hx] at e
      obtain ⟨a, ha, hb⟩ := e
      cases ha
      subst hb
      exact ⟨n0, fun e' => by have := f1 _ e'; simp only at this; omega⟩
def joined (ps : List (Sl × W)) : W := (ps.map Prod.snd).flatten
theorem joined_snoc (ps : List (Sl × W)) (x : Sl × W) : joined (ps ++ [x]) = joined ps ++ x.2 := by simp [joined]
theorem cut_loop (e : Nat) {H0 : Heap} {x1 : Sl} {cuts : List Int} (hx : Ints H0 x1 cuts) : ∀ (m i : Nat) {H : Heap} {y : Sl} {ps : List (Sl × W)} {s : W}, 41 - i < m → i ≤ 40 → ps.length = i → s.length ≤ 900000 → Pc H0 H y ps → Keep0 H0 H →
    ∃ z qs H', hand_Cut_p11010 (e + 1) m (S s) x1 y (i : Int) H = some (Sl.v z, H') ∧ Pc H0 H' z qs ∧ joined qs = joined ps ++ s ∧ qs.length ≤ 41 ∧ Keep0 H0 H' := fun m => by
  induction m with
  | zero => intro i H y ps s hm; omega
  | succ m ih =>
    intro i H y ps s hm hi hps hs h k
    have last : ∃ z qs H', hand_Cut_p11010001 (e + 1) m (S s) x1 y (i : Int) false H = some (Sl.v z, H') ∧ Pc H0 H' z qs ∧ joined qs = joined ps ++ s ∧ qs.length ≤ 41 ∧ Keep0 H0 H' := by
      rw [hand_Cut_p11010001_eq, if_neg ff]
      obtain ⟨z, H', e1, h1, k1⟩ := h.push k (by omega) s
      rw [e1]
      simp only [asSL_k]
      exact ⟨z, _, H', rfl, h1, joined_snoc _ _, by simp; omega, k1⟩
    rw [hand_Cut_p11010_s]
    by_cases c0 : (i : Int) < (x1.n : Int)
    · rw [if_pos (show decide ((i : Int) < (x1.n : Int)) = true from decide_eq_true c0)]
      by_cases c1 : i < 40
      · rw [if_pos (show decide ((i : Int) < 40) = true from decide_eq_true (by omega)), slenS]
        by_cases c2 : 0 < s.length
        · rw [show decide ((0 : Int) < (s.length : Int)) = true from decide_eq_true (by omega), hand_Cut_p11010001_eq, if_pos rfl]
          obtain ⟨v, hv⟩ : ∃ v, cuts[i]? = some v := ⟨cuts[i]'(by have := hx.1; omega), List.getElem?_eq_getElem _⟩
          obtain ⟨b, o, ha, _, hl⟩ := (hx.new k).2 i v (by omega) hv
          rw [ha]
          simp only [optK_s]
          rw [if_pos (show (0 : Int) ≤ (i : Int) ∧ (i : Int) < (x1.n : Int) by omega), show ap ⟨b, o, none⟩ (((i : Int).toNat) * 1) = ⟨b, o + i, none⟩ by simp [ap], hl]
          simp only [optK_s, asI_s]
          obtain ⟨n, en, hn⟩ := Pick_s e v 9 H (by omega) (by omega)
          rw [show X (e + 1) n_hand_Pick [.int .i64 v, .int .i64 9] H = _ from en]
          simp only [callK_s, asI_s]
          have hmin : (if (slen (S s) : Int) < (n : Int) then (slen (S s) : Int) else (n : Int)) = ((min n s.length : Nat) : Int) := by rw [slenS]; split <;> omega
          rw [hmin, slenS, if_pos (show (0 : Int) ≤ ((min n s.length : Nat) : Int) ∧ ((min n s.length : Nat) : Int) ≤ (s.length : Int) by omega), Int.toNat_natCast, sSubS, sSubS, List.drop_zero]
          obtain ⟨z, H', e1, h1, k1⟩ := h.push k (by omega) (s.take (min n s.length))
          rw [e1]
          simp only [asSL_k]
          rw [if_pos (show (0 : Int) ≤ ((min n s.length : Nat) : Int) ∧ ((min n s.length : Nat) : Int) ≤ (s.length : Int) by omega), wi (by omega), List.take_length]
          obtain ⟨z2, qs, H2, e2, h2, j2, l2, k2⟩ := ih (i + 1) (s := s.drop (min n s.length)) (by omega) (by omega) (by simp; omega) (by rw [List.length_drop]; omega) h1 k1
          refine ⟨z2, qs, H2, e2, h2, ?_, l2, k2⟩
          rw [j2, joined_snoc, List.append_assoc, List.take_append_drop]
        · rw [show decide ((0 : Int) < (s.length : Int)) = false from decide_eq_false (by omega)]
          exact last
      · rw [if_neg (show ¬ decide ((i : Int) < 40) = true from dneg (by omega))]
        exact last
    · rw [if_neg (show ¬ decide ((i : Int) < (x1.n : Int)) = true from dneg c0)]
      exact last
theorem Cut_s (e : Nat) {H : Heap} {x1 : Sl} {cuts : List Int} (hx : Ints H x1 cuts) {s : W} (hs : s.length ≤ 900000) : ∃ z qs H', X (e + 2) n_hand_Cut [.string (S s), x1.v] H = some (Sl.v z, H') ∧ Pc H H' z qs ∧ joined qs = s ∧ qs.length ≤ 41 ∧ Keep0 H H' := by
  rw [hand_Cut_eq]
  obtain ⟨z, qs, H', e1, h1, j1, l1, k1⟩ := cut_loop e hx NN 0 (H := H) (y := Sl.nil) (ps := []) (s := s) (NN_big _ (by omega)) (by omega) rfl hs ⟨.inl ⟨rfl, rfl⟩, (fun x hx => nomatch hx), (fun k e => absurd e Sl.at_nil), (fun x hx => nomatch hx)⟩ (Keep.refl _)
  exact ⟨z, qs, H', e1, h1, by simpa [joined] using j1, l1, k1⟩
end Go.Proofs.YtjmiehbiindjdaaDoor.dec

namespace Go.Proofs.YtjmiehbiindjdaaDoor.dec
open Go Go.Cm

attribute [local congr] optK_congr asI_congr asN_congr asB_congr asS_congr asP_congr asA_congr asSL_congr callK_congr castT_congr chk_congr

/-- one write, and another: one write -/
theorem write_two (F : G → Act → G) (q : GP) (l1 l2 : W) : (q.write F l1).write F l2 = q.write F (l1 ++ l2) := by
  obtain ⟨f1, f2⟩ := feed_two (q.w ++ l1) l2
  have ea : (q.write F l1).acts l2 = (pFeed (pFeed q.c (feedL (q.w ++ l1))).1 (feedL (heldW (q.w ++ l1) ++ l2))).2 := rfl
  have eb : q.acts (l1 ++ l2) = (pFeed q.c (feedL (q.w ++ l1))).2 ++ (pFeed (pFeed q.c (feedL (q.w ++ l1))).1 (feedL (heldW (q.w ++ l1) ++ l2))).2 := by
    unfold GP.acts
    rw [← List.append_assoc, f1, pFeed_app]
  have ec : (pFeed q.c (feedL (q.w ++ (l1 ++ l2)))).1 = (pFeed (pFeed q.c (feedL (q.w ++ l1))).1 (feedL (heldW (q.w ++ l1) ++ l2))).1 := by
    rw [← List.append_assoc, f1, pFeed_app]
  have ed : q.write F (l1 ++ l2) = ⟨(q.acts (l1 ++ l2)).foldl F q.g, (pFeed q.c (feedL (q.w ++ (l1 ++ l2)))).1, heldW (q.w ++ (l1 ++ l2))⟩ := rfl
  have ee : (q.write F l1).write F l2 = ⟨((q.write F l1).acts l2).foldl F (q.write F l1).g, (pFeed (pFeed q.c (feedL (q.w ++ l1))).1 (feedL (heldW (q.w ++ l1) ++ l2))).1, heldW (heldW (q.w ++ l1) ++ l2)⟩ := rfl
  rw [ed, ee, ea, eb, ec, ← List.append_assoc, f2, List.foldl_append]
  rfl
theorem write_none (F : G → Act → G) {q : GP} (hw : q.w = []) : q.write F [] = q := by
  obtain ⟨g, c, w⟩ := q
  simp only at hw
  subst hw
  rfl

/-- two grids, apart -/
structure Two (H0 H : Heap) (A B : GA) (qa qb : GP) : Prop where
  t : Tab H
  a : Gr H A qa
  b : Gr H B qb
  ab : ∀ k, A.foot k → ¬ B.foot k
  k0 : Keep0 H0 H
  fa : ∀ k, A.foot k → H0.next ≤ k
  fb : ∀ k, B.foot k → H0.next ≤ k
section
variable {H0 H : Heap} {A B : GA} {qa qb : GP} (h : Two H0 H A B qa qb)
include h
theorem Two.new {H1 : Heap} (k : Keep0 H H1) : Two H0 H1 A B qa qb := ⟨h.t.keep k id id, h.a.keep k fun _ _ e => e, h.b.keep k fun _ _ e => e, h.ab, h.k0.trans k, h.fa, h.fb⟩
theorem Two.swap : Two H0 H B A qb qa := ⟨h.t, h.b, h.a, fun k e e' => h.ab k e' e, h.k0, h.fb, h.fa⟩
theorem Two.write (d : Nat) {x : Sl} {l : W} (hx : HV H x l) (hl : l.length ≤ 900000) :
    ∃ H' A', X (d + 11) n_grid_Grid_Write [P0 A.D.p, x.v] H = some (.tuple #[], H') ∧ Two H0 H' A' B (qa.write G.doA l) qb ∧ A'.D.p = A.D.p ∧ Keep A.foot H H' ∧ (∀ k, A'.foot k → A.foot k ∨ H.next ≤ k) := by
  obtain ⟨H', A', e, h', s'⟩ := WriteA_s d h.t h.a hx hl
  refine ⟨H', A', e, ⟨h.t.keep s'.kp (fun e => by have := h.a.lo _ e; omega) (fun e => by have := h.a.lo _ e; omega), h', h.b.keep s'.kp fun k e e' => h.ab k e' e, fun k e e' => ?_, h.k0.fresh s'.kp h.fa, fun k e => ?_, h.fb⟩, s'.p, s'.kp, s'.ft⟩
  · rcases s'.ft k e with e | e
    · exact h.ab k e e'
    · have := h.b.lt e'; omega
  · rcases s'.ft k e with e | e
    · exact h.fa k e
    · have := h.k0.1; omega
end

/-- a screen that was taken is spoilt: nothing else is turned -/
theorem spoil_s {H H1 : Heap} {b : Nat} {c : Sc} {y : Sl} {p : Q} {L : List (List Cl)} (g1 : H1.get b = some (.cells (scrL c y) t_api_Screen false 0 false)) (o : Outer H1 y p) (r : Rows H1 p) (hm : p.map Prod.snd = L) (hL : ∃ c0 r0 L0, L = (c0 :: r0) :: L0) (k : Keep0 H H1) (hblt : b < H1.next)
    (fy : ∀ k, y.at k → H.next ≤ k ∧ k ≠ b) (fp : ∀ k, bl p k → H.next ≤ k ∧ k ≠ b) (dj : ∀ k, y.at k → ¬ bl p k) (R : Heap → Res) :
    ∃ H', (optK (Heap.ld1 H1 ⟨b, 2, none⟩) fun v13 => asSL v13 fun l14 => optK l14.a fun a15 => if 0 ≤ (0 : Int) ∧ (0 : Int) < (l14.n : Int) then optK (Heap.ld1 H1 (ap a15 0)) fun v16 => asSL v16 fun l17 => optK l17.a fun a18 => if 0 ≤ (0 : Int) ∧ (0 : Int) < (l17.n : Int) then
      optK (Heap.st1 H1 (ap (ap a18 0) 0) (.int .i32 81)) fun H19 => optK (Heap.ld1 H19 ⟨b, 2, none⟩) fun v20 => asSL v20 fun l21 => optK l21.a fun a22 => if 0 ≤ (0 : Int) ∧ (0 : Int) < (l21.n : Int) then optK (Heap.st1 H19 (ap a22 0) (.slice none 0 0)) fun H23 => R H23 else none else none else none) = R H' ∧ Keep0 H H' := by
  obtain ⟨c0, r0, L0, rfl⟩ := hL
  obtain ⟨x, rest, rfl⟩ : ∃ x rest, p = x :: rest := by
    cases p with
    | nil => cases hm
    | cons x rest => exact ⟨x, rest, rfl⟩
  have hx2 : x.2 = c0 :: r0 := by
    have := congrArg (fun l => l[0]?) hm
    simpa using this
  obtain ⟨bb, v, hat⟩ := Outer.ov o (o.some (by simp))
  have yn := o.n
  have sa := Vw.sa v
  have h0 := Vw.ld v (i := 0) (x := rowV x) rfl
  have row := r.1 x (by simp)
  have hbx : bl (x :: rest) x.1 := ⟨x, by simp, rfl⟩
  rw [(ld1_s g1).trans (show (scrL c y)[2]? = some y.v from rfl)]
  simp only [optK_s, asSL_k]
  rw [sa]
  simp only [optK_s]
  rw [if_pos (show 0 ≤ (0 : Int) ∧ (0 : Int) < (y.n : Int) by rw [yn]; simp), show Heap.ld1 H1 (ap ⟨bb, ([] : List Value).length, none⟩ 0) = some (rowV x) from h0]
  simp only [optK_s, rowV, asSL_k2]
  have hxl : 0 < x.2.length := by rw [hx2]; simp
  rw [if_pos (show 0 ≤ (0 : Int) ∧ (0 : Int) < (x.2.length : Int) by omega)]
  obtain ⟨H2, e2, v2, k2, n2⟩ := row.vw.st1 (x := .int .i32 81) (i := 0) (by rw [flat_ln]; omega)
  rw [show Heap.st1 H1 (ap (ap ⟨x.1, 0, none⟩ 0) 0) (.int .i32 81) = some H2 from e2]
  simp only [optK_s]
  have bs1 := (fp x.1 hbx).2
  have bb1 : bb ≠ x.1 := fun e => dj bb hat (by rw [e]; exact hbx)
  rw [(ld1_s ((k2.2 b hblt (fun e => bs1 (Eq.symm e))).trans g1)).trans (show (scrL c y)[2]? = some y.v from rfl)]
  simp only [optK_s, asSL_k]
  rw [sa]
  simp only [optK_s]
  rw [if_pos (show 0 ≤ (0 : Int) ∧ (0 : Int) < (y.n : Int) by rw [yn]; simp)]
  have v' := Vw.keep v k2 (fun e => bb1 e)
  obtain ⟨H3, e3, v3, k3, n3⟩ := v'.st1 (x := .slice none 0 0) (i := 0) (by simp)
  rw [show Heap.st1 H2 (ap ⟨bb, ([] : List Value).length, none⟩ 0) (.slice none 0 0) = some H3 from e3]
  simp only [optK_s]
  refine ⟨H3, rfl, (k.fresh k2 fun i e => ?_).fresh k3 fun i e => ?_⟩
  · have e' : i = x.1 := e
    rw [e']; exact (fp x.1 hbx).1
  · have e' : i = bb := e
    rw [e']; exact (fy bb hat).1

theorem pieces_loop (e : Nat) {H0 Hc : Heap} {x14 : Sl} {qs : List (Sl × W)} {s : W} (hj : joined qs = s) (hs : s.length ≤ 900000) {R C : Nat} {B : GA} (hqs : qs.length ≤ 41) : ∀ (m i : Nat) {H : Heap} {A : GA}, qs.length - i < m → i ≤ qs.length → Two H0 H A B ((GP.new R C).write G.doA (joined (qs.take i))) (GP.new R C) → Pc Hc H x14 qs →
    (∀ k, x14.at k → ¬ A.foot k) → (∀ x ∈ qs, ∀ k, x.1.at k → ¬ A.foot k) → ∃ H', law21_GridPieces_p11111111010 (e + 11) m (some ⟨A.D.p, 0, none⟩) (some ⟨B.D.p, 0, none⟩) (S s) x14 (i : Int) H = some (.bool true, H') := fun m => by
  induction m with
  | zero => intro i H A hm; omega
  | succ m ih =>
    intro i H A hm hi h pc ha hb
    have hn := (Whole.len pc.w).1
    rw [List.length_map, Nat.mul_one] at hn
    rw [law21_GridPieces_p11111111010_s]
    by_cases hlt : i < qs.length
    · have hc : qs[i]? = some qs[i] := List.getElem?_eq_getElem hlt
      have hmem : qs[i] ∈ qs := List.getElem_mem hlt
      have htk : joined (qs.take (i + 1)) = joined (qs.take i) ++ qs[i].2 := by rw [List.take_add_one, hc]; exact joined_snoc _ _
      generalize qs[i] = x at hc hmem htk
      have hne : x14.a ≠ none := by
        rcases pc.w with ⟨h1, _⟩ | ⟨b, q, h1, _⟩
        · rw [h1] at hn
          have hn' : qs.length = 0 := hn
          omega
        · rw [h1]; simp
      obtain ⟨b, vw, _⟩ := Vw.of pc.w hne
      have hld := vw.ld (i := i) (x := x.1.v) (by simp [hc])
      have hlx : x.2.length ≤ 900000 := by
        have h1 : (joined (qs.take (i + 1))).length ≤ (joined qs).length := by
          have : joined qs = joined (qs.take (i + 1)) ++ joined (qs.drop (i + 1)) := by
            unfold joined
            rw [← List.flatten_append, ← List.map_append, List.take_append_drop]
          rw [this, List.length_append]; omega
        rw [htk, hj, List.length_append] at h1
        omega
      rw [if_pos (show decide ((i : Int) < (x14.n : Int)) = true from decide_eq_true (by omega)), vw.sa]
      simp only [optK_s]
      rw [if_pos (show (0 : Int) ≤ (i : Int) ∧ (i : Int) < (x14.n : Int) by omega), show ap ⟨b, ([] : List Value).length, none⟩ (((i : Int).toNat) * 1) = ⟨b, ([] : List Value).length + i, none⟩ by simp [ap], hld]
      simp only [optK_s, asSL_k]
      obtain ⟨H5, A5, e5, h5, p5, k5, f5⟩ := h.write e (pc.p x hmem) hlx
      rw [show X (e + 11) n_grid_Grid_Write [.pointer (some ⟨A.D.p, 0, none⟩), x.1.v] H = _ from e5]
      simp only [callK_s]
      rw [write_two, ← htk] at h5
      have pc5 := pc.keep k5 ha hb
      have ha5 : ∀ k, x14.at k → ¬ A5.foot k := fun k e e' => (f5 k e').elim (ha k e) fun e' => by have := Whole.lt pc.w e; omega
      have hb5 : ∀ x ∈ qs, ∀ k, x.1.at k → ¬ A5.foot k := fun x hx k e e' => (f5 k e').elim (hb x hx k e) fun e' => by have := (pc.p x hx).lt e; omega
      rw [← p5]
      obtain ⟨y, p, b8, H8, e8, g8, o8, r8, m8, _, lt8, k8, fy, fp, dj⟩ := scr_s (e + 8) h5.a.rep h5.a.wf
      rw [e8]
      have w5 := h5.a.wf
      obtain ⟨H9, e9, k9⟩ := spoil_s g8 o8 r8 m8 (by
        have h1 := w5.r1; have h2 := w5.c1; have h3 := w5.Ln; have h4 := w5.Lw
        generalize ((GP.new R C).write G.doA (joined (qs.take (i + 1)))).g.L = L at *
        cases L with
        | nil => simp at h3; omega
        | cons l L =>
          have := h4 l (by simp)
          cases l with
          | nil => simp at this; omega
          | cons c l => exact ⟨c, l, L, rfl⟩) k8 lt8 fy fp dj fun H23 => law21_GridPieces_p11111111010 (e + 11) m (some ⟨A5.D.p, 0, none⟩) (some ⟨B.D.p, 0, none⟩) (S s) x14 (IntKind.wrap .i64 ((i : Int) + 1)) H23
      rw [e9, wi (by omega)]
      exact ih (i + 1) (by omega) (by omega) (h5.new k9) (pc5.new k9) ha5 hb5
    · have : i = qs.length := by omega
      subst this
      rw [if_neg (show ¬ decide ((qs.length : Int) < (x14.n : Int)) = true from dneg (by omega)), lstS, slenS]
      rw [List.take_length, hj] at h
      simp only [newK_s]
      have k6 : Keep0 H (H.new (.cells (s.map fun b => .int .u8 b.toNat) t_uint8 true 0 true)) := Keep.new _ _
      have v6 : BV (H.new (.cells (s.map fun b => .int .u8 b.toNat) t_uint8 true 0 true)) ⟨some ⟨H.next, 0, none⟩, s.length, s.length⟩ H.next [] s [] :=
        ⟨rfl, by rw [bytes_len]; show s.length = s.length * 1; omega, Nat.le_refl _, by simp, true, true, by simp [bytes]⟩
      have h6 := (h.new k6).swap
      generalize H.new (.cells (s.map fun b => .int .u8 b.toNat) t_uint8 true 0 true) = H6 at *
      obtain ⟨H7, B7, e7, h7, p7, _⟩ := h6.write e v6.hv hs
      rw [show X (e + 11) n_grid_Grid_Write [.pointer (some ⟨B.D.p, 0, none⟩), .slice (some ⟨H.next, 0, none⟩) s.length s.length] H6 = _ from e7]
      simp only [callK_s]
      rw [← p7]
      generalize (GP.new R C).write G.doA s = q at h7
      have w := h7.a.wf
      have r2 := w.r2; have c2 := w.c2; have hLn := w.Ln; have hpn := w.pn
      obtain ⟨y1, p1, H8, e8, o8, r8, m8, _, _, _, k8⟩ := Screen_s (e + 8) h7.b.rep h7.b.wf
      rw [show X (e + 11) n_grid_Grid_Screen [.pointer (some ⟨A.D.p, 0, none⟩)] H7 = _ from e8]
      simp only [callK_s, asA_s]
      have h8 := h7.new k8
      obtain ⟨y2, p2, H9, e9, o9, r9, m9, _, _, _, k9⟩ := Screen_s (e + 8) h8.a.rep h8.a.wf
      rw [show X (e + 11) n_grid_Grid_Screen [.pointer (some ⟨B7.D.p, 0, none⟩)] H8 = _ from e9]
      simp only [callK_s, asA_s]
      have h9 := h8.new k9
      obtain ⟨H10, e10, k10⟩ := Same_s (e + 9) ((Lines.mk o8 r8 m8).new k9) (Lines.mk o9 r9 m9) (by omega) (fun l hl => by have := w.Lw l hl; omega) (c1 := q.g.c) (c2 := q.g.c) rfl rfl rfl rfl rfl
      rw [e10]
      simp only [callK_s, asB_s]
      rw [if_pos trivial]
      have h10 := h9.new k10
      obtain ⟨z1, t1, H11, e11, o11, r11, m11, _, _, _, k11⟩ := Past_s (e + 8) h10.b.rep h10.b.wf
      rw [show X (e + 11) n_grid_Grid_Past [.pointer (some ⟨A.D.p, 0, none⟩)] H10 = _ from e11]
      simp only [callK_s, asSL_k]
      have h11 := h10.new k11
      obtain ⟨z2, t2, H12, e12, o12, r12, m12, _, _, _, k12⟩ := Past_s (e + 8) h11.a.rep h11.a.wf
      rw [show X (e + 11) n_grid_Grid_Past [.pointer (some ⟨B7.D.p, 0, none⟩)] H11 = _ from e12]
      simp only [callK_s, asSL_k]
      rw [SameLines_s (e + 10) ((Lines.mk o11 r11 m11).new k12) (Lines.mk o12 r12 m12) (by omega) (fun l hl => by have := (w.pw l hl).2; omega)]
      exact ⟨H12, rfl⟩

theorem GridPieces_s (e : Nat) {H : Heap} (t : Tab H) (pt : PTab H) (x0 x1 : Int) {x2 x3 : Sl} {l2 l3 : List Int} (hx2 : Ints H x2 l2) (hx3 : Ints H x3 l3) : ∃ H', X (e + 12) n_law21_GridPieces [.int .i64 x0, .int .i64 x1, x2.v, x3.v] H = some (.bool true, H') := by
  rw [law21_GridPieces_eq]
  obtain ⟨r0, e1, h1⟩ := Pick_s (e + 10) x0 8 H (by omega) (by omega)
  obtain ⟨c0, e2, h2⟩ := Pick_s (e + 10) x1 12 H (by omega) (by omega)
  rw [show X (e + 11) n_hand_Pick [.int .i64 x0, .int .i64 8] H = _ from e1]
  simp only [callK_s, asI_s]
  rw [show X (e + 11) n_hand_Pick [.int .i64 x1, .int .i64 12] H = _ from e2]
  simp only [callK_s, asI_s]
  have hR : IntKind.wrap .i64 (1 + (r0 : Int)) = ((r0 + 1 : Nat) : Int) := by rw [w64 (by omega)]; omega
  have hC : IntKind.wrap .i64 (1 + (c0 : Int)) = ((c0 + 1 : Nat) : Int) := by rw [w64 (by omega)]; omega
  rw [hR, hC]
  obtain ⟨H2, A, e3, h3, k3, f3⟩ := New_s (e + 4) t.lt (r := r0 + 1) (c := c0 + 1) (by omega) (by omega)
  rw [e3, callK_s, castPI, castPI]
  simp only [List.getElem?_cons_zero, List.getElem?_cons_succ, optK_s, P0, asP_s, asI_s]
  have t2 := t.keep k3 id id
  obtain ⟨H4, B, e4, h4, k4, f4⟩ := New_s (e + 4) t2.lt (r := r0 + 1) (c := c0 + 1) (by omega) (by omega)
  rw [e4, callK_s, castPI, castPI]
  simp only [List.getElem?_cons_zero, List.getElem?_cons_succ, optK_s, P0, asP_s, asI_s]
  rw [known_s]
  simp only [callK_s, asB_s]
  rw [if_neg (show ¬ (!true) = true by simp), if_neg (show ¬ (!decide True) = true by simp), if_neg (show ¬ (!decide True) = true by simp), if_neg (show ¬ (some (⟨A.D.p, 0, none⟩ : Addr)).isNone = true by simp), law21_GridPieces_p1111101_eq, if_neg (show ¬ (some (⟨B.D.p, 0, none⟩ : Addr)).isNone = true by simp)]
  have n3 := k3.1
  have two : Two H H4 A B (GP.new (r0 + 1) (c0 + 1)) (GP.new (r0 + 1) (c0 + 1)) := ⟨t2.keep k4 id id, h3.keep k4 (fun _ _ e => e), h4, fun k e e' => by have := h3.lt e; have := f4 k e'; omega, k3.trans k4, f3, fun k e => by have := f4 k e; omega⟩
  obtain ⟨w, H5, e5, hw, k5⟩ := Output_s (e + 8) (pt.keep two.k0 id id) (hx2.new two.k0) (R := r0 + 1) (by omega)
  rw [show X (e + 11) n_hand_Output [x2.v, .int .i64 ((r0 + 1 : Nat) : Int)] H4 = _ from e5]
  simp only [callK_s, asS_s]
  have two5 := two.new k5
  obtain ⟨z, qs, H6, e6, pc6, j6, l6, k6⟩ := Cut_s (e + 9) (hx3.new two5.k0) (s := w) (by omega)
  rw [show X (e + 11) n_hand_Cut [.string (S w), x3.v] H5 = _ from e6]
  simp only [callK_s, asSL_k]
  have two6 := two5.new k6
  exact pieces_loop e j6 (by omega) l6 NN 0 (NN_big _ (by omega)) (by omega) (by rw [List.take_zero]; exact (write_none G.doA (q := GP.new (r0 + 1) (c0 + 1)) rfl).symm ▸ two6) pc6
    (fun k e e' => by have := pc6.f k e; have := two5.a.lt e'; omega) (fun x hx k e e' => by have := (pc6.g x hx k e).1; have := two5.a.lt e'; omega)
end Go.Proofs.YtjmiehbiindjdaaDoor.dec
