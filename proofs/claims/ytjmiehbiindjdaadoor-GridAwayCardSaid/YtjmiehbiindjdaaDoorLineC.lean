/-
  grid: GridAway.
-/
import Derived.Test.YtjmiehbiindjdaaDoorLineB
import Derived.Test.YtjmiehbiindjdaaDoorDec
namespace Go.Proofs.YtjmiehbiindjdaaDoor.dec
open Go Go.Cm

attribute [local congr] optK_congr asI_congr asN_congr asB_congr asS_congr asP_congr asA_congr asSL_congr callK_congr castT_congr chk_congr

/-! ### what is put away stays -/
def Kp (g g' : G) : Prop := g'.other = g.other ∧ g'.past = g.past ∧ g'.c.arow = g.c.arow ∧ g'.c.acol = g.c.acol
theorem Kp.refl (g : G) : Kp g g := ⟨rfl, rfl, rfl, rfl⟩
theorem Kp.trans {g g' g'' : G} (h : Kp g g') (h' : Kp g' g'') : Kp g g'' := ⟨h'.1.trans h.1, h'.2.1.trans h.2.1, h'.2.2.1.trans h.2.2.1, h'.2.2.2.trans h.2.2.2⟩
theorem up_kp {g : G} (h : g.other ≠ none) (n : Nat) : Kp g (g.up n) := by
  unfold G.up
  rw [if_neg (fun e => h e.2)]
  exact ⟨rfl, rfl, rfl, rfl⟩
theorem index_kp {g : G} (h : g.other ≠ none) : Kp g g.index := by
  unfold G.index
  split
  · exact (up_kp (g := g.due false) h 1 : Kp _ _)
  split <;> exact ⟨rfl, rfl, rfl, rfl⟩
theorem print_kp {g : G} (h : g.other ≠ none) (r : Int) : Kp g (g.print r) := by
  have p0 : ∀ g : G, Kp g (g.print0 r) := fun g => by unfold G.print0; dsimp only; split <;> exact ⟨rfl, rfl, rfl, rfl⟩
  unfold G.print
  split
  · exact ((index_kp (g := { g with c := { g.c with col := 0 } }) h : Kp _ _).trans (p0 _) : Kp _ _)
  · exact p0 g
theorem control_kp {g : G} (h : g.other ≠ none) (r : Int) : Kp g (g.control r) := by
  unfold G.control
  split; · exact ⟨rfl, rfl, rfl, rfl⟩
  split; · exact ⟨rfl, rfl, rfl, rfl⟩
  split; · exact index_kp h
  split <;> exact ⟨rfl, rfl, rfl, rfl⟩
theorem wipeIfs_kp (p : Int) (row : Nat) : ∀ (l : List Nat) (g : G), Kp g (l.foldl (G.wipeIf p row) g) := fun l => by
  induction l with
  | nil => intro g; exact Kp.refl g
  | cons i l ih =>
    intro g
    refine Kp.trans ?_ (ih _)
    unfold G.wipeIf
    split <;> exact ⟨rfl, rfl, rfl, rfl⟩
/-- acts that leave it alone -/
def Safe (a : Act) : Prop := a.kind = 1 ∨ a.kind = 2 ∨ a = csiA 74 [2] ∨ a = csiA 72 [0] ∨ a = csiA 76 [0] ∨ a = csiA 83 [0]
theorem safe_kp {g : G} (h : g.other ≠ none) {a : Act} (ha : Safe a) : Kp g (g.doA a) := by
  rcases ha with ha | ha | rfl | rfl | rfl | rfl
  · unfold G.doA; rw [if_pos ha]; exact print_kp h _
  · unfold G.doA; rw [if_neg (by omega), if_pos ha]; exact control_kp h _
  · have e : g.doA (csiA 74 [2]) = (List.range g.c.rows).foldl (G.wipeIf 2 g.c.row) (g.wipe g.c.row 0 g.c.cols) := rfl
    rw [e]
    exact (show Kp g (g.wipe g.c.row 0 g.c.cols) from ⟨rfl, rfl, rfl, rfl⟩).trans (wipeIfs_kp _ _ _ _)
  · exact ⟨rfl, rfl, rfl, rfl⟩
  · have e : g.doA (csiA 76 [0]) = if g.c.row < g.c.top ∨ g.c.bottom < g.c.row then g else (g.put g.c.row 1).move g.c.row 0 := rfl
    rw [e]
    split <;> exact ⟨rfl, rfl, rfl, rfl⟩
  · have e : g.doA (csiA 83 [0]) = g.up 1 := rfl
    rw [e]
    exact up_kp h 1
theorem safes_kp : ∀ (al : List Act) {g : G}, g.other ≠ none → (∀ a ∈ al, Safe a) → Kp g (al.foldl G.doA g) := fun al => by
  induction al with
  | nil => intro g _ _; exact Kp.refl g
  | cons a al ih =>
    intro g h ha
    have h1 := safe_kp h (ha a (by simp))
    exact h1.trans (ih (by rw [h1.1]; exact h) fun b hb => ha b (by simp [hb]))

/-- the alternate screen is there, and gone -/
def onA : Act := ⟨4, 104, true, [1049]⟩
def offA : Act := ⟨4, 108, true, [1049]⟩
theorem do_on (g : G) : g.doA onA = g.alternate true := rfl
theorem do_off (g : G) : g.doA offA = g.alternate false := rfl
theorem Says.on : Says [27, 91, 63, 49, 48, 52, 57, 104] [onA] := .csi (by decide) ⟨rfl, rfl⟩
theorem Says.off : Says [27, 91, 63, 49, 48, 52, 57, 108] [offA] := .csi (by decide) ⟨rfl, rfl⟩
/-- behind any text: no alternate screen, all rows in the region, the cursor at the second cell of the second row -/
def home : List Act := [offA, csiA 114 [0], csiA 72 [2, 2]]
def homeB : W := [27, 91, 63, 49, 48, 52, 57, 108, 27, 91, 114, 27, 91, 50, 59, 50, 72]
theorem Says.home : Says homeB home := by
  have h1 : Says [27, 91, 114] [csiA 114 [0]] := .csi (by decide) ⟨rfl, rfl⟩
  have h2 : Says [27, 91, 50, 59, 50, 72] [csiA 72 [2, 2]] := .csi (by decide) ⟨rfl, rfl⟩
  have := (Says.off.app h1).app h2
  simpa [homeB, dec.home] using this
theorem home_g {g : G} (_w : WF g) (hr : 2 ≤ g.c.rows) (hc : 2 ≤ g.c.cols) : (home.foldl G.doA g).other = none ∧ (home.foldl G.doA g).c.row = 1 ∧ (home.foldl G.doA g).c.col = 1 := by
  have e : home.foldl G.doA g = ((((g.alternate false).doA (csiA 114 [0])).doA (csiA 72 [((1 + 1 : Nat) : Int), ((1 + 1 : Nat) : Int)]))) := rfl
  rw [e, csi_H]
  have sz := (alternate_sz g false).trans (doA_sz (g.alternate false) (csiA 114 [0]))
  generalize hg2 : (g.alternate false).doA (csiA 114 [0]) = g2 at sz ⊢
  have ho : g2.other = none := by
    have h1 : (g.alternate false).other = none := by
      cases ho : g.other with
      | none =>
        have e : g.alternate false = g := by unfold G.alternate; rw [ho]
        rw [e]; exact ho
      | some M => unfold G.alternate; rw [ho]
    rw [← hg2]
    have e2 : (g.alternate false).doA (csiA 114 [0]) = (g.alternate false).region ((csiA 114 [0]).par 0 1 - 1) (min ((csiA 114 [0]).par 1 (g.alternate false).c.rows - 1) (((g.alternate false).c.rows : Int) - 1)) := rfl
    rw [e2]
    unfold G.region
    split <;> exact h1
  refine ⟨ho, ?_, ?_⟩
  · show (min (max ((1 : Nat) : Int) 0) ((g2.c.rows : Int) - 1)).toNat = 1
    rw [sz.1]; omega
  · show (min (max ((1 : Nat) : Int) 0) ((g2.c.cols : Int) - 1)).toNat = 1
    rw [sz.2]; omega
/-- away and back -/
theorem away_back {g : G} (ho : g.other = none) {al : List Act} (ha : ∀ a ∈ al, Safe a) :
    ((al ++ [offA]).foldl G.doA (g.doA onA)).L = g.L ∧ ((al ++ [offA]).foldl G.doA (g.doA onA)).past = g.past ∧ ((al ++ [offA]).foldl G.doA (g.doA onA)).c.row = g.c.row ∧ ((al ++ [offA]).foldl G.doA (g.doA onA)).c.col = g.c.col := by
  rw [List.foldl_append, List.foldl_cons, List.foldl_nil, do_on, do_off]
  have h1 : g.alternate true = { g with other := some g.L, L := List.replicate g.c.rows (List.replicate g.c.cols blank), c := { g.c with arow := g.c.row, acol := g.c.col, adue := g.c.due, ast := g.c.st } } := by unfold G.alternate; rw [ho]
  have k := safes_kp al (g := g.alternate true) (by rw [h1]; simp) ha
  generalize al.foldl G.doA (g.alternate true) = g6 at k ⊢
  obtain ⟨k1, k2, k3, k4⟩ := k
  rw [h1] at k1 k2 k3 k4
  have h2 : g6.alternate false = { g6 with L := g.L, other := none, c := { g6.c with row := g6.c.arow, col := g6.c.acol, due := g6.c.adue, st := g6.c.ast, arow := 0, acol := 0, adue := false, ast := zeroC } } := by unfold G.alternate; rw [k1]
  rw [h2]
  exact ⟨rfl, k2, k3, k4⟩

/-! ### the walk -/
theorem WF.acts : ∀ (al : List Act) {g : G}, (∀ a ∈ al, a.ok) → WF g → WF (al.foldl G.doA g) := fun al => by
  induction al with
  | nil => intro g _ w; exact w
  | cons a al ih => intro g h w; exact ih (fun b hb => h b (by simp [hb])) (w.doA (h a (by simp)))
/-- a grid that a law holds; blocks in P are as they were in Hb -/
structure Lq (P : Nat → Prop) (Hb H0 H : Heap) (A : GA) (g : G) : Prop where
  lv : Lv P Hb H A g
  k0 : Keep0 H0 H
  fa : ∀ k, A.foot k → H0.next ≤ k
section
variable {P : Nat → Prop} {Hb H0 H : Heap} {A : GA} {g : G} (h : Lq P Hb H0 H A g)
include h
theorem Lq.new {H1 : Heap} (k : Keep0 H H1) : Lq P Hb H0 H1 A g := ⟨h.lv.new k, h.k0.trans k, h.fa⟩
theorem Lq.putS (d : Nat) {l : W} {al : List Act} (sy : Says l al) (hl : l.length ≤ 900000) :
    ∃ H' A', (∀ K : Value → Heap → Res, (newK H (.cells ((lst (S l)).map fun b => .int .u8 b.toNat) t_uint8 true 0 true) fun p1 H2 => callK (X (d + 11) n_grid_Grid_Write [.pointer (some ⟨A.D.p, 0, none⟩), .slice (some ⟨p1, 0, none⟩) (slen (S l)) (slen (S l))] H2) K) = K (.tuple #[]) H') ∧
      Lq P Hb H0 H' A' (al.foldl G.doA g) ∧ A'.D.p = A.D.p := by
  obtain ⟨H', A', e, l', p', k', f'⟩ := h.lv.putS d sy hl
  exact ⟨H', A', e, ⟨l', h.k0.fresh k' h.fa, fun k e => (f' k e).elim (h.fa k) fun e => by have := h.k0.1; omega⟩, p'⟩
theorem Lq.putC (d : Nat) {l : W} {cs : List Value} {n : Nat} {al : List Act} (hcs : cs = bytes l) (hn : n = l.length) (sy : Says l al) (hl : l.length ≤ 900000) :
    ∃ H' A', (∀ K : Value → Heap → Res, (newK H (.cells cs t_uint8 false 0 false) fun p1 H2 => effK (.markStr) [.slice (some ⟨p1, 0, none⟩) n n] H2 fun v3 H4 => asSL v3 fun l5 => callK (X (d + 11) n_grid_Grid_Write [.pointer (some ⟨A.D.p, 0, none⟩), l5.v] H4) K) = K (.tuple #[]) H') ∧
      Lq P Hb H0 H' A' (al.foldl G.doA g) ∧ A'.D.p = A.D.p := by
  obtain ⟨H', A', e, l', p', k', f'⟩ := h.lv.putC d hcs hn sy hl
  exact ⟨H', A', e, ⟨l', h.k0.fresh k' h.fa, fun k e => (f' k e).elim (h.fa k) fun e => by have := h.k0.1; omega⟩, p'⟩
/-- any text, then CAN and a plain one -/
theorem Lq.settle (d : Nat) {o tl : W} {al : List Act} (sy : Says tl al) (ht : 2 ≤ tl.length) (hl : (o ++ 24 :: tl).length ≤ 900000) :
    ∃ H' A' g1, (∀ K : Value → Heap → Res, (newK H (.cells ((lst (S (o ++ 24 :: tl))).map fun b => .int .u8 b.toNat) t_uint8 true 0 true) fun p1 H2 => callK (X (d + 11) n_grid_Grid_Write [.pointer (some ⟨A.D.p, 0, none⟩), .slice (some ⟨p1, 0, none⟩) (slen (S (o ++ 24 :: tl))) (slen (S (o ++ 24 :: tl)))] H2) K) = K (.tuple #[]) H') ∧
      WF g1 ∧ Sz g g1 ∧ Lq P Hb H0 H' A' (al.foldl G.doA g1) ∧ A'.D.p = A.D.p := by
  have k6 : Keep0 H (H.new (.cells ((o ++ 24 :: tl).map fun b => .int .u8 b.toNat) t_uint8 true 0 true)) := Keep.new _ _
  have v6 : BV (H.new (.cells ((o ++ 24 :: tl).map fun b => .int .u8 b.toNat) t_uint8 true 0 true)) ⟨some ⟨H.next, 0, none⟩, (o ++ 24 :: tl).length, (o ++ 24 :: tl).length⟩ H.next [] (o ++ 24 :: tl) [] :=
    ⟨rfl, by rw [bytes_len]; show (o ++ 24 :: tl).length = (o ++ 24 :: tl).length * 1; omega, Nat.le_refl _, by simp, true, true, by simp [bytes]⟩
  have e6 : ∀ K : Nat → Heap → Res, newK H (.cells ((o ++ 24 :: tl).map fun b => .int .u8 b.toNat) t_uint8 true 0 true) K = K H.next (H.new (.cells ((o ++ 24 :: tl).map fun b => .int .u8 b.toNat) t_uint8 true 0 true)) := fun K => newK_s
  have h6 := h.new k6
  generalize H.new (.cells ((o ++ 24 :: tl).map fun b => .int .u8 b.toNat) t_uint8 true 0 true) = H6 at *
  obtain ⟨q, h1, h2, h3, h4⟩ := h6.lv.r
  obtain ⟨H', A', e, h', s'⟩ := WriteA_s d h6.lv.t h1 v6.hv hl
  have hb : ∀ b ∈ (24 :: tl : W), b.toNat < 128 := fun b hb => (List.mem_cons.1 hb).elim (fun e => by rw [e]; decide) (sy.1 b)
  obtain ⟨⟨rs, hrs⟩, hh⟩ := feed_any o hb (by simp; omega)
  have s5 : (pFeed q.c rs).1.state ≤ 5 := pFeed_state rs (by omega)
  obtain ⟨c1, c2⟩ := pRune_can s5
  obtain ⟨y1, y2⟩ := sy.2 _ c1
  have ef : pFeed q.c (feedL (q.w ++ (o ++ 24 :: tl))) = ((pFeed (pRune (pFeed q.c rs).1 24).1 (nums tl)).1, (pFeed q.c rs).2 ++ al) := by
    rw [h4, List.nil_append, hrs, pFeed_app]
    have : nums (24 :: tl) = 24 :: nums tl := rfl
    rw [this, pFeed_cons, c2, y2]
    rfl
  have ew : q.write G.doA (o ++ 24 :: tl) = ⟨al.foldl G.doA ((pFeed q.c rs).2.foldl G.doA g), (pFeed (pRune (pFeed q.c rs).1 24).1 (nums tl)).1, []⟩ := by
    unfold GP.write GP.acts
    rw [ef, h4, List.nil_append, hh, h2, List.foldl_append]
  rw [ew] at h'
  refine ⟨H', A', (pFeed q.c rs).2.foldl G.doA g, fun K => ?_, WF.acts _ (pFeed_acts h1.pd.ok _) h.lv.wf, acts_sz _ _, ⟨⟨h6.lv.t.keep s'.kp (fun e => by have := h1.lo _ e; omega) (fun e => by have := h1.lo _ e; omega), ⟨_, h', rfl, y1, rfl⟩, fun i hi => ⟨(h6.lv.k i hi).1, (s'.kp.2 i (Nat.lt_of_lt_of_le (h6.lv.k i hi).1 h6.lv.n) (h6.lv.f i hi)).trans (h6.lv.k i hi).2⟩, Nat.le_trans h6.lv.n s'.kp.1, fun i hi e => ?_⟩, h6.k0.fresh s'.kp h6.fa, fun k e => (s'.ft k e).elim (h6.fa k) fun e => by have := h6.k0.1; omega⟩, s'.p⟩
  · rw [lstS, slenS, e6, show X (d + 11) n_grid_Grid_Write [.pointer (some ⟨A.D.p, 0, none⟩), .slice (some ⟨H.next, 0, none⟩) (o ++ 24 :: tl).length (o ++ 24 :: tl).length] H6 = _ from e]
    rfl
  · rcases s'.ft i e with e | e
    · exact h6.lv.f i hi e
    · have := (h6.lv.k i hi).1; have := h6.lv.n; omega
end
/-- a screen that was taken -/
structure Shot (H : Heap) (b : Nat) (c : Sc) (L : List (List Cl)) (y : Sl) (p : Q) : Prop where
  g : H.get b = some (.cells (scrL c y) t_api_Screen false 0 false)
  o : Outer H y p
  r : Rows H p
  m : p.map Prod.snd = L
theorem Shot.keep {S : Nat → Prop} {H H' : Heap} {b : Nat} {c : Sc} {L : List (List Cl)} {y : Sl} {p : Q} (h : Shot H b c L y p) (hb : b < H.next) (k : Keep S H H') (h1 : ¬ S b) (h2 : ∀ k, y.at k → ¬ S k) (h3 : ∀ k, bl p k → ¬ S k) : Shot H' b c L y p :=
  ⟨(k.2 b hb h1).trans h.g, Whole.keep h.o k h2, h.r.keep k h3, h.m⟩
/-- one cell of it -/
theorem Shot.row {H : Heap} {b : Nat} {c : Sc} {L : List (List Cl)} {y : Sl} {p : Q} (h : Shot H b c L y p) {a : Nat} {l : List Cl} (ha : L[a]? = some l) : Heap.ld1 H ⟨b, 2, none⟩ = some y.v ∧ ∃ ad x, y.a = some ad ∧ (y.n : Int) = (L.length : Int) ∧ Heap.ld1 H (ap ad (((a : Int).toNat) * 1)) = some (wsl x l.length).v ∧ Row H x l := by
  have h0 := congrArg (fun l => l[a]?) h.m
  simp only [List.getElem?_map] at h0
  rw [ha] at h0
  obtain ⟨x, hx, hx2⟩ : ∃ x, p[a]? = some x ∧ x.2 = l := by
    cases hpa : p[a]? with
    | none => rw [hpa] at h0; cases h0
    | some x => rw [hpa] at h0; exact ⟨x, rfl, by simpa using h0⟩
  obtain ⟨bb, v, _⟩ := Outer.ov h.o (h.o.some (by intro e; rw [e] at hx; cases hx))
  obtain ⟨ad, ea, eb⟩ := v.ld hx
  have yn := h.o.n
  have hl : p.length = L.length := by rw [← h.m, List.length_map]
  refine ⟨(ld1_s h.g).trans rfl, ad, x.1, ea, by omega, ?_, ?_⟩
  · rw [← hx2]; exact eb
  · rw [← hx2]; exact h.r.1 x (List.mem_of_getElem? hx)

theorem away_cells (e : Nat) {H : Heap} {b1 b2 : Nat} {c1 c2 : Sc} {L : List (List Cl)} {y1 y2 : Sl} {p1 p2 : Q} (s1 : Shot H b1 c1 L y1 p1) (s2 : Shot H b2 c2 L y2 p2) {a : Nat} {l : List Cl} (ha : L[a]? = some l) (hl : l.length ≤ 1000) (m0 : Nat) (haL : L.length ≤ 1000) :
    ∀ (m k : Nat), l.length - k < m → k ≤ l.length → law21_GridAway_p11111111111111010010010 e m0 m b1 b2 (a : Int) (k : Int) H = law21_GridAway_p11111111111111010 e m0 b1 b2 ((a + 1 : Nat) : Int) H := fun m => by
  obtain ⟨a1, ad1, x1, q1, n1, r1, w1⟩ := s1.row ha
  obtain ⟨a2, ad2, x2, q2, n2, r2, w2⟩ := s2.row ha
  have hal := (List.getElem?_eq_some_iff.1 ha).1
  induction m with
  | zero => intro k hm; omega
  | succ m ih =>
    intro k hm hk
    rw [law21_GridAway_p11111111111111010010010_s, a1]
    simp only [optK_s, asSL_k]
    rw [q1]
    simp only [optK_s]
    rw [if_pos (show (0 : Int) ≤ (a : Int) ∧ (a : Int) < (y1.n : Int) by omega), r1]
    simp only [optK_s, asSL_k]
    by_cases hlt : k < l.length
    · have hx : l[k]? = some l[k] := List.getElem?_eq_getElem hlt
      have g1 := w1.lda hx
      have g2 := w2.lda hx
      rw [if_pos (show decide ((k : Int) < ((wsl x1 l.length).n : Int)) = true from decide_eq_true (by show (k : Int) < (l.length : Int); omega))]
      rw [if_pos (show (0 : Int) ≤ (a : Int) ∧ (a : Int) < (y1.n : Int) by omega)]
      rw [if_pos (show (0 : Int) ≤ (k : Int) ∧ (k : Int) < (l.length : Int) by omega), show ap ⟨x1, 0, none⟩ (((k : Int).toNat) * 4) = ⟨x1, k * 4, none⟩ by simp [ap], g1]
      simp only [optK_s, asA_s]
      rw [a2]
      simp only [optK_s, asSL_k]
      rw [q2]
      simp only [optK_s]
      rw [if_pos (show (0 : Int) ≤ (a : Int) ∧ (a : Int) < (y2.n : Int) by omega), r2]
      simp only [optK_s, asSL_k]
      rw [if_pos (show (0 : Int) ≤ (k : Int) ∧ (k : Int) < (l.length : Int) by omega), show ap ⟨x2, 0, none⟩ (((k : Int).toNat) * 4) = ⟨x2, k * 4, none⟩ by simp [ap], g2]
      simp only [optK_s, asA_s]
      rw [show (Array.size (⟨cellV l[k]⟩ : Array Value) == 4 && Array.size (⟨cellV l[k]⟩ : Array Value) == 4) = true from rfl]
      simp only [chk_s]
      rw [show eqL [.int .i32, .int .i64, .int .i64, .int .i64] (⟨cellV l[k]⟩ : Array Value).toList (⟨cellV l[k]⟩ : Array Value).toList = some (decide (l[k] = l[k])) from eq_cell _ _, decide_eq_true rfl]
      simp only [optK_s]
      rw [if_neg (show ¬ (!true) = true by simp), wi (by omega)]
      exact ih (k + 1) (by omega) (by omega)
    · rw [if_neg (show ¬ decide ((k : Int) < ((wsl x1 l.length).n : Int)) = true from dneg (by show ¬ (k : Int) < (l.length : Int); omega)), wi (by omega)]
theorem away_rows (e : Nat) {H : Heap} {b1 b2 : Nat} {c1 c2 : Sc} {L : List (List Cl)} {y1 y2 : Sl} {p1 p2 : Q} (s1 : Shot H b1 c1 L y1 p1) (s2 : Shot H b2 c2 L y2 p2) (haL : L.length ≤ 1000) (hL : ∀ l ∈ L, l.length ≤ 1000) :
    ∀ (m a : Nat), L.length - a < m → a ≤ L.length → law21_GridAway_p11111111111111010 e m b1 b2 (a : Int) H = some (.bool true, H) := fun m => by
  have yn := s1.o.n
  have hl : p1.length = L.length := by rw [← s1.m, List.length_map]
  induction m with
  | zero => intro a hm; omega
  | succ m ih =>
    intro a hm ha
    rw [law21_GridAway_p11111111111111010_s, (ld1_s s1.g).trans (show (scrL c1 y1)[2]? = some y1.v from rfl)]
    simp only [optK_s, asSL_k]
    by_cases hlt : a < L.length
    · have hx : L[a]? = some L[a] := List.getElem?_eq_getElem hlt
      rw [if_pos (show decide ((a : Int) < (y1.n : Int)) = true from decide_eq_true (by omega)), show (0 : Int) = ((0 : Nat) : Int) from rfl, away_cells e s1 s2 hx (hL _ (List.getElem_mem hlt)) m haL NN 0 (NN_big _ (by have := hL _ (List.getElem_mem hlt); omega)) (by omega)]
      exact ih (a + 1) (by omega) (by omega)
    · rw [if_neg (show ¬ decide ((a : Int) < (y1.n : Int)) = true from dneg (by omega))]

/-- the texts on the alternate screen -/
def awB : Nat → W
  | 0 => [120]
  | 1 => [10]
  | 2 => [13, 10]
  | 3 => [27, 91, 50, 74]
  | 4 => [27, 91, 72]
  | 5 => [27, 91, 76]
  | 6 => [27, 91, 83]
  | _ => [121, 121]
theorem Says.nl : Says [10] [⟨2, 10, false, []⟩] := .rune (by decide) fun c hc => by cases c; cases hc; exact ⟨rfl, rfl⟩
theorem aw_says : ∀ n, n < 8 → ∃ al, Says (awB n) al ∧ (∀ a ∈ al, Safe a) ∧ (awB n).length ≤ 10 := fun n hn => by
  have : n = 0 ∨ n = 1 ∨ n = 2 ∨ n = 3 ∨ n = 4 ∨ n = 5 ∨ n = 6 ∨ n = 7 := by omega
  rcases this with rfl | rfl | rfl | rfl | rfl | rfl | rfl | rfl
  · exact ⟨_, Says.prints (l := [120]) (by decide), fun a ha => by obtain ⟨b, _, rfl⟩ := List.mem_map.1 ha; exact .inl rfl, by decide⟩
  · exact ⟨_, Says.nl, fun a ha => by rw [List.mem_singleton.1 ha]; exact .inr (.inl rfl), by decide⟩
  · exact ⟨_, Says.cr.app Says.nl, fun a ha => by
      simp only [List.cons_append, List.nil_append, List.mem_cons, List.not_mem_nil, or_false] at ha
      rcases ha with rfl | rfl <;> exact .inr (.inl rfl), by decide⟩
  · exact ⟨[csiA 74 [2]], .csi (by decide) ⟨rfl, rfl⟩, fun a ha => by rw [List.mem_singleton.1 ha]; exact .inr (.inr (.inl rfl)), by decide⟩
  · exact ⟨[csiA 72 [0]], .csi (by decide) ⟨rfl, rfl⟩, fun a ha => by rw [List.mem_singleton.1 ha]; exact .inr (.inr (.inr (.inl rfl))), by decide⟩
  · exact ⟨[csiA 76 [0]], .csi (by decide) ⟨rfl, rfl⟩, fun a ha => by rw [List.mem_singleton.1 ha]; exact .inr (.inr (.inr (.inr (.inl rfl)))), by decide⟩
  · exact ⟨[csiA 83 [0]], .csi (by decide) ⟨rfl, rfl⟩, fun a ha => by rw [List.mem_singleton.1 ha]; exact .inr (.inr (.inr (.inr (.inr rfl)))), by decide⟩
  · exact ⟨_, Says.prints (l := [121, 121]) (by decide), fun a ha => by obtain ⟨b, _, rfl⟩ := List.mem_map.1 ha; exact .inl rfl, by decide⟩

theorem away_loop (e : Nat) {H0 Hb : Heap} {x3 : Sl} {l : List Int} (hx : Ints H0 x3 l) {g4 : G} (ho : g4.other = none) (w4 : WF g4) {A : GA} {b1 : Nat} {y1 : Sl} {p1 : Q} (hb1 : b1 < Hb.next) (sh : Shot Hb b1 g4.c g4.L y1 p1) :
    ∀ (m i : Nat) {H : Heap} {s : W} {al : List Act}, 31 - i < m → i ≤ 30 → s.length ≤ 10 + 10 * i → Says s al → (∀ a ∈ al, Safe a) → Lq (fun k => k = b1 ∨ y1.at k ∨ bl p1 k) Hb H0 H A (g4.doA onA) →
    ∃ H', law21_GridAway_p1111111111010 (e + 11) m x3 (some ⟨A.D.p, 0, none⟩) b1 (g4.past.length : Int) (S s) (i : Int) H = some (.bool true, H') := fun m => by
  induction m with
  | zero => intro i H s al hm; omega
  | succ m ih =>
    intro i H s al hm hi hs sy sa h
    have last : ∃ H', law21_GridAway_p1111111111010001 (e + 11) m x3 (some ⟨A.D.p, 0, none⟩) b1 (g4.past.length : Int) (S s) (i : Int) false H = some (.bool true, H') := by
      rw [law21_GridAway_p1111111111010001_eq, if_neg ff, if_len (a := s) (b := [27, 91, 63, 49, 48, 52, 57, 108]) (by simp; omega), sCatS]
      obtain ⟨H1, A1, e1, h1, p1'⟩ := h.putS e (sy.app Says.off) (by simp; omega)
      rw [e1, ← p1']
      obtain ⟨aL, aP, aR, aC⟩ := away_back ho sa
      generalize hg7 : (al ++ [offA]).foldl G.doA (g4.doA onA) = g7 at h1 aL aP aR aC
      obtain ⟨y2, p2, b2, H8, e8, g8, o8, r8, m8, _, lt8, k8, _⟩ := scr_s (e + 8) h1.lv.rep h1.lv.wf
      rw [e8]
      have h8 := h1.new k8
      obtain ⟨z, q, H9, e9, o9, _, m9, _, _, _, k9⟩ := Past_s (e + 8) h8.lv.rep h8.lv.wf
      rw [show X (e + 11) n_grid_Grid_Past [.pointer (some ⟨A1.D.p, 0, none⟩)] H8 = _ from e9]
      simp only [callK_s, asSL_k]
      have zn : z.n = g4.past.length := by rw [o9.n, ← aP, ← m9, List.length_map]
      have h9 := h8.new k9
      -- both screens are there
      have kb : Keep (fun k => ¬ (k = b1 ∨ y1.at k ∨ bl p1 k)) Hb H9 := ⟨h9.lv.n, fun k _ hS => (h9.lv.k k (Classical.not_not.1 hS)).2⟩
      have s1 : Shot H9 b1 g4.c g4.L y1 p1 := sh.keep hb1 kb (fun e => e (.inl rfl)) (fun k e e' => e' (.inr (.inl e))) (fun k e e' => e' (.inr (.inr e)))
      have s2 : Shot H9 b2 g7.c g4.L y2 p2 := (Shot.mk g8 o8 r8 (m8.trans aL)).keep lt8 k9 id (fun _ _ e => e) (fun _ _ e => e)
      rw [if_neg (show ¬ (!decide ((z.n : Int) = (g4.past.length : Int))) = true by rw [zn]; simp), (ld1_s s1.g).trans (show (scrL g4.c y1)[3]? = some (.int .i64 (g4.c.row : Int)) from rfl)]
      simp only [optK_s, asI_s]
      rw [(ld1_s s2.g).trans (show (scrL g7.c y2)[3]? = some (.int .i64 (g7.c.row : Int)) from rfl)]
      simp only [optK_s, asI_s]
      rw [if_neg (show ¬ (!decide ((g4.c.row : Int) = (g7.c.row : Int))) = true by rw [aR]; simp), (ld1_s s1.g).trans (show (scrL g4.c y1)[4]? = some (.int .i64 (g4.c.col : Int)) from rfl)]
      simp only [optK_s, asI_s]
      rw [(ld1_s s2.g).trans (show (scrL g7.c y2)[4]? = some (.int .i64 (g7.c.col : Int)) from rfl)]
      simp only [optK_s, asI_s]
      rw [if_neg (show ¬ (!decide ((g4.c.col : Int) = (g7.c.col : Int))) = true by rw [aC]; simp), (ld1_s s1.g).trans (show (scrL g4.c y1)[2]? = some y1.v from rfl)]
      simp only [optK_s, asSL_k]
      rw [(ld1_s s2.g).trans (show (scrL g7.c y2)[2]? = some y2.v from rfl)]
      simp only [optK_s, asSL_k]
      have n1 : y1.n = g4.L.length := by rw [s1.o.n, ← s1.m, List.length_map]
      have n2 : y2.n = g4.L.length := by rw [s2.o.n, ← s2.m, List.length_map]
      rw [show (!decide ((y1.n : Int) = (y2.n : Int))) = false by rw [n1, n2]; simp, law21_GridAway_p111111111111101_eq, if_neg ff]
      have r2 := w4.r2; have c2 := w4.c2; have hLn := w4.Ln
      exact ⟨H9, away_rows (e + 11) s1 s2 (by omega) (fun l hl => by have := w4.Lw l hl; omega) NN 0 (NN_big _ (by omega)) (by omega)⟩
    rw [law21_GridAway_p1111111111010_s]
    by_cases c0 : (i : Int) < (x3.n : Int)
    · rw [if_pos (show decide ((i : Int) < (x3.n : Int)) = true from decide_eq_true c0)]
      by_cases c1 : i < 30
      · rw [show decide ((i : Int) < 30) = true from decide_eq_true (by omega), law21_GridAway_p1111111111010001_eq, if_pos rfl]
        obtain ⟨v, hv⟩ : ∃ v, l[i]? = some v := ⟨l[i]'(by have := hx.1; omega), List.getElem?_eq_getElem _⟩
        obtain ⟨b, o, ha, _, hl⟩ := (hx.new h.k0).2 i v (by omega) hv
        rw [ha]
        simp only [optK_s]
        rw [if_pos (show (0 : Int) ≤ (i : Int) ∧ (i : Int) < (x3.n : Int) by omega), show ap ⟨b, o, none⟩ (((i : Int).toNat) * 1) = ⟨b, o + i, none⟩ by simp [ap], hl]
        simp only [optK_s, asI_s]
        obtain ⟨n, en, hn⟩ := Pick_s (e + 10) v 8 H (by omega) (by omega)
        rw [show X (e + 11) n_hand_Pick [.int .i64 v, .int .i64 8] H = _ from en]
        simp only [callK_s, asI_s]
        have hpart : partL [.string (S [120]), .string (S [10]), .string (S [13, 10]), .string (S [27, 91, 50, 74]), .string (S [27, 91, 72]), .string (S [27, 91, 76]), .string (S [27, 91, 83]), .string (S [121, 121])] ((((n : Nat) : Int).toNat) * 1) 1 false = some (.string (S (awB n))) := by
          have : n = 0 ∨ n = 1 ∨ n = 2 ∨ n = 3 ∨ n = 4 ∨ n = 5 ∨ n = 6 ∨ n = 7 := by omega
          rcases this with rfl | rfl | rfl | rfl | rfl | rfl | rfl | rfl <;> rfl
        rw [if_pos (show (0 : Int) ≤ (n : Int) ∧ (n : Int) < 8 by omega), hpart]
        simp only [optK_s, asS_s]
        obtain ⟨al2, sy2, sa2, sl2⟩ := aw_says n hn
        rw [if_len (a := s) (b := awB n) (by omega), sCatS, wi (by omega)]
        exact ih (i + 1) (by omega) (by omega) (by rw [List.length_append]; omega) (sy.app sy2) (fun a ha => (List.mem_append.1 ha).elim (sa a) (sa2 a)) h
      · rw [show decide ((i : Int) < 30) = false from decide_eq_false (by omega)]
        exact last
    · rw [if_neg (show ¬ decide ((i : Int) < (x3.n : Int)) = true from dneg c0)]
      exact last

theorem GridAway_s (e : Nat) {H : Heap} (t : Tab H) (pt : PTab H) (x0 x1 : Int) {x2 x3 : Sl} {l2 l3 : List Int} (hx2 : Ints H x2 l2) (hx3 : Ints H x3 l3) : ∃ H', X (e + 12) n_law21_GridAway [.int .i64 x0, .int .i64 x1, x2.v, x3.v] H = some (.bool true, H') := by
  rw [law21_GridAway_eq]
  obtain ⟨r0, e1, h1⟩ := Pick_s (e + 10) x0 8 H (by omega) (by omega)
  obtain ⟨c0, e2, h2⟩ := Pick_s (e + 10) x1 12 H (by omega) (by omega)
  rw [show X (e + 11) n_hand_Pick [.int .i64 x0, .int .i64 8] H = _ from e1]
  simp only [callK_s, asI_s]
  rw [show X (e + 11) n_hand_Pick [.int .i64 x1, .int .i64 12] H = _ from e2]
  simp only [callK_s, asI_s]
  have hR : IntKind.wrap .i64 (2 + (r0 : Int)) = ((r0 + 2 : Nat) : Int) := by rw [w64 (by omega)]; omega
  have hC : IntKind.wrap .i64 (2 + (c0 : Int)) = ((c0 + 2 : Nat) : Int) := by rw [w64 (by omega)]; omega
  rw [hR, hC]
  obtain ⟨H2, A, e3, h3, k3, f3⟩ := New_s (e + 4) t.lt (r := r0 + 2) (c := c0 + 2) (by omega) (by omega)
  rw [e3, callK_s, castPI, castPI]
  simp only [List.getElem?_cons_zero, List.getElem?_cons_succ, optK_s, P0, asP_s, asI_s]
  rw [known_s]
  simp only [callK_s, asB_s]
  rw [if_neg (show ¬ (!true) = true by simp), if_neg (show ¬ (!decide True) = true by simp), law21_GridAway_p111101_eq, if_neg (show ¬ (some (⟨A.D.p, 0, none⟩ : Addr)).isNone = true by simp)]
  obtain ⟨w, H4, e4, hw, k4⟩ := Output_s (e + 8) (pt.keep k3 id id) (hx2.new k3) (R := r0 + 2) (by omega)
  rw [show X (e + 11) n_hand_Output [x2.v, .int .i64 ((r0 + 2 : Nat) : Int)] H2 = _ from e4]
  simp only [callK_s, asS_s]
  have lq : Lq (fun _ => False) H2 H H4 A (G.fresh (r0 + 2) (c0 + 2) []) := (Lq.mk (Lv.start (P := fun _ => False) (t.keep k3 id id) h3 fun _ hk => hk.elim) k3 f3).new k4
  rw [if_len (a := w) (b := [24, 27, 91, 63, 49, 48, 52, 57, 108, 27, 91, 114, 27, 91, 50, 59, 50, 72]) (by simp; omega), sCatS]
  obtain ⟨H5, A5, g1, e5, w1, sz1, h5, p5⟩ := lq.settle e (o := w) Says.home (by decide) (by simp [homeB]; omega)
  rw [show (w ++ [24, 27, 91, 63, 49, 48, 52, 57, 108, 27, 91, 114, 27, 91, 50, 59, 50, 72] : W) = w ++ 24 :: homeB from rfl, e5, ← p5]
  obtain ⟨ho, hr, hc⟩ := home_g w1 (by rw [sz1.1]; show 2 ≤ r0 + 2; omega) (by rw [sz1.2]; show 2 ≤ c0 + 2; omega)
  generalize home.foldl G.doA g1 = g4 at *
  obtain ⟨y1, p1, b1, H8, e8, g8, o8, r8, m8, b8, lt8, k8, fy, fp, _⟩ := scr_s (e + 8) h5.lv.rep h5.lv.wf
  rw [e8]
  have h8 := h5.new k8
  obtain ⟨z, q, H9, e9, o9, _, m9, _, _, _, k9⟩ := Past_s (e + 8) h8.lv.rep h8.lv.wf
  rw [show X (e + 11) n_grid_Grid_Past [.pointer (some ⟨A5.D.p, 0, none⟩)] H8 = _ from e9]
  simp only [callK_s, asSL_k]
  have zn : z.n = g4.past.length := by rw [o9.n, ← m9, List.length_map]
  rw [zn]
  have h9 := h8.new k9
  have s1 : Shot H8 b1 g4.c g4.L y1 p1 := ⟨g8, o8, r8, m8⟩
  have s9 : Shot H9 b1 g4.c g4.L y1 p1 := s1.keep lt8 k9 id (fun _ _ e => e) (fun _ _ e => e)
  have n9 := k9.1
  have lq9 : Lq (fun k => k = b1 ∨ y1.at k ∨ bl p1 k) H9 H H9 A5 g4 := ⟨h9.lv.more fun k hk => by
    have hlt : ∀ k, A5.foot k → k < H5.next := fun k e => h5.lv.lt e
    rcases hk with rfl | hk | hk
    · exact ⟨by omega, fun e => by have := hlt _ e; omega⟩
    · exact ⟨Whole.lt s9.o hk, fun e => by have := hlt _ e; have := (fy k hk).1; omega⟩
    · exact ⟨s9.r.lt hk, fun e => by have := hlt _ e; have := (fp k hk).1; omega⟩, h9.k0, h9.fa⟩
  obtain ⟨H10, A10, e10, h10, p10⟩ := lq9.putC e (l := [27, 91, 63, 49, 48, 52, 57, 104]) (cs := [.int .u8 27, .int .u8 91, .int .u8 63, .int .u8 49, .int .u8 48, .int .u8 52, .int .u8 57, .int .u8 104]) (n := 8) rfl rfl Says.on (by simp)
  rw [e10, ← p10]
  rw [List.foldl_cons, List.foldl_nil] at h10
  have sy0 : Says [97, 98, 13, 10, 99] (prints [97, 98] ++ [⟨2, 13, false, []⟩] ++ [⟨2, 10, false, []⟩] ++ prints [99]) := by
    have h1 : Says [97, 98] (prints [97, 98]) := .prints (by decide)
    have h2 : Says [99] (prints [99]) := .prints (by decide)
    exact ((h1.app Says.cr).app Says.nl).app h2
  exact away_loop e hx3 ho h5.lv.wf (by omega) s9 NN 0 (NN_big _ (by omega)) (by omega) (by simp) sy0 (fun a ha => by
    simp only [prints, List.map_cons, List.map_nil, List.cons_append, List.nil_append, List.mem_cons, List.not_mem_nil, or_false] at ha
    rcases ha with rfl | rfl | rfl | rfl | rfl
    · exact .inl rfl
    · exact .inl rfl
    · exact .inr (.inl rfl)
    · exact .inr (.inl rfl)
    · exact .inl rfl) h10
end Go.Proofs.YtjmiehbiindjdaaDoor.dec
