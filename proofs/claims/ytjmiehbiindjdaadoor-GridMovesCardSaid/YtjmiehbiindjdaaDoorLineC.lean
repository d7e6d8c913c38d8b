/-
  grid: GridMoves.
-/
import Derived.Test.YtjmiehbiindjdaaDoorLineB
import Derived.Test.YtjmiehbiindjdaaDoorDec
namespace Go.Proofs.YtjmiehbiindjdaaDoor.dec
open Go Go.Cm

attribute [local congr] optK_congr asI_congr asN_congr asB_congr asS_congr asP_congr asA_congr asSL_congr callK_congr castT_congr chk_congr

/-- a fresh screen, its cursor elsewhere -/
def gm (R C r c : Nat) : G := { G.fresh R C [] with c := { Sc.init R C with row := r, col := c } }
theorem gm_move (R C r c : Nat) (a b : Int) : (gm R C r c).move a b = gm R C (min (max a 0) ((R : Int) - 1)).toNat (min (max b 0) ((C : Int) - 1)).toNat := rfl
theorem gm_eq {R C r c r' c' : Nat} (h1 : r = r') (h2 : c = c') : gm R C r c = gm R C r' c' := by rw [h1, h2]
def csiA (n : Int) (l : List Int) : Act := ⟨4, n, false, l⟩
theorem par0 (r n : Int) (l : List Int) (dflt : Int) : (csiA r (n :: l)).par 0 dflt = if n = 0 then dflt else n := rfl
theorem par1 (r n m : Int) (l : List Int) (dflt : Int) : (csiA r (n :: m :: l)).par 1 dflt = if m = 0 then dflt else m := rfl
theorem do_csi (g : G) (r : Int) (l : List Int) : g.doA (csiA r l) = g.csi (csiA r l) := rfl
theorem csi_H (g : G) (n m : Nat) : g.doA (csiA 72 [((n + 1 : Nat) : Int), ((m + 1 : Nat) : Int)]) = g.move n m := by
  have e : g.doA (csiA 72 [((n + 1 : Nat) : Int), ((m + 1 : Nat) : Int)]) = g.move ((csiA 72 [((n + 1 : Nat) : Int), ((m + 1 : Nat) : Int)]).par 0 1 - 1) ((csiA 72 [((n + 1 : Nat) : Int), ((m + 1 : Nat) : Int)]).par 1 1 - 1) := rfl
  rw [e, par0, par1, if_neg (by omega), if_neg (by omega)]
  congr 1 <;> omega
theorem gm_H {R C r0 c0 r c : Nat} (hr : r < R) (hc : c < C) : (gm R C r0 c0).doA (csiA 72 [((r + 1 : Nat) : Int), ((c + 1 : Nat) : Int)]) = gm R C r c := by
  rw [csi_H, gm_move]
  exact gm_eq (by omega) (by omega)
theorem gm_A {R C r c n : Nat} (hr : r < R) (hc : c < C) (hn : 1 ≤ n) : (gm R C r c).doA (csiA 65 [(n : Int)]) = gm R C (r - n) c := by
  have e : (gm R C r c).doA (csiA 65 [(n : Int)]) = (gm R C r c).move (max ((r : Int) - (csiA 65 [(n : Int)]).par 0 1) (if 0 ≤ r then (0 : Nat) else 0)) c := rfl
  rw [e, par0, if_neg (by omega), if_pos (Nat.zero_le r), gm_move]
  exact gm_eq (by omega) (by omega)
theorem gm_B {R C r c n : Nat} (hr : r < R) (hc : c < C) (hn : 1 ≤ n) : (gm R C r c).doA (csiA 66 [(n : Int)]) = gm R C (min (R - 1) (r + n)) c := by
  have e : (gm R C r c).doA (csiA 66 [(n : Int)]) = (gm R C r c).move (min ((r : Int) + (csiA 66 [(n : Int)]).par 0 1) (if r ≤ R - 1 then ((R - 1 : Nat) : Int) else (R : Int) - 1)) c := rfl
  rw [e, par0, if_neg (by omega), if_pos (show r ≤ R - 1 by omega), gm_move]
  exact gm_eq (by omega) (by omega)
theorem gm_C {R C r c n : Nat} (hr : r < R) (hc : c < C) (hn : 1 ≤ n) : (gm R C r c).doA (csiA 67 [(n : Int)]) = gm R C r (min (C - 1) (c + n)) := by
  have e : (gm R C r c).doA (csiA 67 [(n : Int)]) = (gm R C r c).move r ((c : Int) + (csiA 67 [(n : Int)]).par 0 1) := rfl
  rw [e, par0, if_neg (by omega), gm_move]
  exact gm_eq (by omega) (by omega)
theorem gm_D {R C r c n : Nat} (hr : r < R) (hc : c < C) (hn : 1 ≤ n) : (gm R C r c).doA (csiA 68 [(n : Int)]) = gm R C r (c - n) := by
  have e : (gm R C r c).doA (csiA 68 [(n : Int)]) = (gm R C r c).move r ((c : Int) - (csiA 68 [(n : Int)]).par 0 1) := rfl
  rw [e, par0, if_neg (by omega), gm_move]
  exact gm_eq (by omega) (by omega)
theorem gm_G {R C r c n : Nat} (hr : r < R) (hn : 1 ≤ n) : (gm R C r c).doA (csiA 71 [(n : Int)]) = gm R C r (min C n - 1) := by
  have e : (gm R C r c).doA (csiA 71 [(n : Int)]) = (gm R C r c).move r ((csiA 71 [(n : Int)]).par 0 1 - 1) := rfl
  rw [e, par0, if_neg (by omega), gm_move]
  exact gm_eq (by omega) (by omega)
theorem gm_d {R C r c n : Nat} (hc : c < C) (hn : 1 ≤ n) : (gm R C r c).doA (csiA 100 [(n : Int)]) = gm R C (min R n - 1) c := by
  have e : (gm R C r c).doA (csiA 100 [(n : Int)]) = (gm R C r c).move ((csiA 100 [(n : Int)]).par 0 1 - 1) c := rfl
  rw [e, par0, if_neg (by omega), gm_move]
  exact gm_eq (by omega) (by omega)
theorem gm_cr {R C r c : Nat} (hr : r < R) (hC : 1 ≤ C) : (gm R C r c).doA ⟨2, 13, false, []⟩ = gm R C r 0 := by
  have e : (gm R C r c).doA ⟨2, 13, false, []⟩ = (gm R C r c).move r 0 := rfl
  rw [e, gm_move]
  exact gm_eq (by omega) (by omega)
theorem gm_bs {R C r c : Nat} (hr : r < R) (hc : c < C) : (gm R C r c).doA ⟨2, 8, false, []⟩ = gm R C r (c - 1) := by
  have e : (gm R C r c).doA ⟨2, 8, false, []⟩ = (gm R C r c).move r ((c : Int) - 1) := rfl
  rw [e, gm_move]
  exact gm_eq (by omega) (by omega)

/-- three boxes: the grid, the row, the column -/
structure Bx (H0 : Heap) (p g r c : Nat) (rv cv : Nat) : Prop where
  g : H0.get g = some (.cells [P0 p] t_P_grid_Grid false 0 false)
  r : H0.get r = some (.cells [.int .i64 rv] t_int false 0 false)
  c : H0.get c = some (.cells [.int .i64 cv] t_int false 0 false)
def bxP (g r c : Nat) (k : Nat) : Prop := k = g ∨ k = r ∨ k = c

theorem go1_s (d : Nat) {H0 H : Heap} {A : GA} {x11 x7 x8 R C r0 c0 r c : Nat} (h : Lv (bxP x11 x7 x8) H0 H A (gm R C r0 c0)) (bx : Bx H0 A.D.p x11 x7 x8 r c) (hr : r < R) (hc : c < C) (hR : R ≤ 60) (hC : C ≤ 98) {s : W} {al : List Act} (sy : Says s al) (hs : s.length ≤ 1000) :
    ∃ H' A', X (d + 12) n_law21_GridMoves_1 [.string (S s), P0 x11, P0 x7, P0 x8] H = some (.tuple #[], H') ∧ Lv (bxP x11 x7 x8) H0 H' A' (al.foldl G.doA (gm R C r c)) ∧ A'.D.p = A.D.p := by
  have l11 : ∀ {H1 : Heap} {A1 : GA} {g : G}, Lv (bxP x11 x7 x8) H0 H1 A1 g → Heap.ld1 H1 ⟨x11, 0, none⟩ = some (P0 A.D.p) := fun h1 => (ld1_s (h1.get (.inl rfl) bx.g)).trans rfl
  have l7 : ∀ {H1 : Heap} {A1 : GA} {g : G}, Lv (bxP x11 x7 x8) H0 H1 A1 g → Heap.ld1 H1 ⟨x7, 0, none⟩ = some (.int .i64 r) := fun h1 => (ld1_s (h1.get (.inr (.inl rfl)) bx.r)).trans rfl
  have l8 : ∀ {H1 : Heap} {A1 : GA} {g : G}, Lv (bxP x11 x7 x8) H0 H1 A1 g → Heap.ld1 H1 ⟨x8, 0, none⟩ = some (.int .i64 c) := fun h1 => (ld1_s (h1.get (.inr (.inr rfl)) bx.c)).trans rfl
  rw [law21_GridMoves_1_eq, l11 h]
  simp only [optK_s, P0, asP_s]
  rw [l7 h]
  simp only [optK_s, asI_s]
  rw [wi (by omega)]
  obtain ⟨H6, e6, k6⟩ := digits_s (d + 9) (n := r + 1) (by omega) H
  rw [show X (d + 11) n_law21_digits [.int .i64 ((r + 1 : Nat) : Int)] H = _ from e6]
  simp only [callK_s, asS_s]
  have d1 := digs_len (r + 1)
  have d2 := digs_len (c + 1)
  rw [if_len (a := [27, 91]) (b := digs (r + 1)) (by simp; omega), sCatS, if_len (a := [27, 91] ++ digs (r + 1)) (b := [59]) (by simp; omega), sCatS]
  have h6 := h.new k6
  rw [l8 h6]
  simp only [optK_s, asI_s]
  rw [wi (by omega)]
  obtain ⟨H11, e11, k11⟩ := digits_s (d + 9) (n := c + 1) (by omega) H6
  rw [show X (d + 11) n_law21_digits [.int .i64 ((c + 1 : Nat) : Int)] H6 = _ from e11]
  simp only [callK_s, asS_s]
  rw [if_len (a := [27, 91] ++ digs (r + 1) ++ [59]) (b := digs (c + 1)) (by simp; omega), sCatS, if_len (a := [27, 91] ++ digs (r + 1) ++ [59] ++ digs (c + 1)) (b := [72]) (by simp; omega), sCatS,
    if_len (a := [27, 91] ++ digs (r + 1) ++ [59] ++ digs (c + 1) ++ [72]) (b := s) (by simp; omega), sCatS, lstS, slenS]
  simp only [newK_s]
  have h11 := h6.new k11
  have hsy : Says ([27, 91] ++ digs (r + 1) ++ [59] ++ digs (c + 1) ++ [72] ++ s) (csiA 72 [((r + 1 : Nat) : Int), ((c + 1 : Nat) : Int)] :: al) := by
    have := (Says.csi2 (n := r + 1) (m := c + 1) (by omega) (by omega) (r := 72) (by decide)).app sy
    simpa [csiA] using this
  obtain ⟨H16, A16, e16, h16, p16, k16⟩ := h11.put d hsy (by simp; omega)
  generalize hl : [27, 91] ++ digs (r + 1) ++ [59] ++ digs (c + 1) ++ [72] ++ s = l at *
  rw [show X (d + 11) n_grid_Grid_Write [.pointer (some ⟨A.D.p, 0, none⟩), .slice (some ⟨H11.next, 0, none⟩) l.length l.length] (H11.new (.cells (l.map fun b => .int .u8 b.toNat) t_uint8 true 0 true)) = _ from e16]
  simp only [callK_s]
  have k14 : Keep0 H11 (H11.new (.cells (l.map fun b => .int .u8 b.toNat) t_uint8 true 0 true)) := Keep.new _ _
  have h14 := h11.new k14
  rw [show rdsOk [H, H6, H11, H11.new (.cells (l.map fun b => .int .u8 b.toNat) t_uint8 true 0 true), H16] [⟨.load 1 false, [.pointer (some ⟨x8, 0, none⟩)], .int .i64 (c : Int), 0, 1⟩, ⟨.load 1 false, [.pointer (some ⟨x11, 0, none⟩)], .pointer (some ⟨A.D.p, 0, none⟩), 0, 3⟩] = true from by
    simp only [rdsOk, Bool.and_true]
    rw [show 3 + 1 - 0 = 4 from rfl, show 1 + 1 - 0 = 2 from rfl, rdOk_2, rdOk_4, rdAt_s rfl (rd1 (l8 h)) (same_int _ _), rdAt_s rfl (rd1 (l8 h6)) (same_int _ _), rdAt_s rfl (rd1 (l11 h)) (same_ptr _), rdAt_s rfl (rd1 (l11 h6)) (same_ptr _), rdAt_s rfl (rd1 (l11 h11)) (same_ptr _), rdAt_s rfl (rd1 (l11 h14)) (same_ptr _)]; rfl]
  simp only [chk_s]
  rw [List.foldl_cons, gm_H hr hc] at h16
  exact ⟨H16, A16, rfl, h16, p16⟩

theorem Says.cr : Says [13] [⟨2, 13, false, []⟩] := .rune (by decide) fun c hc => by cases c; cases hc; exact ⟨rfl, rfl⟩
theorem Says.bs : Says [8] [⟨2, 8, false, []⟩] := .rune (by decide) fun c hc => by cases c; cases hc; exact ⟨rfl, rfl⟩

/-- one step: the cursor is told to go, and is there -/
theorem step_s (e : Nat) {H0 H : Heap} {A : GA} {x11 x7 x8 R C r0 c0 r c n r1 c1 : Nat} (h : Lv (bxP x11 x7 x8) H0 H A (gm R C r0 c0)) (bx : Bx H0 A.D.p x11 x7 x8 r c) (hr : r < R) (hc : c < C) (hR : R ≤ 60) (hC : C ≤ 98) (hn : n < 100) {b : UInt8} (hb : 64 ≤ b.toNat ∧ b.toNat ≤ 126)
    (hg : (gm R C r c).doA (csiA (b.toNat : Int) [(n : Int)]) = gm R C r1 c1) : ∃ H2 H5 A', X (e + 12) n_law21_digits [.int .i64 (n : Int)] H = some (.string (S (digs n)), H2) ∧ slen (S [27, 91]) + slen (S (digs n)) ≤ 9223372036854775807 ∧ slen (sCat (S [27, 91]) (S (digs n))) + slen (S [b]) ≤ 9223372036854775807 ∧
      X (e + 12) n_law21_GridMoves_1 [.string (sCat (sCat (S [27, 91]) (S (digs n))) (S [b])), P0 x11, P0 x7, P0 x8] H2 = some (.tuple #[], H5) ∧ Lv (bxP x11 x7 x8) H0 H5 A' (gm R C r1 c1) ∧ A'.D.p = A.D.p ∧
      Heap.ld1 H5 ⟨x11, 0, none⟩ = some (P0 A'.D.p) ∧ Heap.ld1 H5 ⟨x7, 0, none⟩ = some (.int .i64 r) ∧ Heap.ld1 H5 ⟨x8, 0, none⟩ = some (.int .i64 c) ∧ Bx H0 A'.D.p x11 x7 x8 r c := by
  obtain ⟨H2, e2, k2⟩ := digits_s (e + 10) hn H
  have dl := digs_len n
  have sy : Says ([27, 91] ++ digs n ++ [b]) [csiA (b.toNat : Int) [(n : Int)]] := by
    have := Says.csi1 hn hb
    simpa [csiA] using this
  obtain ⟨H5, A', e5, h5, p5⟩ := go1_s e (h.new k2) bx hr hc hR hC sy (by simp; omega)
  rw [List.foldl_cons, List.foldl_nil, hg] at h5
  rw [← p5] at bx
  exact ⟨H2, H5, A', e2, by rw [slenS, slenS]; simp; omega, by rw [sCatS, slenS, slenS]; simp; omega, by rw [sCatS, sCatS]; exact e5, h5, p5, (ld1_s (h5.get (.inl rfl) bx.g)).trans rfl, (ld1_s (h5.get (.inr (.inl rfl)) bx.r)).trans rfl, (ld1_s (h5.get (.inr (.inr rfl)) bx.c)).trans rfl, bx⟩
theorem at_gm (e : Nat) {P : Nat → Prop} {H0 H : Heap} {A : GA} {R C r c : Nat} (h : Lv P H0 H A (gm R C r c)) (row col : Int) (h1 : row = r) (h2 : col = c) : ∃ H', X (e + 12) n_law21_at [P0 A.D.p, .int .i64 row, .int .i64 col] H = some (.bool true, H') ∧ Lv P H0 H' A (gm R C r c) := by
  obtain ⟨H', e', k'⟩ := at_s (e + 8) h.rep h.wf row col
  rw [decide_eq_true (show ((gm R C r c).c.row : Int) = row ∧ ((gm R C r c).c.col : Int) = col from ⟨h1.symm, h2.symm⟩)] at e'
  exact ⟨H', e', h.new k'⟩

theorem moves_s (e : Nat) {H0 H : Heap} {A : GA} {x11 x7 x8 R C r0 c0 r c n : Nat} (h : Lv (bxP x11 x7 x8) H0 H A (gm R C r0 c0)) (bx : Bx H0 A.D.p x11 x7 x8 r c) (hr : r < R) (hc : c < C) (hR : R ≤ 60) (hC : C ≤ 98) (hn1 : 1 ≤ n) (hn : n ≤ 40) :
    ∃ H', law21_GridMoves_p1111111111111 (e + 12) (R : Int) (C : Int) (n : Int) x7 x8 x11 x11 x7 x8 true H = some (.bool true, H') := by
  rw [law21_GridMoves_p1111111111111_eq]
  -- B
  obtain ⟨H2, H5, A1, e1, s1, s2, e2, h1, _, b1, b2, b3, bx⟩ := step_s e h bx hr hc hR hC (n := n) (by omega) (b := 66) (by decide) (gm_B hr hc hn1)
  rw [e1]
  simp only [callK_s, asS_s]
  rw [if_pos s1, if_pos s2, e2]
  simp only [callK_s]
  rw [if_pos trivial, b1]
  simp only [optK_s, P0, asP_s]
  rw [b2]
  simp only [optK_s, asI_s]
  rw [b3]
  simp only [optK_s, asI_s]
  obtain ⟨H6, e6, h6⟩ := at_gm e h1 (if (IntKind.wrap .i64 ((r : Int) + (n : Int))) < (IntKind.wrap .i64 ((R : Int) - 1)) then (IntKind.wrap .i64 ((r : Int) + (n : Int))) else (IntKind.wrap .i64 ((R : Int) - 1))) c (by rw [w64 (n := (r : Int) + (n : Int)) (by omega), w64 (n := (R : Int) - 1) (by omega)]; split <;> omega) rfl
  rw [show X (e + 12) n_law21_at [.pointer (some ⟨A1.D.p, 0, none⟩), _, _] H5 = _ from e6]
  simp only [callK_s, asB_s]
  -- C
  rw [law21_GridMoves_p1111111111111011_eq]
  obtain ⟨H2, H5, A1, e1, s1, s2, e2, h1, _, b1, b2, b3, bx⟩ := step_s e h6 bx hr hc hR hC (n := n) (by omega) (b := 67) (by decide) (gm_C hr hc hn1)
  rw [e1]
  simp only [callK_s, asS_s]
  rw [if_pos s1, if_pos s2, e2]
  simp only [callK_s]
  rw [if_pos trivial, b1]
  simp only [optK_s, P0, asP_s]
  rw [b2]
  simp only [optK_s, asI_s]
  rw [b3]
  simp only [optK_s, asI_s]
  obtain ⟨H6, e6, h6⟩ := at_gm e h1 r (if (IntKind.wrap .i64 ((c : Int) + (n : Int))) < (IntKind.wrap .i64 ((C : Int) - 1)) then (IntKind.wrap .i64 ((c : Int) + (n : Int))) else (IntKind.wrap .i64 ((C : Int) - 1))) rfl (by rw [w64 (n := (c : Int) + (n : Int)) (by omega), w64 (n := (C : Int) - 1) (by omega)]; split <;> omega)
  rw [show X (e + 12) n_law21_at [.pointer (some ⟨A1.D.p, 0, none⟩), _, _] H5 = _ from e6]
  simp only [callK_s, asB_s]
  -- D
  rw [law21_GridMoves_p1111111111111011011_eq]
  obtain ⟨H2, H5, A1, e1, s1, s2, e2, h1, _, b1, b2, b3, bx⟩ := step_s e h6 bx hr hc hR hC (n := n) (by omega) (b := 68) (by decide) (gm_D hr hc hn1)
  rw [e1]
  simp only [callK_s, asS_s]
  rw [if_pos s1, if_pos s2, e2]
  simp only [callK_s]
  rw [if_pos trivial, b1]
  simp only [optK_s, P0, asP_s]
  rw [b2]
  simp only [optK_s, asI_s]
  rw [b3]
  simp only [optK_s, asI_s]
  obtain ⟨H6, e6, h6⟩ := at_gm e h1 r (if 0 < (IntKind.wrap .i64 ((c : Int) - (n : Int))) then (IntKind.wrap .i64 ((c : Int) - (n : Int))) else 0) rfl (by rw [w64 (n := (c : Int) - (n : Int)) (by omega)]; split <;> omega)
  rw [show X (e + 12) n_law21_at [.pointer (some ⟨A1.D.p, 0, none⟩), _, _] H5 = _ from e6]
  simp only [callK_s, asB_s]
  -- CR
  rw [law21_GridMoves_p1111111111111011011011_eq]
  obtain ⟨H5, A2, e5, h5, p5⟩ := go1_s e h6 bx hr hc hR hC Says.cr (by simp)
  rw [← p5] at bx
  rw [e5]
  simp only [callK_s]
  rw [List.foldl_cons, List.foldl_nil, gm_cr hr (by omega)] at h5
  rw [if_pos trivial, (ld1_s (h5.get (.inl rfl) bx.g)).trans (show [P0 A2.D.p][0]? = some (P0 A2.D.p) from rfl)]
  simp only [optK_s, P0, asP_s]
  rw [(ld1_s (h5.get (.inr (.inl rfl)) bx.r)).trans (show [Value.int .i64 (r : Int)][0]? = some (.int .i64 (r : Int)) from rfl)]
  simp only [optK_s, asI_s]
  obtain ⟨H6, e6, h6⟩ := at_gm e h5 r 0 rfl rfl
  rw [show X (e + 12) n_law21_at [.pointer (some ⟨A2.D.p, 0, none⟩), _, _] H5 = _ from e6]
  simp only [callK_s, asB_s]
  -- BS
  rw [law21_GridMoves_p1111111111111011011011011_eq]
  obtain ⟨H5, A2, e5, h5, p5⟩ := go1_s e h6 bx hr hc hR hC Says.bs (by simp)
  rw [← p5] at bx
  rw [e5]
  simp only [callK_s]
  rw [List.foldl_cons, List.foldl_nil, gm_bs hr hc] at h5
  rw [if_pos trivial, (ld1_s (h5.get (.inl rfl) bx.g)).trans (show [P0 A2.D.p][0]? = some (P0 A2.D.p) from rfl)]
  simp only [optK_s, P0, asP_s]
  rw [(ld1_s (h5.get (.inr (.inl rfl)) bx.r)).trans (show [Value.int .i64 (r : Int)][0]? = some (.int .i64 (r : Int)) from rfl)]
  simp only [optK_s, asI_s]
  rw [(ld1_s (h5.get (.inr (.inr rfl)) bx.c)).trans (show [Value.int .i64 (c : Int)][0]? = some (.int .i64 (c : Int)) from rfl)]
  simp only [optK_s, asI_s]
  obtain ⟨H6, e6, h6⟩ := at_gm e h5 r (if 0 < (IntKind.wrap .i64 ((c : Int) - 1)) then (IntKind.wrap .i64 ((c : Int) - 1)) else 0) rfl (by rw [w64 (n := (c : Int) - 1) (by omega)]; split <;> omega)
  rw [show X (e + 12) n_law21_at [.pointer (some ⟨A2.D.p, 0, none⟩), _, _] H5 = _ from e6]
  simp only [callK_s, asB_s]
  -- G
  rw [law21_GridMoves_p1111111111111011011011011011_eq]
  obtain ⟨H2, H5, A1, e1, s1, s2, e2, h1, _, b1, b2, b3, bx⟩ := step_s e h6 bx hr hc hR hC (n := n) (by omega) (b := 71) (by decide) (gm_G hr hn1)
  rw [e1]
  simp only [callK_s, asS_s]
  rw [if_pos s1, if_pos s2, e2]
  simp only [callK_s]
  rw [if_pos trivial, b1]
  simp only [optK_s, P0, asP_s]
  rw [b2]
  simp only [optK_s, asI_s]
  obtain ⟨H6, e6, h6⟩ := at_gm e h1 r (IntKind.wrap .i64 ((if (n : Int) < (C : Int) then (n : Int) else (C : Int)) - 1)) rfl (by rw [w64 (by split <;> omega)]; split <;> omega)
  rw [show X (e + 12) n_law21_at [.pointer (some ⟨A1.D.p, 0, none⟩), _, _] H5 = _ from e6]
  simp only [callK_s, asB_s]
  -- d
  rw [law21_GridMoves_p1111111111111011011011011011011_eq]
  obtain ⟨H2, H5, A1, e1, s1, s2, e2, h1, _, b1, b2, b3, bx⟩ := step_s e h6 bx hr hc hR hC (n := n) (by omega) (b := 100) (by decide) (gm_d hc hn1)
  rw [e1]
  simp only [callK_s, asS_s]
  rw [if_pos s1, if_pos s2, e2]
  simp only [callK_s]
  rw [if_pos trivial, b1]
  simp only [optK_s, P0, asP_s]
  rw [b3]
  simp only [optK_s, asI_s]
  obtain ⟨H6, e6, h6⟩ := at_gm e h1 (IntKind.wrap .i64 ((if (n : Int) < (R : Int) then (n : Int) else (R : Int)) - 1)) c (by rw [w64 (by split <;> omega)]; split <;> omega) rfl
  rw [show X (e + 12) n_law21_at [.pointer (some ⟨A1.D.p, 0, none⟩), _, _] H5 = _ from e6]
  exact ⟨H6, rfl⟩

theorem GridMoves_s (e : Nat) {H : Heap} (t : Tab H) (x0 x1 x2 x3 x4 : Int) : ∃ H', X (e + 13) n_law21_GridMoves [.int .i64 x0, .int .i64 x1, .int .i64 x2, .int .i64 x3, .int .i64 x4] H = some (.bool true, H') := by
  rw [law21_GridMoves_eq]
  simp only [newK_s]
  have k2 : Keep0 H (H.new (.cells [.int .i64 x2] t_int false 0 false)) := Keep.new _ _
  have g2 : (H.new (.cells [.int .i64 x2] t_int false 0 false)).get H.next = some (.cells [.int .i64 x2] t_int false 0 false) := by simp
  have n2 : (H.new (.cells [.int .i64 x2] t_int false 0 false)).next = H.next + 1 := by simp
  generalize H.new (.cells [.int .i64 x2] t_int false 0 false) = H2 at *
  have k4 : Keep0 H2 (H2.new (.cells [.int .i64 x3] t_int false 0 false)) := Keep.new _ _
  have g4 : (H2.new (.cells [.int .i64 x3] t_int false 0 false)).get H2.next = some (.cells [.int .i64 x3] t_int false 0 false) := by simp
  have n4 : (H2.new (.cells [.int .i64 x3] t_int false 0 false)).next = H2.next + 1 := by simp
  generalize H2.new (.cells [.int .i64 x3] t_int false 0 false) = H4 at *
  obtain ⟨r0, e1, hr0⟩ := Pick_s (e + 11) x0 20 H4 (by omega) (by omega)
  obtain ⟨c0, e2, hc0⟩ := Pick_s (e + 11) x1 30 H4 (by omega) (by omega)
  rw [show X (e + 12) n_hand_Pick [.int .i64 x0, .int .i64 20] H4 = _ from e1]
  simp only [callK_s, asI_s]
  rw [show X (e + 12) n_hand_Pick [.int .i64 x1, .int .i64 30] H4 = _ from e2]
  simp only [callK_s, asI_s]
  have hR : IntKind.wrap .i64 (1 + (r0 : Int)) = ((r0 + 1 : Nat) : Int) := by rw [w64 (by omega)]; omega
  have hC : IntKind.wrap .i64 (1 + (c0 : Int)) = ((c0 + 1 : Nat) : Int) := by rw [w64 (by omega)]; omega
  rw [hR, hC]
  generalize hRR : r0 + 1 = R
  generalize hCC : c0 + 1 = C
  have t4 := (t.keep k2 id id).keep k4 id id
  obtain ⟨H12, A, e12, h12, k12, f12⟩ := New_s (e + 5) t4.lt (r := R) (c := C) (by omega) (by omega)
  rw [e12, callK_s, castPI, castPI]
  simp only [List.getElem?_cons_zero, List.getElem?_cons_succ, optK_s, P0, asP_s, asI_s]
  have t12 := t4.keep k12 id id
  have lt12 : ∀ k, A.foot k → k < H12.next := fun k e => h12.lt e
  have g12a := k12.get (by omega) ((k4.get (by omega) g2))
  have g12b := k12.get (by omega) g4
  have n12 := k12.1
  have k20 : Keep0 H12 (H12.new (.cells [.pointer none] t_P_grid_Grid false 0 false)) := Keep.new _ _
  have g20 : (H12.new (.cells [.pointer none] t_P_grid_Grid false 0 false)).get H12.next = some (.cells [.pointer none] t_P_grid_Grid false 0 false) := by simp
  have n20 : (H12.new (.cells [.pointer none] t_P_grid_Grid false 0 false)).next = H12.next + 1 := by simp
  generalize H12.new (.cells [.pointer none] t_P_grid_Grid false 0 false) = H20 at *
  have es : Heap.st1 H20 ⟨H12.next, 0, none⟩ (.pointer (some ⟨A.D.p, 0, none⟩)) = some (H20.put H12.next (.cells [P0 A.D.p] t_P_grid_Grid false 0 false)) := (st1_s g20 (by show 0 < 1; omega) (by omega)).trans rfl
  rw [es]
  simp only [optK_s]
  have k21 : Keep0 H12 (H20.put H12.next (.cells [P0 A.D.p] t_P_grid_Grid false 0 false)) := k20.fresh (Keep.put (S := fun k => k = H12.next) _ _ _ rfl) fun k e => by have e' : k = H12.next := e; omega
  have g21 : (H20.put H12.next (.cells [P0 A.D.p] t_P_grid_Grid false 0 false)).get H12.next = some (.cells [P0 A.D.p] t_P_grid_Grid false 0 false) := by simp
  have n21 : (H20.put H12.next (.cells [P0 A.D.p] t_P_grid_Grid false 0 false)).next = H12.next + 1 := n20
  generalize H20.put H12.next (.cells [P0 A.D.p] t_P_grid_Grid false 0 false) = H21 at *
  rw [known_s]
  simp only [callK_s, asB_s]
  rw [if_neg (show ¬ (!true) = true by simp), if_neg (show ¬ (!decide True) = true by simp), (ld1_s g21).trans (show [P0 A.D.p][0]? = some (.pointer (some ⟨A.D.p, 0, none⟩)) from rfl)]
  simp only [optK_s, asP_s]
  rw [law21_GridMoves_p111101_eq, if_neg (show ¬ (some (⟨A.D.p, 0, none⟩ : Addr)).isNone = true by simp)]
  -- the row and the column are drawn
  have g21a := k21.get (by omega) g12a
  have g21b := k21.get (by omega) g12b
  rw [(ld1_s g21a).trans (show [Value.int .i64 x2][0]? = some (.int .i64 x2) from rfl)]
  simp only [optK_s, asI_s]
  obtain ⟨r, e3, hr⟩ := Pick_s (e + 11) x2 R H21 (by omega) (by omega)
  rw [show X (e + 12) n_hand_Pick [.int .i64 x2, .int .i64 (R : Int)] H21 = _ from e3]
  simp only [callK_s, asI_s]
  have es2 : Heap.st1 H21 ⟨H.next, 0, none⟩ (.int .i64 (r : Int)) = some (H21.put H.next (.cells [.int .i64 (r : Int)] t_int false 0 false)) := (st1_s g21a (by show 0 < 1; omega) (by omega)).trans rfl
  rw [es2]
  simp only [optK_s]
  have k22 : Keep (fun k => k = H.next) H21 (H21.put H.next (.cells [.int .i64 (r : Int)] t_int false 0 false)) := Keep.put _ _ _ rfl
  have g22 : (H21.put H.next (.cells [.int .i64 (r : Int)] t_int false 0 false)).get H.next = some (.cells [.int .i64 (r : Int)] t_int false 0 false) := by simp
  have n22 : (H21.put H.next (.cells [.int .i64 (r : Int)] t_int false 0 false)).next = H21.next := rfl
  generalize H21.put H.next (.cells [.int .i64 (r : Int)] t_int false 0 false) = H22 at *
  have g22b := (k22.2 H2.next (by omega) (fun e => by have e' : H2.next = H.next := e; omega)).trans g21b
  rw [(ld1_s g22b).trans (show [Value.int .i64 x3][0]? = some (.int .i64 x3) from rfl)]
  simp only [optK_s, asI_s]
  obtain ⟨c, e4, hc⟩ := Pick_s (e + 11) x3 C H22 (by omega) (by omega)
  rw [show X (e + 12) n_hand_Pick [.int .i64 x3, .int .i64 (C : Int)] H22 = _ from e4]
  simp only [callK_s, asI_s]
  have es3 : Heap.st1 H22 ⟨H2.next, 0, none⟩ (.int .i64 (c : Int)) = some (H22.put H2.next (.cells [.int .i64 (c : Int)] t_int false 0 false)) := (st1_s g22b (by show 0 < 1; omega) (by omega)).trans rfl
  rw [es3]
  simp only [optK_s]
  have k23 : Keep (fun k => k = H2.next) H22 (H22.put H2.next (.cells [.int .i64 (c : Int)] t_int false 0 false)) := Keep.put _ _ _ rfl
  have g23 : (H22.put H2.next (.cells [.int .i64 (c : Int)] t_int false 0 false)).get H2.next = some (.cells [.int .i64 (c : Int)] t_int false 0 false) := by simp
  have n23 : (H22.put H2.next (.cells [.int .i64 (c : Int)] t_int false 0 false)).next = H22.next := rfl
  generalize H22.put H2.next (.cells [.int .i64 (c : Int)] t_int false 0 false) = H23 at *
  have g23a := (k23.2 H.next (by omega) (fun e => by have e' : H.next = H2.next := e; omega)).trans g22
  have g23c := (k23.2 H12.next (by omega) (fun e => by have e' : H12.next = H2.next := e; omega)).trans ((k22.2 H12.next (by omega) (fun e => by have e' : H12.next = H.next := e; omega)).trans g21)
  obtain ⟨n0, e5, hn0⟩ := Pick_s (e + 11) x4 40 H23 (by omega) (by omega)
  rw [show X (e + 12) n_hand_Pick [.int .i64 x4, .int .i64 40] H23 = _ from e5]
  simp only [callK_s, asI_s]
  have hlo := t4.lt
  have k1223 : Keep (fun k => k = H.next ∨ k = H2.next) H12 H23 := (k21.to.trans (k22.mono (T := fun k => k = H.next ∨ k = H2.next) fun _ _ e => .inl e) fun _ _ e => e).trans (k23.mono (T := fun k => k = H.next ∨ k = H2.next) fun _ _ e => .inr e) fun _ _ e => e
  have h23 : Gr H23 A (GP.new R C) := h12.keep k1223 fun k e e' => by have := f12 k e; rcases e' with e' | e' <;> omega
  have tt := t.lt
  have t23 : Tab H23 := t12.keep k1223 (fun e => by rcases e with e | e <;> omega) (fun e => by rcases e with e | e <;> omega)
  have lv : Lv (bxP H12.next H.next H2.next) H23 H23 A (gm R C 0 0) := Lv.start t23 h23 fun k hk => by
    rcases hk with rfl | rfl | rfl
    · exact ⟨by omega, fun e => by have := lt12 _ e; omega⟩
    · exact ⟨by omega, fun e => by have := f12 _ e; omega⟩
    · exact ⟨by omega, fun e => by have := f12 _ e; omega⟩
  have bx : Bx H23 A.D.p H12.next H.next H2.next r c := ⟨g23c, g23a, g23⟩
  obtain ⟨H24, A24, e24, h24, p24⟩ := go1_s e lv bx hr hc (by omega) (by omega) Says.nil (by simp)
  rw [← p24] at bx
  rw [e24]
  simp only [callK_s]
  rw [List.foldl_nil] at h24
  rw [(ld1_s (h24.get (.inl rfl) bx.g)).trans (show [P0 A24.D.p][0]? = some (P0 A24.D.p) from rfl)]
  simp only [optK_s, P0, asP_s]
  rw [(ld1_s (h24.get (.inr (.inl rfl)) bx.r)).trans (show [Value.int .i64 (r : Int)][0]? = some (.int .i64 (r : Int)) from rfl)]
  simp only [optK_s, asI_s]
  rw [(ld1_s (h24.get (.inr (.inr rfl)) bx.c)).trans (show [Value.int .i64 (c : Int)][0]? = some (.int .i64 (c : Int)) from rfl)]
  simp only [optK_s, asI_s]
  obtain ⟨H25, e25, h25⟩ := at_gm e h24 r c rfl rfl
  rw [show X (e + 12) n_law21_at [.pointer (some ⟨A24.D.p, 0, none⟩), _, _] H24 = _ from e25]
  simp only [callK_s, asB_s]
  have hN : IntKind.wrap .i64 (1 + (n0 : Int)) = ((n0 + 1 : Nat) : Int) := by rw [w64 (by omega)]; omega
  rw [hN]
  generalize hNN : n0 + 1 = n
  obtain ⟨H2', H5, A1, e1, s1, s2, e2, h1, _, b1, b2, b3, bx⟩ := step_s e h25 bx hr hc (by omega) (by omega) (n := n) (by omega) (b := 65) (by decide) (gm_A hr hc (by omega))
  rw [e1]
  simp only [callK_s, asS_s]
  rw [if_pos s1, if_pos s2, show X (e + 12) n_law21_GridMoves_1 [.string (sCat (sCat (S [27, 91]) (S (digs n))) (S [65])), .pointer (some ⟨H12.next, 0, none⟩), .pointer (some ⟨H.next, 0, none⟩), .pointer (some ⟨H2.next, 0, none⟩)] H2' = _ from e2]
  simp only [callK_s]
  rw [if_pos trivial, b1]
  simp only [optK_s, P0, asP_s]
  rw [b2]
  simp only [optK_s, asI_s]
  rw [b3]
  simp only [optK_s, asI_s]
  obtain ⟨H6, e6, h6⟩ := at_gm e h1 (if 0 < (IntKind.wrap .i64 ((r : Int) - (n : Int))) then (IntKind.wrap .i64 ((r : Int) - (n : Int))) else 0) c (by rw [w64 (n := (r : Int) - (n : Int)) (by omega)]; split <;> omega) rfl
  rw [show X (e + 12) n_law21_at [.pointer (some ⟨A1.D.p, 0, none⟩), _, _] H5 = _ from e6]
  simp only [callK_s, asB_s]
  exact moves_s e h6 bx hr hc (by omega) (by omega) (by omega) (by omega)
end Go.Proofs.YtjmiehbiindjdaaDoor.dec
