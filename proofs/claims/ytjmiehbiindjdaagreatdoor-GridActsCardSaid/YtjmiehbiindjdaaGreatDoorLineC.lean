/-
  grid: control sequences; any act; any write.
  And: reference: sequences; any act. reference: sequences, one by one; any act. grid: Screen. reference: lines and screens compared. a pending wrap stands in the last column, whatever is done; both grids show the same. GridActs: the law's walk. GridActs: the arguments' readings.
-/
import Derived.Test.YtjmiehbiindjdaaGreatDoorLineB
import Derived.Test.YtjmiehbiindjdaaGreatDoorDec
import Derived.Test.YtjmiehbiindjdaaGreatDoorLineA
namespace Go.Proofs.YtjmiehbiindjdaaGreatDoor.dec
open Go Go.Cm

attribute [local congr] optK_congr asI_congr asN_congr asB_congr asS_congr asP_congr asA_congr asSL_congr callK_congr castT_congr chk_congr

def G.csi (g : G) (a : Act) : G :=
  if a.rune = 65 ∨ a.rune = 70 then g.move (max ((g.c.row : Int) - a.par 0 1) (if g.c.top ≤ g.c.row then g.c.top else 0)) (if a.rune = 70 then 0 else g.c.col)
  else if a.rune = 66 ∨ a.rune = 69 then g.move (min ((g.c.row : Int) + a.par 0 1) (if g.c.row ≤ g.c.bottom then g.c.bottom else (g.c.rows : Int) - 1)) (if a.rune = 69 then 0 else g.c.col)
  else if a.rune = 67 then g.move g.c.row ((g.c.col : Int) + a.par 0 1)
  else if a.rune = 68 then g.move g.c.row ((g.c.col : Int) - a.par 0 1)
  else if a.rune = 71 then g.move g.c.row (a.par 0 1 - 1)
  else if a.rune = 100 then g.move (a.par 0 1 - 1) g.c.col
  else if a.rune = 72 ∨ a.rune = 102 then g.move (a.par 0 1 - 1) (a.par 1 1 - 1)
  else if a.rune = 109 then a.params.foldl G.style g
  else if a.rune = 104 ∨ a.rune = 108 then (if (4 : Int) ∈ a.params then { g with c := { g.c with insert := decide (a.rune = 104) } } else g)
  else g.edit a (a.par 0 1).toNat
theorem WF.csi {g : G} (w : WF g) {a : Act} (ok : a.ok) : WF (g.csi a) := by
  unfold G.csi
  split; · exact w.move _ _
  split; · exact w.move _ _
  split; · exact w.move _ _
  split; · exact w.move _ _
  split; · exact w.move _ _
  split; · exact w.move _ _
  split; · exact w.move _ _
  split; · exact WF.foldl (fun g n w => w.style n) _ w
  split
  · split
    · exact w.sc rfl rfl w.row w.col w.top w.tb w.bot w.srow w.scol w.arow w.acol
    · exact w
  exact w.edit ok _
theorem styles_loop (d : Nat) {y : Sl} {l : List Int} (hl : l.length ≤ 1000) : ∀ (r : List Int) (m i : Nat) {H : Heap} {D : GD} {g : G}, r.length < m → l.drop i = r → i + r.length = l.length → Rep H D g → Whole H y (intL l) t_int 1 → (∀ k, y.at k → ¬ D.foot k) →
    ∃ H', grid_Grid_csi_p11110101101111111111011010 (d + 1) m D.p y (y.n : Int) (i : Int) H = some (.tuple #[], H') ∧ Rep H' D (r.foldl G.style g) ∧ Stp H D H' D := fun r => by
  induction r with
  | nil =>
    intro m i H D g hm _ hi h wy hy
    obtain ⟨m, rfl⟩ : ∃ m', m = m' + 1 := ⟨m - 1, by simp at hm; omega⟩
    have hn := intN wy
    simp only [List.length_nil] at hi
    rw [grid_Grid_csi_p11110101101111111111011010_s, if_neg (show ¬ decide ((i : Int) < (y.n : Int)) = true from dneg (by omega))]
    exact ⟨H, rfl, h, Stp.refl _ _⟩
  | cons n r ih =>
    intro m i H D g hm hd hi h wy hy
    simp only [List.length_cons] at hm hi
    obtain ⟨m, rfl⟩ : ∃ m', m = m' + 1 := ⟨m - 1, by omega⟩
    have hc : l[i]? = some n := by have := congrArg (fun x => x[0]?) hd; simpa using this
    have hdr : l.drop (i + 1) = r := by rw [← List.drop_drop, hd]; rfl
    have hn := intN wy
    obtain ⟨b, ha, hl1⟩ := intAt wy hc
    rw [grid_Grid_csi_p11110101101111111111011010_s, if_pos (show decide ((i : Int) < (y.n : Int)) = true from decide_eq_true (by omega)), ha]
    simp only [optK_s]
    rw [if_pos (show (0 : Int) ≤ (i : Int) ∧ (i : Int) < (y.n : Int) by omega), hl1]
    simp only [optK_s, asI_s]
    obtain ⟨H1, e1, h1, s1⟩ := style_s d h n
    rw [e1]
    simp only [callK_s]
    rw [wi (by omega)]
    obtain ⟨H', e', h', s'⟩ := ih m (i + 1) (by omega) hdr (by omega) h1 (Whole.keep wy s1.kp hy) hy
    exact ⟨H', e', h', s1.trans s'⟩

theorem gcsi_s (d : Nat) {H : Heap} {D : GD} {g : G} (h : Rep H D g) (w : WF g) {a : Act} {y : Sl} (ok : a.ok) (wy : Whole H y (intL a.params) t_int 1) (hy : ∀ k, y.at k → ¬ D.foot k) :
    ∃ H' D', X (d + 9) n_grid_Grid_csi [P0 D.p, .agg ⟨actL a y⟩] H = some (.tuple #[], H') ∧ Rep H' D' (g.csi a) ∧ Stp H D H' D' := by
  have hr := w.row; have hc := w.col; have c2 := w.c2; have r1 := w.r1; have r2 := w.r2; have hb := w.bot; have hT := w.top
  rw [grid_Grid_csi_eq, boxA]
  have k1 : Keep0 H (H.new (.cells (actL a y) t_vt_Act false 0 false)) := Keep.new _ _
  have g1 : (H.new (.cells (actL a y) t_vt_Act false 0 false)).get H.next = some (.cells (actL a y) t_vt_Act false 0 false) := by simp
  have n1 : (H.new (.cells (actL a y) t_vt_Act false 0 false)).next = H.next + 1 := by simp
  generalize H.new (.cells (actL a y) t_vt_Act false 0 false) = H1 at *
  simp only [P0]
  rw [rdAct g1]
  simp only [optK_s, asA_s]
  obtain ⟨H2, e2, k2⟩ := Params_s (d + 7) (Whole.keep wy k1 fun _ _ e => e) 0 1
  rw [show X (d + 8) n_vt_Params [.agg ⟨actL a y⟩, .int .i64 0, .int .i64 1] H1 = _ from e2]
  simp only [callK_s, asI_s]
  have g2 := k2.get (by omega) g1
  have k02 : Keep0 H H2 := k1.trans k2
  have h2 := h.new k02
  have wy2 := Whole.keep wy k02 fun _ _ e => e
  have l1 : Heap.ld1 H2 (ap ⟨H.next, 0, none⟩ 1) = some (.int .i32 a.rune) := (ld1_s g2).trans rfl
  have l3 : Heap.ld1 H2 (ap ⟨H.next, 0, none⟩ 3) = some y.v := (ld1_s g2).trans rfl
  rw [h2.l3, h2.l4]
  simp only [optK_s, asI_s, asP_s]
  rw [l1]
  simp only [optK_s, asI_s]
  have up : ∀ {H' : Heap} {D' : GD}, Stp H2 D H' D' → Stp H D H' D' := fun s => (Stp.new k02).trans s
  have pp := Act.par_pos ok 0 (dflt := 1) (by omega)
  -- the cursor is moved
  have mv : ∀ (row col : Int), ∃ H', X (d + 8) n_grid_Grid_move [.pointer (some ⟨D.p, 0, none⟩), .int .i64 row, .int .i64 col] H2 = some (.tuple #[], H') ∧ Rep H' D (g.move row col) ∧ Stp H D H' D := fun row col => by
    obtain ⟨H', e, h', s'⟩ := move_s (d + 7) h2 w row col
    exact ⟨H', e, h', up s'⟩
  unfold G.csi
  -- up
  by_cases cA : a.rune = 65 ∨ a.rune = 70
  · rw [if_pos cA]
    have upw : ∃ H' D', grid_Grid_csi_p111101 (d + 8) D.p (.pointer (some ⟨H.next, 0, none⟩)) (a.par 0 1) g.c.row g.c.col a.rune true H2 = some (.tuple #[], H') ∧ Rep H' D' (g.move (max ((g.c.row : Int) - a.par 0 1) (if g.c.top ≤ g.c.row then g.c.top else 0)) (if a.rune = 70 then 0 else g.c.col)) ∧ Stp H D H' D' := by
      rw [grid_Grid_csi_p111101_eq, if_pos rfl, h2.l17]
      simp only [optK_s, asI_s]
      have fin : ∀ (least : Int), 0 ≤ least → least ≤ 60 → ∃ H', grid_Grid_csi_p1111010011 (d + 8) D.p (.pointer (some ⟨H.next, 0, none⟩)) (a.par 0 1) g.c.row g.c.col least H2 = some (.tuple #[], H') ∧ Rep H' D (g.move (max ((g.c.row : Int) - a.par 0 1) least) (if a.rune = 70 then 0 else g.c.col)) ∧ Stp H D H' D := fun least hl1 hl2 => by
        rw [grid_Grid_csi_p1111010011_eq]
        simp only [asP_s, optK_s]
        rw [l1]
        simp only [optK_s, asI_s]
        have hm : (if (IntKind.wrap .i64 ((g.c.row : Int) - a.par 0 1)) < least then least else (IntKind.wrap .i64 ((g.c.row : Int) - a.par 0 1))) = max ((g.c.row : Int) - a.par 0 1) least := by
          rw [w64 (by omega)]; split <;> omega
        rw [hm]
        by_cases cF : a.rune = 70
        · rw [if_pos (show decide (a.rune = 70) = true from decide_eq_true cF), if_pos cF, grid_Grid_csi_p1111010011011_eq]
          obtain ⟨H', e, h', s'⟩ := mv (max ((g.c.row : Int) - a.par 0 1) least) 0
          rw [show X (d + 8) n_grid_Grid_move [P0 D.p, .int .i64 (max ((g.c.row : Int) - a.par 0 1) least), .int .i64 0] H2 = _ from e]
          exact ⟨H', rfl, h', s'⟩
        · rw [if_neg (show ¬ decide (a.rune = 70) = true from dneg cF), if_neg cF, grid_Grid_csi_p1111010011011_eq]
          obtain ⟨H', e, h', s'⟩ := mv (max ((g.c.row : Int) - a.par 0 1) least) g.c.col
          rw [show X (d + 8) n_grid_Grid_move [P0 D.p, .int .i64 (max ((g.c.row : Int) - a.par 0 1) least), .int .i64 (g.c.col : Int)] H2 = _ from e]
          exact ⟨H', rfl, h', s'⟩
      by_cases ct : g.c.top ≤ g.c.row
      · rw [if_pos (show decide ((g.c.top : Int) ≤ (g.c.row : Int)) = true from decide_eq_true (by omega))]
        obtain ⟨H', e, h', s'⟩ := fin g.c.top (by omega) (by omega)
        rw [if_pos ct]
        exact ⟨H', D, e, h', s'⟩
      · rw [if_neg (show ¬ decide ((g.c.top : Int) ≤ (g.c.row : Int)) = true from dneg (by omega))]
        obtain ⟨H', e, h', s'⟩ := fin 0 (by omega) (by omega)
        rw [if_neg ct]
        exact ⟨H', D, e, h', s'⟩
    by_cases c65 : a.rune = 65
    · rw [if_pos (show decide (a.rune = 65) = true from decide_eq_true c65), show decide (a.rune = 65) = true from decide_eq_true c65]
      exact upw
    · rw [if_neg (show ¬ decide (a.rune = 65) = true from dneg c65), show decide (a.rune = 70) = true from decide_eq_true (by omega)]
      exact upw
  rw [if_neg (show ¬ decide (a.rune = 65) = true from dneg (by omega)), if_neg cA, show decide (a.rune = 70) = false from decide_eq_false (by omega), grid_Grid_csi_p111101_eq, if_neg ff]
  -- down
  by_cases cB : a.rune = 66 ∨ a.rune = 69
  · rw [if_pos cB]
    have dnw : ∃ H' D', grid_Grid_csi_p111101011 (d + 8) D.p (.pointer (some ⟨H.next, 0, none⟩)) (a.par 0 1) g.c.row g.c.col a.rune true H2 = some (.tuple #[], H') ∧ Rep H' D' (g.move (min ((g.c.row : Int) + a.par 0 1) (if g.c.row ≤ g.c.bottom then g.c.bottom else (g.c.rows : Int) - 1)) (if a.rune = 69 then 0 else g.c.col)) ∧ Stp H D H' D' := by
      rw [grid_Grid_csi_p111101011_eq, if_pos rfl, show Heap.ld1 H2 ⟨D.p, 0, none⟩ = some (.int .i64 (g.c.rows : Int)) from h2.l0, h2.l18]
      simp only [optK_s, asI_s]
      have fin : ∀ (most : Int), 0 ≤ most → most ≤ 60 → ∃ H', grid_Grid_csi_p1111010110011 (d + 8) D.p (.pointer (some ⟨H.next, 0, none⟩)) (a.par 0 1) g.c.row g.c.col most H2 = some (.tuple #[], H') ∧ Rep H' D (g.move (min ((g.c.row : Int) + a.par 0 1) most) (if a.rune = 69 then 0 else g.c.col)) ∧ Stp H D H' D := fun most hl1 hl2 => by
        rw [grid_Grid_csi_p1111010110011_eq]
        simp only [asP_s, optK_s]
        rw [l1]
        simp only [optK_s, asI_s]
        have hm : (if most < (IntKind.wrap .i64 ((g.c.row : Int) + a.par 0 1)) then most else (IntKind.wrap .i64 ((g.c.row : Int) + a.par 0 1))) = min ((g.c.row : Int) + a.par 0 1) most := by
          rw [w64 (by omega)]; split <;> omega
        rw [hm]
        by_cases cF : a.rune = 69
        · rw [if_pos (show decide (a.rune = 69) = true from decide_eq_true cF), if_pos cF, grid_Grid_csi_p1111010110011011_eq]
          obtain ⟨H', e, h', s'⟩ := mv (min ((g.c.row : Int) + a.par 0 1) most) 0
          rw [show X (d + 8) n_grid_Grid_move [P0 D.p, .int .i64 (min ((g.c.row : Int) + a.par 0 1) most), .int .i64 0] H2 = _ from e]
          exact ⟨H', rfl, h', s'⟩
        · rw [if_neg (show ¬ decide (a.rune = 69) = true from dneg cF), if_neg cF, grid_Grid_csi_p1111010110011011_eq]
          obtain ⟨H', e, h', s'⟩ := mv (min ((g.c.row : Int) + a.par 0 1) most) g.c.col
          rw [show X (d + 8) n_grid_Grid_move [P0 D.p, .int .i64 (min ((g.c.row : Int) + a.par 0 1) most), .int .i64 (g.c.col : Int)] H2 = _ from e]
          exact ⟨H', rfl, h', s'⟩
      by_cases ct : g.c.row ≤ g.c.bottom
      · rw [if_pos (show decide ((g.c.row : Int) ≤ (g.c.bottom : Int)) = true from decide_eq_true (by omega))]
        obtain ⟨H', e, h', s'⟩ := fin g.c.bottom (by omega) (by omega)
        rw [if_pos ct]
        exact ⟨H', D, e, h', s'⟩
      · rw [if_neg (show ¬ decide ((g.c.row : Int) ≤ (g.c.bottom : Int)) = true from dneg (by omega)), w64 (n := (g.c.rows : Int) - 1) (by omega)]
        obtain ⟨H', e, h', s'⟩ := fin ((g.c.rows : Int) - 1) (by omega) (by omega)
        rw [if_neg ct]
        exact ⟨H', D, e, h', s'⟩
    by_cases c66 : a.rune = 66
    · rw [if_pos (show decide (a.rune = 66) = true from decide_eq_true c66), show decide (a.rune = 66) = true from decide_eq_true c66]
      exact dnw
    · rw [if_neg (show ¬ decide (a.rune = 66) = true from dneg c66), show decide (a.rune = 69) = true from decide_eq_true (by omega)]
      exact dnw
  rw [if_neg (show ¬ decide (a.rune = 66) = true from dneg (by omega)), if_neg cB, show decide (a.rune = 69) = false from decide_eq_false (by omega), grid_Grid_csi_p111101011_eq, if_neg ff]
  by_cases cC : a.rune = 67
  · rw [if_pos (show decide (a.rune = 67) = true from decide_eq_true cC), if_pos cC, w64 (n := (g.c.col : Int) + a.par 0 1) (by omega)]
    obtain ⟨H', e, h', s'⟩ := mv g.c.row ((g.c.col : Int) + a.par 0 1)
    rw [show X (d + 8) n_grid_Grid_move [P0 D.p, .int .i64 (g.c.row : Int), .int .i64 ((g.c.col : Int) + a.par 0 1)] H2 = _ from e]
    exact ⟨H', D, rfl, h', s'⟩
  rw [if_neg (show ¬ decide (a.rune = 67) = true from dneg cC), if_neg cC]
  by_cases cD : a.rune = 68
  · rw [if_pos (show decide (a.rune = 68) = true from decide_eq_true cD), if_pos cD, w64 (n := (g.c.col : Int) - a.par 0 1) (by omega)]
    obtain ⟨H', e, h', s'⟩ := mv g.c.row ((g.c.col : Int) - a.par 0 1)
    rw [show X (d + 8) n_grid_Grid_move [P0 D.p, .int .i64 (g.c.row : Int), .int .i64 ((g.c.col : Int) - a.par 0 1)] H2 = _ from e]
    exact ⟨H', D, rfl, h', s'⟩
  rw [if_neg (show ¬ decide (a.rune = 68) = true from dneg cD), if_neg cD, w64 (n := a.par 0 1 - 1) (by omega)]
  by_cases cG : a.rune = 71
  · rw [if_pos (show decide (a.rune = 71) = true from decide_eq_true cG), if_pos cG]
    obtain ⟨H', e, h', s'⟩ := mv g.c.row (a.par 0 1 - 1)
    rw [show X (d + 8) n_grid_Grid_move [P0 D.p, .int .i64 (g.c.row : Int), .int .i64 (a.par 0 1 - 1)] H2 = _ from e]
    exact ⟨H', D, rfl, h', s'⟩
  rw [if_neg (show ¬ decide (a.rune = 71) = true from dneg cG), if_neg cG]
  by_cases cd : a.rune = 100
  · rw [if_pos (show decide (a.rune = 100) = true from decide_eq_true cd), if_pos cd]
    obtain ⟨H', e, h', s'⟩ := mv (a.par 0 1 - 1) g.c.col
    rw [show X (d + 8) n_grid_Grid_move [P0 D.p, .int .i64 (a.par 0 1 - 1), .int .i64 (g.c.col : Int)] H2 = _ from e]
    exact ⟨H', D, rfl, h', s'⟩
  rw [if_neg (show ¬ decide (a.rune = 100) = true from dneg cd), if_neg cd]
  -- to a place
  by_cases cH : a.rune = 72 ∨ a.rune = 102
  · rw [if_pos cH]
    have hw : ∃ H' D', grid_Grid_csi_p11110101101111111111 (d + 8) D.p (.pointer (some ⟨H.next, 0, none⟩)) (a.par 0 1) a.rune true H2 = some (.tuple #[], H') ∧ Rep H' D' (g.move (a.par 0 1 - 1) (a.par 1 1 - 1)) ∧ Stp H D H' D' := by
      rw [grid_Grid_csi_p11110101101111111111_eq, if_pos rfl, rdAct g2]
      simp only [optK_s, asA_s]
      obtain ⟨H3, e3, k3⟩ := Params_s (d + 7) wy2 1 1
      rw [show X (d + 8) n_vt_Params [.agg ⟨actL a y⟩, .int .i64 1, .int .i64 1] H2 = _ from e3]
      simp only [callK_s, asI_s]
      have p1 := Act.par_pos ok 1 (dflt := 1) (by omega)
      rw [w64 (n := a.par 0 1 - 1) (by omega), w64 (n := a.par 1 1 - 1) (by omega)]
      have h3 := h2.new k3
      obtain ⟨H', e, h', s'⟩ := move_s (d + 7) h3 w (a.par 0 1 - 1) (a.par 1 1 - 1)
      rw [e]
      exact ⟨H', D, rfl, h', up ((Stp.new k3).trans s')⟩
    by_cases c72 : a.rune = 72
    · rw [if_pos (show decide (a.rune = 72) = true from decide_eq_true c72), show decide (a.rune = 72) = true from decide_eq_true c72]
      exact hw
    · rw [if_neg (show ¬ decide (a.rune = 72) = true from dneg c72), show decide (a.rune = 102) = true from decide_eq_true (by omega)]
      exact hw
  rw [if_neg (show ¬ decide (a.rune = 72) = true from dneg (by omega)), if_neg cH, show decide (a.rune = 102) = false from decide_eq_false (by omega), grid_Grid_csi_p11110101101111111111_eq, if_neg ff]
  by_cases cm : a.rune = 109
  · rw [if_pos (show decide (a.rune = 109) = true from decide_eq_true cm), if_pos cm]
    simp only [asP_s, optK_s]
    rw [l3]
    simp only [optK_s, asSL_k]
    have hl := ok.1
    obtain ⟨H', e', h', s'⟩ := styles_loop (d + 7) ok.1 a.params NN 0 (NN_big _ (by omega)) rfl (by omega) h2 wy2 hy
    exact ⟨H', D, e', h', up s'⟩
  rw [if_neg (show ¬ decide (a.rune = 109) = true from dneg cm), if_neg cm]
  by_cases ch : a.rune = 104 ∨ a.rune = 108
  · rw [if_pos ch]
    have ins : ∃ H' D', grid_Grid_csi_p1111010110111111111101111 (d + 8) D.p (.pointer (some ⟨H.next, 0, none⟩)) (a.par 0 1) true H2 = some (.tuple #[], H') ∧ Rep H' D' (if (4 : Int) ∈ a.params then { g with c := { g.c with insert := decide (a.rune = 104) } } else g) ∧ Stp H D H' D' := by
      rw [grid_Grid_csi_p1111010110111111111101111_eq, if_pos rfl]
      simp only [asP_s, optK_s]
      rw [l3]
      simp only [optK_s, asSL_k]
      rw [show X (d + 8) n_slices_Contains_S_int_int [y.v, .int .i64 4] H2 = _ from Contains_s (d + 6) wy2 ok.1 4]
      simp only [callK_s, asB_s]
      by_cases c4 : (4 : Int) ∈ a.params
      · rw [if_pos (show decide ((4 : Int) ∈ a.params) = true from decide_eq_true c4), if_pos c4]
        rw [l1]
        simp only [optK_s, asI_s]
        obtain ⟨H', e', h', s'⟩ := h2.s20 (decide (a.rune = 104))
        rw [e']
        exact ⟨H', D, rfl, h', up s'⟩
      · rw [if_neg (show ¬ decide ((4 : Int) ∈ a.params) = true from dneg c4), if_neg c4]
        exact ⟨H2, D, rfl, h2, Stp.new k02⟩
    by_cases c104 : a.rune = 104
    · rw [if_pos (show decide (a.rune = 104) = true from decide_eq_true c104)]
      have ins' := ins
      rw [show decide (a.rune = 104) = true from decide_eq_true c104] at ins' ⊢
      exact ins'
    · rw [if_neg (show ¬ decide (a.rune = 104) = true from dneg c104), show decide (a.rune = 108) = true from decide_eq_true (by omega)]
      exact ins
  rw [if_neg (show ¬ decide (a.rune = 104) = true from dneg (by omega)), if_neg ch, show decide (a.rune = 108) = false from decide_eq_false (by omega), grid_Grid_csi_p1111010110111111111101111_eq, if_neg ff, rdAct g2]
  simp only [optK_s, asA_s]
  obtain ⟨H', D', e', h', s'⟩ := edit_s d h2 w ok wy2 (a.par 0 1).toNat
  rw [Int.toNat_of_nonneg (by omega)] at e'
  rw [e']
  exact ⟨H', D', rfl, h', up s'⟩

/-! ### any act -/
def G.doA (g : G) (a : Act) : G :=
  if a.kind = 1 then g.print a.rune
  else if a.kind = 2 then g.control a.rune
  else if a.kind = 3 then g.esc a.rune
  else if a.kind = 4 then (if a.mark then g.modes a else g.csi a)
  else g
theorem WF.doA {g : G} (w : WF g) {a : Act} (ok : a.ok) : WF (g.doA a) := by
  unfold G.doA
  split; · exact w.print _
  split; · exact w.control _
  split; · exact w.esc _
  split
  · split
    · exact w.modes a
    · exact w.csi ok
  exact w
theorem doA_s (d : Nat) {a : Act} (ok : a.ok) : Does (d + 10) G.doA a := by
  intro H D g y h w wy hy
  by_cases c1 : a.kind = 1
  · exact does_print d c1 (fun g => by unfold G.doA; rw [if_pos c1]) h w wy hy
  by_cases c2 : a.kind = 2
  · exact does_control d c2 (fun g => by unfold G.doA; rw [if_neg c1, if_pos c2]) h w wy hy
  rw [grid_Grid_Do_eq, boxA]
  have k1 : Keep0 H (H.new (.cells (actL a y) t_vt_Act false 0 false)) := Keep.new _ _
  have g1 : (H.new (.cells (actL a y) t_vt_Act false 0 false)).get H.next = some (.cells (actL a y) t_vt_Act false 0 false) := by simp
  generalize H.new (.cells (actL a y) t_vt_Act false 0 false) = H1 at *
  simp only [P0, asP_s, optK_s]
  rw [show ap ⟨H.next, 0, none⟩ 0 = ⟨H.next, 0, none⟩ from rfl, (ld1_s g1).trans (show (actL a y)[0]? = some (.int .i64 (a.kind : Int)) from rfl)]
  simp only [optK_s, asI_s]
  rw [if_neg (show ¬ decide ((a.kind : Int) = 1) = true from dneg (by omega)), if_neg (show ¬ decide ((a.kind : Int) = 2) = true from dneg (by omega))]
  have wf : WF (g.doA a) := w.doA ok
  unfold G.doA at wf ⊢
  rw [if_neg c1, if_neg c2] at wf ⊢
  by_cases c3 : a.kind = 3
  · rw [if_pos (show decide ((a.kind : Int) = 3) = true from decide_eq_true (by omega)), if_pos c3, show ap ⟨H.next, 0, none⟩ 1 = ⟨H.next, 1, none⟩ from rfl, (ld1_s g1).trans (show (actL a y)[1]? = some (.int .i32 a.rune) from rfl)]
    rw [if_pos c3] at wf
    simp only [optK_s, asI_s]
    obtain ⟨H2, D2, e2, h2, s2⟩ := esc_s d (h.new k1) w a.rune
    rw [show X (d + 9) n_grid_Grid_esc [.pointer (some ⟨D.p, 0, none⟩), .int .i32 a.rune] H1 = _ from e2]
    exact ⟨H2, D2, rfl, h2, wf, (Stp.new k1).trans s2⟩
  rw [if_neg (show ¬ decide ((a.kind : Int) = 3) = true from dneg (by omega)), if_neg c3]
  rw [if_neg c3] at wf
  by_cases c4 : a.kind = 4
  · rw [if_pos (show decide ((a.kind : Int) = 4) = true from decide_eq_true (by omega)), if_pos c4]
    rw [if_pos c4] at wf
    rw [show ap ⟨H.next, 0, none⟩ 2 = ⟨H.next, 2, none⟩ from rfl, (ld1_s g1).trans (show (actL a y)[2]? = some (.bool a.mark) from rfl)]
    simp only [optK_s, asB_s]
    by_cases cm : a.mark = true
    · rw [if_pos cm]
      rw [if_pos cm] at wf ⊢
      rw [rdAct g1]
      simp only [optK_s, asA_s]
      obtain ⟨H2, D2, e2, h2, s2⟩ := modes_s (d + 2) (h.new k1) w ok (Whole.keep wy k1 fun _ _ e => e) hy
      rw [show X (d + 9) n_grid_Grid_modes [.pointer (some ⟨D.p, 0, none⟩), .agg ⟨actL a y⟩] H1 = _ from e2]
      exact ⟨H2, D2, rfl, h2, wf, (Stp.new k1).trans s2⟩
    · rw [if_neg cm]
      rw [if_neg cm] at wf ⊢
      rw [rdAct g1]
      simp only [optK_s, asA_s]
      obtain ⟨H2, D2, e2, h2, s2⟩ := gcsi_s d (h.new k1) w ok (Whole.keep wy k1 fun _ _ e => e) hy
      rw [show X (d + 9) n_grid_Grid_csi [.pointer (some ⟨D.p, 0, none⟩), .agg ⟨actL a y⟩] H1 = _ from e2]
      exact ⟨H2, D2, rfl, h2, wf, (Stp.new k1).trans s2⟩
  rw [if_neg (show ¬ decide ((a.kind : Int) = 4) = true from dneg (by omega)), if_neg c4]
  rw [if_neg c4] at wf
  exact ⟨H1, D, rfl, h.new k1, wf, Stp.new k1⟩
end Go.Proofs.YtjmiehbiindjdaaGreatDoor.dec

namespace Go.Proofs.YtjmiehbiindjdaaGreatDoor.dec
open Go Go.Cm

attribute [local congr] optK_congr asI_congr asN_congr asB_congr asS_congr asP_congr asA_congr asSL_congr callK_congr castT_congr chk_congr

/-! ### what erases -/
/-- all but the cells is the same -/
def But (g g' : G) : Prop := g'.c = g.c ∧ g'.tabs = g.tabs ∧ g'.other = g.other ∧ g'.past = g.past
theorem But.eq {g g' : G} (h : But g g') : g' = { g with L := g'.L } := by
  obtain ⟨h1, h2, h3, h4⟩ := h
  rw [← h1, ← h2, ← h3, ← h4]
theorem But.trans {g g' g'' : G} (h : But g g') (h' : But g' g'') : But g g'' := ⟨h'.1.trans h.1, h'.2.1.trans h.2.1, h'.2.2.1.trans h.2.2.1, h'.2.2.2.trans h.2.2.2⟩
theorem wipeIfs_but (p : Int) (row : Nat) : ∀ (l : List Nat) (g : G), But g (l.foldl (G.wipeIf p row) g) := fun l => by
  induction l with
  | nil => intro g; exact ⟨rfl, rfl, rfl, rfl⟩
  | cons a l ih =>
    intro g
    have e : But g (G.wipeIf p row g a) := by unfold G.wipeIf; split <;> exact ⟨rfl, rfl, rfl, rfl⟩
    exact e.trans (ih _)
theorem eraseLine_but (g : G) (p : Int) : But g (g.eraseLine p) := by
  unfold G.eraseLine
  split; · exact ⟨rfl, rfl, rfl, rfl⟩
  split; · exact ⟨rfl, rfl, rfl, rfl⟩
  split; · exact ⟨rfl, rfl, rfl, rfl⟩
  exact ⟨rfl, rfl, rfl, rfl⟩
theorem erase_but {g : G} {p : Int} (hp : ¬ (p < 0 ∨ 2 < p)) : g.erase p = { g with L := (g.erase p).L } := by
  refine But.eq ?_
  unfold G.erase
  rw [if_neg hp]
  exact (eraseLine_but g p).trans (wipeIfs_but _ _ _ _)
theorem modify_congr {L : List (List Cl)} {i : Nat} {x : List Cl} (hx : L[i]? = some x) {f f' : List Cl → List Cl} (h : f x = f' x) : L.modify i f = L.modify i f' := by
  rw [modify_at hx, modify_at hx, h]

def RDone (H : Heap) (D : RD) (g' : G) (R : Res) : Prop := ∃ H' D', R = some (.tuple #[], H') ∧ RRep H' D' g' ∧ RStp H D H' D'
theorem RDone.pre {H H1 : Heap} {D D1 : RD} {g' : G} {R : Res} (s : RStp H D H1 D1) (h : RDone H1 D1 g' R) : RDone H D g' R := by
  obtain ⟨H', D', e, r, s'⟩ := h
  exact ⟨H', D', e, r, s.trans s'⟩
theorem RDone.eq {H : Heap} {D : RD} {g' g'' : G} {R : Res} (h : RDone H D g' R) (e : g' = g'') : RDone H D g'' R := e ▸ h
theorem RDone.call {H : Heap} {D : RD} {g' : G} {R : Res} (h : RDone H D g' R) : RDone H D g' (callK R fun _ H' => some (.tuple #[], H')) := by
  obtain ⟨H', D', e, r, s'⟩ := h
  rw [e]
  exact ⟨H', D', rfl, r, s'⟩

theorem rdActP {H : Heap} {b : Nat} {a : Act} {y : Sl} (gb : H.get b = some (.cells (actL a y) t_vt_Act false 0 false)) : readD (.load 4 true) [.pointer (some ⟨b, 0, none⟩)] H = some (.agg ⟨actL a y⟩) := by
  simp only [readD, if_true]
  rw [ldN_s gb (by show 0 + 4 ≤ 4; omega)]; rfl
theorem rParam_s (d : Nat) {H : Heap} {a : Act} {y : Sl} (w : Whole H y (intL a.params) t_int 1) (i : Nat) (dflt : Int) : ∃ H', X (d + 1) n_ref19_Param [.agg ⟨actL a y⟩, .int .i64 (i : Int), .int .i64 dflt] H = some (.int .i64 (a.par i dflt), H') ∧ Keep0 H H' := by
  rw [ref19_Param_eq, boxA]
  have k1 : Keep0 H (H.new (.cells (actL a y) t_vt_Act false 0 false)) := Keep.new _ _
  have g1 : (H.new (.cells (actL a y) t_vt_Act false 0 false)).get H.next = some (.cells (actL a y) t_vt_Act false 0 false) := by simp
  generalize H.new (.cells (actL a y) t_vt_Act false 0 false) = H1 at *
  have w1 := Whole.keep w k1 fun _ _ e => e
  have hn : y.n = a.params.length := by have := (Whole.len w).1; rw [intL_len] at this; omega
  have l3 : Heap.ld1 H1 (ap ⟨H.next, 0, none⟩ 3) = some y.v := (ld1_s g1).trans rfl
  simp only [P0, asP_s, optK_s]
  rw [if_neg (show ¬ decide ((i : Int) < 0) = true from dneg (by omega)), l3]
  simp only [optK_s, asSL_k]
  by_cases c : y.n ≤ i
  · rw [if_pos (show decide ((y.n : Int) ≤ (i : Int)) = true from decide_eq_true (by omega)), ref19_Param_p101_eq, if_pos rfl, show a.par i dflt = dflt by unfold Act.par; rw [List.getElem?_eq_none (by omega)]]
    exact ⟨H1, rfl, k1⟩
  · rw [if_neg (show ¬ decide ((y.n : Int) ≤ (i : Int)) = true from dneg (by omega))]
    have hx : a.params[i]? = some a.params[i] := List.getElem?_eq_getElem (by omega)
    generalize a.params[i] = n at hx
    have hne : y.a ≠ none := by
      rcases w1 with ⟨h1, h2⟩ | ⟨b', n', h1, _⟩
      · have : a.params.length = 0 := by rw [← intL_len, h2]; rfl
        omega
      · rw [h1]; simp
    obtain ⟨b', v, _⟩ := Vw.of w1 hne
    have hld := v.ld (i := i) (x := .int .i64 n) (by rw [intL, List.getElem?_map, hx]; rfl)
    have hld' : Heap.ld1 H1 (ap ⟨b', ([] : List Value).length, none⟩ (i * 1)) = some (.int .i64 n) := by simpa [ap] using hld
    rw [v.sa]
    simp only [optK_s]
    rw [if_pos (show (0 : Int) ≤ (i : Int) ∧ (i : Int) < (y.n : Int) by omega), Int.toNat_natCast, hld']
    simp only [optK_s, asI_s]
    rw [ref19_Param_p101_eq, show a.par i dflt = if n = 0 then dflt else n by unfold Act.par; rw [hx]]
    by_cases c0 : n = 0
    · rw [if_pos (show decide (n = 0) = true from decide_eq_true c0), if_pos c0]
      exact ⟨H1, rfl, k1⟩
    · rw [if_neg (show ¬ decide (n = 0) = true from dneg c0), if_neg c0]
      simp only [asP_s, optK_s]
      rw [l3]
      simp only [optK_s, asSL_k]
      rw [v.sa]
      simp only [optK_s]
      rw [if_pos (show (0 : Int) ≤ (i : Int) ∧ (i : Int) < (y.n : Int) by omega), Int.toNat_natCast, hld']
      exact ⟨H1, rfl, k1⟩
section
variable {H : Heap} {D : RD} {g : G}
theorem rto_d (d : Nat) (h : RRep H D g) (w : WF g) (row col : Int) : RDone H D (g.move row col) (X (d + 2) n_ref19_Grid_to [P0 D.p, .int .i64 row, .int .i64 col] H) := by
  obtain ⟨H', e, r, s⟩ := rto_s d h w row col
  exact ⟨H', D, e, r, s⟩
variable {a : Act} {y : Sl} {b : Nat}
/-- the act in its box, and what it has -/
structure InBox (H : Heap) (D : RD) (a : Act) (y : Sl) (b : Nat) : Prop where
  gb : H.get b = some (.cells (actL a y) t_vt_Act false 0 false)
  lb : b < H.next
  nb : ¬ D.own b
  wy : Whole H y (intL a.params) t_int 1
  ny : ∀ k, y.at k → ¬ D.own k
theorem InBox.stp (q : InBox H D a y b) {H' : Heap} {D' : RD} (s : RStp H D H' D') : InBox H' D' a y b :=
  ⟨(s.kp.2 b q.lb q.nb).trans q.gb, Nat.lt_of_lt_of_le q.lb s.kp.1, fun e => (s.fo b e).elim q.nb fun e => by have := q.lb; omega, Whole.keep q.wy s.kp q.ny, fun k e e' => (s.fo k e').elim (q.ny k e) fun e' => by have := Whole.lt q.wy e; omega⟩
theorem InBox.n (q : InBox H D a y b) : y.n = a.params.length := by have := (Whole.len q.wy).1; rw [intL_len] at this; omega
theorem InBox.ld (q : InBox H D a y b) {i : Nat} {n : Int} (hx : a.params[i]? = some n) : ∃ ad, y.a = some ad ∧ Heap.ld1 H (ap ad (i * 1)) = some (.int .i64 n) := by
  have hi := (List.getElem?_eq_some_iff.1 hx).1
  have hne : y.a ≠ none := by
    rcases q.wy with ⟨h1, h2⟩ | ⟨b', n', h1, _⟩
    · have : a.params.length = 0 := by rw [← intL_len, h2]; rfl
      omega
    · rw [h1]; simp
  obtain ⟨b', v, _⟩ := Vw.of q.wy hne
  have hld := v.ld (i := i) (x := .int .i64 n) (by rw [intL, List.getElem?_map, hx]; rfl)
  exact ⟨_, v.sa, by simpa [ap] using hld⟩
theorem InBox.l1 (q : InBox H D a y b) : Heap.ld1 H (ap ⟨b, 0, none⟩ 1) = some (.int .i32 a.rune) := (ld1_s q.gb).trans rfl
theorem InBox.l3 (q : InBox H D a y b) : Heap.ld1 H (ap ⟨b, 0, none⟩ 3) = some y.v := (ld1_s q.gb).trans rfl

/-- the styles, one by one -/
theorem rsgr_loop (d : Nat) : ∀ (m i : Nat) {H : Heap} {D : RD} {g : G}, a.params.length - i < m → i ≤ a.params.length → a.params.length ≤ 1000 → RRep H D g → InBox H D a y b →
    RDone H D ((a.params.drop i).foldl G.style g) (ref19_Grid_csi_q4 (d + 1) m D.p (.pointer (some ⟨b, 0, none⟩)) (i : Int) H) := fun m => by
  induction m with
  | zero => intro i H D g hm; omega
  | succ m ih =>
    intro i H D g hm hi hl h q
    have yn := q.n
    rw [ref19_Grid_csi_q4_s]
    simp only [asP_s, optK_s]
    rw [q.l3]
    simp only [optK_s, asSL_k]
    by_cases c : i < a.params.length
    · rw [if_pos (show decide ((i : Int) < (y.n : Int)) = true from decide_eq_true (by omega))]
      have hx : a.params[i]? = some a.params[i] := List.getElem?_eq_getElem c
      have hdr : a.params.drop i = a.params[i] :: a.params.drop (i + 1) := List.drop_eq_getElem_cons c
      generalize a.params[i] = n at hx hdr
      obtain ⟨ad, ea, el⟩ := q.ld hx
      rw [ea]
      simp only [optK_s]
      rw [if_pos (show (0 : Int) ≤ (i : Int) ∧ (i : Int) < (y.n : Int) by omega), Int.toNat_natCast, el]
      simp only [optK_s, asI_s]
      obtain ⟨H', e, h', s'⟩ := rsgr_s d h n
      rw [e]
      simp only [callK_s]
      rw [hdr, List.foldl_cons, wi (by omega)]
      exact (ih (i + 1) (by omega) (by omega) hl h' (q.stp s')).pre s'
    · have : i = a.params.length := by omega
      subst this
      rw [if_neg (show ¬ decide (((a.params.length : Nat) : Int) < (y.n : Int)) = true from dneg (by omega)), List.drop_length]
      exact ⟨H, D, rfl, h, RStp.refl _ _⟩
/-- insert, on or off -/
theorem rins_loop (d : Nat) : ∀ (m i : Nat) {H : Heap} {D : RD} {g : G}, a.params.length - i < m → i ≤ a.params.length → a.params.length ≤ 1000 → RRep H D g → InBox H D a y b →
    RDone H D (if (4 : Int) ∈ a.params.drop i then { g with c := { g.c with insert := decide (a.rune = 104) } } else g) (ref19_Grid_csi_q6 d m D.p (.pointer (some ⟨b, 0, none⟩)) (i : Int) H) := fun m => by
  induction m with
  | zero => intro i H D g hm; omega
  | succ m ih =>
    intro i H D g hm hi hl h q
    have yn := q.n
    rw [ref19_Grid_csi_q6_s]
    simp only [asP_s, optK_s]
    rw [q.l3]
    simp only [optK_s, asSL_k]
    by_cases c : i < a.params.length
    · rw [if_pos (show decide ((i : Int) < (y.n : Int)) = true from decide_eq_true (by omega))]
      have hx : a.params[i]? = some a.params[i] := List.getElem?_eq_getElem c
      have hdr : a.params.drop i = a.params[i] :: a.params.drop (i + 1) := List.drop_eq_getElem_cons c
      generalize a.params[i] = n at hx hdr
      obtain ⟨ad, ea, el⟩ := q.ld hx
      rw [ea]
      simp only [optK_s]
      rw [if_pos (show (0 : Int) ≤ (i : Int) ∧ (i : Int) < (y.n : Int) by omega), Int.toNat_natCast, el]
      simp only [optK_s, asI_s]
      by_cases c4 : n = 4
      · rw [if_pos (show decide (n = 4) = true from decide_eq_true c4), q.l1]
        simp only [optK_s, asI_s]
        obtain ⟨H', e, h', s'⟩ := h.s26 (decide (a.rune = 104))
        rw [e]
        simp only [optK_s]
        rw [ref19_Grid_csi_q7_eq, wi (by omega), hdr, if_pos (by rw [c4]; simp)]
        refine ((ih (i + 1) (by omega) (by omega) hl h' (q.stp s')).pre s').eq ?_
        split <;> rfl
      · rw [if_neg (show ¬ decide (n = 4) = true from dneg c4), ref19_Grid_csi_q7_eq, wi (by omega), hdr]
        refine (ih (i + 1) (by omega) (by omega) hl h q).eq ?_
        have : ((4 : Int) ∈ n :: a.params.drop (i + 1)) ↔ (4 : Int) ∈ a.params.drop (i + 1) := by
          rw [List.mem_cons]
          exact ⟨fun e => e.elim (fun e => absurd e.symm c4) id, .inr⟩
        simp only [this]
    · have : i = a.params.length := by omega
      subst this
      rw [if_neg (show ¬ decide (((a.params.length : Nat) : Int) < (y.n : Int)) = true from dneg (by omega)), List.drop_length, if_neg (by simp)]
      exact ⟨H, D, rfl, h, RStp.refl _ _⟩
/-- stops are taken away -/
theorem rtabs_s (d : Nat) (h : RRep H D g) (w : WF g) (q : InBox H D a y b) {x34 : Int} (h34 : x34 = 103) :
    RDone H D (g.clearTabs (a.par 0 0)) (ref19_Grid_csi_q5 (d + 1) D.p (.pointer (some ⟨b, 0, none⟩)) (g.c.col : Int) x34 false H) := by
  have hc := w.col; have c2 := w.c2; have tn := w.tn
  rw [ref19_Grid_csi_q5_eq, if_neg ff, if_pos (show decide (x34 = 103) = true from decide_eq_true h34), newK_s, (h.new (Keep.new H (.cells [] t_bool false 0 false))).l28]
  simp only [optK_s, asSL_k]
  obtain ⟨z, H1, e1, w1, f1, zn, k1⟩ := h.clonetabs w
  rw [e1]
  simp only [asSL_k]
  have q1 := q.stp (RStp.new k1)
  rw [rdActP q1.gb]
  simp only [optK_s, asA_s]
  obtain ⟨H2, e2, k2⟩ := rParam_s d q1.wy 0 0
  rw [show X (d + 1) n_ref19_Param [.agg ⟨actL a y⟩, .int .i64 0, .int .i64 0] H1 = some (.int .i64 (a.par 0 0), H2) from e2]
  simp only [callK_s, asI_s]
  have k02 := k1.trans k2
  have w2 := Whole.keep w1 k2 fun _ _ e => e
  have h2 := h.new k02
  unfold G.clearTabs
  by_cases c0 : a.par 0 0 = 0
  · rw [if_pos (show decide (a.par 0 0 = 0) = true from decide_eq_true c0), if_pos c0]
    obtain ⟨ad, H3, ea, e3, w3, k3, n3⟩ := bools_st w2 (i := g.c.col) (by omega) false
    rw [ea]
    simp only [optK_s]
    rw [if_pos (show (0 : Int) ≤ (g.c.col : Int) ∧ (g.c.col : Int) < (z.n : Int) by omega), Int.toNat_natCast, e3]
    simp only [optK_s]
    rw [ref19_Grid_csi_q8_eq]
    have k03 : Keep0 H H3 := k02.fresh k3 f1
    obtain ⟨H4, e4, h4, n4, s4⟩ := (h.new k03).s28 w3 (fun k e e' => by have := f1 k e; have := h.ltO e'; omega)
    rw [e4]
    exact ⟨H4, _, rfl, h4, s4 (RStp.new k03) fun k e => .inr (f1 k e)⟩
  rw [if_neg (show ¬ decide (a.par 0 0 = 0) = true from dneg c0), if_neg c0]
  by_cases c3 : a.par 0 0 = 3
  · rw [if_pos (show decide (a.par 0 0 = 3) = true from decide_eq_true c3), if_pos c3, h2.l7]
    simp only [optK_s, asI_s]
    rw [mk_bools (by omega)]
    simp only [asSL_s]
    have k3 : Keep0 H2 (H2.new (.cells ((List.replicate g.c.cols false).map Value.bool) t_bool false 0 false)) := Keep.new _ _
    have w3 : Whole (H2.new (.cells ((List.replicate g.c.cols false).map Value.bool) t_bool false 0 false)) ⟨some ⟨H2.next, 0, none⟩, g.c.cols, g.c.cols⟩ ((List.replicate g.c.cols false).map Value.bool) t_bool 1 := .inr ⟨H2.next, g.c.cols, rfl, by simp, by simp, false, false, by simp⟩
    generalize H2.new (.cells ((List.replicate g.c.cols false).map Value.bool) t_bool false 0 false) = H3 at *
    have n2 := k02.1
    rw [ref19_Grid_csi_q8_eq]
    have f3 : ∀ k, Sl.at ⟨some ⟨H2.next, 0, none⟩, g.c.cols, g.c.cols⟩ k → H.next ≤ k := fun k ⟨ad, ha, e⟩ => by cases ha; simp only at e; omega
    obtain ⟨H4, e4, h4, n4, s4⟩ := (h2.new k3).s28 w3 (fun k e e' => by have := f3 k e; have := h.ltO e'; omega)
    rw [e4]
    exact ⟨H4, _, rfl, h4, s4 (RStp.new (k02.trans k3)) fun k e => .inr (f3 k e)⟩
  · rw [if_neg (show ¬ decide (a.par 0 0 = 3) = true from dneg c3), if_neg c3, ref19_Grid_csi_q8_eq]
    obtain ⟨H4, e4, h4, n4, s4⟩ := h2.s28 w2 (fun k e e' => by have := f1 k e; have := h.ltO e'; omega)
    rw [e4]
    exact ⟨H4, _, rfl, h4, s4 (RStp.new k02) fun k e => .inr (f1 k e)⟩
end
end Go.Proofs.YtjmiehbiindjdaaGreatDoor.dec

namespace Go.Proofs.YtjmiehbiindjdaaGreatDoor.dec
open Go Go.Cm

attribute [local congr] optK_congr asI_congr asN_congr asB_congr asS_congr asP_congr asA_congr asSL_congr callK_congr castT_congr chk_congr

theorem mulw {a b : Nat} (h : a * b ≤ 1000000) : IntKind.wrap .i64 ((a : Int) * (b : Int)) = ((a * b : Nat) : Int) := by
  have e0 : (a : Int) * (b : Int) = ((a * b : Nat) : Int) := by simp
  rw [e0, w64 (by omega)]
section
variable {H : Heap} {D : RD} {g : G} {a : Act} {y : Sl} {b : Nat}
theorem rwipe_d (e : Nat) (h : RRep H D g) (w : WF g) {f t : Nat} (hft : f ≤ g.c.rows * g.c.cols) (ht : t ≤ g.c.rows * g.c.cols) {g' : G} (hg : { g with L := wipeAt g.L g.c.cols f t } = g') : RDone H D g' (X (e + 2) n_ref19_Grid_wipe [P0 D.p, .int .i64 (f : Int), .int .i64 (t : Int)] H) := by
  obtain ⟨H', D', e1, r, s⟩ := rwipe_s e h w hft ht
  exact ⟨H', D', e1, hg ▸ r, s⟩
/-- wiped in the cursor's row -/
theorem wipe_row (w : WF g) {x y : Nat} (hxy : x ≤ y) (hy : y ≤ g.c.cols) : ({ g with L := wipeAt g.L g.c.cols (g.c.row * g.c.cols + x) (g.c.row * g.c.cols + y) } : G) = g.wipe g.c.row x y := by
  unfold G.wipe
  rw [wipe_one w.Lw hxy hy]
theorem row_mul (w : WF g) : g.c.row * g.c.cols + g.c.cols ≤ g.c.rows * g.c.cols ∧ g.c.rows * g.c.cols ≤ 7200 := by
  refine ⟨?_, Nat.mul_le_mul w.r2 w.c2⟩
  have := Nat.mul_le_mul_right g.c.cols (show g.c.row + 1 ≤ g.c.rows from w.row)
  rw [Nat.succ_mul] at this
  exact this
theorem row_end (w : WF g) : IntKind.wrap .i64 ((IntKind.wrap .i64 ((g.c.row : Int) + 1)) * (g.c.cols : Int)) = ((g.c.row * g.c.cols + g.c.cols : Nat) : Int) := by
  have h1 := row_mul w; have hr := w.row; have r2 := w.r2
  rw [wi (by omega), mulw (by rw [Nat.succ_mul]; omega), Nat.succ_mul]

/-- the last ones: @ P X S T r m h l g -/
theorem rcsi1 (e : Nat) (h : RRep H D g) (w : WF g) (q : InBox H D a y b) (ok : a.ok) {N : Nat} (hN : a.par 0 1 = (N : Int)) (hN2 : 1 ≤ N ∧ N ≤ 9999)
    (hr : a.rune ≠ 65 ∧ a.rune ≠ 66 ∧ a.rune ≠ 67 ∧ a.rune ≠ 68 ∧ a.rune ≠ 69 ∧ a.rune ≠ 70 ∧ a.rune ≠ 71 ∧ a.rune ≠ 100 ∧ a.rune ≠ 72 ∧ a.rune ≠ 102 ∧ a.rune ≠ 74 ∧ a.rune ≠ 75 ∧ a.rune ≠ 76 ∧ a.rune ≠ 77) :
    RDone H D (g.csi a) (ref19_Grid_csi_p1111110111111111111111110111111 (e + 4) D.p (.pointer (some ⟨b, 0, none⟩)) (N : Int) (g.c.row : Int) (g.c.col : Int) ((g.c.row * g.c.cols + g.c.col : Nat) : Int) a.rune false H) := by
  have rm := row_mul w; have re := row_end w
  have hrow := w.row; have hcol := w.col; have r2 := w.r2; have c2 := w.c2; have r1 := w.r1; have hLn := w.Ln
  obtain ⟨x, hx⟩ : ∃ x, g.L[g.c.row]? = some x := ⟨_, List.getElem?_eq_getElem (by omega)⟩
  have hxn := w.Lw _ (List.mem_of_getElem? hx)
  have hNt : (a.par 0 1).toNat = N := by rw [hN]; rfl
  rw [ref19_Grid_csi_p1111110111111111111111110111111_eq, if_neg ff]
  by_cases c : a.rune = 64
  · rw [if_pos (show decide (a.rune = 64) = true from decide_eq_true c)]
    have eg : g.csi a = g.cut 64 N := by unfold G.csi G.edit; simp [c, hNt]
    rw [eg]
    obtain ⟨H', D', e1, r, s⟩ := rshift_s (e + 2) h w (by' := (N : Int)) (by omega)
    refine RDone.call ⟨H', D', e1, ?_, s⟩
    unfold G.cut
    rw [← modify_congr hx (f := fun l => shiftL l g.c.col (N : Int)) (shift_put (by omega))]
    exact r
  rw [if_neg (show ¬ decide (a.rune = 64) = true from dneg c)]
  by_cases c' : a.rune = 80
  · rw [if_pos (show decide (a.rune = 80) = true from decide_eq_true c')]
    have eg : g.csi a = g.cut 80 N := by unfold G.csi G.edit; simp [c', hNt]
    rw [eg, show IntKind.wrap .i64 (0 - (N : Int)) = -(N : Int) by rw [w64 (by omega)]; omega]
    obtain ⟨H', D', e1, r, s⟩ := rshift_s (e + 2) h w (by' := -(N : Int)) (by omega)
    refine RDone.call ⟨H', D', e1, ?_, s⟩
    unfold G.cut
    rw [← modify_congr hx (f := fun l => shiftL l g.c.col (-(N : Int))) (shift_take (by omega))]
    exact r
  rw [if_neg (show ¬ decide (a.rune = 80) = true from dneg c')]
  by_cases c2' : a.rune = 88
  · rw [if_pos (show decide (a.rune = 88) = true from decide_eq_true c2'), h.l7]
    simp only [optK_s, asI_s]
    have eg : g.csi a = g.cut 88 N := by unfold G.csi G.edit; simp [c2', hNt]
    have e0 : (if IntKind.wrap .i64 ((IntKind.wrap .i64 ((g.c.row : Int) + 1)) * (g.c.cols : Int)) < IntKind.wrap .i64 (((g.c.row * g.c.cols + g.c.col : Nat) : Int) + (N : Int)) then IntKind.wrap .i64 ((IntKind.wrap .i64 ((g.c.row : Int) + 1)) * (g.c.cols : Int)) else IntKind.wrap .i64 (((g.c.row * g.c.cols + g.c.col : Nat) : Int) + (N : Int))) = ((g.c.row * g.c.cols + (g.c.col + min N (g.c.cols - g.c.col)) : Nat) : Int) := by
      rw [re, w64 (by omega)]
      generalize g.c.row * g.c.cols = P at *
      split <;> omega
    rw [eg, e0]
    refine RDone.call (rwipe_d (e + 2) h w (by omega) (by omega) ?_)
    rw [wipe_row w (by omega) (by omega)]
    unfold G.cut G.wipe
    rw [modify_congr hx (f := fun l => cutL l g.c.col 88 N) (f' := fun l => wipeL l g.c.col (g.c.col + min N (g.c.cols - g.c.col))) (show cutL x g.c.col 88 N = _ by rw [cut88, hxn])]
  rw [if_neg (show ¬ decide (a.rune = 88) = true from dneg c2')]
  by_cases c3 : a.rune = 83
  · rw [if_pos (show decide (a.rune = 83) = true from decide_eq_true c3)]
    have eg : g.csi a = g.up N := by unfold G.csi G.edit; simp [c3, hNt]
    rw [eg]
    exact RDone.call (rscroll_s e h w N)
  rw [if_neg (show ¬ decide (a.rune = 83) = true from dneg c3)]
  by_cases c4 : a.rune = 84
  · rw [if_pos (show decide (a.rune = 84) = true from decide_eq_true c4), h.l23]
    simp only [optK_s, asI_s]
    have eg : g.csi a = g.put g.c.top N := by unfold G.csi G.edit; simp [c4, hNt]; rfl
    rw [eg]
    exact RDone.call (rdown_s (e + 1) h w (row := g.c.top) (n := N) w.tb)
  rw [if_neg (show ¬ decide (a.rune = 84) = true from dneg c4)]
  by_cases c5 : a.rune = 114
  · rw [if_pos (show decide (a.rune = 114) = true from decide_eq_true c5), h.l6]
    simp only [optK_s, asI_s]
    rw [rdActP q.gb]
    simp only [optK_s, asA_s]
    have eg : g.csi a = g.region (a.par 0 1 - 1) (min (a.par 1 g.c.rows - 1) (g.c.rows - 1)) := by unfold G.csi G.edit; simp [c5]
    obtain ⟨H1, e1, k1⟩ := rParam_s (e + 3) q.wy 1 (g.c.rows : Int)
    rw [show X (e + 4) n_ref19_Param [.agg ⟨actL a y⟩, .int .i64 1, .int .i64 (g.c.rows : Int)] H = _ from e1]
    simp only [callK_s, asI_s]
    have h1 := h.new k1
    rw [h1.l6]
    simp only [optK_s, asI_s]
    rw [show rdsOk [H, H1] [⟨.load 1 false, [.pointer (some ⟨D.p, 6, none⟩)], .int .i64 (g.c.rows : Int), 0, 1⟩] = true from by
      simp only [rdsOk, Bool.and_true]
      rw [show 1 + 1 - 0 = 2 from rfl, rdOk_2, rdAt_s rfl (rd1 h.l6) (same_int _ _), rdAt_s rfl (rd1 h1.l6) (same_int _ _)]; rfl]
    simp only [chk_s]
    have hp := Act.par_pos ok 1 (dflt := (g.c.rows : Int)) (by omega)
    rw [eg, hN]
    generalize a.par 1 (g.c.rows : Int) = B at *
    rw [w64 (n := (g.c.rows : Int) - 1) (by omega), w64 (n := (N : Int) - 1) (by omega), w64 (n := B - 1) (by omega)]
    unfold G.region
    by_cases ct : (N : Int) - 1 < min (B - 1) ((g.c.rows : Int) - 1)
    · rw [if_pos ct]
      have et : (if (g.c.rows : Int) - 1 < (N : Int) - 1 then (g.c.rows : Int) - 1 else (N : Int) - 1) = (((N : Int) - 1).toNat : Int) := by split <;> omega
      have eb : (if (g.c.rows : Int) - 1 < B - 1 then (g.c.rows : Int) - 1 else B - 1) = ((min (B - 1) ((g.c.rows : Int) - 1)).toNat : Int) := by split <;> omega
      rw [et, eb, if_pos (show decide ((((N : Int) - 1).toNat : Int) < ((min (B - 1) ((g.c.rows : Int) - 1)).toNat : Int)) = true from decide_eq_true (by omega))]
      obtain ⟨H2, e2, h2, s2⟩ := h1.s23 ((N : Int) - 1).toNat
      rw [e2]
      simp only [optK_s]
      obtain ⟨H3, e3, h3, s3⟩ := h2.s24 (min (B - 1) ((g.c.rows : Int) - 1)).toNat
      rw [e3]
      simp only [optK_s]
      have w3 : WF { g with c := { g.c with top := ((N : Int) - 1).toNat, bottom := (min (B - 1) ((g.c.rows : Int) - 1)).toNat } } := w.sc rfl rfl w.row w.col (by show ((N : Int) - 1).toNat < g.c.rows; omega) (by show ((N : Int) - 1).toNat ≤ (min (B - 1) ((g.c.rows : Int) - 1)).toNat; omega) (by show (min (B - 1) ((g.c.rows : Int) - 1)).toNat < g.c.rows; omega) w.srow w.scol w.arow w.acol
      exact (RDone.call (rto_d (e + 2) h3 w3 0 0)).pre (((RStp.new k1).trans s2).trans s3)
    · rw [if_neg ct]
      rw [if_neg (show ¬ decide ((if (g.c.rows : Int) - 1 < (N : Int) - 1 then (g.c.rows : Int) - 1 else (N : Int) - 1) < (if (g.c.rows : Int) - 1 < B - 1 then (g.c.rows : Int) - 1 else B - 1)) = true by
        rw [decide_eq_true_eq]; split <;> split <;> omega)]
      exact ⟨H1, D, rfl, h1, RStp.new k1⟩
  rw [if_neg (show ¬ decide (a.rune = 114) = true from dneg c5)]
  by_cases c6 : a.rune = 109
  · rw [if_pos (show decide (a.rune = 109) = true from decide_eq_true c6)]
    have eg : g.csi a = a.params.foldl G.style g := by unfold G.csi; simp [c6]
    rw [eg]
    have := rsgr_loop (e + 3) (a := a) (y := y) (b := b) NN 0 (NN_big _ (by have := ok.1; omega)) (by omega) ok.1 h q
    rw [List.drop_zero] at this
    exact this
  rw [if_neg (show ¬ decide (a.rune = 109) = true from dneg c6)]
  have ins : (a.rune = 104 ∨ a.rune = 108) → RDone H D (g.csi a) (ref19_Grid_csi_q5 (e + 4) D.p (.pointer (some ⟨b, 0, none⟩)) (g.c.col : Int) a.rune true H) := fun hi => by
    rw [ref19_Grid_csi_q5_eq, if_pos rfl]
    have eg : g.csi a = (if (4 : Int) ∈ a.params then { g with c := { g.c with insert := decide (a.rune = 104) } } else g) := by
      unfold G.csi
      rcases hi with hi | hi <;> simp [hi]
    rw [eg]
    have := rins_loop (e + 4) (a := a) (y := y) (b := b) NN 0 (NN_big _ (by have := ok.1; omega)) (by omega) ok.1 h q
    rw [List.drop_zero] at this
    exact this
  by_cases c7 : a.rune = 104
  · rw [if_pos (show decide (a.rune = 104) = true from decide_eq_true c7), decide_eq_true c7]
    exact ins (.inl c7)
  rw [if_neg (show ¬ decide (a.rune = 104) = true from dneg c7)]
  by_cases c8 : a.rune = 108
  · rw [decide_eq_true c8]
    exact ins (.inr c8)
  rw [decide_eq_false c8]
  by_cases c9 : a.rune = 103
  · have eg : g.csi a = g.clearTabs (a.par 0 0) := by unfold G.csi G.edit; simp [c9]
    rw [eg]
    exact rtabs_s (e + 3) h w q c9
  · rw [ref19_Grid_csi_q5_eq, if_neg ff, if_neg (show ¬ decide (a.rune = 103) = true from dneg c9)]
    have eg : g.csi a = g := by
      obtain ⟨n1, n2, n3, n4, n5, n6, n7, n8, n9, n10, n11, n12, n13, n14⟩ := hr
      unfold G.csi G.edit
      simp [n1, n2, n3, n4, n5, n6, n7, n8, n9, n10, n11, n12, n13, n14, c, c', c2', c3, c4, c5, c6, c7, c8, c9]
    rw [eg]
    exact ⟨H, D, rfl, h, RStp.refl _ _⟩
/-- L, M -/
theorem rcsi2 (e : Nat) (h : RRep H D g) (w : WF g) (q : InBox H D a y b) {N : Nat} (hN : a.par 0 1 = (N : Int)) {C7 : Int} (hr : a.rune = 76 ∨ a.rune = 77) :
    RDone H D (g.csi a) (ref19_Grid_csi_p1111110111111111111111110111111 (e + 4) D.p (.pointer (some ⟨b, 0, none⟩)) (N : Int) (g.c.row : Int) (g.c.col : Int) C7 a.rune true H) := by
  have hNt : (a.par 0 1).toNat = N := by rw [hN]; rfl
  rw [ref19_Grid_csi_p1111110111111111111111110111111_eq, if_pos rfl, h.l23]
  simp only [optK_s, asI_s]
  have eg : g.csi a = if g.c.row < g.c.top ∨ g.c.bottom < g.c.row then g else (if a.rune = 76 then g.put g.c.row N else g.take g.c.row N).move g.c.row 0 := by
    unfold G.csi G.edit
    rcases hr with hr | hr <;> simp [hr, hNt]
  have out : (g.c.row < g.c.top ∨ g.c.bottom < g.c.row) → RDone H D (g.csi a) (ref19_Grid_csi_p11111101111111111111111101111110001 (e + 4) D.p (.pointer (some ⟨b, 0, none⟩)) (N : Int) (g.c.row : Int) true H) := fun ho => by
    rw [ref19_Grid_csi_p11111101111111111111111101111110001_eq, if_pos rfl, eg, if_pos ho]
    exact ⟨H, D, rfl, h, RStp.refl _ _⟩
  by_cases c1 : g.c.row < g.c.top
  · rw [if_pos (show decide ((g.c.row : Int) < (g.c.top : Int)) = true from decide_eq_true (by omega))]
    exact out (.inl c1)
  rw [if_neg (show ¬ decide ((g.c.row : Int) < (g.c.top : Int)) = true from dneg (by omega)), h.l24]
  simp only [optK_s, asI_s]
  by_cases c2 : g.c.bottom < g.c.row
  · rw [decide_eq_true (show (g.c.bottom : Int) < (g.c.row : Int) by omega)]
    exact out (.inr c2)
  rw [decide_eq_false (show ¬ (g.c.bottom : Int) < (g.c.row : Int) by omega), ref19_Grid_csi_p11111101111111111111111101111110001_eq, if_neg ff, eg, if_neg (by omega)]
  simp only [asP_s, optK_s]
  rw [q.l1]
  simp only [optK_s, asI_s]
  have fin : ∀ {g1 : G}, WF g1 → RDone H D g1 (X (e + 4) (if a.rune = 76 then n_ref19_Grid_down else n_ref19_Grid_up) [P0 D.p, .int .i64 (g.c.row : Int), .int .i64 (N : Int)] H) → RDone H D (g1.move g.c.row 0) (callK (X (e + 4) (if a.rune = 76 then n_ref19_Grid_down else n_ref19_Grid_up) [P0 D.p, .int .i64 (g.c.row : Int), .int .i64 (N : Int)] H) fun _ H6 => ref19_Grid_csi_p11111101111111111111111101111110011 (e + 4) D.p (g.c.row : Int) H6) := fun {g1} w1 hd => by
    obtain ⟨H1, D1, e1, h1, s1⟩ := hd
    rw [e1]
    simp only [callK_s]
    rw [ref19_Grid_csi_p11111101111111111111111101111110011_eq, ← s1.p]
    exact (RDone.call (rto_d (e + 2) h1 w1 g.c.row 0)).pre s1
  by_cases c3 : a.rune = 76
  · rw [if_pos c3] at fin
    rw [if_pos (show decide (a.rune = 76) = true from decide_eq_true c3), if_pos c3]
    exact fin (w.put (by omega)) (rdown_s (e + 1) h w (by omega))
  · rw [if_neg c3] at fin
    rw [if_neg (show ¬ decide (a.rune = 76) = true from dneg c3), if_neg c3]
    exact fin (w.take (by omega)) (rup_s (e + 1) h w (by omega))
/-- J, K and those behind -/
theorem rcsi3 (e : Nat) (h : RRep H D g) (w : WF g) (q : InBox H D a y b) (ok : a.ok) {N : Nat} (hN : a.par 0 1 = (N : Int)) (hN2 : 1 ≤ N ∧ N ≤ 9999)
    (hr : a.rune ≠ 65 ∧ a.rune ≠ 66 ∧ a.rune ≠ 67 ∧ a.rune ≠ 68 ∧ a.rune ≠ 69 ∧ a.rune ≠ 70 ∧ a.rune ≠ 71 ∧ a.rune ≠ 100 ∧ a.rune ≠ 72 ∧ a.rune ≠ 102) :
    RDone H D (g.csi a) (ref19_Grid_csi_p111111011111111111111111 (e + 4) D.p (.pointer (some ⟨b, 0, none⟩)) (N : Int) (g.c.row : Int) (g.c.col : Int) ((g.c.row * g.c.cols + g.c.col : Nat) : Int) a.rune false H) := by
  have rm := row_mul w; have re := row_end w
  have hrow := w.row; have hcol := w.col; have r2 := w.r2; have c2 := w.c2
  have em : IntKind.wrap .i64 ((g.c.rows : Int) * (g.c.cols : Int)) = ((g.c.rows * g.c.cols : Nat) : Int) := mulw (by omega)
  have er : IntKind.wrap .i64 ((g.c.row : Int) * (g.c.cols : Int)) = ((g.c.row * g.c.cols : Nat) : Int) := mulw (by omega)
  have eh : IntKind.wrap .i64 (((g.c.row * g.c.cols + g.c.col : Nat) : Int) + 1) = ((g.c.row * g.c.cols + g.c.col + 1 : Nat) : Int) := wi (by omega)
  rw [ref19_Grid_csi_p111111011111111111111111_eq, if_neg ff]
  by_cases cJ : a.rune = 74
  · rw [if_pos (show decide (a.rune = 74) = true from decide_eq_true cJ), rdActP q.gb]
    simp only [optK_s, asA_s]
    obtain ⟨H1, e1, k1⟩ := rParam_s (e + 3) q.wy 0 0
    rw [show X (e + 4) n_ref19_Param [.agg ⟨actL a y⟩, .int .i64 0, .int .i64 0] H = some (.int .i64 (a.par 0 0), H1) from e1]
    simp only [callK_s, asI_s]
    have h1 := h.new k1
    have eg : g.csi a = g.erase (a.par 0 0) := by unfold G.csi G.edit; simp [cJ]
    rw [eg]
    refine RDone.pre (RStp.new k1) ?_
    generalize a.par 0 0 = p
    by_cases p0 : p = 0
    · rw [if_pos (show decide (p = 0) = true from decide_eq_true p0), h1.l6, h1.l7]
      simp only [optK_s, asI_s]
      rw [em, p0]
      exact RDone.call (rwipe_d (e + 2) h1 w (by omega) (by omega) (by rw [erase_but (p := 0) (by omega), erase0_L w]))
    rw [if_neg (show ¬ decide (p = 0) = true from dneg p0)]
    by_cases p1 : p = 1
    · rw [if_pos (show decide (p = 1) = true from decide_eq_true p1), eh, p1]
      exact RDone.call (rwipe_d (e + 2) h1 w (f := 0) (by omega) (by omega) (by rw [erase_but (p := 1) (by omega), erase1_L w]))
    rw [if_neg (show ¬ decide (p = 1) = true from dneg p1)]
    by_cases p2 : p = 2
    · rw [if_pos (show decide (p = 2) = true from decide_eq_true p2), h1.l6, h1.l7]
      simp only [optK_s, asI_s]
      rw [em, p2]
      exact RDone.call (rwipe_d (e + 2) h1 w (f := 0) (by omega) (by omega) (by rw [erase_but (p := 2) (by omega), erase2_L w]))
    rw [if_neg (show ¬ decide (p = 2) = true from dneg p2)]
    have ee : g.erase p = if p = 3 then { g with past := [] } else g := by
      unfold G.erase
      rw [if_pos (by omega)]
    rw [ee]
    by_cases p3 : p = 3
    · rw [if_pos (show decide (p = 3) = true from decide_eq_true p3), if_pos p3]
      obtain ⟨H2, e2, h2, n2, s2⟩ := h1.s38 (s := Sl.nil) (q := []) (.inl ⟨rfl, rfl⟩) (fun x hx => absurd hx List.not_mem_nil) (fun k e => absurd e Sl.at_nil) (fun k e => absurd e bl_nil)
      rw [show Heap.st1 H1 ⟨D.p, 38, none⟩ (.slice none 0 0) = some H2 from e2]
      exact ⟨H2, _, rfl, h2, s2 (RStp.refl _ _) (fun k e => absurd e Sl.at_nil) fun k e => absurd e bl_nil⟩
    · rw [if_neg (show ¬ decide (p = 3) = true from dneg p3), if_neg p3]
      exact ⟨H1, D, rfl, h1, RStp.refl _ _⟩
  rw [if_neg (show ¬ decide (a.rune = 74) = true from dneg cJ)]
  by_cases cK : a.rune = 75
  · rw [if_pos (show decide (a.rune = 75) = true from decide_eq_true cK), rdActP q.gb]
    simp only [optK_s, asA_s]
    obtain ⟨H1, e1, k1⟩ := rParam_s (e + 3) q.wy 0 0
    rw [show X (e + 4) n_ref19_Param [.agg ⟨actL a y⟩, .int .i64 0, .int .i64 0] H = some (.int .i64 (a.par 0 0), H1) from e1]
    simp only [callK_s, asI_s]
    have h1 := h.new k1
    have eg : g.csi a = g.eraseLine (a.par 0 0) := by unfold G.csi G.edit; simp [cK]
    rw [eg]
    refine RDone.pre (RStp.new k1) ?_
    generalize a.par 0 0 = p
    unfold G.eraseLine
    by_cases p0 : p = 0
    · rw [if_pos (show decide (p = 0) = true from decide_eq_true p0), if_pos p0, h1.l7]
      simp only [optK_s, asI_s]
      rw [re]
      exact RDone.call (rwipe_d (e + 2) h1 w (by omega) (by omega) (wipe_row w (by omega) (Nat.le_refl _)))
    rw [if_neg (show ¬ decide (p = 0) = true from dneg p0), if_neg p0]
    by_cases p1 : p = 1
    · rw [if_pos (show decide (p = 1) = true from decide_eq_true p1), if_pos p1, h1.l7]
      simp only [optK_s, asI_s]
      rw [er, eh]
      exact RDone.call (rwipe_d (e + 2) h1 w (by omega) (by omega) (wipe_row w (x := 0) (y := g.c.col + 1) (by omega) (by omega)))
    rw [if_neg (show ¬ decide (p = 1) = true from dneg p1), if_neg p1]
    by_cases p2 : p = 2
    · rw [if_pos (show decide (p = 2) = true from decide_eq_true p2), if_pos p2, h1.l7]
      simp only [optK_s, asI_s]
      rw [er, re]
      exact RDone.call (rwipe_d (e + 2) h1 w (by omega) (by omega) (wipe_row w (x := 0) (by omega) (Nat.le_refl _)))
    rw [if_neg (show ¬ decide (p = 2) = true from dneg p2), if_neg p2]
    exact ⟨H1, D, rfl, h1, RStp.refl _ _⟩
  rw [if_neg (show ¬ decide (a.rune = 75) = true from dneg cK)]
  by_cases cL : a.rune = 76
  · rw [if_pos (show decide (a.rune = 76) = true from decide_eq_true cL), decide_eq_true cL]
    exact rcsi2 e h w q hN (.inl cL)
  rw [if_neg (show ¬ decide (a.rune = 76) = true from dneg cL)]
  by_cases cM : a.rune = 77
  · rw [decide_eq_true cM]
    exact rcsi2 e h w q hN (.inr cM)
  rw [decide_eq_false cM]
  obtain ⟨n1, n2, n3, n4, n5, n6, n7, n8, n9, n10⟩ := hr
  exact rcsi1 e h w q ok hN hN2 ⟨n1, n2, n3, n4, n5, n6, n7, n8, n9, n10, cJ, cK, cL, cM⟩

theorem rcsi_s (e : Nat) (h : RRep H D g) (w : WF g) (wy : Whole H y (intL a.params) t_int 1) (ny : ∀ k, y.at k → ¬ D.own k) (ok : a.ok) :
    RDone H D (g.csi a) (X (e + 5) n_ref19_Grid_csi [P0 D.p, .agg ⟨actL a y⟩] H) := by
  have rm := row_mul w
  have hrow := w.row; have hcol := w.col; have r2 := w.r2; have c2 := w.c2
  rw [ref19_Grid_csi_eq, boxA]
  have k2 : Keep0 H (H.new (.cells (actL a y) t_vt_Act false 0 false)) := Keep.new _ _
  have g2 : (H.new (.cells (actL a y) t_vt_Act false 0 false)).get H.next = some (.cells (actL a y) t_vt_Act false 0 false) := by simp
  have n2 : (H.new (.cells (actL a y) t_vt_Act false 0 false)).next = H.next + 1 := by simp
  generalize H.new (.cells (actL a y) t_vt_Act false 0 false) = H2 at *
  have q2 : InBox H2 D a y H.next := ⟨g2, by omega, fun e => by have := h.ltO e; omega, Whole.keep wy k2 fun _ _ e => e, ny⟩
  simp only [P0]
  rw [rdActP g2]
  simp only [optK_s, asA_s]
  obtain ⟨H6, e6, k6⟩ := rParam_s (e + 3) q2.wy 0 1
  rw [show X (e + 4) n_ref19_Param [.agg ⟨actL a y⟩, .int .i64 0, .int .i64 1] H2 = some (.int .i64 (a.par 0 1), H6) from e6]
  simp only [callK_s, asI_s]
  have k06 := k2.trans k6
  have h6 := h.new k06
  have q6 := q2.stp (RStp.new k6)
  rw [h6.l9]
  simp only [optK_s, asI_s]
  rw [h6.l10]
  simp only [optK_s, asI_s]
  rw [h6.l7]
  simp only [optK_s, asI_s, asP_s]
  rw [q6.l1]
  simp only [optK_s, asI_s]
  have hp := Act.par_pos ok 0 (dflt := 1) (by omega)
  refine RDone.pre (RStp.new k06) ?_
  have eg : g.csi a = if a.rune = 65 ∨ a.rune = 70 then g.move (max ((g.c.row : Int) - a.par 0 1) (if g.c.top ≤ g.c.row then g.c.top else 0)) (if a.rune = 70 then 0 else g.c.col)
      else if a.rune = 66 ∨ a.rune = 69 then g.move (min ((g.c.row : Int) + a.par 0 1) (if g.c.row ≤ g.c.bottom then g.c.bottom else (g.c.rows : Int) - 1)) (if a.rune = 69 then 0 else g.c.col)
      else if a.rune = 67 then g.move g.c.row ((g.c.col : Int) + a.par 0 1)
      else if a.rune = 68 then g.move g.c.row ((g.c.col : Int) - a.par 0 1)
      else if a.rune = 71 then g.move g.c.row (a.par 0 1 - 1)
      else if a.rune = 100 then g.move (a.par 0 1 - 1) g.c.col
      else if a.rune = 72 ∨ a.rune = 102 then g.move (a.par 0 1 - 1) (a.par 1 1 - 1) else g.csi a := by
    split; · rename_i c; unfold G.csi; rw [if_pos c]
    split; · rename_i c0 c; unfold G.csi; rw [if_neg c0, if_pos c]
    split; · rename_i c0 c1 c; unfold G.csi; rw [if_neg c0, if_neg c1, if_pos c]
    split; · rename_i c0 c1 c2 c; unfold G.csi; rw [if_neg c0, if_neg c1, if_neg c2, if_pos c]
    split; · rename_i c0 c1 c2 c3 c; unfold G.csi; rw [if_neg c0, if_neg c1, if_neg c2, if_neg c3, if_pos c]
    split; · rename_i c0 c1 c2 c3 c4 c; unfold G.csi; rw [if_neg c0, if_neg c1, if_neg c2, if_neg c3, if_neg c4, if_pos c]
    split; · rename_i c0 c1 c2 c3 c4 c5 c; unfold G.csi; rw [if_neg c0, if_neg c1, if_neg c2, if_neg c3, if_neg c4, if_neg c5, if_pos c]
    rfl
  have lu := rlineUp_s (e + 3) h6 w (n := a.par 0 1) (by omega)
  have ld := rlineDown_s (e + 3) h6 w (n := a.par 0 1) (by omega)
  simp only [P0] at lu ld
  by_cases c1 : a.rune = 65
  · rw [if_pos (show decide (a.rune = 65) = true from decide_eq_true c1), lu]
    simp only [callK_s, asI_s]
    rw [eg, if_pos (.inl c1), if_neg (show ¬ a.rune = 70 by omega)]
    exact RDone.call (rto_d (e + 2) h6 w _ _)
  rw [if_neg (show ¬ decide (a.rune = 65) = true from dneg c1)]
  by_cases c2' : a.rune = 66
  · rw [if_pos (show decide (a.rune = 66) = true from decide_eq_true c2'), ld]
    simp only [callK_s, asI_s]
    rw [eg, if_neg (show ¬ (a.rune = 65 ∨ a.rune = 70) by omega), if_pos (.inl c2'), if_neg (show ¬ a.rune = 69 by omega)]
    exact RDone.call (rto_d (e + 2) h6 w _ _)
  rw [if_neg (show ¬ decide (a.rune = 66) = true from dneg c2')]
  by_cases c3 : a.rune = 67
  · rw [if_pos (show decide (a.rune = 67) = true from decide_eq_true c3), w64 (by omega), eg, if_neg (show ¬ (a.rune = 65 ∨ a.rune = 70) by omega), if_neg (show ¬ (a.rune = 66 ∨ a.rune = 69) by omega), if_pos c3]
    exact RDone.call (rto_d (e + 2) h6 w _ _)
  rw [if_neg (show ¬ decide (a.rune = 67) = true from dneg c3)]
  by_cases c4 : a.rune = 68
  · rw [if_pos (show decide (a.rune = 68) = true from decide_eq_true c4), w64 (by omega), eg, if_neg (show ¬ (a.rune = 65 ∨ a.rune = 70) by omega), if_neg (show ¬ (a.rune = 66 ∨ a.rune = 69) by omega), if_neg c3, if_pos c4]
    exact RDone.call (rto_d (e + 2) h6 w _ _)
  rw [if_neg (show ¬ decide (a.rune = 68) = true from dneg c4)]
  by_cases c5 : a.rune = 69
  · rw [if_pos (show decide (a.rune = 69) = true from decide_eq_true c5), ld]
    simp only [callK_s, asI_s]
    rw [eg, if_neg (show ¬ (a.rune = 65 ∨ a.rune = 70) by omega), if_pos (.inr c5), if_pos c5]
    exact RDone.call (rto_d (e + 2) h6 w _ _)
  rw [if_neg (show ¬ decide (a.rune = 69) = true from dneg c5)]
  by_cases c6 : a.rune = 70
  · rw [if_pos (show decide (a.rune = 70) = true from decide_eq_true c6), lu]
    simp only [callK_s, asI_s]
    rw [eg, if_pos (.inr c6), if_pos c6]
    exact RDone.call (rto_d (e + 2) h6 w _ _)
  rw [if_neg (show ¬ decide (a.rune = 70) = true from dneg c6)]
  by_cases c7 : a.rune = 71
  · rw [if_pos (show decide (a.rune = 71) = true from decide_eq_true c7), w64 (by omega), eg, if_neg (show ¬ (a.rune = 65 ∨ a.rune = 70) by omega), if_neg (show ¬ (a.rune = 66 ∨ a.rune = 69) by omega), if_neg c3, if_neg c4, if_pos c7]
    exact RDone.call (rto_d (e + 2) h6 w _ _)
  rw [if_neg (show ¬ decide (a.rune = 71) = true from dneg c7)]
  by_cases c8 : a.rune = 100
  · rw [if_pos (show decide (a.rune = 100) = true from decide_eq_true c8), w64 (by omega), eg, if_neg (show ¬ (a.rune = 65 ∨ a.rune = 70) by omega), if_neg (show ¬ (a.rune = 66 ∨ a.rune = 69) by omega), if_neg c3, if_neg c4, if_neg c7, if_pos c8]
    exact RDone.call (rto_d (e + 2) h6 w _ _)
  rw [if_neg (show ¬ decide (a.rune = 100) = true from dneg c8)]
  have eh : IntKind.wrap .i64 ((IntKind.wrap .i64 ((g.c.row : Int) * (g.c.cols : Int))) + (g.c.col : Int)) = ((g.c.row * g.c.cols + g.c.col : Nat) : Int) := by
    rw [mulw (by omega), w64 (by omega)]; omega
  rw [eh]
  obtain ⟨N, hN⟩ : ∃ N : Nat, a.par 0 1 = (N : Int) := ⟨(a.par 0 1).toNat, by omega⟩
  have two : (a.rune = 72 ∨ a.rune = 102) → RDone H6 D (g.csi a) (ref19_Grid_csi_p111111011111111111111111 (e + 4) D.p (.pointer (some ⟨H.next, 0, none⟩)) (a.par 0 1) (g.c.row : Int) (g.c.col : Int) ((g.c.row * g.c.cols + g.c.col : Nat) : Int) a.rune true H6) := fun ht => by
    rw [ref19_Grid_csi_p111111011111111111111111_eq, if_pos rfl, rdActP q6.gb]
    simp only [optK_s, asA_s]
    obtain ⟨H7, e7, k7⟩ := rParam_s (e + 3) q6.wy 1 1
    rw [show X (e + 4) n_ref19_Param [.agg ⟨actL a y⟩, .int .i64 1, .int .i64 1] H6 = some (.int .i64 (a.par 1 1), H7) from e7]
    simp only [callK_s, asI_s]
    have hp1 := Act.par_pos ok 1 (dflt := 1) (by omega)
    rw [w64 (n := a.par 0 1 - 1) (by omega), w64 (n := a.par 1 1 - 1) (by omega), eg, if_neg (show ¬ (a.rune = 65 ∨ a.rune = 70) by omega), if_neg (show ¬ (a.rune = 66 ∨ a.rune = 69) by omega), if_neg c3, if_neg c4, if_neg c7, if_neg c8, if_pos ht]
    exact (RDone.call (rto_d (e + 2) (h6.new k7) w _ _)).pre (RStp.new k7)
  by_cases c9 : a.rune = 72
  · rw [if_pos (show decide (a.rune = 72) = true from decide_eq_true c9), decide_eq_true c9]
    exact two (.inl c9)
  rw [if_neg (show ¬ decide (a.rune = 72) = true from dneg c9)]
  by_cases c10 : a.rune = 102
  · rw [decide_eq_true c10]
    exact two (.inr c10)
  rw [decide_eq_false c10, hN]
  exact rcsi3 e h6 w q6 ok hN (by omega) ⟨c1, c2', c3, c4, c5, c6, c7, c8, c9, c10⟩

/-- ANY ACT, done by the reference -/
theorem rDo_s (e : Nat) (h : RRep H D g) (w : WF g) (u : DU g) (wy : Whole H y (intL a.params) t_int 1) (ny : ∀ k, y.at k → ¬ D.own k) (ok : a.ok) :
    RDone H D (g.doA a) (X (e + 7) n_ref19_Grid_Do [P0 D.p, .agg ⟨actL a y⟩] H) := by
  rw [ref19_Grid_Do_eq, boxA]
  have k2 : Keep0 H (H.new (.cells (actL a y) t_vt_Act false 0 false)) := Keep.new _ _
  have g2 : (H.new (.cells (actL a y) t_vt_Act false 0 false)).get H.next = some (.cells (actL a y) t_vt_Act false 0 false) := by simp
  have n2 : (H.new (.cells (actL a y) t_vt_Act false 0 false)).next = H.next + 1 := by simp
  generalize H.new (.cells (actL a y) t_vt_Act false 0 false) = H2 at *
  have q2 : InBox H2 D a y H.next := ⟨g2, by omega, fun e => by have := h.ltO e; omega, Whole.keep wy k2 fun _ _ e => e, ny⟩
  have h2 := h.new k2
  simp only [P0, asP_s, optK_s]
  have l0 : Heap.ld1 H2 (ap ⟨H.next, 0, none⟩ 0) = some (.int .i64 (a.kind : Int)) := (ld1_s g2).trans rfl
  have l2 : Heap.ld1 H2 (ap ⟨H.next, 0, none⟩ 2) = some (.bool a.mark) := (ld1_s g2).trans rfl
  rw [l0]
  simp only [optK_s, asI_s]
  refine RDone.pre (RStp.new k2) ?_
  unfold G.doA
  by_cases c1 : a.kind = 1
  · rw [if_pos (show decide ((a.kind : Int) = 1) = true from decide_eq_true (by omega)), if_pos c1, q2.l1]
    simp only [optK_s, asI_s]
    exact RDone.call (rprint_s e h2 w u a.rune)
  rw [if_neg (show ¬ decide ((a.kind : Int) = 1) = true from dneg (by omega)), if_neg c1]
  by_cases c2 : a.kind = 2
  · rw [if_pos (show decide ((a.kind : Int) = 2) = true from decide_eq_true (by omega)), if_pos c2, q2.l1]
    simp only [optK_s, asI_s]
    exact RDone.call (rcontrol_s e h2 w a.rune)
  rw [if_neg (show ¬ decide ((a.kind : Int) = 2) = true from dneg (by omega)), if_neg c2]
  by_cases c3 : a.kind = 3
  · rw [if_pos (show decide ((a.kind : Int) = 3) = true from decide_eq_true (by omega)), if_pos c3, q2.l1]
    simp only [optK_s, asI_s]
    exact RDone.call (resc_s e h2 w a.rune)
  rw [if_neg (show ¬ decide ((a.kind : Int) = 3) = true from dneg (by omega)), if_neg c3]
  by_cases c4 : a.kind = 4
  · rw [if_pos (show decide ((a.kind : Int) = 4) = true from decide_eq_true (by omega)), if_pos c4, l2]
    simp only [optK_s, asB_s]
    rw [rdActP g2]
    simp only [optK_s, asA_s]
    cases hm : a.mark with
    | true =>
      rw [if_pos rfl, if_pos rfl]
      obtain ⟨H', D', e1, h', _, s'⟩ := rmodes_s (e + 2) h2 w q2.wy q2.ny ok.1
      exact RDone.call ⟨H', D', e1, h', s'⟩
    | false =>
      rw [if_neg ff, if_neg ff]
      exact RDone.call (rcsi_s (e + 1) h2 w q2.wy q2.ny ok)
  · rw [if_neg (show ¬ decide ((a.kind : Int) = 4) = true from dneg (by omega)), if_neg c4]
    exact ⟨H2, D, rfl, h2, RStp.refl _ _⟩
end
end Go.Proofs.YtjmiehbiindjdaaGreatDoor.dec

namespace Go.Proofs.YtjmiehbiindjdaaGreatDoor.dec
open Go Go.Cm

attribute [local congr] optK_congr asI_congr asN_congr asB_congr asS_congr asP_congr asA_congr asSL_congr callK_congr castT_congr chk_congr

def scrL (c : Sc) (y : Sl) : List Value := [.int .i64 c.rows, .int .i64 c.cols, y.v, .int .i64 c.row, .int .i64 c.col, .bool c.hidden]
theorem Screen_s (d : Nat) {H : Heap} {D : GD} {g : G} (h : Rep H D g) (w : WF g) :
    ∃ y p H', X (d + 3) n_grid_Grid_Screen [P0 D.p] H = some (.agg ⟨scrL g.c y⟩, H') ∧ Outer H' y p ∧ Rows H' p ∧ p.map Prod.snd = g.L ∧ (∀ k, y.at k → H.next ≤ k) ∧ (∀ k, bl p k → H.next ≤ k) ∧ (∀ k, y.at k → ¬ bl p k) ∧ Keep0 H H' := by
  have r1 := w.r1; have r2 := w.r2; have c1 := w.c1; have c2 := w.c2; have hql := h.ql; have hLn := w.Ln
  rw [grid_Grid_Screen_eq]
  simp only [newK_s]
  have k2 : Keep0 H (H.new (.cells [.int .i64 0, .int .i64 0, .slice none 0 0, .int .i64 0, .int .i64 0, .bool false] t_api_Screen false 0 false)) := Keep.new _ _
  have g2 : (H.new (.cells [.int .i64 0, .int .i64 0, .slice none 0 0, .int .i64 0, .int .i64 0, .bool false] t_api_Screen false 0 false)).get H.next = some (.cells [.int .i64 0, .int .i64 0, .slice none 0 0, .int .i64 0, .int .i64 0, .bool false] t_api_Screen false 0 false) := by simp
  have n2 : (H.new (.cells [.int .i64 0, .int .i64 0, .slice none 0 0, .int .i64 0, .int .i64 0, .bool false] t_api_Screen false 0 false)).next = H.next + 1 := by simp
  generalize H.new (.cells [.int .i64 0, .int .i64 0, .slice none 0 0, .int .i64 0, .int .i64 0, .bool false] t_api_Screen false 0 false) = H2 at *
  have h2 := h.new k2
  rw [h2.l0, h2.l1]
  simp only [optK_s, asI_s]
  rw [h2.l2]
  simp only [optK_s, asSL_k]
  have hne : D.cells.a ≠ none := h2.co.some (by intro e; rw [e] at hql; simp at hql; omega)
  obtain ⟨b, v, _⟩ := h2.co.ov hne
  have hrows : ∀ x ∈ D.q, x.2 ≠ [] ∧ x.2.length ≤ 1000 := fun x hx => by
    have hl := w.Lw x.2 (by rw [← h.cL]; exact List.mem_map_of_mem hx)
    exact ⟨fun e => by rw [e] at hl; simp at hl; omega, by omega⟩
  obtain ⟨y, p, H10, e, a1, a2, a3, a4, a5, a6, k10⟩ := copied_s d (.inl v) h2.cr hrows (by omega)
  rw [e]
  simp only [callK_s, asSL_k]
  have h10 := h2.new k10
  rw [h10.l3, h10.l4]
  simp only [optK_s, asI_s]
  rw [h10.l21]
  simp only [optK_s, asB_s]
  have g10 := k10.get (by omega) g2
  have es : Heap.stN H10 ⟨H.next, 0, none⟩ [.int .i64 g.c.rows, .int .i64 g.c.cols, y.v, .int .i64 g.c.row, .int .i64 g.c.col, .bool g.c.hidden] = some (H10.put H.next (.cells (scrL g.c y) t_api_Screen false 0 false)) := by
    simp only [Heap.stN, g10]; rfl
  rw [es]
  simp only [optK_s]
  rw [show rdsOk [H2, H10, H10.put H.next (.cells (scrL g.c y) t_api_Screen false 0 false)] [⟨.load 1 false, [.pointer (some ⟨D.p, 21, none⟩)], .bool g.c.hidden, 0, 1⟩, ⟨.load 1 false, [.pointer (some ⟨D.p, 4, none⟩)], .int .i64 g.c.col, 0, 1⟩, ⟨.load 1 false, [.pointer (some ⟨D.p, 3, none⟩)], .int .i64 g.c.row, 0, 1⟩, ⟨.load 1 false, [.pointer (some ⟨D.p, 1, none⟩)], .int .i64 g.c.cols, 0, 1⟩, ⟨.load 1 false, [P0 D.p], .int .i64 g.c.rows, 0, 1⟩] = true from by
    simp only [rdsOk, Bool.and_true]
    rw [show 1 + 1 - 0 = 2 from rfl, rdOk_2, rdOk_2, rdOk_2, rdOk_2, rdOk_2, rdAt_s rfl (rd1' h2.l21) (same_bool _), rdAt_s rfl (rd1' h10.l21) (same_bool _), rdAt_s rfl (rd1' h2.l4) (same_int _ _), rdAt_s rfl (rd1' h10.l4) (same_int _ _), rdAt_s rfl (rd1' h2.l3) (same_int _ _), rdAt_s rfl (rd1' h10.l3) (same_int _ _), rdAt_s rfl (rd1' h2.l1) (same_int _ _), rdAt_s rfl (rd1' h10.l1) (same_int _ _), rdAt_s rfl (rd1' h2.l0) (same_int _ _), rdAt_s rfl (rd1' h10.l0) (same_int _ _)]; rfl]
  simp only [chk_s]
  have kp : Keep (fun k => k = H.next) H10 (H10.put H.next (.cells (scrL g.c y) t_api_Screen false 0 false)) := Keep.put _ _ _ rfl
  have gp : (H10.put H.next (.cells (scrL g.c y) t_api_Screen false 0 false)).get H.next = some (.cells (scrL g.c y) t_api_Screen false 0 false) := by simp
  generalize H10.put H.next (.cells (scrL g.c y) t_api_Screen false 0 false) = H18 at *
  have hr : readD (.load 6 true) [P0 H.next] H18 = some (.agg ⟨scrL g.c y⟩) := by
    simp only [readD, if_true]
    rw [ldN_s gp (by show 0 + 6 ≤ 6; omega)]
    rfl
  have g0 : Fr.get [(2, P0 H.next)] 2 = some (P0 H.next) := rfl
  refine ⟨y, p, H18, by simp only [retK, resL, g0, hr], Whole.keep a1 kp fun k e e' => by have e'' : k = H.next := e'; have := a4 k e; omega, a2.keep kp fun k e e' => by have e'' : k = H.next := e'; have := a5 k e; omega, a3.trans h.cL, fun k e => by have := a4 k e; omega, fun k e => by have := a5 k e; omega, a6, (k2.trans k10).fresh kp fun k e => by have e' : k = H.next := e; omega⟩
end Go.Proofs.YtjmiehbiindjdaaGreatDoor.dec

namespace Go.Proofs.YtjmiehbiindjdaaGreatDoor.dec
open Go Go.Cm

attribute [local congr] optK_congr asI_congr asN_congr asB_congr asS_congr asP_congr asA_congr asSL_congr callK_congr castT_congr chk_congr

theorem known_s (d : Nat) (H : Heap) : X (d + 1) n_law21_known [] H = some (.bool true, H) := by kernel_rfl
theorem Pick_s (d : Nat) (n : Int) (m : Nat) (H : Heap) (hm : 0 < m) (hm2 : m ≤ 1048576) : ∃ r : Nat, X (d + 1) n_hand_Pick [.int .i64 n, .int .i64 (m : Int)] H = some (.int .i64 (r : Int), H) ∧ r < m := by
  rw [hand_Pick_eq, if_neg (by omega)]
  have h1 := Int.tmod_lt_of_pos n (show (0 : Int) < (m : Int) by omega)
  have h2 : -(m : Int) < Int.tmod n m := by
    have := Int.lt_tmod_of_pos n (show (0 : Int) < (m : Int) by omega)
    omega
  simp only [decide_eq_true_eq]
  by_cases h : Int.tmod n m < 0
  · rw [if_pos h, w64 (by omega)]
    exact ⟨(Int.tmod n m + m).toNat, by rw [Int.toNat_of_nonneg (by omega)], by omega⟩
  · rw [if_neg h]
    exact ⟨(Int.tmod n m).toNat, by rw [Int.toNat_of_nonneg (by omega)], by omega⟩
theorem castPI (p : Nat) (n : Int) (K : List Value → Res) : castT [.ptr, .int .i64] (.tuple ⟨[P0 p, .int .i64 n]⟩) K = K [P0 p, .int .i64 n] := rfl
theorem eq_cell (a b : Cl) : eqL [.int .i32, .int .i64, .int .i64, .int .i64] (cellV a) (cellV b) = some (decide (a = b)) := by
  obtain ⟨a1, a2, a3, a4⟩ := a
  obtain ⟨b1, b2, b3, b4⟩ := b
  simp only [cellV, eqL, eqC]
  by_cases h1 : a1 = b1 <;> by_cases h2 : a2 = b2 <;> by_cases h3 : a3 = b3 <;> by_cases h4 : a4 = b4 <;> simp [h1, h2, h3, h4]
/-- lines that a slice shows -/
structure LV (H : Heap) (L : List (List Cl)) (y : Sl) : Prop where
  n : y.n = L.length
  row : ∀ {a : Nat} {l : List Cl}, L[a]? = some l → ∃ ad x, y.a = some ad ∧ Heap.ld1 H (ap ad (((a : Int).toNat) * 1)) = some (wsl x l.length).v ∧ Row H x l
theorem LV.of {H : Heap} {L : List (List Cl)} {y : Sl} {p : Q} (o : (y = Sl.nil ∧ p = []) ∨ RV H y p) (r : RowsR H p) (m : p.map Prod.snd = L) : LV H L y := by
  refine ⟨?_, fun {a l} ha => ?_⟩
  · rw [← m, List.length_map]
    rcases o with ⟨rfl, rfl⟩ | o
    · rfl
    · exact o.n
  · have h0 := congrArg (fun l => l[a]?) m
    simp only [List.getElem?_map] at h0
    rw [ha] at h0
    obtain ⟨x, hx, hx2⟩ : ∃ x, p[a]? = some x ∧ x.2 = l := by
      cases hpa : p[a]? with
      | none => rw [hpa] at h0; cases h0
      | some x => rw [hpa] at h0; exact ⟨x, rfl, by simpa using h0⟩
    rcases o with ⟨_, rfl⟩ | o
    · cases hx
    obtain ⟨ad, ea, eb⟩ := o.ld hx
    refine ⟨ad, x.1, ea, ?_, ?_⟩
    · rw [← hx2]; exact eb
    · rw [← hx2]; exact r x (List.mem_of_getElem? hx)
theorem Outer.lv {H : Heap} {L : List (List Cl)} {y : Sl} {p : Q} (o : Outer H y p) (r : Rows H p) (m : p.map Prod.snd = L) {H' : Heap} (k : Keep0 H H') : LV H' L y := by
  have r' : RowsR H' p := fun x hx => (r.1 x hx).keep k id
  have o' : Outer H' y p := Whole.keep o k fun _ _ e => e
  rcases o' with ⟨h1, h2⟩ | h
  · exact LV.of (.inl ⟨h1, List.map_eq_nil_iff.1 h2⟩) r' m
  · by_cases hp : p = []
    · subst hp
      obtain ⟨b, n, e, h1, _⟩ := h
      have hL : L = [] := m.symm
      subst hL
      refine ⟨?_, fun ha => by cases ha⟩
      have : n = 0 := by simpa using h1.symm
      rw [e, this]; rfl
    · exact LV.of (.inr (RV.of (.inr h) hp)) r' m
theorem RRep.scr {H : Heap} {D : RD} {g : G} (h : RRep H D g) {H' : Heap} (k : Keep0 H H') : LV H' g.L D.cells := LV.of (.inr (h.new k).co) (h.new k).cr h.cL
theorem RRep.pst {H : Heap} {D : RD} {g : G} (h : RRep H D g) {H' : Heap} (k : Keep0 H H') : LV H' g.past D.past := by
  have h' := h.new k
  rcases h'.po with e | ⟨b, A, e⟩
  · exact LV.of (.inl e) h'.pr h'.pL
  · exact LV.of (.inr ⟨b, A, [], e⟩) h'.pr h'.pL
theorem same_cells (e : Nat) {H : Heap} {L : List (List Cl)} {y1 y2 : Sl} (s1 : LV H L y1) (s2 : LV H L y2) {a : Nat} {l : List Cl} (ha : L[a]? = some l) (hl : l.length ≤ 1000) (m0 : Nat) (haL : L.length ≤ 1000) :
    ∀ (m k : Nat), l.length - k < m → k ≤ l.length → ref19_SameLines_p110100100110 e m0 m y1 y2 (a : Int) (k : Int) H = ref19_SameLines_p11010 e m0 y1 y2 ((a + 1 : Nat) : Int) H := fun m => by
  obtain ⟨ad1, x1, q1, r1, w1⟩ := s1.row ha
  obtain ⟨ad2, x2, q2, r2, w2⟩ := s2.row ha
  have n1 := s1.n; have n2 := s2.n
  have hal := (List.getElem?_eq_some_iff.1 ha).1
  induction m with
  | zero => intro k hm; omega
  | succ m ih =>
    intro k hm hk
    rw [ref19_SameLines_p110100100110_s, q1]
    simp only [optK_s]
    rw [if_pos (show (0 : Int) ≤ (a : Int) ∧ (a : Int) < (y1.n : Int) by omega), r1]
    simp only [optK_s, asSL_k]
    by_cases hlt : k < l.length
    · have hx : l[k]? = some l[k] := List.getElem?_eq_getElem hlt
      have g1 := w1.lda hx
      have g2 := w2.lda hx
      rw [if_pos (show decide ((k : Int) < ((wsl x1 l.length).n : Int)) = true from decide_eq_true (by show (k : Int) < (l.length : Int); omega))]
      rw [if_pos (show (0 : Int) ≤ (a : Int) ∧ (a : Int) < (y1.n : Int) by omega)]
      rw [if_pos (show (0 : Int) ≤ (k : Int) ∧ (k : Int) < (l.length : Int) by omega), show ap ⟨x1, 0, none⟩ (((k : Int).toNat) * 4) = ⟨x1, k * 4, none⟩ by simp [ap], g1]
      simp only [optK_s, asA_s]
      rw [q2]
      simp only [optK_s]
      rw [if_pos (show (0 : Int) ≤ (a : Int) ∧ (a : Int) < (y2.n : Int) by omega), r2]
      simp only [optK_s, asSL_k]
      rw [if_pos (show (0 : Int) ≤ (k : Int) ∧ (k : Int) < (l.length : Int) by omega), show ap ⟨x2, 0, none⟩ (((k : Int).toNat) * 4) = ⟨x2, k * 4, none⟩ by simp [ap], g2]
      simp only [optK_s, asA_s]
      rw [show (Array.size (⟨cellV l[k]⟩ : Array Value) == 4 && Array.size (⟨cellV l[k]⟩ : Array Value) == 4) = true from rfl]
      simp only [chk_s]
      rw [show eqL [.int .i32, .int .i64, .int .i64, .int .i64] (⟨cellV l[k]⟩ : Array Value).toList (⟨cellV l[k]⟩ : Array Value).toList = some (decide (l[k] = l[k])) from eq_cell _ _, decide_eq_true rfl]
      simp only [optK_s]
      rw [if_neg (show ¬ (!true) = true by simp), wi (by omega)]
      exact ih (k + 1) (by omega) (by omega)
    · rw [if_neg (show ¬ decide ((k : Int) < ((wsl x1 l.length).n : Int)) = true from dneg (by show ¬ (k : Int) < (l.length : Int); omega)), wi (by omega)]
theorem same_rows (e : Nat) {H : Heap} {L : List (List Cl)} {y1 y2 : Sl} (s1 : LV H L y1) (s2 : LV H L y2) (haL : L.length ≤ 1000) (hL : ∀ l ∈ L, l.length ≤ 1000) :
    ∀ (m a : Nat), L.length - a < m → a ≤ L.length → ref19_SameLines_p11010 e m y1 y2 (a : Int) H = some (.bool true, H) := fun m => by
  have n1 := s1.n; have n2 := s2.n
  induction m with
  | zero => intro a hm; omega
  | succ m ih =>
    intro a hm ha
    rw [ref19_SameLines_p11010_s]
    by_cases hlt : a < L.length
    · have hx : L[a]? = some L[a] := List.getElem?_eq_getElem hlt
      have hl := hL _ (List.getElem_mem hlt)
      obtain ⟨ad1, x1, q1, r1, w1⟩ := s1.row hx
      obtain ⟨ad2, x2, q2, r2, w2⟩ := s2.row hx
      rw [if_pos (show decide ((a : Int) < (y1.n : Int)) = true from decide_eq_true (by omega)), q1]
      simp only [optK_s]
      rw [if_pos (show (0 : Int) ≤ (a : Int) ∧ (a : Int) < (y1.n : Int) by omega), r1]
      simp only [optK_s, asSL_k]
      rw [q2]
      simp only [optK_s]
      rw [if_pos (show (0 : Int) ≤ (a : Int) ∧ (a : Int) < (y2.n : Int) by omega), r2]
      simp only [optK_s, asSL_k]
      rw [if_neg (show ¬ (!decide True) = true by simp), show (0 : Int) = ((0 : Nat) : Int) from rfl, same_cells e s1 s2 hx hl m haL NN 0 (NN_big _ (by omega)) (by omega)]
      exact ih (a + 1) (by omega) (by omega)
    · rw [if_neg (show ¬ decide ((a : Int) < (y1.n : Int)) = true from dneg (by omega))]
theorem SameLines_s (e : Nat) {H : Heap} {L : List (List Cl)} {y1 y2 : Sl} (s1 : LV H L y1) (s2 : LV H L y2) (haL : L.length ≤ 1000) (hL : ∀ l ∈ L, l.length ≤ 1000) : X (e + 1) n_ref19_SameLines [y1.v, y2.v] H = some (.bool true, H) := by
  have n1 := s1.n; have n2 := s2.n
  rw [ref19_SameLines_eq, if_neg (show ¬ (!decide ((y1.n : Int) = (y2.n : Int))) = true by rw [n1, n2]; simp)]
  exact same_rows e s1 s2 haL hL NN 0 (NN_big _ (by omega)) (by omega)

theorem boxS (c : Sc) (y : Sl) (H : Heap) (K : Value → Heap → Res) : effK (.box t_api_Screen) [.agg ⟨scrL c y⟩] H K = K (P0 H.next) (H.new (.cells (scrL c y) t_api_Screen false 0 false)) := rfl
theorem Same_s (e : Nat) {H : Heap} {L : List (List Cl)} {y1 y2 : Sl} {c1 c2 : Sc} (s1 : ∀ {H'}, Keep0 H H' → LV H' L y1) (s2 : ∀ {H'}, Keep0 H H' → LV H' L y2) (haL : L.length ≤ 1000) (hL : ∀ l ∈ L, l.length ≤ 1000) (h1 : c1.rows = c2.rows) (h2 : c1.cols = c2.cols) (h3 : c1.row = c2.row) (h4 : c1.col = c2.col) (h5 : c1.hidden = c2.hidden) :
    ∃ H', X (e + 2) n_ref19_Same [.agg ⟨scrL c1 y1⟩, .agg ⟨scrL c2 y2⟩] H = some (.bool true, H') ∧ Keep0 H H' := by
  rw [ref19_Same_eq, boxS, boxS]
  have k2 : Keep0 H (H.new (.cells (scrL c1 y1) t_api_Screen false 0 false)) := Keep.new _ _
  have g2 : (H.new (.cells (scrL c1 y1) t_api_Screen false 0 false)).get H.next = some (.cells (scrL c1 y1) t_api_Screen false 0 false) := by simp
  have n2 : (H.new (.cells (scrL c1 y1) t_api_Screen false 0 false)).next = H.next + 1 := by simp
  generalize H.new (.cells (scrL c1 y1) t_api_Screen false 0 false) = H2 at *
  have k4 : Keep0 H2 (H2.new (.cells (scrL c2 y2) t_api_Screen false 0 false)) := Keep.new _ _
  have g4 : (H2.new (.cells (scrL c2 y2) t_api_Screen false 0 false)).get H2.next = some (.cells (scrL c2 y2) t_api_Screen false 0 false) := by simp
  generalize H2.new (.cells (scrL c2 y2) t_api_Screen false 0 false) = H4 at *
  have g4a := k4.get (by omega) g2
  simp only [P0, asP_s, optK_s]
  have a0 : Heap.ld1 H4 (ap ⟨H.next, 0, none⟩ 0) = some (.int .i64 c1.rows) := (ld1_s g4a).trans rfl
  have b0 : Heap.ld1 H4 (ap ⟨H2.next, 0, none⟩ 0) = some (.int .i64 c2.rows) := (ld1_s g4).trans rfl
  have a1 : Heap.ld1 H4 (ap ⟨H.next, 0, none⟩ 1) = some (.int .i64 c1.cols) := (ld1_s g4a).trans rfl
  have b1 : Heap.ld1 H4 (ap ⟨H2.next, 0, none⟩ 1) = some (.int .i64 c2.cols) := (ld1_s g4).trans rfl
  have a2 : Heap.ld1 H4 (ap ⟨H.next, 0, none⟩ 2) = some y1.v := (ld1_s g4a).trans rfl
  have b2 : Heap.ld1 H4 (ap ⟨H2.next, 0, none⟩ 2) = some y2.v := (ld1_s g4).trans rfl
  have a3 : Heap.ld1 H4 (ap ⟨H.next, 0, none⟩ 3) = some (.int .i64 c1.row) := (ld1_s g4a).trans rfl
  have b3 : Heap.ld1 H4 (ap ⟨H2.next, 0, none⟩ 3) = some (.int .i64 c2.row) := (ld1_s g4).trans rfl
  have a4 : Heap.ld1 H4 (ap ⟨H.next, 0, none⟩ 4) = some (.int .i64 c1.col) := (ld1_s g4a).trans rfl
  have b4 : Heap.ld1 H4 (ap ⟨H2.next, 0, none⟩ 4) = some (.int .i64 c2.col) := (ld1_s g4).trans rfl
  have a5 : Heap.ld1 H4 (ap ⟨H.next, 0, none⟩ 5) = some (.bool c1.hidden) := (ld1_s g4a).trans rfl
  have b5 : Heap.ld1 H4 (ap ⟨H2.next, 0, none⟩ 5) = some (.bool c2.hidden) := (ld1_s g4).trans rfl
  rw [a0, b0]
  simp only [optK_s, asI_s]
  rw [if_pos (show decide ((c1.rows : Int) = (c2.rows : Int)) = true from decide_eq_true (by omega))]
  rw [a1, b1]
  simp only [optK_s, asI_s]
  rw [if_pos (show decide ((c1.cols : Int) = (c2.cols : Int)) = true from decide_eq_true (by omega))]
  rw [a3, b3]
  simp only [optK_s, asI_s]
  rw [if_pos (show decide ((c1.row : Int) = (c2.row : Int)) = true from decide_eq_true (by omega))]
  rw [a4, b4]
  simp only [optK_s, asI_s]
  rw [if_pos (show decide ((c1.col : Int) = (c2.col : Int)) = true from decide_eq_true (by omega))]
  rw [a5, b5]
  simp only [optK_s, asB_s]
  rw [if_pos (show (c1.hidden == c2.hidden) = true by rw [h5]; simp), a2]
  simp only [optK_s, asSL_k]
  rw [b2]
  simp only [optK_s, asSL_k]
  have k := k2.trans k4
  rw [SameLines_s e (s1 k) (s2 k) haL hL]
  exact ⟨H4, rfl, k⟩

end Go.Proofs.YtjmiehbiindjdaaGreatDoor.dec

namespace Go.Proofs.YtjmiehbiindjdaaGreatDoor.dec
open Go Go.Cm

attribute [local congr] optK_congr asI_congr asN_congr asB_congr asS_congr asP_congr asA_congr asSL_congr callK_congr castT_congr chk_congr

section
variable {g : G}
theorem DU.same {g' : G} (u : DU g) (h1 : g'.c = g.c) (h2 : g'.other = g.other) : DU g' := ⟨by rw [h1]; exact u.d, by rw [h1]; exact u.s, by rw [h1, h2]; exact u.a⟩
theorem DU.move (u : DU g) (r c : Int) : DU (g.move r c) := ⟨(fun e => by cases e), u.s, u.a⟩
theorem DU.take (u : DU g) (r n : Nat) : DU (g.take r n) := u.same rfl rfl
theorem DU.put (u : DU g) (r n : Nat) : DU (g.put r n) := u.same rfl rfl
theorem DU.up (u : DU g) (n : Nat) : DU (g.up n) := by
  unfold G.up
  split
  · obtain ⟨h1, _, h3, _⟩ := keeps_c (g.L.take (min n (g.c.bottom - g.c.top + 1))) g
    exact (u.same h1 h3).take _ _
  · exact u.take _ _
theorem DU.due (u : DU g) : DU (g.due false) := ⟨(fun e => by cases e), u.s, u.a⟩
theorem DU.index (u : DU g) : DU g.index := by
  unfold G.index
  split
  · exact u.due.up 1
  · split
    · exact ⟨(fun e => by cases e), u.s, u.a⟩
    · exact u.due
theorem DU.index0 (u : DU g) : DU (({ g with c := { g.c with col := 0 } } : G).index) := by
  have key : DU ((({ g with c := { g.c with col := 0 } } : G)).due false) := ⟨(fun e => by cases e), u.s, u.a⟩
  unfold G.index
  split
  · exact key.up 1
  · split
    · exact ⟨(fun e => by cases e), u.s, u.a⟩
    · exact key
theorem DU.print0 (u : DU g) (r : Int) : DU (g.print0 r) := by
  unfold G.print0
  simp only
  split
  · rename_i c
    exact ⟨fun _ => c, u.s, u.a⟩
  · rename_i c
    exact ⟨fun e => absurd (u.d e) c, u.s, u.a⟩
theorem DU.print (u : DU g) (r : Int) : DU (g.print r) := by
  unfold G.print
  split
  · exact u.index0.print0 r
  · exact u.print0 r
theorem DU.control (u : DU g) (r : Int) : DU (g.control r) := by
  unfold G.control
  split; · exact u.move _ _
  split; · exact u.move _ _
  split; · exact u.index
  split; · exact u.move _ _
  exact u
theorem DU.esc (u : DU g) (w : WF g) (r : Int) : DU (g.esc r) := by
  have c1 := w.c1
  unfold G.esc
  split
  · unfold G.esc3
    split; · exact u.index
    split; · exact u.index0
    split; · exact u.due.put _ _
    exact u.due.move _ _
  split; · exact ⟨u.d, u.d, u.a⟩
  split
  · refine ⟨fun e => ?_, u.s, u.a⟩
    have e' : g.c.sdue = true := e
    have := u.s e'
    show (min (max (g.c.scol : Int) 0) ((g.c.cols : Int) - 1)).toNat + 1 = g.c.cols
    omega
  split; · exact ⟨(fun e => by cases e), (fun e => by cases e), (fun e => by cases e)⟩
  split; · exact u.same rfl rfl
  exact u
theorem DU.mode (u : DU g) (on : Bool) (n : Int) : DU (g.mode on n) := by
  unfold G.mode
  split
  · refine ⟨fun e => u.d ?_, u.s, u.a⟩
    have e' : (g.c.due && on) = true := e
    exact (Bool.and_eq_true _ _ ▸ e').1
  split; · exact ⟨u.d, u.s, u.a⟩
  split
  · unfold G.alternate
    split
    · exact ⟨u.d, u.s, fun _ => u.d⟩
    · rename_i M ho
      exact ⟨u.a (by rw [ho]; rfl), u.s, (fun e => by cases e)⟩
    · exact u
  exact u
theorem DU.foldl {α : Type} {f : G → α → G} (hf : ∀ g a, DU g → DU (f g a)) : ∀ (l : List α) {g : G}, DU g → DU (l.foldl f g) := fun l => by
  induction l with
  | nil => intro g w; exact w
  | cons a l ih => intro g w; exact ih (hf g a w)
theorem But.du {g' : G} (b : But g g') (u : DU g) : DU g' := u.same b.1 b.2.2.1
theorem DU.csi (u : DU g) (a : Act) : DU (g.csi a) := by
  unfold G.csi
  split; · exact u.move _ _
  split; · exact u.move _ _
  split; · exact u.move _ _
  split; · exact u.move _ _
  split; · exact u.move _ _
  split; · exact u.move _ _
  split; · exact u.move _ _
  split; · exact DU.foldl (f := G.style) (fun g a u => ⟨u.d, u.s, u.a⟩) a.params u
  split
  · split
    · exact ⟨u.d, u.s, u.a⟩
    · exact u
  unfold G.edit
  split
  · by_cases hp : a.par 0 0 < 0 ∨ 2 < a.par 0 0
    · unfold G.erase
      rw [if_pos hp]
      split
      · exact u.same rfl rfl
      · exact u
    · exact (But.du (by unfold G.erase; rw [if_neg hp]; exact (eraseLine_but g _).trans (wipeIfs_but _ _ _ _)) u)
  split; · exact (eraseLine_but g _).du u
  split
  · split
    · exact u
    · split
      · exact (u.put _ _).move _ _
      · exact (u.take _ _).move _ _
  split; · exact u.same rfl rfl
  split; · exact u.up _
  split; · exact u.put _ _
  split
  · unfold G.region
    split
    · have k : ∀ (t b : Nat), DU ({ g with c := { g.c with top := t, bottom := b } } : G) := fun t b => ⟨u.d, u.s, u.a⟩
      exact (k _ _).move 0 0
    · exact u
  split
  · unfold G.clearTabs
    split; · exact u.same rfl rfl
    split; · exact u.same rfl rfl
    exact u
  exact u
theorem DU.doA (u : DU g) (w : WF g) (a : Act) : DU (g.doA a) := by
  unfold G.doA
  split; · exact u.print _
  split; · exact u.control _
  split; · exact u.esc w _
  split
  · split
    · unfold G.modes
      split
      · exact DU.foldl (f := G.mode _) (fun g a u => u.mode _ a) a.params u
      · exact u
    · exact u.csi a
  exact u
theorem DU.fresh (r c : Nat) (past : List (List Cl)) : DU (G.fresh r c past) := ⟨(fun e => by cases e), (fun e => by cases e), (fun e => by cases e)⟩
end

theorem rScreen_s (d : Nat) {H : Heap} {D : RD} {g : G} (h : RRep H D g) : ∃ H', X (d + 1) n_ref19_Grid_Screen [P0 D.p] H = some (.agg ⟨scrL g.c D.cells⟩, H') ∧ Keep0 H H' := by
  rw [ref19_Grid_Screen_eq]
  simp only [newK_s]
  have k2 : Keep0 H (H.new (.cells [.int .i64 0, .int .i64 0, .slice none 0 0, .int .i64 0, .int .i64 0, .bool false] t_api_Screen false 0 false)) := Keep.new _ _
  have g2 : (H.new (.cells [.int .i64 0, .int .i64 0, .slice none 0 0, .int .i64 0, .int .i64 0, .bool false] t_api_Screen false 0 false)).get H.next = some (.cells [.int .i64 0, .int .i64 0, .slice none 0 0, .int .i64 0, .int .i64 0, .bool false] t_api_Screen false 0 false) := by simp
  generalize H.new (.cells [.int .i64 0, .int .i64 0, .slice none 0 0, .int .i64 0, .int .i64 0, .bool false] t_api_Screen false 0 false) = H2 at *
  have h2 := h.new k2
  rw [h2.l6]
  simp only [optK_s, asI_s]
  rw [h2.l7]
  simp only [optK_s, asI_s]
  rw [h2.l8]
  simp only [optK_s, asSL_k]
  rw [h2.l9]
  simp only [optK_s, asI_s]
  rw [h2.l10]
  simp only [optK_s, asI_s]
  rw [h2.l27]
  simp only [optK_s, asB_s]
  have es : Heap.stN H2 ⟨H.next, 0, none⟩ [.int .i64 g.c.rows, .int .i64 g.c.cols, D.cells.v, .int .i64 g.c.row, .int .i64 g.c.col, .bool g.c.hidden] = some (H2.put H.next (.cells (scrL g.c D.cells) t_api_Screen false 0 false)) := by
    simp only [Heap.stN, g2]; rfl
  rw [es]
  simp only [optK_s]
  have kp : Keep (fun k => k = H.next) H2 (H2.put H.next (.cells (scrL g.c D.cells) t_api_Screen false 0 false)) := Keep.put _ _ _ rfl
  have gp : (H2.put H.next (.cells (scrL g.c D.cells) t_api_Screen false 0 false)).get H.next = some (.cells (scrL g.c D.cells) t_api_Screen false 0 false) := by simp
  generalize H2.put H.next (.cells (scrL g.c D.cells) t_api_Screen false 0 false) = H18 at *
  have hr : readD (.load 6 true) [P0 H.next] H18 = some (.agg ⟨scrL g.c D.cells⟩) := by
    simp only [readD, if_true]
    rw [ldN_s gp (by show 0 + 6 ≤ 6; omega)]
    rfl
  have g0 : Fr.get [(2, P0 H.next)] 2 = some (P0 H.next) := rfl
  exact ⟨H18, by simp only [retK, resL, g0, hr], k2.fresh kp fun k e => by have e' : k = H.next := e; omega⟩

theorem castBBB (a b c : Bool) (K : List Value → Res) : castT [.bool, .bool, .bool] (.tuple ⟨[.bool a, .bool b, .bool c]⟩) K = K [.bool a, .bool b, .bool c] := rfl
theorem Modes_s (d : Nat) {H : Heap} {D : GD} {g : G} (h : Rep H D g) : X (d + 1) n_grid_Grid_Modes [P0 D.p] H = some (.tuple #[.bool g.c.wrap, .bool g.c.insert, .bool g.other.isSome], H) := by
  rw [grid_Grid_Modes_eq, h.l19]
  simp only [optK_s, asB_s]
  rw [h.l20]
  simp only [optK_s, asB_s]
  rw [h.l23]
  simp only [optK_s, asSL_k]
  have hoo := h.oo
  cases ho : g.other with
  | none => rw [ho] at hoo; rw [hoo.1]; rfl
  | some M =>
    rw [ho] at hoo
    cases ha : D.other.a with
    | none => exact absurd ha hoo.1
    | some a => rfl
theorem rModes_s (d : Nat) {H : Heap} {D : RD} {g : G} (h : RRep H D g) : X (d + 1) n_ref19_Grid_Modes [P0 D.p] H = some (.tuple #[.bool g.c.wrap, .bool g.c.insert, .bool g.other.isSome], H) := by
  rw [ref19_Grid_Modes_eq, h.l25]
  simp only [optK_s, asB_s]
  rw [h.l26]
  simp only [optK_s, asB_s]
  rw [h.l29]
  rfl
/-- the two grids show the same -/
theorem same_s (d : Nat) {H : Heap} {E : GD} {D : RD} {g : G} (h : Rep H E g) (w : WF g) (r : RRep H D g) : ∃ H', X (d + 4) n_law21_same [P0 E.p, P0 D.p] H = some (.bool true, H') ∧ Keep0 H H' := by
  have r2 := w.r2; have c2 := w.c2; have hLn := w.Ln; have hpn := w.pn
  rw [law21_same_eq, Modes_s (d + 2) h, callK_s, castBBB, castBBB]
  simp only [List.getElem?_cons_zero, List.getElem?_cons_succ, optK_s, asB_s]
  rw [rModes_s (d + 2) r, callK_s, castBBB, castBBB]
  simp only [List.getElem?_cons_zero, List.getElem?_cons_succ, optK_s, asB_s]
  obtain ⟨y1, p1, H1, e1, o1, r1, m1, _, _, _, k1⟩ := Screen_s d h w
  rw [e1]
  simp only [callK_s, asA_s]
  obtain ⟨H2, e2, k2⟩ := rScreen_s (d + 2) (r.new k1)
  rw [e2]
  simp only [callK_s, asA_s]
  have k12 := k1.trans k2
  have hw : ∀ l ∈ g.L, l.length ≤ 1000 := fun l hl => by have := w.Lw l hl; omega
  obtain ⟨H3, e3, k3⟩ := Same_s (d + 1) (H := H2) (L := g.L) (c1 := g.c) (c2 := g.c) (fun k => o1.lv r1 m1 (k2.trans k)) (fun k => r.scr (k12.trans k)) (by omega) hw rfl rfl rfl rfl rfl
  rw [e3]
  simp only [callK_s, asB_s]
  rw [if_pos trivial]
  have k13 := k12.trans k3
  obtain ⟨y4, p4, H4, e4, o4, r4, m4, _, _, _, k4⟩ := Past_s d (h.new k13) w
  rw [e4]
  simp only [callK_s, asSL_k]
  have k14 := k13.trans k4
  rw [ref19_Grid_Past_eq, (r.new k14).l38]
  simp only [optK_s, asSL_k, callK_s]
  rw [SameLines_s (d + 2) (o4.lv r4 m4 (Keep.refl _)) (r.pst k14) (by omega) (fun l hl => by have := (w.pw l hl).2; omega)]
  simp only [callK_s, asB_s]
  rw [if_pos trivial, if_pos (by simp), if_pos (by simp)]
  exact ⟨H4, by simp, k14⟩
end Go.Proofs.YtjmiehbiindjdaaGreatDoor.dec

namespace Go.Proofs.YtjmiehbiindjdaaGreatDoor.dec
open Go Go.Cm

attribute [local congr] optK_congr asI_congr asN_congr asB_congr asS_congr asP_congr asA_congr asSL_congr callK_congr castT_congr chk_congr

def Ints (H : Heap) (x : Sl) (l : List Int) : Prop := x.n ≤ l.length ∧ ∀ (i : Nat) n, i < x.n → l[i]? = some n → ∃ b o, x.a = some ⟨b, o, none⟩ ∧ b < H.next ∧ H.ld1 ⟨b, o + i, none⟩ = some (.int .i64 n)
theorem Ints.new {H H' : Heap} {x : Sl} {l : List Int} (h : Ints H x l) (k : Keep0 H H') : Ints H' x l := ⟨h.1, fun i n hi hn => by
  obtain ⟨b, o, h1, h2, h3⟩ := h.2 i n hi hn
  refine ⟨b, o, h1, Nat.lt_of_lt_of_le h2 k.1, ?_⟩
  have e := k.2 b h2 id
  unfold Heap.ld1 at h3 ⊢
  simp only [e]
  exact h3⟩
theorem Ints.at {H : Heap} {x : Sl} {l : List Int} (h : Ints H x l) {i : Nat} (hi : i < x.n) : ∃ ad n, x.a = some ad ∧ Heap.ld1 H (ap ad (i * 1)) = some (.int .i64 n) := by
  obtain ⟨b, o, h1, _, h3⟩ := h.2 i _ hi (List.getElem?_eq_getElem (by have := h.1; omega))
  exact ⟨_, _, h1, by rw [Nat.mul_one]; exact h3⟩
/-- acts that are given -/
def ActsIn (H : Heap) (x : Sl) : Prop := ∀ i, i < x.n → ∃ (ad : Addr) (k r : Int) (m : Bool) (y : Sl) (l : List Int), x.a = some ad ∧ ad.block < H.next ∧ ldA H (ap ad (i * 4)) 4 = some (.agg ⟨[.int .i64 k, .int .i32 r, .bool m, y.v]⟩) ∧ Ints H y l
theorem ldA_keep {H H' : Heap} (k : Keep0 H H') {a : Addr} (h : a.block < H.next) (n : Nat) : ldA H' a n = ldA H a n := by
  unfold ldA Heap.ldN
  rw [k.2 _ h id]
theorem ActsIn.new {H H' : Heap} {x : Sl} (h : ActsIn H x) (k : Keep0 H H') : ActsIn H' x := fun i hi => by
  obtain ⟨ad, kd, r, m, y, l, h1, h2, h3, h4⟩ := h i hi
  exact ⟨ad, kd, r, m, y, l, h1, Nat.lt_of_lt_of_le h2 k.1, (ldA_keep k (a := ap ad (i * 4)) h2 4).trans h3, h4.new k⟩

/-- where the law stands: both grids, apart -/
structure AS (H0 H : Heap) (E : GD) (D : RD) (g : G) : Prop where
  k0 : Keep0 H0 H
  rep : Rep H E g
  wf : WF g
  rr : RRep H D g
  du : DU g
  fe : ∀ k, E.foot k → H0.next ≤ k
  fo : ∀ k, D.own k → H0.next ≤ k
  fr : ∀ k, D.rd k → H0.next ≤ k
  ao : ∀ k, E.foot k → ¬ D.own k ∧ ¬ D.rd k
theorem AS.new {H0 H H' : Heap} {E : GD} {D : RD} {g : G} (s : AS H0 H E D g) (k : Keep0 H H') : AS H0 H' E D g := ⟨s.k0.trans k, s.rep.new k, s.wf, s.rr.new k, s.du, s.fe, s.fo, s.fr, s.ao⟩
/-- an act is done by both -/
theorem AS.step (e : Nat) {H0 H : Heap} {E : GD} {D : RD} {g : G} (s : AS H0 H E D g) {a : Act} {y : Sl} (ok : a.ok) (wy : Whole H y (intL a.params) t_int 1) (ny : ∀ k, y.at k → ¬ E.foot k ∧ ¬ D.own k) {p : Nat} {c : CObj} (gp : H.get p = some c) (lp : p < H.next) (np : ¬ E.foot p) :
    ∃ H4 H8 H10 E' D', X (e + 10) n_grid_Grid_Do [P0 E.p, .agg ⟨actL a y⟩] H = some (.tuple #[], H4) ∧ H4.get p = some c ∧ X (e + 10) n_ref19_Grid_Do [P0 D.p, .agg ⟨actL a y⟩] H4 = some (.tuple #[], H8) ∧ X (e + 10) n_law21_same [P0 E.p, P0 D.p] H8 = some (.bool true, H10) ∧
      AS H0 H10 E' D' (g.doA a) ∧ E'.p = E.p ∧ D'.p = D.p := by
  obtain ⟨H4, E', e4, r4, w4, s4⟩ := doA_s e ok s.rep s.wf wy fun k e => (ny k e).1
  have rr4 : RRep H4 D g := s.rr.keep s4.kp (fun k e e' => (s.ao k e').1 e) fun k e e' => (s.ao k e').2 e
  obtain ⟨H8, D', e8, r8, s8⟩ := rDo_s (e + 3) rr4 s.wf s.du (Whole.keep wy s4.kp fun k e => (ny k e).1) (fun k e => (ny k e).2) ok
  have apart : ∀ k, E'.foot k → ¬ D.own k ∧ ¬ D.rd k := fun k e => by
    rcases s4.ft k e with e | e
    · exact s.ao k e
    · exact ⟨fun e' => by have := s.rr.ltO e'; omega, fun e' => by have := s.rr.ltR e'; omega⟩
  have r8' : Rep H8 E' (g.doA a) := r4.keep s8.kp fun k e e' => (apart k e).1 e'
  have n0 := s.k0.1
  have n4 := s4.kp.1
  obtain ⟨H10, e10, k10⟩ := same_s (e + 6) r8' w4 r8
  have ep := s4.p
  have dp := s8.p
  rw [ep, dp] at e10
  refine ⟨H4, H8, H10, E', D', e4, (s4.kp.2 p lp np).trans gp, e8, e10, AS.new ⟨(s.k0.fresh s4.kp s.fe).fresh s8.kp s.fo, r8', w4, r8, s.du.doA s.wf a, fun k e => ?_, fun k e => ?_, fun k e => ?_, fun k e => ⟨fun e' => ?_, fun e' => ?_⟩⟩ k10, ep, dp⟩
  · rcases s4.ft k e with e | e
    · exact s.fe k e
    · omega
  · rcases s8.fo k e with e | e
    · exact s.fo k e
    · omega
  · rcases s8.fr k e with e | e
    · exact s.fr k e
    · omega
  · rcases s8.fo k e' with e' | e'
    · exact (apart k e).1 e'
    · have := r4.ltF e; omega
  · rcases s8.fr k e' with e' | e'
    · exact (apart k e).2 e'
    · have := r4.ltF e; omega

theorem eff_store4 {H H' : Heap} {p i : Nat} {vs : List Value} (hv : (cellsL (.agg ⟨vs⟩)).length = 4) (ho : (cellsL (.agg ⟨vs⟩)).all one = true) (e : Heap.stN H ⟨p, i, none⟩ vs = some H') (K : Value → Heap → Res) : effK (.store 4) [.pointer (some ⟨p, i, none⟩), .agg ⟨vs⟩] H K = K (.tuple #[]) H' := by
  simp only [effK]
  rw [if_neg (by omega), if_pos ⟨hv, ho, by omega⟩, show H.stN ⟨p, i, none⟩ (cellsL (.agg ⟨vs⟩)) = some H' from e]
  rfl
theorem push_int {H : Heap} {s : Sl} {L : List Int} (h : Whole H s (intL L) t_int 1) (hl : L.length ≤ 100000) (n : Int) :
    ∃ s' H', (∀ K : Value → Heap → Res, appendK t_int 1 8 false s.v (.slice (some ⟨H.next, 0, none⟩) 1 1) (H.new (.cells [.int .i64 n] t_int false 0 false)) K = K s'.v H') ∧ Whole H' s' (intL (L ++ [n])) t_int 1 ∧ Keep s.at H H' ∧ (∀ k, s'.at k → H.next < k) := by
  have hn := (Whole.len h).1
  rw [intL_len] at hn
  obtain ⟨s', H', e1, w1, k1, _, f1, _⟩ := push_whole (bytes := 8) (new := [.int .i64 n]) h rfl (by omega) (by omega) (by omega)
  exact ⟨s', H', e1, by simpa [intL] using w1, k1, f1⟩
theorem part_i32 {n : Nat} (h : n < 4) : ∃ v, partL [.int .i32 97, .int .i32 98, .int .i32 8364, .int .i32 122] ((((n : Nat) : Int).toNat) * 1) 1 false = some (.int .i32 v) := by
  have : n = 0 ∨ n = 1 ∨ n = 2 ∨ n = 3 := by omega
  rcases this with rfl | rfl | rfl | rfl <;> exact ⟨_, rfl⟩
theorem part_i64 {n : Nat} (h : n < 4) : ∃ v : Int, (0 ≤ v ∧ v ≤ 9999) ∧ partL [.int .i64 7, .int .i64 25, .int .i64 1049, .int .i64 3] ((((n : Nat) : Int).toNat) * 1) 1 false = some (.int .i64 v) := by
  have : n = 0 ∨ n = 1 ∨ n = 2 ∨ n = 3 := by omega
  rcases this with rfl | rfl | rfl | rfl
  · exact ⟨7, by omega, rfl⟩
  · exact ⟨25, by omega, rfl⟩
  · exact ⟨1049, by omega, rfl⟩
  · exact ⟨3, by omega, rfl⟩

section
variable {H0 : Heap} {x2 x3 : Sl} {l3 : List Int} {e m i : Nat}
/-- the rest of the acts -/
def Rest (H0 : Heap) (x2 x3 : Sl) (e m i : Nat) : Prop := ∀ {H : Heap} {E : GD} {D : RD} {g : G}, AS H0 H E D g → ∃ H', law21_GridActs_p111111010 (e + 10) m x2 x3 (some ⟨E.p, 0, none⟩) (some ⟨D.p, 0, none⟩) ((i + 1 : Nat) : Int) H = some (.bool true, H')
theorem act_fin (hr : Rest H0 x2 x3 e m i) (hi : i ≤ 60) {H H1 : Heap} {E : GD} {D : RD} {g : G} (s : AS H0 H E D g) (k : Keep0 H H1) {p : Nat} (hp : H.next ≤ p) (lp : p < H1.next) {a : Act} {y : Sl} (gp : H1.get p = some (.cells (actL a y) t_vt_Act false 0 false)) (ok : a.ok) (wy : Whole H1 y (intL a.params) t_int 1) (ny : ∀ k, y.at k → H.next ≤ k) :
    ∃ H', law21_GridActs_p1111110100100111011111 (e + 10) m x2 x3 (some ⟨E.p, 0, none⟩) (some ⟨D.p, 0, none⟩) (i : Int) p H1 = some (.bool true, H') := by
  have s1 := s.new k
  rw [law21_GridActs_p1111110100100111011111_eq]
  have ld : ∀ {H2 : Heap}, H2.get p = some (.cells (actL a y) t_vt_Act false 0 false) → Cm.ldA H2 ⟨p, 0, none⟩ 4 = some (.agg ⟨actL a y⟩) := fun {H2} h => by
    unfold Cm.ldA
    rw [ldN_s h (by show 0 + 4 ≤ 4; omega)]; rfl
  rw [ld gp]
  simp only [optK_s, asA_s]
  obtain ⟨H4, H8, H10, E', D', e4, g4, e8, e10, s10, ep, dp⟩ := s1.step e ok wy (fun k e => ⟨fun e' => by have := ny k e; have := s.rep.ltF e'; omega, fun e' => by have := ny k e; have := s.rr.ltO e'; omega⟩) gp lp (fun e' => by have := s.rep.ltF e'; omega)
  simp only [P0] at e4 e8 e10
  rw [e4]
  simp only [callK_s]
  rw [ld g4]
  simp only [optK_s, asA_s]
  rw [e8]
  simp only [callK_s]
  rw [e10]
  simp only [callK_s, asB_s]
  rw [if_neg (by simp), wi (by omega), ← ep, ← dp]
  exact hr s10

/-- the act's rune, once its numbers are there -/
theorem act_rune (hr : Rest H0 x2 x3 e m i) (hi : i ≤ 60) {H H1 : Heap} {E : GD} {D : RD} {g : G} (s : AS H0 H E D g) (k : Keep0 H H1) {p : Nat} (hp : H.next ≤ p) (lp : p < H1.next) {kd : Nat} {r : Int} {mk : Bool} {y0 y : Sl} (gp : H1.get p = some (.cells [.int .i64 (kd : Int), .int .i32 r, .bool mk, y0.v] t_vt_Act false 0 false)) {j : Int} {K : Int} {ps : List Int}
    (hps : ps.length ≤ 16 ∧ ∀ n ∈ ps, 0 ≤ n ∧ n ≤ 9999) (wy : Whole H1 y (intL ps) t_int 1) (ny : ∀ k, y.at k → H.next ≤ k ∧ k ≠ p) (m1 : Nat) :
    ∃ H', law21_GridActs_p1111110100100111011010001 (e + 10) m m1 x2 x3 (some ⟨E.p, 0, none⟩) (some ⟨D.p, 0, none⟩) (i : Int) p K y j false H1 = some (.bool true, H') := by
  rw [law21_GridActs_p1111110100100111011010001_eq, if_neg ff]
  obtain ⟨n1, e1, hn1⟩ := Pick_s (e + 9) K 12 H1 (by omega) (by omega)
  rw [show X (e + 10) n_hand_Pick [.int .i64 K, .int .i64 12] H1 = _ from e1]
  simp only [callK_s, asI_s, newK_s]
  obtain ⟨z, H2, e2, w2, k2, f2⟩ := push_int wy (by omega) (n1 : Int)
  rw [e2]
  simp only [asSL_k]
  have np : ¬ y.at p := fun e' => (ny p e').2 rfl
  have g2 := (k2.2 p lp np).trans gp
  have n2 := k2.1
  have nk := k.1
  obtain ⟨H3, e3, g3, k3, n3⟩ := cell_st g2 3 z.v (by show 3 < 4; omega) (L' := [.int .i64 (kd : Int), .int .i32 r, .bool mk, z.v]) rfl
  rw [e3]
  simp only [optK_s]
  have kH2 : Keep0 H H2 := k.fresh k2 fun k e => (ny k e).1
  have kH3 : Keep0 H H3 := kH2.fresh k3 fun k e => by have e' : k = p := e; omega
  have nz : ∀ k, z.at k → H.next ≤ k ∧ k ≠ p := fun k e => by have := f2 k e; omega
  have w3 : Whole H3 z (intL (ps ++ [(n1 : Int)])) t_int 1 := Whole.keep w2 k3 fun k e e' => (nz k e).2 e'
  have hps' : (ps ++ [(n1 : Int)]).length ≤ 1000 ∧ ∀ n ∈ ps ++ [(n1 : Int)], 0 ≤ n ∧ n ≤ 9999 := by
    refine ⟨by rw [List.length_append, List.length_singleton]; omega, fun n hn => ?_⟩
    rcases List.mem_append.1 hn with hn | hn
    · exact hps.2 n hn
    · rw [List.mem_singleton.1 hn]; omega
  generalize ps ++ [(n1 : Int)] = qs at *
  have lp3 : p < H3.next := by omega
  rw [(ld1_s g3).trans (show _ = some (.int .i64 (kd : Int)) from rfl)]
  simp only [optK_s, asI_s]
  -- a rune is put
  have put : ∀ {H4 : Heap}, Keep0 H H4 → H4.get p = some (.cells [.int .i64 (kd : Int), .int .i32 r, .bool mk, z.v] t_vt_Act false 0 false) → p < H4.next → Whole H4 z (intL qs) t_int 1 → ∀ v : Int, ∃ H5, Heap.st1 H4 ⟨p, 1, none⟩ (.int .i32 v) = some H5 ∧ H5.get p = some (.cells (actL ⟨kd, v, mk, qs⟩ z) t_vt_Act false 0 false) ∧ Keep0 H H5 ∧ p < H5.next ∧ Whole H5 z (intL qs) t_int 1 := fun {H4} k4 g4 l4 w4 v => by
    obtain ⟨H5, e5, g5, k5, n5⟩ := cell_st g4 1 (.int .i32 v) (by show 1 < 4; omega) (L' := actL ⟨kd, v, mk, qs⟩ z) rfl
    exact ⟨H5, e5, g5, k4.fresh k5 fun k e => by have e' : k = p := e; omega, by omega, Whole.keep w4 k5 fun k e e' => (nz k e).2 e'⟩
  have lr : Heap.ld1 H3 ⟨p, 1, none⟩ = some (.int .i32 r) := (ld1_s g3).trans rfl
  have done : ∀ {H5 : Heap} {v : Int}, H5.get p = some (.cells (actL ⟨kd, v, mk, qs⟩ z) t_vt_Act false 0 false) → Keep0 H H5 → p < H5.next → Whole H5 z (intL qs) t_int 1 → ∃ H', law21_GridActs_p1111110100100111011111 (e + 10) m x2 x3 (some ⟨E.p, 0, none⟩) (some ⟨D.p, 0, none⟩) (i : Int) p H5 = some (.bool true, H') := fun {H5 v} g5 k5 l5 w5 =>
    act_fin hr hi s k5 hp l5 g5 (show Act.ok ⟨kd, v, mk, qs⟩ from hps') w5 fun k e => (nz k e).1
  by_cases c1 : (kd : Int) = 1
  · rw [if_pos (show decide ((kd : Int) = 1) = true from decide_eq_true c1), lr]
    simp only [optK_s, asI_s]
    obtain ⟨n, en, hn⟩ := Pick_s (e + 9) (IntKind.wrap .i64 r) 4 H3 (by omega) (by omega)
    rw [show X (e + 10) n_hand_Pick [.int .i64 (IntKind.wrap .i64 r), .int .i64 4] H3 = _ from en]
    simp only [callK_s, asI_s]
    obtain ⟨v, hv⟩ := part_i32 hn
    rw [if_pos (show (0 : Int) ≤ (n : Int) ∧ (n : Int) < 4 by omega), hv]
    simp only [optK_s, asI_s]
    obtain ⟨H5, e5, g5, k5, l5, w5⟩ := put kH3 g3 lp3 w3 v
    rw [e5]
    simp only [optK_s]
    exact done g5 k5 l5 w5
  rw [if_neg (show ¬ decide ((kd : Int) = 1) = true from dneg c1)]
  by_cases c2 : (kd : Int) = 2
  · rw [if_pos (show decide ((kd : Int) = 2) = true from decide_eq_true c2), lr]
    simp only [optK_s, asI_s]
    obtain ⟨n, en, hn⟩ := Pick_s (e + 9) (IntKind.wrap .i64 r) 7 H3 (by omega) (by omega)
    rw [show X (e + 10) n_hand_Pick [.int .i64 (IntKind.wrap .i64 r), .int .i64 7] H3 = _ from en]
    simp only [callK_s, asI_s]
    obtain ⟨H5, e5, g5, k5, l5, w5⟩ := put kH3 g3 lp3 w3 (IntKind.wrap .i32 (IntKind.wrap .i64 (7 + (n : Int))))
    rw [e5]
    simp only [optK_s]
    exact done g5 k5 l5 w5
  rw [if_neg (show ¬ decide ((kd : Int) = 2) = true from dneg c2)]
  by_cases c3 : (kd : Int) = 3
  · rw [if_pos (show decide ((kd : Int) = 3) = true from decide_eq_true c3), lr]
    simp only [optK_s, asI_s]
    obtain ⟨n, en, hn⟩ := Pick_s (e + 9) (IntKind.wrap .i64 r) 8 H3 (by omega) (by omega)
    rw [show X (e + 10) n_hand_Pick [.int .i64 (IntKind.wrap .i64 r), .int .i64 8] H3 = _ from en]
    simp only [callK_s, asI_s]
    rw [if_pos (show (0 : Int) ≤ (n : Int) ∧ (n : Int) < (slen (S [68, 69, 77, 55, 56, 99, 72, 120]) : Int) by rw [slenS]; simp only [List.length_cons, List.length_nil]; omega)]
    obtain ⟨H5, e5, g5, k5, l5, w5⟩ := put kH3 g3 lp3 w3 (IntKind.wrap .i32 (bt (S [68, 69, 77, 55, 56, 99, 72, 120]) ((n : Int).toNat)))
    rw [e5]
    simp only [optK_s]
    exact done g5 k5 l5 w5
  rw [if_neg (show ¬ decide ((kd : Int) = 3) = true from dneg c3), lr]
  simp only [optK_s, asI_s]
  obtain ⟨n, en, hn⟩ := Pick_s (e + 9) (IntKind.wrap .i64 r) 25 H3 (by omega) (by omega)
  rw [show X (e + 10) n_hand_Pick [.int .i64 (IntKind.wrap .i64 r), .int .i64 25] H3 = _ from en]
  simp only [callK_s, asI_s]
  rw [if_pos (show (0 : Int) ≤ (n : Int) ∧ (n : Int) < (slen (S [65, 66, 67, 68, 69, 70, 71, 100, 72, 102, 74, 75, 76, 77, 64, 80, 88, 83, 84, 114, 109, 104, 108, 103, 122]) : Int) by rw [slenS]; simp only [List.length_cons, List.length_nil]; omega)]
  obtain ⟨H5, e5, g5, k5, l5, w5⟩ := put kH3 g3 lp3 w3 (IntKind.wrap .i32 (bt (S [65, 66, 67, 68, 69, 70, 71, 100, 72, 102, 74, 75, 76, 77, 64, 80, 88, 83, 84, 114, 109, 104, 108, 103, 122]) ((n : Int).toNat)))
  rw [e5]
  simp only [optK_s]
  rw [(ld1_s g5).trans (show _ = some (.bool mk) from rfl)]
  simp only [optK_s, asB_s]
  cases hmk : mk with
  | false =>
    rw [if_neg ff]
    rw [hmk] at g5 done
    exact done g5 k5 l5 w5
  | true =>
    rw [if_pos rfl, (ld1_s g5).trans (show _ = some (.int .i32 (IntKind.wrap .i32 (bt (S [65, 66, 67, 68, 69, 70, 71, 100, 72, 102, 74, 75, 76, 77, 64, 80, 88, 83, 84, 114, 109, 104, 108, 103, 122]) ((n : Int).toNat)))) from rfl)]
    simp only [optK_s, asI_s]
    generalize IntKind.wrap .i32 (bt (S [65, 66, 67, 68, 69, 70, 71, 100, 72, 102, 74, 75, 76, 77, 64, 80, 88, 83, 84, 114, 109, 104, 108, 103, 122]) ((n : Int).toNat)) = v5 at *
    obtain ⟨n5, en5, hn5⟩ := Pick_s (e + 9) (IntKind.wrap .i64 v5) 5 H5 (by omega) (by omega)
    rw [show X (e + 10) n_hand_Pick [.int .i64 (IntKind.wrap .i64 v5), .int .i64 5] H5 = _ from en5]
    simp only [callK_s, asI_s]
    rw [if_pos (show (0 : Int) ≤ (n5 : Int) ∧ (n5 : Int) < (slen (S [104, 108, 104, 108, 74]) : Int) by rw [slenS]; simp only [List.length_cons, List.length_nil]; omega)]
    generalize hv6 : IntKind.wrap .i32 (bt (S [104, 108, 104, 108, 74]) ((n5 : Int).toNat)) = v6
    obtain ⟨H6, e6, g6, k6, n6⟩ := cell_st g5 1 (.int .i32 v6) (by show 1 < 4; omega) (L' := actL ⟨kd, v6, mk, qs⟩ z) rfl
    rw [e6]
    simp only [optK_s]
    obtain ⟨n7, en7, hn7⟩ := Pick_s (e + 9) K 4 H6 (by omega) (by omega)
    rw [show X (e + 10) n_hand_Pick [.int .i64 K, .int .i64 4] H6 = _ from en7]
    simp only [callK_s, asI_s]
    obtain ⟨v, hvb, hv⟩ := part_i64 hn7
    rw [if_pos (show (0 : Int) ≤ (n7 : Int) ∧ (n7 : Int) < 4 by omega), hv]
    simp only [optK_s, asI_s]
    have kH6 : Keep0 H H6 := k5.fresh k6 fun k e => by have e' : k = p := e; omega
    have k7 : Keep0 H6 (H6.new (.cells [.int .i64 v] t_int false 0 false)) := Keep.new _ _
    have w7 : Whole (H6.new (.cells [.int .i64 v] t_int false 0 false)) ⟨some ⟨H6.next, 0, none⟩, 1, 1⟩ (intL [v]) t_int 1 := .inr ⟨H6.next, 1, rfl, rfl, by simp, false, false, by simp [intL]⟩
    have g7 := k7.get (by omega) g6
    have n7' : (H6.new (.cells [.int .i64 v] t_int false 0 false)).next = H6.next + 1 := by simp
    generalize H6.new (.cells [.int .i64 v] t_int false 0 false) = H7 at *
    obtain ⟨H8, e8, g8, k8, n8⟩ := cell_st g7 3 (.slice (some ⟨H6.next, 0, none⟩) 1 1) (by show 3 < 4; omega) (L' := actL ⟨kd, v6, mk, [v]⟩ ⟨some ⟨H6.next, 0, none⟩, 1, 1⟩) rfl
    rw [e8]
    simp only [optK_s]
    have nH6 := kH6.1
    have f7 : ∀ k, Sl.at ⟨some ⟨H6.next, 0, none⟩, 1, 1⟩ k → k = H6.next := fun k ⟨ad, h1, h2⟩ => by cases h1; exact h2.symm
    exact act_fin hr hi s ((kH6.trans k7).fresh k8 fun k e => by have e' : k = p := e; omega) hp (by omega) g8 (show Act.ok ⟨kd, v6, mk, [v]⟩ from ⟨by show (1 : Nat) ≤ 1000; omega, fun n hn => by rw [List.mem_singleton.1 hn]; exact hvb⟩) (Whole.keep w7 k8 fun k e e' => by have := f7 k e; have e'' : k = p := e'; omega) fun k e => by have := f7 k e; omega

/-- the act's numbers, one by one -/
theorem act_params (hr : Rest H0 x2 x3 e m i) (hi : i ≤ 60) {H : Heap} {E : GD} {D : RD} {g : G} (s : AS H0 H E D g) {p : Nat} (hp : H.next ≤ p) {kd : Nat} {r : Int} {mk : Bool} {y0 : Sl} {l0 : List Int} (h0 : Ints H y0 l0) {K : Int} : ∀ (m1 j : Nat) {H1 : Heap} {y : Sl} {ps : List Int}, 17 - j < m1 → j ≤ 16 → Keep0 H H1 → p < H1.next →
    H1.get p = some (.cells [.int .i64 (kd : Int), .int .i32 r, .bool mk, y0.v] t_vt_Act false 0 false) → ps.length = j → (∀ n ∈ ps, 0 ≤ n ∧ n ≤ 9999) → Whole H1 y (intL ps) t_int 1 → (∀ k, y.at k → H.next ≤ k ∧ k ≠ p) →
    ∃ H', law21_GridActs_p1111110100100111011010 (e + 10) m m1 x2 x3 (some ⟨E.p, 0, none⟩) (some ⟨D.p, 0, none⟩) (i : Int) p K y (j : Int) H1 = some (.bool true, H') := fun m1 => by
  induction m1 with
  | zero => intro j H1 y ps hm; omega
  | succ m1 ih =>
    intro j H1 y ps hm hj k lp gp hpj hpb wy ny
    have last : ∃ H', law21_GridActs_p1111110100100111011010001 (e + 10) m m1 x2 x3 (some ⟨E.p, 0, none⟩) (some ⟨D.p, 0, none⟩) (i : Int) p K y (j : Int) false H1 = some (.bool true, H') := act_rune hr hi s k hp lp gp ⟨by omega, hpb⟩ wy ny m1
    have l3 : Heap.ld1 H1 ⟨p, 3, none⟩ = some y0.v := (ld1_s gp).trans rfl
    rw [law21_GridActs_p1111110100100111011010_s, l3]
    simp only [optK_s, asSL_k]
    by_cases c1 : j < y0.n
    · rw [if_pos (show decide ((j : Int) < (y0.n : Int)) = true from decide_eq_true (by omega))]
      by_cases c2 : j < 16
      · rw [decide_eq_true (show (j : Int) < 16 by omega), law21_GridActs_p1111110100100111011010001_eq, if_pos rfl, l3]
        simp only [optK_s, asSL_k]
        obtain ⟨ad, n, ea, el⟩ := (h0.new k).at c1
        rw [ea]
        simp only [optK_s]
        rw [if_pos (show (0 : Int) ≤ (j : Int) ∧ (j : Int) < (y0.n : Int) by omega), Int.toNat_natCast, el]
        simp only [optK_s, asI_s]
        obtain ⟨n1, e1, hn1⟩ := Pick_s (e + 9) n 60 H1 (by omega) (by omega)
        rw [show X (e + 10) n_hand_Pick [.int .i64 n, .int .i64 60] H1 = _ from e1]
        simp only [callK_s, asI_s, newK_s]
        obtain ⟨z, H2, e2, w2, k2, f2⟩ := push_int wy (by omega) (n1 : Int)
        rw [e2]
        simp only [asSL_k]
        rw [wi (by omega)]
        have n2 := k2.1
        have nk := k.1
        exact ih (j + 1) (by omega) (by omega) (k.fresh k2 fun k e => (ny k e).1) (by omega) ((k2.2 p lp fun e' => (ny p e').2 rfl).trans gp) (by simp [hpj]) (fun n hn => by
          rcases List.mem_append.1 hn with hn | hn
          · exact hpb n hn
          · rw [List.mem_singleton.1 hn]; omega) w2 fun k e => by have := f2 k e; omega
      · rw [decide_eq_false (show ¬ (j : Int) < 16 by omega)]
        exact last
    · rw [if_neg (show ¬ decide ((j : Int) < (y0.n : Int)) = true from dneg (by omega))]
      exact last

theorem acts_loop (e : Nat) (ha : ActsIn H0 x2) (hk : Ints H0 x3 l3) : ∀ (m i : Nat) {H : Heap} {E : GD} {D : RD} {g : G}, 61 - i < m → i ≤ 60 → AS H0 H E D g →
    ∃ H', law21_GridActs_p111111010 (e + 10) m x2 x3 (some ⟨E.p, 0, none⟩) (some ⟨D.p, 0, none⟩) (i : Int) H = some (.bool true, H') := fun m => by
  induction m with
  | zero => intro i H E D g hm; omega
  | succ m ih =>
    intro i H E D g hm hi s
    have last : ∃ H', law21_GridActs_p111111010001 (e + 10) m x2 x3 (some ⟨E.p, 0, none⟩) (some ⟨D.p, 0, none⟩) (i : Int) false H = some (.bool true, H') := by
      rw [law21_GridActs_p111111010001_eq, if_neg ff]
      exact ⟨H, rfl⟩
    rw [law21_GridActs_p111111010_s]
    by_cases c1 : i < x2.n
    · rw [if_pos (show decide ((i : Int) < (x2.n : Int)) = true from decide_eq_true (by omega))]
      by_cases c2 : i < 60
      · rw [decide_eq_true (show (i : Int) < 60 by omega), law21_GridActs_p111111010001_eq, if_pos rfl]
        obtain ⟨ad, kd, r, mk, y, l, ea, eb, el, ei⟩ := (ha.new s.k0) i c1
        rw [ea]
        simp only [optK_s]
        rw [if_pos (show (0 : Int) ≤ (i : Int) ∧ (i : Int) < (x2.n : Int) by omega), Int.toNat_natCast, el]
        simp only [optK_s, asA_s, newK_s]
        have k5 : Keep0 H (H.new (.cells [.int .i64 0, .int .i32 0, .bool false, .slice none 0 0] t_vt_Act false 0 false)) := Keep.new _ _
        have g5 : (H.new (.cells [.int .i64 0, .int .i32 0, .bool false, .slice none 0 0] t_vt_Act false 0 false)).get H.next = some (.cells [.int .i64 0, .int .i32 0, .bool false, .slice none 0 0] t_vt_Act false 0 false) := by simp
        have n5 : (H.new (.cells [.int .i64 0, .int .i32 0, .bool false, .slice none 0 0] t_vt_Act false 0 false)).next = H.next + 1 := by simp
        generalize H.new (.cells [.int .i64 0, .int .i32 0, .bool false, .slice none 0 0] t_vt_Act false 0 false) = H5 at *
        obtain ⟨H7, e7, g7, k7, n7⟩ := cell_stN g5 0 [.int .i64 kd, .int .i32 r, .bool mk, y.v] (by show 0 + 4 ≤ 4; omega) (L' := [.int .i64 kd, .int .i32 r, .bool mk, y.v]) rfl
        rw [show ∀ K : Value → Heap → Res, effK (.store 4) [P0 H.next, .agg ⟨[.int .i64 kd, .int .i32 r, .bool mk, y.v]⟩] H5 K = K (.tuple #[]) H7 from fun K => eff_store4 rfl rfl e7 K]
        have kH7 : Keep0 H H7 := k5.fresh k7 fun k e => by have e' : k = H.next := e; omega
        rw [(ld1_s g7).trans (show _ = some (.int .i64 kd) from rfl)]
        simp only [optK_s, asI_s]
        have rest : Rest H0 x2 x3 e m i := fun {H E D g} s => ih (i + 1) (by omega) (by omega) s
        have tail : ∀ K : Int, ∃ H', law21_GridActs_p1111110100100111 (e + 10) m x2 x3 (some ⟨E.p, 0, none⟩) (some ⟨D.p, 0, none⟩) (i : Int) H.next K H7 = some (.bool true, H') := fun K => by
          rw [law21_GridActs_p1111110100100111_eq]
          obtain ⟨n1, e1, hn1⟩ := Pick_s (e + 9) K 4 H7 (by omega) (by omega)
          rw [show X (e + 10) n_hand_Pick [.int .i64 K, .int .i64 4] H7 = _ from e1]
          simp only [callK_s, asI_s]
          rw [show IntKind.wrap .i64 (1 + (n1 : Int)) = ((1 + n1 : Nat) : Int) by rw [w64 (by omega)]; omega]
          obtain ⟨H8, e8, g8, k8, n8⟩ := cell_st g7 0 (.int .i64 ((1 + n1 : Nat) : Int)) (by show 0 < 4; omega) (L' := [.int .i64 ((1 + n1 : Nat) : Int), .int .i32 r, .bool mk, y.v]) rfl
          rw [e8]
          simp only [optK_s]
          exact act_params rest hi s (Nat.le_refl _) ei NN 0 (NN_big _ (by omega)) (by omega) (kH7.fresh k8 fun k e => by have e' : k = H.next := e; omega) (by omega) g8 rfl (fun n hn => absurd hn List.not_mem_nil) (.inl ⟨rfl, rfl⟩) fun k e => absurd e Sl.at_nil
        by_cases c3 : i < x3.n
        · rw [if_pos (show decide ((i : Int) < (x3.n : Int)) = true from decide_eq_true (by omega))]
          obtain ⟨ad3, n3, ea3, el3⟩ := (hk.new (s.k0.trans kH7)).at c3
          rw [ea3]
          simp only [optK_s]
          rw [if_pos (show (0 : Int) ≤ (i : Int) ∧ (i : Int) < (x3.n : Int) by omega), el3]
          simp only [optK_s, asI_s]
          exact tail n3
        · rw [if_neg (show ¬ decide ((i : Int) < (x3.n : Int)) = true from dneg (by omega))]
          exact tail kd
      · rw [decide_eq_false (show ¬ (i : Int) < 60 by omega)]
        exact last
    · rw [if_neg (show ¬ decide ((i : Int) < (x2.n : Int)) = true from dneg (by omega))]
      exact last
end

theorem GridActs_s (e : Nat) {H : Heap} (h3 : 3 < H.next) (x0 x1 : Int) {x2 x3 : Sl} {l3 : List Int} (ha : ActsIn H x2) (hk : Ints H x3 l3) : ∃ H', X (e + 11) n_law21_GridActs [.int .i64 x0, .int .i64 x1, x2.v, x3.v] H = some (.bool true, H') := by
  rw [law21_GridActs_eq]
  obtain ⟨r0, e1, h1⟩ := Pick_s (e + 9) x0 6 H (by omega) (by omega)
  obtain ⟨c0, e2, h2⟩ := Pick_s (e + 9) x1 10 H (by omega) (by omega)
  rw [show X (e + 10) n_hand_Pick [.int .i64 x0, .int .i64 6] H = _ from e1]
  simp only [callK_s, asI_s]
  rw [show X (e + 10) n_hand_Pick [.int .i64 x1, .int .i64 10] H = _ from e2]
  simp only [callK_s, asI_s]
  have hR : IntKind.wrap .i64 (1 + (r0 : Int)) = ((r0 + 1 : Nat) : Int) := by rw [w64 (by omega)]; omega
  have hC : IntKind.wrap .i64 (1 + (c0 : Int)) = ((c0 + 1 : Nat) : Int) := by rw [w64 (by omega)]; omega
  rw [hR, hC]
  obtain ⟨H2, A, e3, g3, k3, f3⟩ := New_s (e + 3) h3 (r := r0 + 1) (c := c0 + 1) (by omega) (by omega)
  rw [e3, callK_s, castPI, castPI]
  simp only [List.getElem?_cons_zero, List.getElem?_cons_succ, optK_s, P0, asP_s, asI_s]
  obtain ⟨H4, D, e4, r4, _, k4, o4, f4⟩ := rNew_s (e + 5) H2 (r := r0 + 1) (c := c0 + 1) (by omega) (by omega)
  rw [e4]
  simp only [callK_s, P0, asP_s]
  rw [known_s]
  simp only [callK_s, asB_s]
  rw [if_neg (show ¬ (!true) = true by simp), if_neg (show ¬ (!decide True) = true by simp), law21_GridActs_p1111101_eq, if_neg (show ¬ (some (⟨A.D.p, 0, none⟩ : Addr)).isNone = true by simp)]
  have n3 := k3.1
  have fa : ∀ k, A.D.foot k → A.foot k := fun k e => .inl e
  exact acts_loop e ha hk NN 0 (NN_big _ (by omega)) (by omega) ⟨k3.trans k4, g3.rep.new k4, g3.wf, r4, DU.fresh _ _ _, fun k e => f3 k (fa k e), fun k e => by have := o4 k e; omega, fun k e => by have := f4 k e; omega, fun k e => ⟨fun e' => by have := g3.lt (fa k e); have := o4 k e'; omega, fun e' => by have := g3.lt (fa k e); have := f4 k e'; omega⟩⟩
end Go.Proofs.YtjmiehbiindjdaaGreatDoor.dec

namespace Go.Proofs.YtjmiehbiindjdaaGreatDoor.frame
open Go Go.Cm Go.ChangeShapes Go.WideShapes Go.ChangeAt Go.RowKit

theorem ints_of {H : Type} {ws : List Win} {cs : List Value} {d : DataW H} (h : DR Tryz.prog ws 23 cs d) : ∃ (x : Sl) (l : List Int), cs = [x.v] ∧ dec.Ints (heapW ws) x l := by
  obtain ⟨x, es, rest, rfl, h1, _, h3, h4⟩ := h.slice_inv Tryz.underlying23
  have hc : Tryz.prog.cellsOf 3 = 1 := by kernel_rfl
  rw [hc] at h4
  have each : ∀ i, i < es.length → ∃ (n : Int) (b : Nat), x.a = some ⟨b, 0, none⟩ ∧ b < (heapW ws).next ∧ (heapW ws).ld1 ⟨b, i, none⟩ = some (.int .i64 n) := by
    intro i hi
    obtain ⟨b, y, q1, q2, q3, q4⟩ := h4 i _ (List.getElem?_eq_getElem hi)
    obtain ⟨n, g1, _⟩ := q4.int_inv Tryz.underlying3
    refine ⟨n, b, q1, (List.getElem?_eq_some_iff.1 q2).1, ?_⟩
    rw [ld1_s (heapW_get q2)]
    rw [Nat.mul_one] at g1
    have : ((y.cells.drop i).take 1)[0]? = some (.int .i64 n) := by rw [g1]; rfl
    simpa using this
  refine ⟨x, (List.range es.length).map fun i => if hi : i < es.length then (each i hi).choose else 0, rfl, ⟨by simp; omega, fun i n hi hn => ?_⟩⟩
  have hlt := (List.getElem?_eq_some_iff.1 hn).1
  simp only [List.length_map, List.length_range] at hlt
  rw [List.getElem?_map, List.getElem?_range hlt] at hn
  simp only [Option.map_some, Option.some.injEq, dif_pos hlt] at hn
  subst hn
  obtain ⟨b, q1, q2, q3⟩ := (each i hlt).choose_spec
  exact ⟨b, 0, q1, q2, by rw [Nat.zero_add]; exact q3⟩
set_option maxRecDepth 100000 in
theorem acts_of {H : Type} {ws : List Win} {cs : List Value} {d : DataW H} (h : DR Tryz.prog ws 22 cs d) : ∃ (x : Sl), cs = [x.v] ∧ dec.ActsIn (heapW ws) x := by
  obtain ⟨x, es, rest, rfl, h1, h2, h3, h4⟩ := h.slice_inv Tryz.underlying22
  have hc : Tryz.prog.cellsOf 33 = 4 := by kernel_rfl
  have hc3 : Tryz.prog.cellsOf 3 = 1 := by kernel_rfl
  have hc4 : Tryz.prog.cellsOf 4 = 1 := by kernel_rfl
  have hc10 : Tryz.prog.cellsOf 21 = 1 := by kernel_rfl
  have hc23 : Tryz.prog.cellsOf 23 = 1 := by kernel_rfl
  rw [hc] at h4
  refine ⟨x, rfl, fun i hi => ?_⟩
  have hi' : i < es.length := by omega
  obtain ⟨b, y, q1, q2, q3, q4⟩ := h4 i _ (List.getElem?_eq_getElem hi')
  generalize es[i] = dd at q4
  have hb : b < ws.length := (List.getElem?_eq_some_iff.1 q2).1
  obtain ⟨g1, ds, rfl, g2, g3⟩ := q4.struct_inv Tryz.underlying33
  rw [hc] at g1
  generalize hcs : (y.cells.drop (i * 4)).take 4 = cs at g1 g3
  match cs, g1 with
  | [c0, c1, c2, c3], _ =>
    match ds, g2 with
    | [d0, d1, d2, d3], _ =>
      have f0 := g3 0 _ _ rfl rfl
      have f1 := g3 1 _ _ rfl rfl
      have f2 := g3 2 _ _ rfl rfl
      have f3 := g3 3 _ _ rfl rfl
      simp only [hc3, hc4, hc10, hc23] at f0 f1 f2 f3
      obtain ⟨n0, e0, _⟩ := f0.int_inv Tryz.underlying3
      obtain ⟨n1, e1, _⟩ := f1.int_inv Tryz.underlying21
      obtain ⟨n2, e2, _⟩ := f2.bool_inv Tryz.underlying4
      obtain ⟨z, l, e3, o1⟩ := ints_of f3
      obtain rfl : c0 = .int .i64 n0 := by simpa using e0
      obtain rfl : c1 = .int .i32 n1 := by simpa using e1
      obtain rfl : c2 = .bool n2 := by simpa using e2
      obtain rfl : c3 = z.v := by simpa using e3
      refine ⟨⟨b, 0, none⟩, n0, n1, n2, z, l, q1, hb, ?_, o1⟩
      unfold Cm.ldA
      simp only [ap, Nat.zero_add]
      rw [ldN_s (heapW_get q2) (by omega), hcs]
end Go.Proofs.YtjmiehbiindjdaaGreatDoor.frame
