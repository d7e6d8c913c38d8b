/-
  grid: GridRegion.
  And: grid: texts of any runes, then plain ones; the screen's size stays. grid: GridAway. grid: GridSizes. grid: GridStyles. grid: cells that may be. grid: a text that is cut is decoded as the whole is. grid: lines and screens compared; a text in pieces. grid: GridShape. grid: bytes among a law's arguments.
-/
import Derived.Test.YtjmiehbiindjdaaDoorLineB
import Derived.Test.YtjmiehbiindjdaaDoorDec
namespace Go.Proofs.YtjmiehbiindjdaaDoor.dec
open Go Go.Cm

attribute [local congr] optK_congr asI_congr asN_congr asB_congr asS_congr asP_congr asA_congr asSL_congr callK_congr castT_congr chk_congr

theorem take_out {g : G} (w : WF g) {row n i : Nat} (hrow : row ≤ g.c.bottom) (hi : i < row ∨ g.c.bottom < i) : (g.take row n).L[i]? = g.L[i]? := by
  have hb := w.bot; have hL := w.Ln
  show (g.L.take row ++ (((g.L.drop row).take (g.c.bottom + 1 - row)).drop (min n (g.c.bottom + 1 - row)) ++ (List.replicate (min n (g.c.bottom + 1 - row)) (blankL g.c.cols) ++ g.L.drop (g.c.bottom + 1))))[i]? = _
  generalize hm : min n (g.c.bottom + 1 - row) = m
  have hmle : m ≤ g.c.bottom + 1 - row := by omega
  rcases hi with hi | hi
  · rw [List.getElem?_append_left (by rw [List.length_take]; omega), List.getElem?_take_of_lt hi]
  · rw [List.getElem?_append_right (by rw [List.length_take]; omega), List.length_take, Nat.min_eq_left (by omega), List.getElem?_append_right (by rw [List.length_drop, List.length_take, List.length_drop]; omega), List.length_drop, List.length_take, List.length_drop,
      List.getElem?_append_right (by rw [List.length_replicate]; omega), List.length_replicate, List.getElem?_drop]
    congr 1; omega
theorem put_out {g : G} (w : WF g) {row n i : Nat} (hrow : row ≤ g.c.bottom) (hi : i < row ∨ g.c.bottom < i) : (g.put row n).L[i]? = g.L[i]? := by
  have hb := w.bot; have hL := w.Ln
  show (g.L.take row ++ (List.replicate (min n (g.c.bottom + 1 - row)) (blankL g.c.cols) ++ (((g.L.drop row).take (g.c.bottom + 1 - row)).take (g.c.bottom + 1 - row - min n (g.c.bottom + 1 - row)) ++ g.L.drop (g.c.bottom + 1))))[i]? = _
  generalize hm : min n (g.c.bottom + 1 - row) = m
  have hmle : m ≤ g.c.bottom + 1 - row := by omega
  rcases hi with hi | hi
  · rw [List.getElem?_append_left (by rw [List.length_take]; omega), List.getElem?_take_of_lt hi]
  · rw [List.getElem?_append_right (by rw [List.length_take]; omega), List.length_take, Nat.min_eq_left (by omega), List.getElem?_append_right (by rw [List.length_replicate]; omega), List.length_replicate,
      List.getElem?_append_right (by rw [List.length_take, List.length_take, List.length_drop]; omega), List.length_take, List.length_take, List.length_drop, List.getElem?_drop]
    congr 1; omega

def dCell (i : Nat) : Cl := ⟨((48 + i : Nat) : Int), 0, 0, 0⟩
def dRow (i : Nat) : List Cl := [dCell i, blank, blank, blank]
structure Reg (top bottom : Nat) (g : G) : Prop where
  rows : g.c.rows = 10
  tp : g.c.top = top
  bt : g.c.bottom = bottom
  r1 : top ≤ g.c.row
  r2 : g.c.row ≤ bottom
  past : g.past = [] ∨ top = 0
  out : ∀ i, i < 10 → (i < top ∨ bottom < i) → g.L[i]? = some (dRow i)
section
variable {top bottom : Nat} {g : G} (h : Reg top bottom g)
include h
theorem Reg.take (w : WF g) {row : Nat} (h1 : top ≤ row) (h2 : row ≤ bottom) (n : Nat) : Reg top bottom (g.take row n) :=
  ⟨h.rows, h.tp, h.bt, h.r1, h.r2, h.past, fun i hi ho => by rw [take_out w (by rw [h.bt]; exact h2) (by rw [h.bt]; omega)]; exact h.out i hi ho⟩
theorem Reg.put (w : WF g) {row : Nat} (h1 : top ≤ row) (h2 : row ≤ bottom) (n : Nat) : Reg top bottom (g.put row n) :=
  ⟨h.rows, h.tp, h.bt, h.r1, h.r2, h.past, fun i hi ho => by rw [put_out w (by rw [h.bt]; exact h2) (by rw [h.bt]; omega)]; exact h.out i hi ho⟩
theorem Reg.due (b : Bool) : Reg top bottom (g.due b) := ⟨h.rows, h.tp, h.bt, h.r1, h.r2, h.past, h.out⟩
theorem Reg.move {row col : Int} (hr : bottom < 10) (h1 : (top : Int) ≤ row) (h2 : row ≤ (bottom : Int)) : Reg top bottom (g.move row col) := by
  have h0 := h.rows
  exact ⟨h0, h.tp, h.bt, by show top ≤ (min (max row 0) ((g.c.rows : Int) - 1)).toNat; omega, by show (min (max row 0) ((g.c.rows : Int) - 1)).toNat ≤ bottom; omega, h.past, h.out⟩
theorem Reg.keeps (h0 : top = 0) (l : List (List Cl)) : Reg top bottom (g.keeps l) := by
  obtain ⟨e1, e2, _⟩ := keeps_c l g
  exact ⟨by rw [e1]; exact h.rows, by rw [e1]; exact h.tp, by rw [e1]; exact h.bt, by rw [e1]; exact h.r1, by rw [e1]; exact h.r2, .inr h0, by rw [e2]; exact h.out⟩
theorem Reg.up (w : WF g) (htb : top ≤ bottom) (n : Nat) : Reg top bottom (g.up n) := by
  unfold G.up
  have ht := h.tp
  split
  · rename_i hc
    have w1 : WF (g.keeps (g.L.take (min n (g.c.bottom - g.c.top + 1)))) := w.keeps _ fun x hx => w.row_ok (List.mem_of_mem_take hx)
    exact (h.keeps (by omega) _).take w1 (by omega) (by omega) _
  · exact h.take w (by omega) (by omega) _
theorem Reg.down (w : WF g) (htb : top ≤ bottom) (n : Nat) : Reg top bottom (g.down n) := by
  unfold G.down
  exact h.put w (by have := h.tp; omega) (by have := h.tp; omega) n
theorem Reg.index (w : WF g) (htb : top ≤ bottom) (_hb : bottom < 10) : Reg top bottom g.index := by
  unfold G.index
  split
  · exact (h.due false).up (w.due false) htb 1
  · rename_i hc
    have h1 := h.r1; have h2 := h.r2; have h3 := h.bt
    split
    · exact ⟨h.rows, h.tp, h.bt, by show top ≤ g.c.row + 1; omega, by show g.c.row + 1 ≤ bottom; omega, h.past, h.out⟩
    · exact h.due false
theorem Reg.revi (w : WF g) (htb : top ≤ bottom) (hb : bottom < 10) : Reg top bottom (g.esc3 77) := by
  have e : g.esc3 77 = if g.c.row = g.c.top then (g.due false).down 1 else (g.due false).move ((g.c.row : Int) - 1) g.c.col := rfl
  rw [e]
  split
  · exact (h.due false).down (w.due false) htb 1
  · have h1 := h.r1; have h2 := h.r2; have h3 := h.tp
    exact (h.due false).move hb (by omega) (by omega)
theorem Reg.line (w : WF g) (hb : bottom < 10) (g' : G) (hg : g' = g.put g.c.row 1 ∨ g' = g.take g.c.row 1) : Reg top bottom (if g.c.row < g.c.top ∨ g.c.bottom < g.c.row then g else g'.move g.c.row 0) := by
  split
  · exact h
  · have h1 := h.r1; have h2 := h.r2
    have h' : Reg top bottom g' := by
      rcases hg with e | e <;> rw [e]
      · exact h.put w h.r1 h.r2 1
      · exact h.take w h.r1 h.r2 1
    exact h'.move hb (by omega) (by omega)
end

def rgA : Nat → Act
  | 0 => ⟨2, 10, false, []⟩
  | 1 => ⟨3, 77, false, []⟩
  | 2 => csiA 83 [0]
  | 3 => csiA 84 [2]
  | 4 => ⟨3, 68, false, []⟩
  | 5 => csiA 76 [0]
  | _ => csiA 77 [0]
theorem Reg.step {top bottom : Nat} {g : G} (h : Reg top bottom g) (w : WF g) (htb : top ≤ bottom) (hb : bottom < 10) {n : Nat} (hn : n < 7) : Reg top bottom (g.doA (rgA n)) := by
  have : n = 0 ∨ n = 1 ∨ n = 2 ∨ n = 3 ∨ n = 4 ∨ n = 5 ∨ n = 6 := by omega
  rcases this with rfl | rfl | rfl | rfl | rfl | rfl | rfl
  · exact h.index w htb hb
  · exact h.revi w htb hb
  · exact h.up w htb 1
  · exact h.down w htb 2
  · exact h.index w htb hb
  · exact h.line w hb (g.put g.c.row 1) (.inl rfl)
  · exact h.line w hb (g.take g.c.row 1) (.inr rfl)

/-- a grid that a law holds; all that was there ahead of it is as it was -/
structure Lz (H0 H : Heap) (A : GA) (g : G) : Prop where
  lv : Lv (fun _ => False) H0 H A g
  k0 : Keep0 H0 H
  fa : ∀ k, A.foot k → H0.next ≤ k
section
variable {H0 H : Heap} {A : GA} {g : G} (h : Lz H0 H A g)
include h
theorem Lz.new {H1 : Heap} (k : Keep0 H H1) : Lz H0 H1 A g := ⟨h.lv.new k, h.k0.trans k, h.fa⟩
end
theorem Lz.start {H H' : Heap} (t : Tab H) {A : GA} {r c : Nat} (h : Gr H' A (GP.new r c)) (k : Keep0 H H') (f : ∀ k, A.foot k → H.next ≤ k) : Lz H H' A (G.fresh r c []) :=
  ⟨⟨t.keep k id id, ⟨_, h, rfl, rfl, rfl⟩, fun _ hk => hk.elim, k.1, fun _ hk => hk.elim⟩, k, f⟩

end Go.Proofs.YtjmiehbiindjdaaDoor.dec

namespace Go.Proofs.YtjmiehbiindjdaaDoor.dec
open Go Go.Cm

/-! ### the size -/
def Sz (g g' : G) : Prop := g'.c.rows = g.c.rows ∧ g'.c.cols = g.c.cols
theorem Sz.refl (g : G) : Sz g g := ⟨rfl, rfl⟩
theorem Sz.trans {g g' g'' : G} (h : Sz g g') (h' : Sz g' g'') : Sz g g'' := ⟨h'.1.trans h.1, h'.2.trans h.2⟩
theorem Sz.of {g g' : G} (h : g'.c = g.c) : Sz g g' := by unfold Sz; rw [h]; exact ⟨rfl, rfl⟩
theorem up_c (g : G) (n : Nat) : (g.up n).c = g.c := by
  unfold G.up
  split
  · exact (keeps_c _ _).1
  · rfl
theorem index_sz (g : G) : Sz g g.index := by
  unfold G.index
  split
  · exact (Sz.of (g := g.due false) (up_c _ _) : Sz _ _)
  split <;> exact ⟨rfl, rfl⟩
theorem print_sz (g : G) (r : Int) : Sz g (g.print r) := by
  have p0 : ∀ g : G, Sz g (g.print0 r) := fun g => by unfold G.print0; dsimp only; split <;> exact ⟨rfl, rfl⟩
  unfold G.print
  split
  · exact ((index_sz { g with c := { g.c with col := 0 } } : Sz _ _).trans (p0 _) : Sz _ _)
  · exact p0 g
theorem control_sz (g : G) (r : Int) : Sz g (g.control r) := by
  unfold G.control
  split; · exact ⟨rfl, rfl⟩
  split; · exact ⟨rfl, rfl⟩
  split; · exact index_sz g
  split <;> exact ⟨rfl, rfl⟩
theorem esc_sz (g : G) (r : Int) : Sz g (g.esc r) := by
  unfold G.esc
  split
  · unfold G.esc3
    split; · exact index_sz g
    split; · exact (index_sz { g with c := { g.c with col := 0 } } : Sz _ _)
    split <;> exact ⟨rfl, rfl⟩
  split; · exact ⟨rfl, rfl⟩
  split; · exact ⟨rfl, rfl⟩
  split; · exact ⟨rfl, rfl⟩
  split <;> exact ⟨rfl, rfl⟩
theorem alternate_sz (g : G) (on : Bool) : Sz g (g.alternate on) := by
  unfold G.alternate
  split <;> exact ⟨rfl, rfl⟩
theorem foldl_sz {α : Type} {f : G → α → G} (hf : ∀ g a, Sz g (f g a)) : ∀ (l : List α) (g : G), Sz g (l.foldl f g) := fun l => by
  induction l with
  | nil => intro g; exact Sz.refl g
  | cons a l ih => intro g; exact (hf g a).trans (ih _)
theorem modes_sz (g : G) (a : Act) : Sz g (g.modes a) := by
  unfold G.modes
  split
  · refine foldl_sz (fun g n => ?_) _ _
    unfold G.mode
    split; · exact ⟨rfl, rfl⟩
    split; · exact ⟨rfl, rfl⟩
    split; · exact alternate_sz g _
    exact Sz.refl g
  · exact Sz.refl g
theorem edit_sz (g : G) (a : Act) (n : Nat) : Sz g (g.edit a n) := by
  unfold G.edit
  split
  · unfold G.erase
    split
    · split <;> exact ⟨rfl, rfl⟩
    · exact Sz.of ((wipeIfs_c _ _ _ _).trans (eraseLine_c _ _))
  split; · exact Sz.of (eraseLine_c _ _)
  split
  · split; · exact Sz.refl g
    split <;> exact ⟨rfl, rfl⟩
  split; · exact ⟨rfl, rfl⟩
  split; · exact Sz.of (up_c _ _)
  split; · exact ⟨rfl, rfl⟩
  split
  · unfold G.region
    split <;> exact ⟨rfl, rfl⟩
  split
  · unfold G.clearTabs
    split; · exact ⟨rfl, rfl⟩
    split <;> exact ⟨rfl, rfl⟩
  exact Sz.refl g
theorem csi_sz (g : G) (a : Act) : Sz g (g.csi a) := by
  unfold G.csi
  split; · exact ⟨rfl, rfl⟩
  split; · exact ⟨rfl, rfl⟩
  split; · exact ⟨rfl, rfl⟩
  split; · exact ⟨rfl, rfl⟩
  split; · exact ⟨rfl, rfl⟩
  split; · exact ⟨rfl, rfl⟩
  split; · exact ⟨rfl, rfl⟩
  split; · exact foldl_sz (f := G.style) (fun g n => ⟨rfl, rfl⟩) _ _
  split
  · split <;> exact ⟨rfl, rfl⟩
  exact edit_sz g a _
theorem doA_sz (g : G) (a : Act) : Sz g (g.doA a) := by
  unfold G.doA
  split; · exact print_sz g _
  split; · exact control_sz g _
  split; · exact esc_sz g _
  split
  · split
    · exact modes_sz g a
    · exact csi_sz g a
  exact Sz.refl g
theorem acts_sz (al : List Act) (g : G) : Sz g (al.foldl G.doA g) := foldl_sz doA_sz al g
end Go.Proofs.YtjmiehbiindjdaaDoor.dec

namespace Go.Proofs.YtjmiehbiindjdaaDoor.dec
open Go Go.Cm

attribute [local congr] optK_congr asI_congr asN_congr asB_congr asS_congr asP_congr asA_congr asSL_congr callK_congr castT_congr chk_congr

/-! ### what is put away stays -/
def Kp (g g' : G) : Prop := g'.other = g.other ∧ g'.past = g.past ∧ g'.c.arow = g.c.arow ∧ g'.c.acol = g.c.acol
theorem Kp.refl (g : G) : Kp g g := ⟨rfl, rfl, rfl, rfl⟩
theorem Kp.trans {g g' g'' : G} (h : Kp g g') (h' : Kp g' g'') : Kp g g'' := ⟨h'.1.trans h.1, h'.2.1.trans h.2.1, h'.2.2.1.trans h.2.2.1, h'.2.2.2.trans h.2.2.2⟩
/-- the alternate screen is there, and gone -/
def onA : Act := ⟨4, 104, true, [1049]⟩
def offA : Act := ⟨4, 108, true, [1049]⟩
theorem Says.on : Says [27, 91, 63, 49, 48, 52, 57, 104] [onA] := .csi (by decide) ⟨rfl, rfl⟩
theorem Says.off : Says [27, 91, 63, 49, 48, 52, 57, 108] [offA] := .csi (by decide) ⟨rfl, rfl⟩
/-! ### the walk -/
theorem WF.acts : ∀ (al : List Act) {g : G}, (∀ a ∈ al, a.ok) → WF g → WF (al.foldl G.doA g) := fun al => by
  induction al with
  | nil => intro g _ w; exact w
  | cons a al ih => intro g h w; exact ih (fun b hb => h b (by simp [hb])) (w.doA (h a (by simp)))
/-- a grid that a law holds; blocks in P are as they were in Hb -/
structure Lq (P : Nat → Prop) (Hb H0 H : Heap) (A : GA) (g : G) : Prop where
  lv : Lv P Hb H A g
  k0 : Keep0 H0 H
  fa : ∀ k, A.foot k → H0.next ≤ k
section
variable {P : Nat → Prop} {Hb H0 H : Heap} {A : GA} {g : G} (h : Lq P Hb H0 H A g)
include h
theorem Lq.new {H1 : Heap} (k : Keep0 H H1) : Lq P Hb H0 H1 A g := ⟨h.lv.new k, h.k0.trans k, h.fa⟩
end
/-- a screen that was taken -/
structure Shot (H : Heap) (b : Nat) (c : Sc) (L : List (List Cl)) (y : Sl) (p : Q) : Prop where
  g : H.get b = some (.cells (scrL c y) t_api_Screen false 0 false)
  o : Outer H y p
  r : Rows H p
  m : p.map Prod.snd = L
theorem Shot.keep {S : Nat → Prop} {H H' : Heap} {b : Nat} {c : Sc} {L : List (List Cl)} {y : Sl} {p : Q} (h : Shot H b c L y p) (hb : b < H.next) (k : Keep S H H') (h1 : ¬ S b) (h2 : ∀ k, y.at k → ¬ S k) (h3 : ∀ k, bl p k → ¬ S k) : Shot H' b c L y p :=
  ⟨(k.2 b hb h1).trans h.g, Whole.keep h.o k h2, h.r.keep k h3, h.m⟩
/-- one cell of it -/
theorem Shot.row {H : Heap} {b : Nat} {c : Sc} {L : List (List Cl)} {y : Sl} {p : Q} (h : Shot H b c L y p) {a : Nat} {l : List Cl} (ha : L[a]? = some l) : Heap.ld1 H ⟨b, 2, none⟩ = some y.v ∧ ∃ ad x, y.a = some ad ∧ (y.n : Int) = (L.length : Int) ∧ Heap.ld1 H (ap ad (((a : Int).toNat) * 1)) = some (wsl x l.length).v ∧ Row H x l := by
  have h0 := congrArg (fun l => l[a]?) h.m
  simp only [List.getElem?_map] at h0
  rw [ha] at h0
  obtain ⟨x, hx, hx2⟩ : ∃ x, p[a]? = some x ∧ x.2 = l := by
    cases hpa : p[a]? with
    | none => rw [hpa] at h0; cases h0
    | some x => rw [hpa] at h0; exact ⟨x, rfl, by simpa using h0⟩
  obtain ⟨bb, v, _⟩ := Outer.ov h.o (h.o.some (by intro e; rw [e] at hx; cases hx))
  obtain ⟨ad, ea, eb⟩ := v.ld hx
  have yn := h.o.n
  have hl : p.length = L.length := by rw [← h.m, List.length_map]
  refine ⟨(ld1_s h.g).trans rfl, ad, x.1, ea, by omega, ?_, ?_⟩
  · rw [← hx2]; exact eb
  · rw [← hx2]; exact h.r.1 x (List.mem_of_getElem? hx)

theorem Says.nl : Says [10] [⟨2, 10, false, []⟩] := .rune (by decide) fun c hc => by cases c; cases hc; exact ⟨rfl, rfl⟩
end Go.Proofs.YtjmiehbiindjdaaDoor.dec

namespace Go.Proofs.YtjmiehbiindjdaaDoor.dec
open Go Go.Cm

attribute [local congr] optK_congr asI_congr asN_congr asB_congr asS_congr asP_congr asA_congr asSL_congr callK_congr castT_congr chk_congr

/-! ### greater, and as it was -/
/-! ### a grid with its parser, resized -/
theorem Gr.step {H H' : Heap} {A : GA} {q : GP} {D' : GD} {g' : G} (h : Gr H A q) (r : Rep H' D' g') (w : WF g') (s : Stp H A.D H' D') (t : 3 < H.next) : Gr H' ⟨D', A.dp, A.s, A.h⟩ ⟨g', q.c, q.w⟩ ∧ GStp H A H' ⟨D', A.dp, A.s, A.h⟩ := by
  have lt : ∀ k, A.foot k → k < H.next := fun k e => h.lt e
  have hs1 : ∀ k, A.s.at k → ¬ A.D.foot k := h.f3
  have hh1 : ∀ k, A.h.at k → ¬ A.D.foot k := h.f4
  have ft : ∀ k, D'.foot k → A.D.foot k ∨ H.next ≤ k := s.ft
  have pd2 : PD H' A.D.pp A.dp A.s A.h q.c q.w := h.pd.keep s.kp h.f1 h.f2 hs1 hh1
  have foot2 : ∀ k, (⟨D', A.dp, A.s, A.h⟩ : GA).foot k → A.foot k ∨ H.next ≤ k := fun k e => by
    rcases e with e | e | e | e | e
    · exact (ft k e).imp .inl id
    · have e' : k = D'.pp := e
      rw [s.pp] at e'
      exact .inl (.inr (.inl e'))
    · exact .inl (.inr (.inr (.inl e)))
    · exact .inl (.inr (.inr (.inr (.inl e))))
    · exact .inl (.inr (.inr (.inr (.inr e))))
  refine ⟨⟨r, w, by rw [show (⟨D', A.dp, A.s, A.h⟩ : GA).D.pp = A.D.pp from s.pp]; exact pd2, fun k e => (foot2 k e).elim (h.lo k) (fun e => by omega), ?_, ?_, ?_, ?_⟩, ⟨s.p, s.kp.mono fun k _ e => .inl e, foot2⟩⟩
  · show ¬ D'.foot D'.pp
    rw [s.pp]
    exact fun e => (ft _ e).elim h.f1 (fun e => by have := lt A.D.pp (.inr (.inl rfl)); omega)
  · show ¬ D'.foot A.dp
    exact fun e => (ft _ e).elim h.f2 (fun e => by have := lt A.dp (.inr (.inr (.inl rfl))); omega)
  · exact fun k e e' => (ft k e').elim (hs1 k e) (fun e' => by have := lt k (.inr (.inr (.inr (.inl e)))); omega)
  · exact fun k e e' => (ft k e').elim (hh1 k e) (fun e' => by have := lt k (.inr (.inr (.inr (.inr e)))); omega)
/-- a grid that a law holds, its parser anywhere -/
structure Ge (H0 H : Heap) (A : GA) (q : GP) : Prop where
  t : Tab H
  r : Gr H A q
  k0 : Keep0 H0 H
  fa : ∀ k, A.foot k → H0.next ≤ k
section
variable {H0 H : Heap} {A : GA} {q : GP} (h : Ge H0 H A q)
include h
theorem Ge.new {H1 : Heap} (k : Keep0 H H1) : Ge H0 H1 A q := ⟨h.t.keep k id id, h.r.keep k fun _ _ e => e, h.k0.trans k, h.fa⟩
theorem Ge.stp {H' : Heap} {A' : GA} {q' : GP} (r : Gr H' A' q') (s : GStp H A H' A') : Ge H0 H' A' q' :=
  ⟨h.t.keep s.kp (fun e => by have := h.r.lo _ e; omega) (fun e => by have := h.r.lo _ e; omega), r, h.k0.fresh s.kp h.fa, fun k e => (s.ft k e).elim (h.fa k) fun e => by have := h.k0.1; omega⟩
theorem Ge.write (d : Nat) {x : Sl} {l : W} (hx : HV H x l) (hl : l.length ≤ 1900000) :
    ∃ H' A', X (d + 11) n_grid_Grid_Write [.pointer (some ⟨A.D.p, 0, none⟩), x.v] H = some (.tuple #[], H') ∧ Ge H0 H' A' (q.write G.doA l) ∧ A'.D.p = A.D.p ∧ GStp H A H' A' := by
  obtain ⟨H', A', e, h', s'⟩ := WriteA_s d h.t h.r hx hl
  exact ⟨H', A', e, h.stp h' s', s'.p, s'⟩
theorem Ge.resize (d : Nat) {R C : Nat} (hR : 1 ≤ R ∧ R ≤ 60) (hC : 1 ≤ C ∧ C ≤ 120) :
    ∃ H' A', X (d + 7) n_grid_Grid_Resize [.pointer (some ⟨A.D.p, 0, none⟩), .int .i64 (R : Int), .int .i64 (C : Int)] H = some (.int .i64 0, H') ∧ Ge H0 H' A' ⟨q.g.resize R C, q.c, q.w⟩ ∧ A'.D.p = A.D.p ∧ GStp H A H' A' := by
  obtain ⟨H', D', e, r', s'⟩ := resize_s d h.r.rep h.r.wf hR hC
  obtain ⟨g', st⟩ := h.r.step r' (h.r.wf.resize hR hC) s' h.t.lt
  exact ⟨H', _, e, h.stp g' st, st.p, st⟩
end

end Go.Proofs.YtjmiehbiindjdaaDoor.dec

namespace Go.Proofs.YtjmiehbiindjdaaDoor.dec
open Go Go.Cm

attribute [local congr] optK_congr asI_congr asN_congr asB_congr asS_congr asP_congr asA_congr asSL_congr callK_congr castT_congr chk_congr

/-- the screen when the cells L are printed; the style is s -/
def gs (L : List Cl) (s : Cl) : G := { G.fresh 4 30 [] with L := (L ++ List.replicate (30 - L.length) blank) :: List.replicate 3 (List.replicate 30 blank), c := { Sc.init 4 30 with col := L.length, st := s } }
theorem fin8 {n : Int} (h : 0 ≤ n ∧ n < 8) : ∃ m : Fin 8, n = ((m.val : Nat) : Int) := ⟨⟨n.toNat, by omega⟩, by show n = ((n.toNat : Nat) : Int); omega⟩

/-- the state within the loop -/
structure Sy (H0 H : Heap) (A : GA) (L : List Cl) (s now : Cl) (x5 : Sl) (x6 : Nat) : Prop where
  lv : Lv (fun k => k = x6 ∨ x5.at k) H H A (gs L s)
  now : H.get x6 = some (.cells (cellV now) t_api_Cell false 0 false)
  want : Whole H x5 (flat L) t_api_Cell 4
  sep : ¬ x5.at x6
  k0 : Keep0 H0 H
  fa : ∀ k, A.foot k → H0.next ≤ k
  f5 : ∀ k, x5.at k → H0.next ≤ k
  f6 : H0.next ≤ x6
  t : 3 < H0.next
theorem Lv.keepS {P Q S : Nat → Prop} {H0 H H1 : Heap} {A : GA} {g : G} (h : Lv P H0 H A g) (k : Keep S H H1) (hs : ∀ k, A.foot k → ¬ S k) (h2 : ∀ k, S k → 3 < k) (hQ : ∀ k, Q k → k < H1.next ∧ ¬ A.foot k) : Lv Q H1 H1 A g := by
  obtain ⟨q, h1, h3⟩ := h.r
  exact ⟨h.t.keep k (fun e => by have := h2 _ e; omega) (fun e => by have := h2 _ e; omega), ⟨q, h1.keep k hs, h3⟩, fun i hi => ⟨(hQ i hi).1, rfl⟩, Nat.le_refl _, fun i hi => (hQ i hi).2⟩
section
variable {H0 H : Heap} {A : GA} {L : List Cl} {s now : Cl} {x5 : Sl} {x6 : Nat} (h : Sy H0 H A L s now x5 x6)
include h
theorem Sy.new {H' : Heap} (k : Keep0 H H') : Sy H0 H' A L s now x5 x6 :=
  ⟨(h.lv.new k).more fun i hi => ⟨Nat.lt_of_lt_of_le (h.lv.k i hi).1 k.1, h.lv.f i hi⟩, (k.2 _ (h.lv.k _ (.inl rfl)).1 id).trans h.now, Whole.keep h.want k fun _ _ e => e, h.sep, h.k0.trans k, h.fa, h.f5, h.f6, h.t⟩
/-- what is wanted next is turned -/
theorem Sy.put (now' : Cl) : Sy H0 (H.put x6 (.cells (cellV now') t_api_Cell false 0 false)) A L s now' x5 x6 := by
  have k : Keep (fun k => k = x6) H (H.put x6 (.cells (cellV now') t_api_Cell false 0 false)) := Keep.put _ _ _ rfl
  have t := h.t; have f6 := h.f6
  exact ⟨h.lv.keepS k (fun i e e' => h.lv.f x6 (.inl rfl) (by have e'' : i = x6 := e'; rw [← e'']; exact e)) (fun i e => by have e' : i = x6 := e; omega) fun i hi => ⟨(h.lv.k i hi).1, h.lv.f i hi⟩, by simp,
    Whole.keep h.want k fun i e e' => h.sep (by have e'' : i = x6 := e'; rw [← e'']; exact e), h.sep, h.k0.fresh k fun i e => by have e' : i = x6 := e; omega, h.fa, h.f5, h.f6, h.t⟩
end
theorem Says.q : Says [113] [⟨1, 113, false, []⟩] := .prints (l := [113]) (by decide)
end Go.Proofs.YtjmiehbiindjdaaDoor.dec

namespace Go.Proofs.YtjmiehbiindjdaaDoor.dec
open Go Go.Cm

def okS (c : Cl) : Prop := (0 ≤ c.f ∧ c.f ≤ 8) ∧ (0 ≤ c.b ∧ c.b ≤ 8) ∧ 0 ≤ c.s ∧ c.s ≤ 7
def okC (c : Cl) : Prop := (32 ≤ c.r ∧ c.r ≠ 127) ∧ okS c
theorem blank_ok : okC blank := ⟨⟨by decide, by decide⟩, ⟨by decide, by decide⟩, ⟨by decide, by decide⟩, by decide, by decide⟩
theorem zero_ok : okS zeroC := ⟨⟨by decide, by decide⟩, ⟨by decide, by decide⟩, by decide, by decide⟩

/-! ### all of a list -/
def Al {α : Type} (p : α → Prop) (l : List α) : Prop := ∀ x ∈ l, p x
section
variable {α : Type} {p : α → Prop} {l : List α}
theorem Al.app {l2 : List α} (h : Al p l) (h2 : Al p l2) : Al p (l ++ l2) := fun x hx => (List.mem_append.1 hx).elim (h x) (h2 x)
theorem Al.take (h : Al p l) (n : Nat) : Al p (l.take n) := fun x hx => h x (List.mem_of_mem_take hx)
theorem Al.drop (h : Al p l) (n : Nat) : Al p (l.drop n) := fun x hx => h x (List.mem_of_mem_drop hx)
theorem Al.rep {x : α} (h : p x) (n : Nat) : Al p (List.replicate n x) := fun y hy => by rw [(List.mem_replicate.1 hy).2]; exact h
theorem Al.modify (h : Al p l) (i : Nat) {f : α → α} (hf : ∀ x, p x → p (f x)) : Al p (l.modify i f) := fun x hx => by
  obtain ⟨j, hj, e⟩ := List.getElem_of_mem hx
  rw [List.getElem_modify] at e
  split at e
  · rw [← e]; exact hf _ (h _ (List.getElem_mem _))
  · rw [← e]; exact h _ (List.getElem_mem _)
theorem Al.set (h : Al p l) (i : Nat) {x : α} (hx : p x) : Al p (l.set i x) := fun y hy => (List.mem_or_eq_of_mem_set hy).elim (h y) fun e => by rw [e]; exact hx
theorem Al.map {β : Type} {q : β → Prop} (h : Al p l) {f : α → β} (hf : ∀ x, p x → q (f x)) : Al q (l.map f) := fun y hy => by
  obtain ⟨x, hx, rfl⟩ := List.mem_map.1 hy
  exact hf x (h x hx)
end
/-- cells of a screen -/
abbrev okL (L : List (List Cl)) : Prop := Al (Al okC) L
theorem blanks_ok (n : Nat) : Al okC (List.replicate n blank) := Al.rep blank_ok n
theorem sheet_ok (m n : Nat) : okL (List.replicate m (List.replicate n blank)) := Al.rep (blanks_ok n) m

structure OkG (g : G) : Prop where
  L : okL g.L
  o : ∀ M, g.other = some M → okL M
  st : okS g.c.st
  sst : okS g.c.sst
  ast : okS g.c.ast
/-- the cells are others, the styles are not -/
theorem OkG.cells {g g' : G} (h : OkG g) (hL : okL g'.L) (ho : g'.other = g.other) (h1 : g'.c.st = g.c.st) (h2 : g'.c.sst = g.c.sst) (h3 : g'.c.ast = g.c.ast) : OkG g' :=
  ⟨hL, fun M hM => h.o M (by rw [← ho]; exact hM), by rw [h1]; exact h.st, by rw [h2]; exact h.sst, by rw [h3]; exact h.ast⟩
theorem OkG.sc {g g' : G} (h : OkG g) (hL : g'.L = g.L) (ho : g'.other = g.other) (h1 : g'.c.st = g.c.st) (h2 : g'.c.sst = g.c.sst) (h3 : g'.c.ast = g.c.ast) : OkG g' := h.cells (by rw [hL]; exact h.L) ho h1 h2 h3
theorem OkG.keeps {g : G} (h : OkG g) (l : List (List Cl)) : OkG (g.keeps l) := by
  obtain ⟨e1, e2, e3, _⟩ := keeps_c l g
  exact h.sc e2 e3 (by rw [e1]) (by rw [e1]) (by rw [e1])
theorem OkG.move {g : G} (h : OkG g) (a b : Int) : OkG (g.move a b) := h.sc rfl rfl rfl rfl rfl
theorem OkG.due {g : G} (h : OkG g) (b : Bool) : OkG (g.due b) := h.sc rfl rfl rfl rfl rfl
theorem OkG.take {g : G} (h : OkG g) (row n : Nat) : OkG (g.take row n) := h.cells ((h.L.take _).app ((((h.L.drop _).take _).drop _).app ((sheet_ok _ _).app (h.L.drop _)))) rfl rfl rfl rfl
theorem OkG.put {g : G} (h : OkG g) (row n : Nat) : OkG (g.put row n) := h.cells ((h.L.take _).app ((sheet_ok _ _).app ((((h.L.drop _).take _).take _).app (h.L.drop _)))) rfl rfl rfl rfl
theorem OkG.up {g : G} (h : OkG g) (n : Nat) : OkG (g.up n) := by
  unfold G.up
  split
  · exact (h.keeps _).take _ _
  · exact h.take _ _
theorem OkG.down {g : G} (h : OkG g) (n : Nat) : OkG (g.down n) := h.put _ _
theorem OkG.index {g : G} (h : OkG g) : OkG g.index := by
  unfold G.index
  split
  · exact (h.due false).up 1
  split
  · exact h.sc rfl rfl rfl rfl rfl
  · exact h.due false
theorem OkG.print0 {g : G} (h : OkG g) {r : Int} (hr : 32 ≤ r ∧ r ≠ 127) : OkG (g.print0 r) := by
  have hc : okC { g.c.st with r := r } := ⟨hr, h.st⟩
  have h2 : okL (if g.c.insert then g.L.modify g.c.row (fun l => insRow l g.c.col) else g.L) := by
    split
    · exact h.L.modify _ fun l hl => (hl.take _).app ((hl.drop _).take _)
    · exact h.L
  have h3 := h2.modify g.c.row (f := fun l => l.set g.c.col { g.c.st with r := r }) fun l hl => hl.set _ hc
  unfold G.print0
  dsimp only
  split
  · exact h.cells h3 rfl rfl rfl rfl
  · exact h.cells h3 rfl rfl rfl rfl
theorem OkG.print {g : G} (h : OkG g) {r : Int} (hr : 32 ≤ r ∧ r ≠ 127) : OkG (g.print r) := by
  unfold G.print
  split
  · exact (OkG.index (g := { g with c := { g.c with col := 0 } }) (h.sc rfl rfl rfl rfl rfl)).print0 hr
  · exact h.print0 hr
theorem OkG.control {g : G} (h : OkG g) (r : Int) : OkG (g.control r) := by
  unfold G.control
  split; · exact h.move _ _
  split; · exact h.move _ _
  split; · exact h.index
  split; · exact h.move _ _
  exact h
theorem OkG.fresh (r c : Nat) (past : List (List Cl)) : OkG (G.fresh r c past) := ⟨sheet_ok _ _, fun _ h => (nomatch h), zero_ok, zero_ok, zero_ok⟩
theorem OkG.esc {g : G} (h : OkG g) (r : Int) : OkG (g.esc r) := by
  unfold G.esc
  split
  · unfold G.esc3
    split; · exact h.index
    split; · exact OkG.index (g := { g with c := { g.c with col := 0 } }) (h.sc rfl rfl rfl rfl rfl)
    split; · exact (h.due false).down 1
    exact (h.due false).move _ _
  split; · exact ⟨h.L, h.o, h.st, h.st, h.ast⟩
  split
  · exact (OkG.move (g := { g with c := { g.c with row := g.c.srow, col := g.c.scol, due := g.c.sdue, st := g.c.sst } }) ⟨h.L, h.o, h.sst, h.sst, h.ast⟩ _ _).due _
  split; · exact OkG.fresh _ _ _
  split; · exact h.sc rfl rfl rfl rfl rfl
  exact h
theorem OkG.alternate {g : G} (h : OkG g) (on : Bool) : OkG (g.alternate on) := by
  unfold G.alternate
  split
  · exact ⟨sheet_ok _ _, fun M e => by cases e; exact h.L, h.st, h.sst, h.st⟩
  · rename_i M hM
    exact ⟨h.o M hM, fun _ e => (nomatch e), h.ast, h.sst, zero_ok⟩
  · exact h
theorem foldl_ok {α : Type} {f : G → α → G} (hf : ∀ g a, OkG g → OkG (f g a)) : ∀ (l : List α) {g : G}, OkG g → OkG (l.foldl f g) := fun l => by
  induction l with
  | nil => intro g h; exact h
  | cons a l ih => intro g h; exact ih (hf g a h)
theorem OkG.modes {g : G} (h : OkG g) (a : Act) : OkG (g.modes a) := by
  unfold G.modes
  split
  · refine foldl_ok (fun g n h => ?_) _ h
    unfold G.mode
    split; · exact h.sc rfl rfl rfl rfl rfl
    split; · exact h.sc rfl rfl rfl rfl rfl
    split; · exact h.alternate _
    exact h
  · exact h
theorem bits8 : ∀ n : Fin 8, ∀ k ∈ [(1 : Int), 2, 4], (0 ≤ bitsI .or .i64 ((n.val : Nat) : Int) k ∧ bitsI .or .i64 ((n.val : Nat) : Int) k ≤ 7) ∧ (0 ≤ bitsI .andNot .i64 ((n.val : Nat) : Int) k ∧ bitsI .andNot .i64 ((n.val : Nat) : Int) k ≤ 7) := by decide
theorem sty_ok {c : Cl} (h : okS c) (k : Int) : okS (c.sty k) := by
  obtain ⟨h1, h2, h3⟩ := h
  obtain ⟨m, hm⟩ := fin8 (n := c.s) (by omega)
  have b1 := bits8 m 1 (by decide)
  have b2 := bits8 m 2 (by decide)
  have b4 := bits8 m 4 (by decide)
  rw [← hm] at b1 b2 b4
  unfold Cl.sty
  split; · exact zero_ok
  split; · exact ⟨h1, h2, b1.1⟩
  split; · exact ⟨h1, h2, b2.1⟩
  split; · exact ⟨h1, h2, b4.1⟩
  split; · exact ⟨h1, h2, b1.2⟩
  split; · exact ⟨h1, h2, b2.2⟩
  split; · exact ⟨h1, h2, b4.2⟩
  split; · exact ⟨⟨by show 0 ≤ k - 29; omega, by show k - 29 ≤ 8; omega⟩, h2, h3⟩
  split; · exact ⟨zero_ok.1, h2, h3⟩
  split; · exact ⟨h1, ⟨by show 0 ≤ k - 39; omega, by show k - 39 ≤ 8; omega⟩, h3⟩
  split; · exact ⟨h1, zero_ok.2.1, h3⟩
  exact ⟨h1, h2, h3⟩
theorem OkG.style {g : G} (h : OkG g) (k : Int) : OkG (g.style k) := ⟨h.L, h.o, sty_ok h.st k, h.sst, h.ast⟩
theorem OkG.wipe {g : G} (h : OkG g) (i f t : Nat) : OkG (g.wipe i f t) := h.cells (h.L.modify _ fun _ hl => (hl.take _).app ((blanks_ok _).app (hl.drop _))) rfl rfl rfl rfl
theorem OkG.eraseLine {g : G} (h : OkG g) (p : Int) : OkG (g.eraseLine p) := by
  unfold G.eraseLine
  split; · exact h.wipe _ _ _
  split; · exact h.wipe _ _ _
  split; · exact h.wipe _ _ _
  exact h
theorem OkG.erase {g : G} (h : OkG g) (p : Int) : OkG (g.erase p) := by
  unfold G.erase
  split
  · split
    · exact h.sc rfl rfl rfl rfl rfl
    · exact h
  · refine foldl_ok (fun g i h => ?_) _ (h.eraseLine p)
    unfold G.wipeIf
    split
    · exact h.wipe _ _ _
    · exact h
theorem OkG.cut {g : G} (h : OkG g) (what : Int) (n : Nat) : OkG (g.cut what n) := h.cells (h.L.modify _ fun l hl => by
  unfold cutL
  refine (hl.take _).app ?_
  split; · exact (blanks_ok _).app ((hl.drop _).take _)
  split; · exact ((hl.drop _).drop _).app (blanks_ok _)
  exact (blanks_ok _).app ((hl.drop _).drop _)) rfl rfl rfl rfl
theorem OkG.region {g : G} (h : OkG g) (a b : Int) : OkG (g.region a b) := by
  unfold G.region
  split
  · exact OkG.move (g := { g with c := { g.c with top := a.toNat, bottom := b.toNat } }) (h.sc rfl rfl rfl rfl rfl) _ _
  · exact h
theorem OkG.edit {g : G} (h : OkG g) (a : Act) (n : Nat) : OkG (g.edit a n) := by
  unfold G.edit
  split; · exact h.erase _
  split; · exact h.eraseLine _
  split
  · split; · exact h
    split
    · exact (h.put _ _).move _ _
    · exact (h.take _ _).move _ _
  split; · exact h.cut _ _
  split; · exact h.up _
  split; · exact h.down _
  split; · exact h.region _ _
  split
  · unfold G.clearTabs
    split; · exact h.sc rfl rfl rfl rfl rfl
    split; · exact h.sc rfl rfl rfl rfl rfl
    exact h
  exact h
theorem OkG.csi {g : G} (h : OkG g) (a : Act) : OkG (g.csi a) := by
  unfold G.csi
  split; · exact h.move _ _
  split; · exact h.move _ _
  split; · exact h.move _ _
  split; · exact h.move _ _
  split; · exact h.move _ _
  split; · exact h.move _ _
  split; · exact h.move _ _
  split; · exact foldl_ok (fun g n h => h.style n) _ h
  split
  · split
    · exact h.sc rfl rfl rfl rfl rfl
    · exact h
  exact h.edit _ _
/-- what is printed may be shown -/
def Act.shown (a : Act) : Prop := a.kind = 1 → 32 ≤ a.rune ∧ a.rune ≠ 127
theorem OkG.doA {g : G} (h : OkG g) {a : Act} (ha : a.shown) : OkG (g.doA a) := by
  unfold G.doA
  split
  · rename_i hk; exact h.print (ha hk)
  split; · exact h.control _
  split; · exact h.esc _
  split
  · split
    · exact h.modes a
    · exact h.csi a
  exact h
theorem OkG.acts {l : List Act} : ∀ {g : G}, OkG g → Al Act.shown l → OkG (l.foldl G.doA g) := by
  induction l with
  | nil => intro g h _; exact h
  | cons a l ih => intro g h hl; exact ih (h.doA (hl a List.mem_cons_self)) fun x hx => hl x (List.mem_cons_of_mem _ hx)
theorem pEsc_shown (c : PS) (r : Int) : ∀ a, (pEsc c r).2 = some a → a.shown := by
  unfold pEsc
  split; · intro a h; cases h
  split; · intro a h; cases h
  split; · intro a h; cases h
  split; · intro a h; cases h; exact fun h => by simp at h
  split; · intro a h; cases h; exact fun h => by simp at h
  intro a h; cases h
theorem pCsi_shown (c : PS) (r : Int) : ∀ a, (pCsi c r).2 = some a → a.shown := by
  unfold pCsi
  split; · intro a h; cases h; exact fun h => by simp at h
  split; · intro a h; cases h
  split; · intro a h; cases h
  split; · intro a h; cases h
  split; · intro a h; cases h
  split; · intro a h; cases h
  split
  · dsimp only
    split; · intro a h; cases h
    intro a h; cases h; exact fun h => by simp at h
  intro a h; cases h
theorem pPlain_shown (r : Int) : ∀ a, pPlain r = some a → a.shown := by
  unfold pPlain
  split; · intro a h; cases h; exact fun h => by simp at h
  split; · intro a h; cases h
  intro a h; cases h; intro _; show 32 ≤ r ∧ r ≠ 127; omega
theorem pRune_shown (c : PS) (r : Int) : ∀ a, (pRune c r).2 = some a → a.shown := by
  unfold pRune
  split; · intro a h; cases h
  split; · intro a h; cases h
  split; · exact pEsc_shown c r
  split; · intro a h; cases h
  split; · exact pCsi_shown c r
  split; · intro a h; cases h
  split
  · split; · intro a h; cases h
    exact pEsc_shown c r
  exact pPlain_shown r
theorem pFeed_shown : ∀ (l : List Int) (c : PS), Al Act.shown (pFeed c l).2 := fun l => by
  induction l with
  | nil => intro c x hx; cases hx
  | cons r l ih =>
    intro c
    have h := pRune_shown c r
    unfold pFeed
    dsimp only
    cases e : (pRune c r).2 with
    | none => exact ih _
    | some a =>
      intro x hx
      rcases List.mem_cons.1 hx with rfl | hx
      · exact h _ e
      · exact ih _ x hx
theorem OkG.write {q : GP} (h : OkG q.g) (l : W) : OkG (q.write G.doA l).g := h.acts (pFeed_shown _ _)

/-! ### another size -/
theorem fitRow_ok {l : List Cl} (h : Al okC l) (C : Nat) : Al okC (fitRow l C) := (h.take _).app (blanks_ok _)
theorem fitL_ok {L : List (List Cl)} (h : okL L) (row R C : Nat) : okL (fitL L row R C) := Al.app (Al.map ((h.drop _).take _) fun _ hl => fitRow_ok hl C) (sheet_ok _ _)
theorem OkG.resize {g : G} (h : OkG g) (R C : Nat) : OkG (g.resize R C) := by
  unfold G.resize G.fitMain
  cases ho : g.other with
  | none => exact ⟨fitL_ok h.L _ _ _, fun M hM => (h.keeps ((g.L.take (g.c.row + 1 - R)).map (fitRow · C))).o M hM, h.st, h.sst, h.ast⟩
  | some M => exact ⟨fitL_ok h.L _ _ _, fun M' hM => by cases hM; exact fitL_ok (h.o M ho) _ _ _, h.st, h.sst, h.ast⟩
end Go.Proofs.YtjmiehbiindjdaaDoor.dec

namespace Go.Proofs.YtjmiehbiindjdaaDoor.dec
open Go Go.Cm

/-! ### decoding, of a text and of a longer one -/
/-! ### runes -/
/-! ### the cut -/
def Held (l : W) : Prop := ∃ c r, l = c :: r ∧ isStart c = true ∧ full l = false
instance (l : W) : Decidable (Held l) := match l with
  | [] => isFalse (by rintro ⟨c, r, h, _⟩; cases h)
  | c :: r => if h : isStart c = true ∧ full (c :: r) = false then isTrue ⟨c, r, rfl, h.1, h.2⟩ else isFalse (by rintro ⟨c', r', e, h1, h2⟩; cases e; exact h ⟨h1, h2⟩)
end Go.Proofs.YtjmiehbiindjdaaDoor.dec

namespace Go.Proofs.YtjmiehbiindjdaaDoor.dec
open Go Go.Cm

attribute [local congr] optK_congr asI_congr asN_congr asB_congr asS_congr asP_congr asA_congr asSL_congr callK_congr castT_congr chk_congr

/-- lines in memory -/
structure Lines (H : Heap) (L : List (List Cl)) (y : Sl) (p : Q) : Prop where
  o : Outer H y p
  r : Rows H p
  m : p.map Prod.snd = L
theorem Lines.keep {S : Nat → Prop} {H H' : Heap} {L : List (List Cl)} {y : Sl} {p : Q} (h : Lines H L y p) (k : Keep S H H') (h2 : ∀ k, y.at k → ¬ S k) (h3 : ∀ k, bl p k → ¬ S k) : Lines H' L y p :=
  ⟨Whole.keep h.o k h2, h.r.keep k h3, h.m⟩
theorem Lines.new {H H' : Heap} {L : List (List Cl)} {y : Sl} {p : Q} (h : Lines H L y p) (k : Keep0 H H') : Lines H' L y p := h.keep k (fun _ _ e => e) fun _ _ e => e
theorem Lines.n {H : Heap} {L : List (List Cl)} {y : Sl} {p : Q} (h : Lines H L y p) : y.n = L.length := by rw [h.o.n, ← h.m, List.length_map]
theorem Lines.row {H : Heap} {L : List (List Cl)} {y : Sl} {p : Q} (h : Lines H L y p) {a : Nat} {l : List Cl} (ha : L[a]? = some l) : ∃ ad x, y.a = some ad ∧ Heap.ld1 H (ap ad (((a : Int).toNat) * 1)) = some (wsl x l.length).v ∧ Row H x l := by
  have h0 := congrArg (fun l => l[a]?) h.m
  simp only [List.getElem?_map] at h0
  rw [ha] at h0
  obtain ⟨x, hx, hx2⟩ : ∃ x, p[a]? = some x ∧ x.2 = l := by
    cases hpa : p[a]? with
    | none => rw [hpa] at h0; cases h0
    | some x => rw [hpa] at h0; exact ⟨x, rfl, by simpa using h0⟩
  obtain ⟨bb, v, _⟩ := Outer.ov h.o (h.o.some (by intro e; rw [e] at hx; cases hx))
  obtain ⟨ad, ea, eb⟩ := v.ld hx
  refine ⟨ad, x.1, ea, ?_, ?_⟩
  · rw [← hx2]; exact eb
  · rw [← hx2]; exact h.r.1 x (List.mem_of_getElem? hx)

/-! ### pieces -/
structure Pc (H0 H : Heap) (y : Sl) (ps : List (Sl × W)) : Prop where
  w : Whole H y (ps.map fun x => x.1.v) t_S_uint8 1
  p : ∀ x ∈ ps, HV H x.1 x.2
  f : ∀ k, y.at k → H0.next ≤ k
  g : ∀ x ∈ ps, ∀ k, x.1.at k → H0.next ≤ k ∧ ¬ y.at k
theorem Pc.new {H0 H H' : Heap} {y : Sl} {ps : List (Sl × W)} (h : Pc H0 H y ps) (k : Keep0 H H') : Pc H0 H' y ps := ⟨Whole.keep h.w k fun _ _ e => e, fun x hx => (h.p x hx).keep k fun _ _ e => e, h.f, h.g⟩
theorem Pc.keep {S : Nat → Prop} {H0 H H' : Heap} {y : Sl} {ps : List (Sl × W)} (h : Pc H0 H y ps) (k : Keep S H H') (h1 : ∀ k, y.at k → ¬ S k) (h2 : ∀ x ∈ ps, ∀ k, x.1.at k → ¬ S k) : Pc H0 H' y ps := ⟨Whole.keep h.w k h1, fun x hx => (h.p x hx).keep k (h2 x hx), h.f, h.g⟩
theorem Pc.push {H0 H : Heap} {y : Sl} {ps : List (Sl × W)} (h : Pc H0 H y ps) (k0 : Keep0 H0 H) (hl : ps.length ≤ 1000) (l : W) :
    ∃ z H', (∀ K : Value → Heap → Res, (newK H (.cells ((lst (S l)).map fun b => .int .u8 b.toNat) t_uint8 true 0 true) fun p7 H8 => newK H8 (.cells [.slice (some ⟨p7, 0, none⟩) (slen (S l)) (slen (S l))] t_S_uint8 false 0 false) fun p9 H10 => appendK t_S_uint8 1 24 false y.v (.slice (some ⟨p9, 0, none⟩) 1 1) H10 K) = K (Sl.v z) H') ∧
      Pc H0 H' z (ps ++ [(⟨some ⟨H.next, 0, none⟩, l.length, l.length⟩, l)]) ∧ Keep0 H0 H' := by
  rw [lstS, slenS]
  have k8 : Keep0 H (H.new (.cells (l.map fun b => .int .u8 b.toNat) t_uint8 true 0 true)) := Keep.new _ _
  have v8 : BV (H.new (.cells (l.map fun b => .int .u8 b.toNat) t_uint8 true 0 true)) ⟨some ⟨H.next, 0, none⟩, l.length, l.length⟩ H.next [] l [] :=
    ⟨rfl, by rw [bytes_len]; show l.length = l.length * 1; omega, Nat.le_refl _, by simp, true, true, by simp [bytes]⟩
  have n8 : (H.new (.cells (l.map fun b => .int .u8 b.toNat) t_uint8 true 0 true)).next = H.next + 1 := by simp
  have e8 : ∀ K : Nat → Heap → Res, newK H (.cells (l.map fun b => .int .u8 b.toNat) t_uint8 true 0 true) K = K H.next (H.new (.cells (l.map fun b => .int .u8 b.toNat) t_uint8 true 0 true)) := fun K => newK_s
  generalize H.new (.cells (l.map fun b => .int .u8 b.toNat) t_uint8 true 0 true) = H8 at *
  have h8 := h.new k8
  have hn := (Whole.len h8.w).1
  rw [List.length_map] at hn
  obtain ⟨z, H', e1, w1, k1, _, f1, _⟩ := push_whole (bytes := 24) (new := [.slice (some ⟨H.next, 0, none⟩) l.length l.length]) h8.w rfl (by omega) (by omega) (by omega)
  have n0 := k0.1
  refine ⟨z, H', fun K => ?_, ⟨by simpa using w1, fun x hx => ?_, fun k e => by have := f1 k e; omega, fun x hx k e => ?_⟩, (k0.trans k8).fresh k1 h.f⟩
  · rw [e8, newK_s, e1]
  · rcases List.mem_append.1 hx with hx | hx
    · exact (h8.p x hx).keep k1 fun k e => (h.g x hx k e).2
    · rw [List.mem_singleton.1 hx]
      refine v8.hv.keep k1 fun k e e' => ?_
      obtain ⟨a, ha, hb⟩ := e
      cases ha
      subst hb
      have := Whole.lt h.w e'
      simp only at this
      omega
  · rcases List.mem_append.1 hx with hx | hx
    · exact ⟨(h.g x hx k e).1, fun e' => by have := f1 k e'; have := (h8.p x hx).lt e; omega⟩
    · rw [List.mem_singleton.1 hx] at e
      obtain ⟨a, ha, hb⟩ := e
      cases ha
      subst hb
      exact ⟨n0, fun e' => by have := f1 _ e'; simp only at this; omega⟩
def joined (ps : List (Sl × W)) : W := (ps.map Prod.snd).flatten
theorem joined_snoc (ps : List (Sl × W)) (x : Sl × W) : joined (ps ++ [x]) = joined ps ++ x.2 := by simp [joined]
theorem cut_loop (e : Nat) {H0 : Heap} {x1 : Sl} {cuts : List Int} (hx : Ints H0 x1 cuts) : ∀ (m i : Nat) {H : Heap} {y : Sl} {ps : List (Sl × W)} {s : W}, 41 - i < m → i ≤ 40 → ps.length = i → s.length ≤ 1900000 → Pc H0 H y ps → Keep0 H0 H →
    ∃ z qs H', hand_Cut_p11010 (e + 1) m (S s) x1 y (i : Int) H = some (Sl.v z, H') ∧ Pc H0 H' z qs ∧ joined qs = joined ps ++ s ∧ qs.length ≤ 41 ∧ Keep0 H0 H' := fun m => by
  induction m with
  | zero => intro i H y ps s hm; omega
  | succ m ih =>
    intro i H y ps s hm hi hps hs h k
    have last : ∃ z qs H', hand_Cut_p11010001 (e + 1) m (S s) x1 y (i : Int) false H = some (Sl.v z, H') ∧ Pc H0 H' z qs ∧ joined qs = joined ps ++ s ∧ qs.length ≤ 41 ∧ Keep0 H0 H' := by
      rw [hand_Cut_p11010001_eq, if_neg ff]
      obtain ⟨z, H', e1, h1, k1⟩ := h.push k (by omega) s
      rw [e1]
      simp only [asSL_k]
      exact ⟨z, _, H', rfl, h1, joined_snoc _ _, by simp; omega, k1⟩
    rw [hand_Cut_p11010_s]
    by_cases c0 : (i : Int) < (x1.n : Int)
    · rw [if_pos (show decide ((i : Int) < (x1.n : Int)) = true from decide_eq_true c0)]
      by_cases c1 : i < 40
      · rw [if_pos (show decide ((i : Int) < 40) = true from decide_eq_true (by omega)), slenS]
        by_cases c2 : 0 < s.length
        · rw [show decide ((0 : Int) < (s.length : Int)) = true from decide_eq_true (by omega), hand_Cut_p11010001_eq, if_pos rfl]
          obtain ⟨v, hv⟩ : ∃ v, cuts[i]? = some v := ⟨cuts[i]'(by have := hx.1; omega), List.getElem?_eq_getElem _⟩
          obtain ⟨b, o, ha, _, hl⟩ := (hx.new k).2 i v (by omega) hv
          rw [ha]
          simp only [optK_s]
          rw [if_pos (show (0 : Int) ≤ (i : Int) ∧ (i : Int) < (x1.n : Int) by omega), show ap ⟨b, o, none⟩ (((i : Int).toNat) * 1) = ⟨b, o + i, none⟩ by simp [ap], hl]
          simp only [optK_s, asI_s]
          obtain ⟨n, en, hn⟩ := Pick_s e v 9 H (by omega) (by omega)
          rw [show X (e + 1) n_hand_Pick [.int .i64 v, .int .i64 9] H = _ from en]
          simp only [callK_s, asI_s]
          have hmin : (if (slen (S s) : Int) < (n : Int) then (slen (S s) : Int) else (n : Int)) = ((min n s.length : Nat) : Int) := by rw [slenS]; split <;> omega
          rw [hmin, slenS, if_pos (show (0 : Int) ≤ ((min n s.length : Nat) : Int) ∧ ((min n s.length : Nat) : Int) ≤ (s.length : Int) by omega), Int.toNat_natCast, sSubS, sSubS, List.drop_zero]
          obtain ⟨z, H', e1, h1, k1⟩ := h.push k (by omega) (s.take (min n s.length))
          rw [e1]
          simp only [asSL_k]
          rw [if_pos (show (0 : Int) ≤ ((min n s.length : Nat) : Int) ∧ ((min n s.length : Nat) : Int) ≤ (s.length : Int) by omega), wi (by omega), List.take_length]
          obtain ⟨z2, qs, H2, e2, h2, j2, l2, k2⟩ := ih (i + 1) (s := s.drop (min n s.length)) (by omega) (by omega) (by simp; omega) (by rw [List.length_drop]; omega) h1 k1
          refine ⟨z2, qs, H2, e2, h2, ?_, l2, k2⟩
          rw [j2, joined_snoc, List.append_assoc, List.take_append_drop]
        · rw [show decide ((0 : Int) < (s.length : Int)) = false from decide_eq_false (by omega)]
          exact last
      · rw [if_neg (show ¬ decide ((i : Int) < 40) = true from dneg (by omega))]
        exact last
    · rw [if_neg (show ¬ decide ((i : Int) < (x1.n : Int)) = true from dneg c0)]
      exact last
theorem Cut_s (e : Nat) {H : Heap} {x1 : Sl} {cuts : List Int} (hx : Ints H x1 cuts) {s : W} (hs : s.length ≤ 1900000) : ∃ z qs H', X (e + 2) n_hand_Cut [.string (S s), x1.v] H = some (Sl.v z, H') ∧ Pc H H' z qs ∧ joined qs = s ∧ qs.length ≤ 41 ∧ Keep0 H H' := by
  rw [hand_Cut_eq]
  obtain ⟨z, qs, H', e1, h1, j1, l1, k1⟩ := cut_loop e hx NN 0 (H := H) (y := Sl.nil) (ps := []) (s := s) (NN_big _ (by omega)) (by omega) rfl hs ⟨.inl ⟨rfl, rfl⟩, (fun x hx => nomatch hx), (fun k e => absurd e Sl.at_nil), (fun x hx => nomatch hx)⟩ (Keep.refl _)
  exact ⟨z, qs, H', e1, h1, by simpa [joined] using j1, l1, k1⟩
end Go.Proofs.YtjmiehbiindjdaaDoor.dec

namespace Go.Proofs.YtjmiehbiindjdaaDoor.dec
open Go Go.Cm

attribute [local congr] optK_congr asI_congr asN_congr asB_congr asS_congr asP_congr asA_congr asSL_congr callK_congr castT_congr chk_congr

/-- bytes that can be read, wherever they lie -/
def BytesR (H : Heap) (x : Sl) (w : W) : Prop := x.n = w.length ∧ (w = [] ∨ ∃ b o, x.a = some ⟨b, o, none⟩ ∧ b < H.next ∧ ∀ (i : Nat) c, w[i]? = some c → H.ld1 ⟨b, o + i, none⟩ = some (.int .u8 (c.toNat : Int)))
theorem BytesR.keep {H0 H : Heap} {x : Sl} {w : W} (h : BytesR H0 x w) (hk : Keep0 H0 H) : BytesR H x w := by
  obtain ⟨h1, h2⟩ := h
  refine ⟨h1, ?_⟩
  rcases h2 with h2 | ⟨b, o, e1, e2, e3⟩
  · exact .inl h2
  · refine .inr ⟨b, o, e1, Nat.lt_of_lt_of_le e2 hk.1, fun i c hi => ?_⟩
    have : H.get b = H0.get b := hk.2 b e2 id
    have q := e3 i c hi
    unfold Heap.ld1 at q ⊢
    rw [this]; exact q
theorem BytesR.str {H : Heap} {x : Sl} {w : W} (h : BytesR H x w) : readD .bytesStr [x.v] H = some (.string (S w)) := by
  obtain ⟨h1, h2⟩ := h
  rcases h2 with rfl | ⟨b, o, e1, e2, e3⟩
  · obtain ⟨xa, xn, xc⟩ := x
    simp only [List.length_nil] at h1
    subst h1
    cases xa <;> simp [readD]
  · obtain ⟨xa, xn, xc⟩ := x
    simp only at h1 e1
    subst h1 e1
    simp only [readD]
    by_cases h0 : w.length = 0
    · rw [if_pos h0, List.eq_nil_of_length_eq_zero h0]
    · rw [if_neg h0]
      have hld : H.ldN ⟨b, o, none⟩ w.length = some (bytes w) := by
        have q0 := e3 0 w[0] (List.getElem?_eq_getElem (by omega))
        unfold Heap.ld1 at q0
        split at q0
        · rename_i c e op fz st hg
          have hc : ∀ (i : Nat) y, w[i]? = some y → c[o + i]? = some (.int .u8 (y.toNat : Int)) := fun i y hi => by
            have := e3 i y hi
            rw [ld1_s hg] at this
            exact this
          have hlast := (List.getElem?_eq_some_iff.1 (hc (w.length - 1) w[w.length - 1] (List.getElem?_eq_getElem (by omega)))).1
          rw [ldN_s hg (by omega)]
          congr 1
          apply List.ext_getElem?
          intro i
          by_cases hi : i < w.length
          · rw [List.getElem?_take_of_lt hi, List.getElem?_drop, hc i w[i] (List.getElem?_eq_getElem hi)]
            simp [bytes, List.getElem?_eq_getElem hi]
          · rw [List.getElem?_eq_none (by simp; omega), List.getElem?_eq_none (by simp [bytes]; omega)]
        · cases q0
      rw [hld]
      simp [bytesOf_bytes]

/-- a cell is taken -/
theorem cellbox_s {H : Heap} (c : Cl) : ∃ H', (∀ K, effK (.store 4) [P0 H.next, .agg ⟨cellV c⟩] (H.new (.cells [.int .i32 0, .int .i64 0, .int .i64 0, .int .i64 0] t_api_Cell false 0 false)) K = K (.tuple #[]) H') ∧ H'.get H.next = some (.cells (cellV c) t_api_Cell false 0 false) ∧ Keep0 H H' := by
  have k5 : Keep0 H (H.new (.cells [.int .i32 0, .int .i64 0, .int .i64 0, .int .i64 0] t_api_Cell false 0 false)) := Keep.new _ _
  have g5 : (H.new (.cells [.int .i32 0, .int .i64 0, .int .i64 0, .int .i64 0] t_api_Cell false 0 false)).get H.next = some (.cells [.int .i32 0, .int .i64 0, .int .i64 0, .int .i64 0] t_api_Cell false 0 false) := by simp
  generalize H.new (.cells [.int .i32 0, .int .i64 0, .int .i64 0, .int .i64 0] t_api_Cell false 0 false) = H5 at *
  have kp : Keep (fun k => k = H.next) H5 (H5.put H.next (.cells (cellV c) t_api_Cell false 0 false)) := Keep.put _ _ _ rfl
  refine ⟨H5.put H.next (.cells (cellV c) t_api_Cell false 0 false), fun K => ?_, by simp, k5.fresh kp fun k e => by have e' : k = H.next := e; omega⟩
  simp only [effK]
  rw [if_neg (by omega), if_pos ⟨rfl, rfl, by omega⟩, show H5.stN ⟨H.next, 0, none⟩ (cellsL (.agg ⟨cellV c⟩)) = some (H5.put H.next (.cells (cellV c) t_api_Cell false 0 false)) from by simp only [Heap.stN, g5]; rfl]
  rfl

/-! ### the screen's cells may be -/
theorem shape_cells (e : Nat) {b : Nat} {c : Sc} {L : List (List Cl)} {y : Sl} {p : Q} {R C a : Nat} {l : List Cl} (ha : L[a]? = some l) (hl : l.length = C) (hok : Al okC l) (hC : C ≤ 1000) (haL : L.length ≤ 1000) (m0 m1 : Nat) (x4 : Sl) (x11 : Option Addr) (x13 : Sl) (x14 : Int) :
    ∀ (m j : Nat) {H : Heap}, C - j < m → j ≤ C → Shot H b c L y p → b < H.next → ∃ H', law21_GridShape_p111111010010011011100100110 e m0 m1 m (R : Int) (C : Int) x4 x11 x13 x14 b (a : Int) (j : Int) H = law21_GridShape_p11111101001001101110 e m0 m1 (R : Int) (C : Int) x4 x11 x13 x14 b ((a + 1 : Nat) : Int) H' ∧ Keep0 H H' := fun m => by
  have hal := (List.getElem?_eq_some_iff.1 ha).1
  induction m with
  | zero => intro j H hm; omega
  | succ m ih =>
    intro j H hm hj s hb
    obtain ⟨a1, ad1, x1, q1, n1, r1, w1⟩ := s.row ha
    rw [law21_GridShape_p111111010010011011100100110_s]
    by_cases hlt : j < C
    · have hx : l[j]? = some l[j] := List.getElem?_eq_getElem (by omega)
      obtain ⟨⟨o1, o2⟩, ⟨o3, o4⟩, ⟨o5, o6⟩, o7, o8⟩ := hok _ (List.getElem_mem (by omega : j < l.length))
      have g1 := w1.lda hx
      generalize l[j] = cl at g1 o1 o2 o3 o4 o5 o6 o7 o8
      rw [if_pos (show decide ((j : Int) < (C : Int)) = true from decide_eq_true (by omega)), a1]
      simp only [optK_s, asSL_k]
      rw [q1]
      simp only [optK_s]
      rw [if_pos (show (0 : Int) ≤ (a : Int) ∧ (a : Int) < (y.n : Int) by omega), r1]
      simp only [optK_s, asSL_k]
      rw [if_pos (show (0 : Int) ≤ (j : Int) ∧ (j : Int) < (l.length : Int) by omega), show ap ⟨x1, 0, none⟩ (((j : Int).toNat) * 4) = ⟨x1, j * 4, none⟩ by simp [ap], g1]
      simp only [optK_s, asA_s]
      obtain ⟨H', e2, g2, k2⟩ := cellbox_s (H := H) cl
      rw [newK_s, e2, (ld1_s g2).trans (show (cellV cl)[0]? = some (.int .i32 cl.r) from rfl), (ld1_s g2).trans (show (cellV cl)[1]? = some (.int .i64 cl.f) from rfl), (ld1_s g2).trans (show (cellV cl)[2]? = some (.int .i64 cl.b) from rfl), (ld1_s g2).trans (show (cellV cl)[3]? = some (.int .i64 cl.s) from rfl)]
      simp only [optK_s, asI_s]
      rw [if_neg (show ¬ decide (cl.r < 32) = true from dneg (by omega)), if_neg (show ¬ decide (cl.r = 127) = true from dneg o2), if_neg (show ¬ decide (cl.f < 0) = true from dneg (by omega)), if_neg (show ¬ decide ((8 : Int) < cl.f) = true from dneg (by omega)), if_neg (show ¬ decide (cl.b < 0) = true from dneg (by omega)), if_neg (show ¬ decide ((8 : Int) < cl.b) = true from dneg (by omega)), if_neg (show ¬ decide (cl.s < 0) = true from dneg (by omega)), show decide ((7 : Int) < cl.s) = false from decide_eq_false (by omega), law21_GridShape_p111111010010011011100100110010011_eq, if_neg ff, wi (by omega)]
      obtain ⟨H2, e3, k3⟩ := ih (j + 1) (by omega) (by omega) (s.keep hb k2 id (fun _ _ e => e) (fun _ _ e => e)) (Nat.lt_of_lt_of_le hb k2.1)
      exact ⟨H2, e3, k2.trans k3⟩
    · rw [if_neg (show ¬ decide ((j : Int) < (C : Int)) = true from dneg (by omega)), wi (by omega)]
      exact ⟨H, rfl, Keep.refl _⟩
theorem shape_rows (e : Nat) {b : Nat} {c : Sc} {L : List (List Cl)} {y : Sl} {p : Q} {R C : Nat} (hn : L.length = R) (hL : ∀ l ∈ L, l.length = C) (hok : okL L) (hC : C ≤ 1000) (hR : R ≤ 1000) (m0 : Nat) (x4 : Sl) (x11 : Option Addr) (x13 : Sl) (x14 : Int) :
    ∀ (m a : Nat) {H : Heap}, R - a < m → a ≤ R → Shot H b c L y p → b < H.next → ∃ H', law21_GridShape_p11111101001001101110 e m0 m (R : Int) (C : Int) x4 x11 x13 x14 b (a : Int) H = law21_GridShape_p111111010 e m0 (R : Int) (C : Int) x4 x11 x13 (IntKind.wrap .i64 (x14 + 1)) H' ∧ Keep0 H H' := fun m => by
  induction m with
  | zero => intro a H hm; omega
  | succ m ih =>
    intro a H hm ha s hb
    rw [law21_GridShape_p11111101001001101110_s]
    by_cases hlt : a < R
    · have hx : L[a]? = some (L[a]'(by omega)) := List.getElem?_eq_getElem _
      have hmem : L[a]'(by omega) ∈ L := List.getElem_mem _
      generalize L[a]'(by omega) = l at hx hmem
      have hl := hL l hmem
      obtain ⟨a1, ad1, x1, q1, n1, r1, w1⟩ := s.row hx
      rw [if_pos (show decide ((a : Int) < (R : Int)) = true from decide_eq_true (by omega)), a1]
      simp only [optK_s, asSL_k]
      rw [q1]
      simp only [optK_s]
      rw [if_pos (show (0 : Int) ≤ (a : Int) ∧ (a : Int) < (y.n : Int) by omega), r1]
      simp only [optK_s, asSL_k]
      rw [if_neg (show ¬ (!decide ((l.length : Int) = (C : Int))) = true by rw [hl]; simp)]
      obtain ⟨H1, e1, k1⟩ := shape_cells e (R := R) hx hl (hok l hmem) hC (by omega) m0 m x4 x11 x13 x14 NN 0 (NN_big _ (by omega)) (by omega) s hb
      rw [show (0 : Int) = ((0 : Nat) : Int) from rfl, e1]
      obtain ⟨H2, e2, k2⟩ := ih (a + 1) (by omega) (by omega) (s.keep hb k1 id (fun _ _ e => e) (fun _ _ e => e)) (Nat.lt_of_lt_of_le hb k1.1)
      exact ⟨H2, e2, k1.trans k2⟩
    · rw [if_neg (show ¬ decide ((a : Int) < (R : Int)) = true from dneg (by omega))]
      exact ⟨H, rfl, Keep.refl _⟩

/-- all of the screen may be, and the past -/
theorem shape_screen (e : Nat) {H0 H : Heap} {A : GA} {q : GP} (h : Ge H0 H A q) (ok : OkG q.g) {R C : Nat} (hR : q.g.c.rows = R) (hC : q.g.c.cols = C) (m0 : Nat) (x4 : Sl) (x13 : Sl) (x14 : Int) :
    ∃ H', law21_GridShape_p111111010010011 (e + 11) m0 (R : Int) (C : Int) x4 (some ⟨A.D.p, 0, none⟩) x13 x14 H = law21_GridShape_p111111010 (e + 11) m0 (R : Int) (C : Int) x4 (some ⟨A.D.p, 0, none⟩) x13 (IntKind.wrap .i64 (x14 + 1)) H' ∧ Keep0 H H' := by
  have w := h.r.wf
  have hrow := w.row; have hcol := w.col; have r2 := w.r2; have c2 := w.c2; have hLn := w.Ln; have pn := w.pn
  subst hR hC
  rw [law21_GridShape_p111111010010011_eq]
  obtain ⟨y1, p1, b1, H8, e8, g8, o8, r8, m8, b8, lt8, k8, fy, fp, _⟩ := scr_s (e + 8) h.r.rep w
  rw [e8]
  have s1 : Shot H8 b1 q.g.c q.g.L y1 p1 := ⟨g8, o8, r8, m8⟩
  have yn : y1.n = q.g.L.length := by rw [o8.n, ← m8, List.length_map]
  rw [(ld1_s g8).trans (show (scrL q.g.c y1)[0]? = some (.int .i64 (q.g.c.rows : Int)) from rfl), (ld1_s g8).trans (show (scrL q.g.c y1)[1]? = some (.int .i64 (q.g.c.cols : Int)) from rfl), (ld1_s g8).trans (show (scrL q.g.c y1)[3]? = some (.int .i64 (q.g.c.row : Int)) from rfl), (ld1_s g8).trans (show (scrL q.g.c y1)[4]? = some (.int .i64 (q.g.c.col : Int)) from rfl), (ld1_s g8).trans (show (scrL q.g.c y1)[2]? = some y1.v from rfl)]
  simp only [optK_s, asI_s, asSL_k]
  rw [if_neg (show ¬ (!decide True) = true by simp), if_neg (show ¬ (!decide True) = true by simp), if_neg (show ¬ decide ((q.g.c.row : Int) < 0) = true from dneg (by omega)), if_neg (show ¬ decide ((q.g.c.rows : Int) ≤ (q.g.c.row : Int)) = true from dneg (by omega)), if_neg (show ¬ decide ((q.g.c.col : Int) < 0) = true from dneg (by omega)), if_neg (show ¬ decide ((q.g.c.cols : Int) ≤ (q.g.c.col : Int)) = true from dneg (by omega)), if_neg (show ¬ (!decide ((y1.n : Int) = (q.g.c.rows : Int))) = true by rw [yn, hLn]; simp)]
  have h8 := h.new k8
  obtain ⟨z, t, H9, e9, o9, _, m9, _, _, _, k9⟩ := Past_s (e + 8) h8.r.rep w
  rw [show X (e + 11) n_grid_Grid_Past [.pointer (some ⟨A.D.p, 0, none⟩)] H8 = _ from e9]
  simp only [callK_s, asSL_k]
  have zn : z.n = q.g.past.length := by rw [o9.n, ← m9, List.length_map]
  rw [show decide ((200 : Int) < (z.n : Int)) = false from decide_eq_false (by omega), law21_GridShape_p1111110100100110101_eq, if_neg ff]
  obtain ⟨H10, e10, k10⟩ := shape_rows (e + 11) hLn w.Lw ok.L (by omega) (by omega) m0 x4 (some ⟨A.D.p, 0, none⟩) x13 x14 NN 0 (NN_big _ (by omega)) (by omega) (s1.keep lt8 k9 id (fun _ _ e => e) (fun _ _ e => e)) (Nat.lt_of_lt_of_le lt8 k9.1)
  exact ⟨H10, e10, (k8.trans k9).trans k10⟩

/-- piece after piece -/
theorem shape_loop (e : Nat) {H0 Hc : Heap} {x4 x13 : Sl} {sizes : List Int} {qs : List (Sl × W)} {s : W} (hx : Ints H0 x4 sizes) (hj : joined qs = s) (hs : s.length ≤ 1900000) (hqs : qs.length ≤ 41) :
    ∀ (m i : Nat) {H : Heap} {A : GA} {q : GP} {R C : Nat}, qs.length - i < m → i ≤ qs.length → Ge H0 H A q → OkG q.g → q.g.c.rows = R → q.g.c.cols = C → Pc Hc H x13 qs → (∀ k, x13.at k → ¬ A.foot k) → (∀ x ∈ qs, ∀ k, x.1.at k → ¬ A.foot k) →
    ∃ H', law21_GridShape_p111111010 (e + 11) m (R : Int) (C : Int) x4 (some ⟨A.D.p, 0, none⟩) x13 (i : Int) H = some (.bool true, H') := fun m => by
  induction m with
  | zero => intro i H A q R C hm; omega
  | succ m ih =>
    intro i H A q R C hm hi h ok hR hC pc d1 d2
    have hn := (Whole.len pc.w).1
    rw [List.length_map, Nat.mul_one] at hn
    rw [law21_GridShape_p111111010_s]
    by_cases hlt : i < qs.length
    · have hc : qs[i]? = some qs[i] := List.getElem?_eq_getElem hlt
      have hmem : qs[i] ∈ qs := List.getElem_mem hlt
      have htk : joined (qs.take (i + 1)) = joined (qs.take i) ++ qs[i].2 := by rw [List.take_add_one, hc]; exact joined_snoc _ _
      generalize qs[i] = x at hc hmem htk
      have hne : x13.a ≠ none := by
        rcases pc.w with ⟨h1, _⟩ | ⟨b, q, h1, _⟩
        · rw [h1] at hn
          have hn' : qs.length = 0 := hn
          omega
        · rw [h1]; simp
      obtain ⟨b, vw, _⟩ := Vw.of pc.w hne
      have hld := vw.ld (i := i) (x := x.1.v) (by simp [hc])
      have hlx : x.2.length ≤ 1900000 := by
        have h1 : (joined (qs.take (i + 1))).length ≤ (joined qs).length := by
          have : joined qs = joined (qs.take (i + 1)) ++ joined (qs.drop (i + 1)) := by
            unfold joined
            rw [← List.flatten_append, ← List.map_append, List.take_append_drop]
          rw [this, List.length_append]; omega
        rw [htk, hj, List.length_append] at h1
        omega
      rw [if_pos (show decide ((i : Int) < (x13.n : Int)) = true from decide_eq_true (by omega)), vw.sa]
      simp only [optK_s]
      rw [if_pos (show (0 : Int) ≤ (i : Int) ∧ (i : Int) < (x13.n : Int) by omega), show ap ⟨b, ([] : List Value).length, none⟩ (((i : Int).toNat) * 1) = ⟨b, ([] : List Value).length + i, none⟩ by simp [ap], hld]
      simp only [optK_s, asSL_k]
      obtain ⟨H5, A5, e5, h5, p5, s5⟩ := h.write e (pc.p x hmem) hlx
      rw [show X (e + 11) n_grid_Grid_Write [.pointer (some ⟨A.D.p, 0, none⟩), x.1.v] H = _ from e5]
      simp only [callK_s]
      rw [← p5]
      have ok5 : OkG (q.write G.doA x.2).g := ok.write x.2
      have hsz : Sz q.g (q.write G.doA x.2).g := acts_sz _ _
      have hR5 : (q.write G.doA x.2).g.c.rows = R := hsz.1.trans hR
      have hC5 : (q.write G.doA x.2).g.c.cols = C := hsz.2.trans hC
      generalize q.write G.doA x.2 = q5 at h5 ok5 hR5 hC5
      have pc5 := pc.keep s5.kp d1 d2
      have d1' : ∀ k, x13.at k → ¬ A5.foot k := fun k e e' => (s5.ft k e').elim (d1 k e) fun e' => by have := Whole.lt pc.w e; omega
      have d2' : ∀ x ∈ qs, ∀ k, x.1.at k → ¬ A5.foot k := fun x hx k e e' => (s5.ft k e').elim (d2 x hx k e) fun e' => by have := (pc.p x hx).lt e; omega
      clear e5 hsz
      have tail : ∀ bb : Bool, (bb = true → i < x4.n) → ∃ H', law21_GridShape_p1111110100100101 (e + 11) m (R : Int) (C : Int) x4 (some ⟨A5.D.p, 0, none⟩) x13 (i : Int) bb H5 = some (.bool true, H') := fun bb hbb => by
        rw [law21_GridShape_p1111110100100101_eq]
        cases bb with
        | false =>
          rw [if_neg ff]
          obtain ⟨H6, e6, k6⟩ := shape_screen e h5 ok5 hR5 hC5 m x4 x13 (i : Int)
          rw [e6, wi (by omega)]
          exact ih (i + 1) (by omega) (by omega) (h5.new k6) ok5 hR5 hC5 (pc5.new k6) d1' d2'
        | true =>
          have hi4 := hbb rfl
          obtain ⟨v, hv⟩ : ∃ v, sizes[i]? = some v := ⟨sizes[i]'(by have := hx.1; omega), List.getElem?_eq_getElem _⟩
          obtain ⟨b4, o4, ha4, _, hl4⟩ := (hx.new h5.k0).2 i v hi4 hv
          have hl4' : Heap.ld1 H5 (ap ⟨b4, o4, none⟩ (((i : Int).toNat) * 1)) = some (.int .i64 v) := by rw [← hl4]; simp [ap]
          rw [if_pos rfl, ha4]
          simp only [optK_s]
          rw [if_pos (show (0 : Int) ≤ (i : Int) ∧ (i : Int) < (x4.n : Int) by omega), hl4']
          simp only [optK_s, asI_s]
          obtain ⟨n1, e7, h7⟩ := Pick_s (e + 10) (IntKind.wrap .i64 (Int.tdiv v 5)) 20 H5 (by omega) (by omega)
          rw [show X (e + 11) n_hand_Pick [.int .i64 (IntKind.wrap .i64 (Int.tdiv v 5)), .int .i64 20] H5 = _ from e7]
          simp only [callK_s, asI_s]
          rw [if_pos (show (0 : Int) ≤ (i : Int) ∧ (i : Int) < (x4.n : Int) by omega), hl4']
          simp only [optK_s, asI_s]
          obtain ⟨n2, e8, h8⟩ := Pick_s (e + 10) (IntKind.wrap .i64 (Int.tdiv v 70)) 30 H5 (by omega) (by omega)
          rw [show X (e + 11) n_hand_Pick [.int .i64 (IntKind.wrap .i64 (Int.tdiv v 70)), .int .i64 30] H5 = _ from e8]
          simp only [callK_s, asI_s]
          rw [show IntKind.wrap .i64 (1 + (n1 : Int)) = ((n1 + 1 : Nat) : Int) by rw [w64 (by omega)]; omega, show IntKind.wrap .i64 (1 + (n2 : Int)) = ((n2 + 1 : Nat) : Int) by rw [w64 (by omega)]; omega]
          obtain ⟨H9, A9, e9, g9, p9, s9⟩ := h5.resize (e + 4) (R := n1 + 1) (C := n2 + 1) (by omega) (by omega)
          rw [show X (e + 11) n_grid_Grid_Resize [.pointer (some ⟨A5.D.p, 0, none⟩), .int .i64 ((n1 + 1 : Nat) : Int), .int .i64 ((n2 + 1 : Nat) : Int)] H5 = _ from e9]
          simp only [callK_s, asI_s]
          rw [← p9]
          have ok9 : OkG (q5.g.resize (n1 + 1) (n2 + 1)) := ok5.resize _ _
          have pc9 := pc5.keep s9.kp d1' d2'
          have f1 : ∀ k, x13.at k → ¬ A9.foot k := fun k e e' => (s9.ft k e').elim (d1' k e) fun e' => by have := Whole.lt pc5.w e; omega
          have f2 : ∀ x ∈ qs, ∀ k, x.1.at k → ¬ A9.foot k := fun x hx k e e' => (s9.ft k e').elim (d2' x hx k e) fun e' => by have := (pc5.p x hx).lt e; omega
          have hR9 : (⟨q5.g.resize (n1 + 1) (n2 + 1), q5.c, q5.w⟩ : GP).g.c.rows = n1 + 1 := by unfold G.resize; rfl
          have hC9 : (⟨q5.g.resize (n1 + 1) (n2 + 1), q5.c, q5.w⟩ : GP).g.c.cols = n2 + 1 := by unfold G.resize; rfl
          obtain ⟨H6, e6, k6⟩ := shape_screen e g9 ok9 hR9 hC9 m x4 x13 (i : Int)
          rw [e6, wi (by omega)]
          exact ih (i + 1) (by omega) (by omega) (g9.new k6) ok9 hR9 hC9 (pc9.new k6) f1 f2
      by_cases hi4 : i < x4.n
      · obtain ⟨v, hv⟩ : ∃ v, sizes[i]? = some v := ⟨sizes[i]'(by have := hx.1; omega), List.getElem?_eq_getElem _⟩
        obtain ⟨b4, o4, ha4, _, hl4⟩ := (hx.new h5.k0).2 i v hi4 hv
        have hl4' : Heap.ld1 H5 (ap ⟨b4, o4, none⟩ (((i : Int).toNat) * 1)) = some (.int .i64 v) := by rw [← hl4]; simp [ap]
        rw [if_pos (show decide ((i : Int) < (x4.n : Int)) = true from decide_eq_true (by omega)), ha4]
        simp only [optK_s]
        rw [if_pos (show (0 : Int) ≤ (i : Int) ∧ (i : Int) < (x4.n : Int) by omega), hl4']
        simp only [optK_s, asI_s]
        exact tail _ fun _ => hi4
      · rw [if_neg (show ¬ decide ((i : Int) < (x4.n : Int)) = true from dneg (by omega))]
        exact tail false fun e => nomatch e
    · rw [if_neg (show ¬ decide ((i : Int) < (x13.n : Int)) = true from dneg (by omega))]
      exact ⟨H, rfl⟩

theorem GridShape_s (e : Nat) {H : Heap} (t : Tab H) (pt : PTab H) (x0 x1 : Int) {x2 x3 x4 : Sl} {l2 l4 : List Int} {w3 : W} (hx2 : Ints H x2 l2) (hx3 : BytesR H x3 w3) (hw3 : w3.length ≤ 1048576) (hx4 : Ints H x4 l4) : ∃ H', X (e + 12) n_law21_GridShape [.int .i64 x0, .int .i64 x1, x2.v, x3.v, x4.v] H = some (.bool true, H') := by
  rw [law21_GridShape_eq]
  obtain ⟨r0, e1, h1⟩ := Pick_s (e + 10) x0 20 H (by omega) (by omega)
  obtain ⟨c0, e2, h2⟩ := Pick_s (e + 10) x1 30 H (by omega) (by omega)
  rw [show X (e + 11) n_hand_Pick [.int .i64 x0, .int .i64 20] H = _ from e1]
  simp only [callK_s, asI_s]
  rw [show X (e + 11) n_hand_Pick [.int .i64 x1, .int .i64 30] H = _ from e2]
  simp only [callK_s, asI_s]
  have hR : IntKind.wrap .i64 (1 + (r0 : Int)) = ((r0 + 1 : Nat) : Int) := by rw [w64 (by omega)]; omega
  have hC : IntKind.wrap .i64 (1 + (c0 : Int)) = ((c0 + 1 : Nat) : Int) := by rw [w64 (by omega)]; omega
  rw [hR, hC]
  obtain ⟨H2, A, e3, h3, k3, f3⟩ := New_s (e + 4) t.lt (r := r0 + 1) (c := c0 + 1) (by omega) (by omega)
  rw [e3, callK_s, castPI, castPI]
  simp only [List.getElem?_cons_zero, List.getElem?_cons_succ, optK_s, P0, asP_s, asI_s]
  rw [known_s]
  simp only [callK_s, asB_s]
  rw [if_neg (show ¬ (!true) = true by simp), if_neg (show ¬ (!decide True) = true by simp), law21_GridShape_p111101_eq, if_neg (show ¬ (some (⟨A.D.p, 0, none⟩ : Addr)).isNone = true by simp)]
  have ge : Ge H H2 A (GP.new (r0 + 1) (c0 + 1)) := ⟨t.keep k3 id id, h3, k3, f3⟩
  obtain ⟨w, H4, e4, hw, k4⟩ := Output_s (e + 8) (pt.keep k3 id id) (hx2.new k3) (R := r0 + 1) (by omega)
  rw [show X (e + 11) n_hand_Output [x2.v, .int .i64 ((r0 + 1 : Nat) : Int)] H2 = _ from e4]
  simp only [callK_s, asS_s]
  have ge4 := ge.new k4
  have b2 := hx3.keep k3
  have b4 := b2.keep k4
  rw [b4.str]
  simp only [optK_s, asS_s]
  rw [slenS, slenS, if_pos (by omega), sCatS]
  obtain ⟨z, qs, H7, e7, pc, hj, hq, k7⟩ := Cut_s (e + 9) (hx4.new (k3.trans k4)) (s := w ++ w3) (by rw [List.length_append]; omega)
  rw [show X (e + 11) n_hand_Cut [.string (S (w ++ w3)), x4.v] H4 = _ from e7]
  simp only [callK_s, asSL_k]
  rw [show rdsOk [H2, H4, H7] [⟨.bytesStr, [x3.v], .string (S w3), 0, 1⟩] = true from by
    simp only [rdsOk, Bool.and_true]
    rw [show 1 + 1 - 0 = 2 from rfl, rdOk_2, rdAt_s rfl b2.str (same_str _), rdAt_s rfl b4.str (same_str _)]; rfl]
  simp only [chk_s]
  have ge7 := ge4.new k7
  have lt4 : ∀ k, A.foot k → k < H4.next := fun k e => ge4.r.lt e
  exact shape_loop e hx4 hj (by rw [List.length_append]; omega) hq NN 0 (NN_big _ (by omega)) (by omega) ge7 (OkG.fresh _ _ _) rfl rfl pc (fun k e e' => by have := pc.f k e; have := lt4 k e'; omega) (fun x hx k e e' => by have := (pc.g x hx k e).1; have := lt4 k e'; omega)
end Go.Proofs.YtjmiehbiindjdaaDoor.dec

namespace Go.Proofs.YtjmiehbiindjdaaDoor.frame
open Go Go.Cm Go.ChangeShapes Go.WideShapes Go.ChangeAt Go.RowKit

theorem one_le {H : Type} (d : DataW H) : 1 ≤ Rows.uptoBulk d := by
  cases d with
  | lit l => cases l <;> simp [Rows.uptoBulk]
  | _ => simp [Rows.uptoBulk]
theorem length_le {H : Type} (l : List (DataW H)) : l.length ≤ Rows.uptoBulkAll l := by
  induction l with
  | nil => simp [Rows.uptoBulkAll]
  | cons x r ih => have := one_le x; simp only [Rows.uptoBulkAll, List.length_cons]; omega
theorem bytes_of {H : Type} {ws : List Win} {cs : List Value} {d : DataW H} (h : DR Tryd.prog ws 32 cs d) : ∃ (x : Sl) (w : dec.W), cs = [x.v] ∧ dec.BytesR (heapW ws) x w ∧ w.length ≤ Rows.uptoBulk d := by
  obtain ⟨x, es, rest, rfl, h1, _, h3, h4⟩ := h.slice_inv Tryd.underlying32
  have hc : Tryd.prog.cellsOf 5 = 1 := by kernel_rfl
  rw [hc] at h4
  have each : ∀ i, i < es.length → ∃ (n : UInt8) (b : Nat), b < (heapW ws).next ∧ x.a = some ⟨b, 0, none⟩ ∧ (heapW ws).ld1 ⟨b, i, none⟩ = some (.int .u8 (n.toNat : Int)) := by
    intro i hi
    obtain ⟨b, y, q1, q2, q3, q4⟩ := h4 i _ (List.getElem?_eq_getElem hi)
    obtain ⟨n, g1, _, g2⟩ := q4.int_inv Tryd.underlying5
    have hn : 0 ≤ n ∧ n ≤ 255 := by
      simp only [Lit.wf, decide_eq_true_eq, Bool.and_eq_true] at g2
      have e1 : IntKind.u8.min = 0 := by decide
      have e2 : IntKind.u8.max = 255 := by decide
      omega
    refine ⟨UInt8.ofNat n.toNat, b, (List.getElem?_eq_some_iff.1 q2).1, q1, ?_⟩
    rw [ld1_s (heapW_get q2)]
    rw [Nat.mul_one] at g1
    have e : ((UInt8.ofNat n.toNat).toNat : Int) = n := by simp; omega
    rw [e]
    have : ((y.cells.drop i).take 1)[0]? = some (.int .u8 n) := by rw [g1]; rfl
    simpa using this
  refine ⟨x, (List.range es.length).map fun i => if hi : i < es.length then (each i hi).choose else 0, rfl, ⟨by simp; omega, ?_⟩, ?_⟩
  · by_cases h0 : es.length = 0
    · exact .inl (List.eq_nil_of_length_eq_zero (by rw [List.length_map, List.length_range]; exact h0))
    · obtain ⟨b, q0, q1, _⟩ := (each 0 (by omega)).choose_spec
      refine .inr ⟨b, 0, q1, q0, fun i n hn => ?_⟩
      have hlt := (List.getElem?_eq_some_iff.1 hn).1
      simp only [List.length_map, List.length_range] at hlt
      rw [List.getElem?_map, List.getElem?_range hlt] at hn
      simp only [Option.map_some, Option.some.injEq, dif_pos hlt] at hn
      subst hn
      obtain ⟨b', g0, g1, g2⟩ := (each i hlt).choose_spec
      rw [q1] at g1
      cases g1
      rw [Nat.zero_add]; exact g2
  · rcases h3 with ⟨rfl, rfl⟩ | rfl
    · simp
    · have := length_le es
      simp only [Rows.uptoBulk, List.length_map, List.length_range]; omega
end Go.Proofs.YtjmiehbiindjdaaDoor.frame
