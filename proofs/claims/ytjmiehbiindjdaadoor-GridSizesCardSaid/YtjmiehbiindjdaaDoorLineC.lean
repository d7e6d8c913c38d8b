/-
  grid: GridRegion.
  And: grid: texts of any runes, then plain ones; the screen's size stays. grid: GridAway. grid: GridSizes.
-/
import Derived.Test.YtjmiehbiindjdaaDoorLineB
import Derived.Test.YtjmiehbiindjdaaDoorDec
namespace Go.Proofs.YtjmiehbiindjdaaDoor.dec
open Go Go.Cm

attribute [local congr] optK_congr asI_congr asN_congr asB_congr asS_congr asP_congr asA_congr asSL_congr callK_congr castT_congr chk_congr

theorem take_out {g : G} (w : WF g) {row n i : Nat} (hrow : row ≤ g.c.bottom) (hi : i < row ∨ g.c.bottom < i) : (g.take row n).L[i]? = g.L[i]? := by
  have hb := w.bot; have hL := w.Ln
  show (g.L.take row ++ (((g.L.drop row).take (g.c.bottom + 1 - row)).drop (min n (g.c.bottom + 1 - row)) ++ (List.replicate (min n (g.c.bottom + 1 - row)) (blankL g.c.cols) ++ g.L.drop (g.c.bottom + 1))))[i]? = _
  generalize hm : min n (g.c.bottom + 1 - row) = m
  have hmle : m ≤ g.c.bottom + 1 - row := by omega
  rcases hi with hi | hi
  · rw [List.getElem?_append_left (by rw [List.length_take]; omega), List.getElem?_take_of_lt hi]
  · rw [List.getElem?_append_right (by rw [List.length_take]; omega), List.length_take, Nat.min_eq_left (by omega), List.getElem?_append_right (by rw [List.length_drop, List.length_take, List.length_drop]; omega), List.length_drop, List.length_take, List.length_drop,
      List.getElem?_append_right (by rw [List.length_replicate]; omega), List.length_replicate, List.getElem?_drop]
    congr 1; omega
theorem put_out {g : G} (w : WF g) {row n i : Nat} (hrow : row ≤ g.c.bottom) (hi : i < row ∨ g.c.bottom < i) : (g.put row n).L[i]? = g.L[i]? := by
  have hb := w.bot; have hL := w.Ln
  show (g.L.take row ++ (List.replicate (min n (g.c.bottom + 1 - row)) (blankL g.c.cols) ++ (((g.L.drop row).take (g.c.bottom + 1 - row)).take (g.c.bottom + 1 - row - min n (g.c.bottom + 1 - row)) ++ g.L.drop (g.c.bottom + 1))))[i]? = _
  generalize hm : min n (g.c.bottom + 1 - row) = m
  have hmle : m ≤ g.c.bottom + 1 - row := by omega
  rcases hi with hi | hi
  · rw [List.getElem?_append_left (by rw [List.length_take]; omega), List.getElem?_take_of_lt hi]
  · rw [List.getElem?_append_right (by rw [List.length_take]; omega), List.length_take, Nat.min_eq_left (by omega), List.getElem?_append_right (by rw [List.length_replicate]; omega), List.length_replicate,
      List.getElem?_append_right (by rw [List.length_take, List.length_take, List.length_drop]; omega), List.length_take, List.length_take, List.length_drop, List.getElem?_drop]
    congr 1; omega

def dCell (i : Nat) : Cl := ⟨((48 + i : Nat) : Int), 0, 0, 0⟩
def dRow (i : Nat) : List Cl := [dCell i, blank, blank, blank]
structure Reg (top bottom : Nat) (g : G) : Prop where
  rows : g.c.rows = 10
  tp : g.c.top = top
  bt : g.c.bottom = bottom
  r1 : top ≤ g.c.row
  r2 : g.c.row ≤ bottom
  past : g.past = [] ∨ top = 0
  out : ∀ i, i < 10 → (i < top ∨ bottom < i) → g.L[i]? = some (dRow i)
section
variable {top bottom : Nat} {g : G} (h : Reg top bottom g)
include h
theorem Reg.take (w : WF g) {row : Nat} (h1 : top ≤ row) (h2 : row ≤ bottom) (n : Nat) : Reg top bottom (g.take row n) :=
  ⟨h.rows, h.tp, h.bt, h.r1, h.r2, h.past, fun i hi ho => by rw [take_out w (by rw [h.bt]; exact h2) (by rw [h.bt]; omega)]; exact h.out i hi ho⟩
theorem Reg.put (w : WF g) {row : Nat} (h1 : top ≤ row) (h2 : row ≤ bottom) (n : Nat) : Reg top bottom (g.put row n) :=
  ⟨h.rows, h.tp, h.bt, h.r1, h.r2, h.past, fun i hi ho => by rw [put_out w (by rw [h.bt]; exact h2) (by rw [h.bt]; omega)]; exact h.out i hi ho⟩
theorem Reg.due (b : Bool) : Reg top bottom (g.due b) := ⟨h.rows, h.tp, h.bt, h.r1, h.r2, h.past, h.out⟩
theorem Reg.move {row col : Int} (hr : bottom < 10) (h1 : (top : Int) ≤ row) (h2 : row ≤ (bottom : Int)) : Reg top bottom (g.move row col) := by
  have h0 := h.rows
  exact ⟨h0, h.tp, h.bt, by show top ≤ (min (max row 0) ((g.c.rows : Int) - 1)).toNat; omega, by show (min (max row 0) ((g.c.rows : Int) - 1)).toNat ≤ bottom; omega, h.past, h.out⟩
theorem Reg.keeps (h0 : top = 0) (l : List (List Cl)) : Reg top bottom (g.keeps l) := by
  obtain ⟨e1, e2, _⟩ := keeps_c l g
  exact ⟨by rw [e1]; exact h.rows, by rw [e1]; exact h.tp, by rw [e1]; exact h.bt, by rw [e1]; exact h.r1, by rw [e1]; exact h.r2, .inr h0, by rw [e2]; exact h.out⟩
theorem Reg.up (w : WF g) (htb : top ≤ bottom) (n : Nat) : Reg top bottom (g.up n) := by
  unfold G.up
  have ht := h.tp
  split
  · rename_i hc
    have w1 : WF (g.keeps (g.L.take (min n (g.c.bottom - g.c.top + 1)))) := w.keeps _ fun x hx => w.row_ok (List.mem_of_mem_take hx)
    exact (h.keeps (by omega) _).take w1 (by omega) (by omega) _
  · exact h.take w (by omega) (by omega) _
theorem Reg.down (w : WF g) (htb : top ≤ bottom) (n : Nat) : Reg top bottom (g.down n) := by
  unfold G.down
  exact h.put w (by have := h.tp; omega) (by have := h.tp; omega) n
theorem Reg.index (w : WF g) (htb : top ≤ bottom) (_hb : bottom < 10) : Reg top bottom g.index := by
  unfold G.index
  split
  · exact (h.due false).up (w.due false) htb 1
  · rename_i hc
    have h1 := h.r1; have h2 := h.r2; have h3 := h.bt
    split
    · exact ⟨h.rows, h.tp, h.bt, by show top ≤ g.c.row + 1; omega, by show g.c.row + 1 ≤ bottom; omega, h.past, h.out⟩
    · exact h.due false
theorem Reg.revi (w : WF g) (htb : top ≤ bottom) (hb : bottom < 10) : Reg top bottom (g.esc3 77) := by
  have e : g.esc3 77 = if g.c.row = g.c.top then (g.due false).down 1 else (g.due false).move ((g.c.row : Int) - 1) g.c.col := rfl
  rw [e]
  split
  · exact (h.due false).down (w.due false) htb 1
  · have h1 := h.r1; have h2 := h.r2; have h3 := h.tp
    exact (h.due false).move hb (by omega) (by omega)
theorem Reg.line (w : WF g) (hb : bottom < 10) (g' : G) (hg : g' = g.put g.c.row 1 ∨ g' = g.take g.c.row 1) : Reg top bottom (if g.c.row < g.c.top ∨ g.c.bottom < g.c.row then g else g'.move g.c.row 0) := by
  split
  · exact h
  · have h1 := h.r1; have h2 := h.r2
    have h' : Reg top bottom g' := by
      rcases hg with e | e <;> rw [e]
      · exact h.put w h.r1 h.r2 1
      · exact h.take w h.r1 h.r2 1
    exact h'.move hb (by omega) (by omega)
end

def rgA : Nat → Act
  | 0 => ⟨2, 10, false, []⟩
  | 1 => ⟨3, 77, false, []⟩
  | 2 => csiA 83 [0]
  | 3 => csiA 84 [2]
  | 4 => ⟨3, 68, false, []⟩
  | 5 => csiA 76 [0]
  | _ => csiA 77 [0]
theorem Reg.step {top bottom : Nat} {g : G} (h : Reg top bottom g) (w : WF g) (htb : top ≤ bottom) (hb : bottom < 10) {n : Nat} (hn : n < 7) : Reg top bottom (g.doA (rgA n)) := by
  have : n = 0 ∨ n = 1 ∨ n = 2 ∨ n = 3 ∨ n = 4 ∨ n = 5 ∨ n = 6 := by omega
  rcases this with rfl | rfl | rfl | rfl | rfl | rfl | rfl
  · exact h.index w htb hb
  · exact h.revi w htb hb
  · exact h.up w htb 1
  · exact h.down w htb 2
  · exact h.index w htb hb
  · exact h.line w hb (g.put g.c.row 1) (.inl rfl)
  · exact h.line w hb (g.take g.c.row 1) (.inr rfl)

/-- a grid that a law holds; all that was there ahead of it is as it was -/
structure Lz (H0 H : Heap) (A : GA) (g : G) : Prop where
  lv : Lv (fun _ => False) H0 H A g
  k0 : Keep0 H0 H
  fa : ∀ k, A.foot k → H0.next ≤ k
section
variable {H0 H : Heap} {A : GA} {g : G} (h : Lz H0 H A g)
include h
theorem Lz.new {H1 : Heap} (k : Keep0 H H1) : Lz H0 H1 A g := ⟨h.lv.new k, h.k0.trans k, h.fa⟩
end
theorem Lz.start {H H' : Heap} (t : Tab H) {A : GA} {r c : Nat} (h : Gr H' A (GP.new r c)) (k : Keep0 H H') (f : ∀ k, A.foot k → H.next ≤ k) : Lz H H' A (G.fresh r c []) :=
  ⟨⟨t.keep k id id, ⟨_, h, rfl, rfl, rfl⟩, fun _ hk => hk.elim, k.1, fun _ hk => hk.elim⟩, k, f⟩

end Go.Proofs.YtjmiehbiindjdaaDoor.dec

namespace Go.Proofs.YtjmiehbiindjdaaDoor.dec
open Go Go.Cm

/-! ### the size -/
def Sz (g g' : G) : Prop := g'.c.rows = g.c.rows ∧ g'.c.cols = g.c.cols
theorem Sz.refl (g : G) : Sz g g := ⟨rfl, rfl⟩
theorem Sz.trans {g g' g'' : G} (h : Sz g g') (h' : Sz g' g'') : Sz g g'' := ⟨h'.1.trans h.1, h'.2.trans h.2⟩
theorem Sz.of {g g' : G} (h : g'.c = g.c) : Sz g g' := by unfold Sz; rw [h]; exact ⟨rfl, rfl⟩
theorem up_c (g : G) (n : Nat) : (g.up n).c = g.c := by
  unfold G.up
  split
  · exact (keeps_c _ _).1
  · rfl
theorem index_sz (g : G) : Sz g g.index := by
  unfold G.index
  split
  · exact (Sz.of (g := g.due false) (up_c _ _) : Sz _ _)
  split <;> exact ⟨rfl, rfl⟩
theorem print_sz (g : G) (r : Int) : Sz g (g.print r) := by
  have p0 : ∀ g : G, Sz g (g.print0 r) := fun g => by unfold G.print0; dsimp only; split <;> exact ⟨rfl, rfl⟩
  unfold G.print
  split
  · exact ((index_sz { g with c := { g.c with col := 0 } } : Sz _ _).trans (p0 _) : Sz _ _)
  · exact p0 g
theorem control_sz (g : G) (r : Int) : Sz g (g.control r) := by
  unfold G.control
  split; · exact ⟨rfl, rfl⟩
  split; · exact ⟨rfl, rfl⟩
  split; · exact index_sz g
  split <;> exact ⟨rfl, rfl⟩
theorem esc_sz (g : G) (r : Int) : Sz g (g.esc r) := by
  unfold G.esc
  split
  · unfold G.esc3
    split; · exact index_sz g
    split; · exact (index_sz { g with c := { g.c with col := 0 } } : Sz _ _)
    split <;> exact ⟨rfl, rfl⟩
  split; · exact ⟨rfl, rfl⟩
  split; · exact ⟨rfl, rfl⟩
  split; · exact ⟨rfl, rfl⟩
  split <;> exact ⟨rfl, rfl⟩
theorem alternate_sz (g : G) (on : Bool) : Sz g (g.alternate on) := by
  unfold G.alternate
  split <;> exact ⟨rfl, rfl⟩
theorem foldl_sz {α : Type} {f : G → α → G} (hf : ∀ g a, Sz g (f g a)) : ∀ (l : List α) (g : G), Sz g (l.foldl f g) := fun l => by
  induction l with
  | nil => intro g; exact Sz.refl g
  | cons a l ih => intro g; exact (hf g a).trans (ih _)
theorem modes_sz (g : G) (a : Act) : Sz g (g.modes a) := by
  unfold G.modes
  split
  · refine foldl_sz (fun g n => ?_) _ _
    unfold G.mode
    split; · exact ⟨rfl, rfl⟩
    split; · exact ⟨rfl, rfl⟩
    split; · exact alternate_sz g _
    exact Sz.refl g
  · exact Sz.refl g
theorem edit_sz (g : G) (a : Act) (n : Nat) : Sz g (g.edit a n) := by
  unfold G.edit
  split
  · unfold G.erase
    split
    · split <;> exact ⟨rfl, rfl⟩
    · exact Sz.of ((wipeIfs_c _ _ _ _).trans (eraseLine_c _ _))
  split; · exact Sz.of (eraseLine_c _ _)
  split
  · split; · exact Sz.refl g
    split <;> exact ⟨rfl, rfl⟩
  split; · exact ⟨rfl, rfl⟩
  split; · exact Sz.of (up_c _ _)
  split; · exact ⟨rfl, rfl⟩
  split
  · unfold G.region
    split <;> exact ⟨rfl, rfl⟩
  split
  · unfold G.clearTabs
    split; · exact ⟨rfl, rfl⟩
    split <;> exact ⟨rfl, rfl⟩
  exact Sz.refl g
theorem csi_sz (g : G) (a : Act) : Sz g (g.csi a) := by
  unfold G.csi
  split; · exact ⟨rfl, rfl⟩
  split; · exact ⟨rfl, rfl⟩
  split; · exact ⟨rfl, rfl⟩
  split; · exact ⟨rfl, rfl⟩
  split; · exact ⟨rfl, rfl⟩
  split; · exact ⟨rfl, rfl⟩
  split; · exact ⟨rfl, rfl⟩
  split; · exact foldl_sz (f := G.style) (fun g n => ⟨rfl, rfl⟩) _ _
  split
  · split <;> exact ⟨rfl, rfl⟩
  exact edit_sz g a _
theorem doA_sz (g : G) (a : Act) : Sz g (g.doA a) := by
  unfold G.doA
  split; · exact print_sz g _
  split; · exact control_sz g _
  split; · exact esc_sz g _
  split
  · split
    · exact modes_sz g a
    · exact csi_sz g a
  exact Sz.refl g
theorem acts_sz (al : List Act) (g : G) : Sz g (al.foldl G.doA g) := foldl_sz doA_sz al g
end Go.Proofs.YtjmiehbiindjdaaDoor.dec

namespace Go.Proofs.YtjmiehbiindjdaaDoor.dec
open Go Go.Cm

attribute [local congr] optK_congr asI_congr asN_congr asB_congr asS_congr asP_congr asA_congr asSL_congr callK_congr castT_congr chk_congr

/-! ### what is put away stays -/
def Kp (g g' : G) : Prop := g'.other = g.other ∧ g'.past = g.past ∧ g'.c.arow = g.c.arow ∧ g'.c.acol = g.c.acol
theorem Kp.refl (g : G) : Kp g g := ⟨rfl, rfl, rfl, rfl⟩
theorem Kp.trans {g g' g'' : G} (h : Kp g g') (h' : Kp g' g'') : Kp g g'' := ⟨h'.1.trans h.1, h'.2.1.trans h.2.1, h'.2.2.1.trans h.2.2.1, h'.2.2.2.trans h.2.2.2⟩
/-- the alternate screen is there, and gone -/
def onA : Act := ⟨4, 104, true, [1049]⟩
def offA : Act := ⟨4, 108, true, [1049]⟩
theorem Says.on : Says [27, 91, 63, 49, 48, 52, 57, 104] [onA] := .csi (by decide) ⟨rfl, rfl⟩
theorem Says.off : Says [27, 91, 63, 49, 48, 52, 57, 108] [offA] := .csi (by decide) ⟨rfl, rfl⟩
/-! ### the walk -/
theorem WF.acts : ∀ (al : List Act) {g : G}, (∀ a ∈ al, a.ok) → WF g → WF (al.foldl G.doA g) := fun al => by
  induction al with
  | nil => intro g _ w; exact w
  | cons a al ih => intro g h w; exact ih (fun b hb => h b (by simp [hb])) (w.doA (h a (by simp)))
/-- a grid that a law holds; blocks in P are as they were in Hb -/
structure Lq (P : Nat → Prop) (Hb H0 H : Heap) (A : GA) (g : G) : Prop where
  lv : Lv P Hb H A g
  k0 : Keep0 H0 H
  fa : ∀ k, A.foot k → H0.next ≤ k
section
variable {P : Nat → Prop} {Hb H0 H : Heap} {A : GA} {g : G} (h : Lq P Hb H0 H A g)
include h
theorem Lq.new {H1 : Heap} (k : Keep0 H H1) : Lq P Hb H0 H1 A g := ⟨h.lv.new k, h.k0.trans k, h.fa⟩
end
/-- a screen that was taken -/
structure Shot (H : Heap) (b : Nat) (c : Sc) (L : List (List Cl)) (y : Sl) (p : Q) : Prop where
  g : H.get b = some (.cells (scrL c y) t_api_Screen false 0 false)
  o : Outer H y p
  r : Rows H p
  m : p.map Prod.snd = L
theorem Shot.keep {S : Nat → Prop} {H H' : Heap} {b : Nat} {c : Sc} {L : List (List Cl)} {y : Sl} {p : Q} (h : Shot H b c L y p) (hb : b < H.next) (k : Keep S H H') (h1 : ¬ S b) (h2 : ∀ k, y.at k → ¬ S k) (h3 : ∀ k, bl p k → ¬ S k) : Shot H' b c L y p :=
  ⟨(k.2 b hb h1).trans h.g, Whole.keep h.o k h2, h.r.keep k h3, h.m⟩
/-- one cell of it -/
theorem Shot.row {H : Heap} {b : Nat} {c : Sc} {L : List (List Cl)} {y : Sl} {p : Q} (h : Shot H b c L y p) {a : Nat} {l : List Cl} (ha : L[a]? = some l) : Heap.ld1 H ⟨b, 2, none⟩ = some y.v ∧ ∃ ad x, y.a = some ad ∧ (y.n : Int) = (L.length : Int) ∧ Heap.ld1 H (ap ad (((a : Int).toNat) * 1)) = some (wsl x l.length).v ∧ Row H x l := by
  have h0 := congrArg (fun l => l[a]?) h.m
  simp only [List.getElem?_map] at h0
  rw [ha] at h0
  obtain ⟨x, hx, hx2⟩ : ∃ x, p[a]? = some x ∧ x.2 = l := by
    cases hpa : p[a]? with
    | none => rw [hpa] at h0; cases h0
    | some x => rw [hpa] at h0; exact ⟨x, rfl, by simpa using h0⟩
  obtain ⟨bb, v, _⟩ := Outer.ov h.o (h.o.some (by intro e; rw [e] at hx; cases hx))
  obtain ⟨ad, ea, eb⟩ := v.ld hx
  have yn := h.o.n
  have hl : p.length = L.length := by rw [← h.m, List.length_map]
  refine ⟨(ld1_s h.g).trans rfl, ad, x.1, ea, by omega, ?_, ?_⟩
  · rw [← hx2]; exact eb
  · rw [← hx2]; exact h.r.1 x (List.mem_of_getElem? hx)

theorem Says.nl : Says [10] [⟨2, 10, false, []⟩] := .rune (by decide) fun c hc => by cases c; cases hc; exact ⟨rfl, rfl⟩
end Go.Proofs.YtjmiehbiindjdaaDoor.dec

namespace Go.Proofs.YtjmiehbiindjdaaDoor.dec
open Go Go.Cm

attribute [local congr] optK_congr asI_congr asN_congr asB_congr asS_congr asP_congr asA_congr asSL_congr callK_congr castT_congr chk_congr

/-! ### greater, and as it was -/
theorem fitRow_back {l : List Cl} {C C2 : Nat} (h : l.length = C) (hC : C ≤ C2) : fitRow (fitRow l C2) C = l := by
  unfold fitRow
  rw [List.take_of_length_le (by omega : l.length ≤ C2), List.take_append_of_le_length (by omega), List.take_of_length_le (by omega), show C - (l ++ List.replicate (C2 - l.length) blank).length = 0 by rw [List.length_append, List.length_replicate]; omega, List.replicate_zero, List.append_nil]
theorem fit_back {L : List (List Cl)} {row R C R2 C2 : Nat} (hn : L.length = R) (hw : ∀ l ∈ L, l.length = C) (hrow : row < R) (hR : R ≤ R2) (hC : C ≤ C2) : fitL (fitL L row R2 C2) row R C = L := by
  have h1 : fitPart L row R2 = L := by
    unfold fitPart
    rw [show row + 1 - R2 = 0 by omega, List.drop_zero, List.take_of_length_le (by omega)]
  have h2 : fitPart (fitL L row R2 C2) row R = L.map (fitRow · C2) := by
    unfold fitPart
    rw [show row + 1 - R = 0 by omega, List.drop_zero]
    unfold fitL
    rw [h1, List.take_append_of_le_length (by rw [List.length_map]; omega), List.take_of_length_le (by rw [List.length_map]; omega)]
  unfold fitL
  rw [show (List.map (fun x => fitRow x C2) (fitPart L row R2) ++ List.replicate (R2 - (fitPart L row R2).length) (List.replicate C2 blank)) = fitL L row R2 C2 from rfl, h2, List.length_map, hn, Nat.sub_self, List.replicate_zero, List.append_nil, List.map_map]
  conv => rhs; rw [← List.map_id L]
  exact List.map_congr_left fun l hl => fitRow_back (hw l hl) hC
theorem resize_L (g : G) (R C : Nat) : (g.resize R C).L = fitL g.L g.c.row R C ∧ (g.resize R C).c.row = min (g.c.row - (g.c.row + 1 - R)) (R - 1) ∧ (g.resize R C).c.col = min g.c.col (C - 1) ∧ (g.resize R C).c.hidden = g.c.hidden := by
  unfold G.resize G.fitMain
  cases g.other <;> exact ⟨rfl, rfl, rfl, rfl⟩
theorem sizes_back {g : G} (w : WF g) {R2 C2 : Nat} (hR : g.c.rows ≤ R2) (hC : g.c.cols ≤ C2) :
    ((g.resize R2 C2).resize g.c.rows g.c.cols).L = g.L ∧ ((g.resize R2 C2).resize g.c.rows g.c.cols).c.row = g.c.row ∧ ((g.resize R2 C2).resize g.c.rows g.c.cols).c.col = g.c.col ∧ ((g.resize R2 C2).resize g.c.rows g.c.cols).c.hidden = g.c.hidden := by
  have hr := w.row; have hc := w.col
  obtain ⟨a1, a2, a3, a4⟩ := resize_L g R2 C2
  obtain ⟨b1, b2, b3, b4⟩ := resize_L (g.resize R2 C2) g.c.rows g.c.cols
  have e : (g.resize R2 C2).c.row = g.c.row := by rw [a2]; omega
  refine ⟨?_, by rw [b2, e]; omega, by rw [b3, a3]; omega, by rw [b4, a4]⟩
  rw [b1, a1, e]
  exact fit_back w.Ln w.Lw hr hR hC

/-! ### a grid with its parser, resized -/
theorem Gr.step {H H' : Heap} {A : GA} {q : GP} {D' : GD} {g' : G} (h : Gr H A q) (r : Rep H' D' g') (w : WF g') (s : Stp H A.D H' D') (t : 3 < H.next) : Gr H' ⟨D', A.dp, A.s, A.h⟩ ⟨g', q.c, q.w⟩ ∧ GStp H A H' ⟨D', A.dp, A.s, A.h⟩ := by
  have lt : ∀ k, A.foot k → k < H.next := fun k e => h.lt e
  have hs1 : ∀ k, A.s.at k → ¬ A.D.foot k := h.f3
  have hh1 : ∀ k, A.h.at k → ¬ A.D.foot k := h.f4
  have ft : ∀ k, D'.foot k → A.D.foot k ∨ H.next ≤ k := s.ft
  have pd2 : PD H' A.D.pp A.dp A.s A.h q.c q.w := h.pd.keep s.kp h.f1 h.f2 hs1 hh1
  have foot2 : ∀ k, (⟨D', A.dp, A.s, A.h⟩ : GA).foot k → A.foot k ∨ H.next ≤ k := fun k e => by
    rcases e with e | e | e | e | e
    · exact (ft k e).imp .inl id
    · have e' : k = D'.pp := e
      rw [s.pp] at e'
      exact .inl (.inr (.inl e'))
    · exact .inl (.inr (.inr (.inl e)))
    · exact .inl (.inr (.inr (.inr (.inl e))))
    · exact .inl (.inr (.inr (.inr (.inr e))))
  refine ⟨⟨r, w, by rw [show (⟨D', A.dp, A.s, A.h⟩ : GA).D.pp = A.D.pp from s.pp]; exact pd2, fun k e => (foot2 k e).elim (h.lo k) (fun e => by omega), ?_, ?_, ?_, ?_⟩, ⟨s.p, s.kp.mono fun k _ e => .inl e, foot2⟩⟩
  · show ¬ D'.foot D'.pp
    rw [s.pp]
    exact fun e => (ft _ e).elim h.f1 (fun e => by have := lt A.D.pp (.inr (.inl rfl)); omega)
  · show ¬ D'.foot A.dp
    exact fun e => (ft _ e).elim h.f2 (fun e => by have := lt A.dp (.inr (.inr (.inl rfl))); omega)
  · exact fun k e e' => (ft k e').elim (hs1 k e) (fun e' => by have := lt k (.inr (.inr (.inr (.inl e)))); omega)
  · exact fun k e e' => (ft k e').elim (hh1 k e) (fun e' => by have := lt k (.inr (.inr (.inr (.inr e)))); omega)
/-- a grid that a law holds, its parser anywhere -/
structure Ge (H0 H : Heap) (A : GA) (q : GP) : Prop where
  t : Tab H
  r : Gr H A q
  k0 : Keep0 H0 H
  fa : ∀ k, A.foot k → H0.next ≤ k
section
variable {H0 H : Heap} {A : GA} {q : GP} (h : Ge H0 H A q)
include h
theorem Ge.new {H1 : Heap} (k : Keep0 H H1) : Ge H0 H1 A q := ⟨h.t.keep k id id, h.r.keep k fun _ _ e => e, h.k0.trans k, h.fa⟩
theorem Ge.stp {H' : Heap} {A' : GA} {q' : GP} (r : Gr H' A' q') (s : GStp H A H' A') : Ge H0 H' A' q' :=
  ⟨h.t.keep s.kp (fun e => by have := h.r.lo _ e; omega) (fun e => by have := h.r.lo _ e; omega), r, h.k0.fresh s.kp h.fa, fun k e => (s.ft k e).elim (h.fa k) fun e => by have := h.k0.1; omega⟩
theorem Ge.write (d : Nat) {x : Sl} {l : W} (hx : HV H x l) (hl : l.length ≤ 900000) :
    ∃ H' A', X (d + 11) n_grid_Grid_Write [.pointer (some ⟨A.D.p, 0, none⟩), x.v] H = some (.tuple #[], H') ∧ Ge H0 H' A' (q.write G.doA l) ∧ A'.D.p = A.D.p ∧ GStp H A H' A' := by
  obtain ⟨H', A', e, h', s'⟩ := WriteA_s d h.t h.r hx hl
  exact ⟨H', A', e, h.stp h' s', s'.p, s'⟩
theorem Ge.resize (d : Nat) {R C : Nat} (hR : 1 ≤ R ∧ R ≤ 60) (hC : 1 ≤ C ∧ C ≤ 120) :
    ∃ H' A', X (d + 7) n_grid_Grid_Resize [.pointer (some ⟨A.D.p, 0, none⟩), .int .i64 (R : Int), .int .i64 (C : Int)] H = some (.int .i64 0, H') ∧ Ge H0 H' A' ⟨q.g.resize R C, q.c, q.w⟩ ∧ A'.D.p = A.D.p ∧ GStp H A H' A' := by
  obtain ⟨H', D', e, r', s'⟩ := resize_s d h.r.rep h.r.wf hR hC
  obtain ⟨g', st⟩ := h.r.step r' (h.r.wf.resize hR hC) s' h.t.lt
  exact ⟨H', _, e, h.stp g' st, st.p, st⟩
end

theorem sizes_cells (e : Nat) {H : Heap} {b1 b2 : Nat} {c1 c2 : Sc} {L : List (List Cl)} {y1 y2 : Sl} {p1 p2 : Q} (s1 : Shot H b1 c1 L y1 p1) (s2 : Shot H b2 c2 L y2 p2) {a R C : Nat} {l : List Cl} (ha : L[a]? = some l) (hl : l.length = C) (hC : C ≤ 1000) (m0 : Nat) (haL : L.length ≤ 1000) :
    ∀ (m k : Nat), C - k < m → k ≤ C → law21_GridSizes_p1111111111010010010 e m0 m (R : Int) (C : Int) b1 b2 (a : Int) (k : Int) H = law21_GridSizes_p1111111111010 e m0 (R : Int) (C : Int) b1 b2 ((a + 1 : Nat) : Int) H := fun m => by
  obtain ⟨a1, ad1, x1, q1, n1, r1, w1⟩ := s1.row ha
  obtain ⟨a2, ad2, x2, q2, n2, r2, w2⟩ := s2.row ha
  have hal := (List.getElem?_eq_some_iff.1 ha).1
  induction m with
  | zero => intro k hm; omega
  | succ m ih =>
    intro k hm hk
    rw [law21_GridSizes_p1111111111010010010_s]
    by_cases hlt : k < C
    · have hx : l[k]? = some l[k] := List.getElem?_eq_getElem (by omega)
      have g1 := w1.lda hx
      have g2 := w2.lda hx
      rw [if_pos (show decide ((k : Int) < (C : Int)) = true from decide_eq_true (by omega)), a1]
      simp only [optK_s, asSL_k]
      rw [q1]
      simp only [optK_s]
      rw [if_pos (show (0 : Int) ≤ (a : Int) ∧ (a : Int) < (y1.n : Int) by omega), r1]
      simp only [optK_s, asSL_k]
      rw [if_pos (show (0 : Int) ≤ (k : Int) ∧ (k : Int) < (l.length : Int) by omega), show ap ⟨x1, 0, none⟩ (((k : Int).toNat) * 4) = ⟨x1, k * 4, none⟩ by simp [ap], g1]
      simp only [optK_s, asA_s]
      rw [a2]
      simp only [optK_s, asSL_k]
      rw [q2]
      simp only [optK_s]
      rw [if_pos (show (0 : Int) ≤ (a : Int) ∧ (a : Int) < (y2.n : Int) by omega), r2]
      simp only [optK_s, asSL_k]
      rw [if_pos (show (0 : Int) ≤ (k : Int) ∧ (k : Int) < (l.length : Int) by omega), show ap ⟨x2, 0, none⟩ (((k : Int).toNat) * 4) = ⟨x2, k * 4, none⟩ by simp [ap], g2]
      simp only [optK_s, asA_s]
      rw [show (Array.size (⟨cellV l[k]⟩ : Array Value) == 4 && Array.size (⟨cellV l[k]⟩ : Array Value) == 4) = true from rfl]
      simp only [chk_s]
      rw [show eqL [.int .i32, .int .i64, .int .i64, .int .i64] (⟨cellV l[k]⟩ : Array Value).toList (⟨cellV l[k]⟩ : Array Value).toList = some (decide (l[k] = l[k])) from eq_cell _ _, decide_eq_true rfl]
      simp only [optK_s]
      rw [if_neg (show ¬ (!true) = true by simp), wi (by omega)]
      exact ih (k + 1) (by omega) (by omega)
    · rw [if_neg (show ¬ decide ((k : Int) < (C : Int)) = true from dneg (by omega)), wi (by omega)]
theorem sizes_rows (e : Nat) {H : Heap} {b1 b2 : Nat} {c1 c2 : Sc} {L : List (List Cl)} {y1 y2 : Sl} {p1 p2 : Q} (s1 : Shot H b1 c1 L y1 p1) (s2 : Shot H b2 c2 L y2 p2) {R C : Nat} (hn : L.length = R) (hR : R ≤ 1000) (hC : C ≤ 1000) (hL : ∀ l ∈ L, l.length = C) :
    ∀ (m a : Nat), R - a < m → a ≤ R → law21_GridSizes_p1111111111010 e m (R : Int) (C : Int) b1 b2 (a : Int) H = some (.bool true, H) := fun m => by
  induction m with
  | zero => intro a hm; omega
  | succ m ih =>
    intro a hm ha
    rw [law21_GridSizes_p1111111111010_s]
    by_cases hlt : a < R
    · have hx : L[a]? = some (L[a]'(by omega)) := List.getElem?_eq_getElem _
      rw [if_pos (show decide ((a : Int) < (R : Int)) = true from decide_eq_true (by omega)), show (0 : Int) = ((0 : Nat) : Int) from rfl, sizes_cells e s1 s2 hx (hL _ (List.getElem_mem _)) hC m (by omega) NN 0 (NN_big _ (by omega)) (by omega)]
      exact ih (a + 1) (by omega) (by omega)
    · rw [if_neg (show ¬ decide ((a : Int) < (R : Int)) = true from dneg (by omega))]

theorem GridSizes_s (e : Nat) {H : Heap} (t : Tab H) (pt : PTab H) (x0 x1 x2 x3 : Int) {x4 : Sl} {l4 : List Int} (hx : Ints H x4 l4) : ∃ H', X (e + 12) n_law21_GridSizes [.int .i64 x0, .int .i64 x1, .int .i64 x2, .int .i64 x3, x4.v] H = some (.bool true, H') := by
  rw [law21_GridSizes_eq]
  obtain ⟨r0, e1, h1⟩ := Pick_s (e + 10) x0 8 H (by omega) (by omega)
  obtain ⟨c0, e2, h2⟩ := Pick_s (e + 10) x1 12 H (by omega) (by omega)
  rw [show X (e + 11) n_hand_Pick [.int .i64 x0, .int .i64 8] H = _ from e1]
  simp only [callK_s, asI_s]
  rw [show X (e + 11) n_hand_Pick [.int .i64 x1, .int .i64 12] H = _ from e2]
  simp only [callK_s, asI_s]
  have hR : IntKind.wrap .i64 (1 + (r0 : Int)) = ((r0 + 1 : Nat) : Int) := by rw [w64 (by omega)]; omega
  have hC : IntKind.wrap .i64 (1 + (c0 : Int)) = ((c0 + 1 : Nat) : Int) := by rw [w64 (by omega)]; omega
  rw [hR, hC]
  obtain ⟨H2, A, e3, h3, k3, f3⟩ := New_s (e + 4) t.lt (r := r0 + 1) (c := c0 + 1) (by omega) (by omega)
  rw [e3, callK_s, castPI, castPI]
  simp only [List.getElem?_cons_zero, List.getElem?_cons_succ, optK_s, P0, asP_s, asI_s]
  rw [known_s]
  simp only [callK_s, asB_s]
  rw [if_neg (show ¬ (!true) = true by simp), if_neg (show ¬ (!decide True) = true by simp), law21_GridSizes_p111101_eq, if_neg (show ¬ (some (⟨A.D.p, 0, none⟩ : Addr)).isNone = true by simp)]
  have ge : Ge H H2 A (GP.new (r0 + 1) (c0 + 1)) := ⟨t.keep k3 id id, h3, k3, f3⟩
  obtain ⟨w, H4, e4, hw, k4⟩ := Output_s (e + 8) (pt.keep k3 id id) (hx.new k3) (R := r0 + 1) (by omega)
  rw [show X (e + 11) n_hand_Output [x4.v, .int .i64 ((r0 + 1 : Nat) : Int)] H2 = _ from e4]
  simp only [callK_s, asS_s]
  have ge4 := ge.new k4
  rw [lstS, slenS, newK_s]
  have k6 : Keep0 H4 (H4.new (.cells (w.map fun b => .int .u8 b.toNat) t_uint8 true 0 true)) := Keep.new _ _
  have v6 : BV (H4.new (.cells (w.map fun b => .int .u8 b.toNat) t_uint8 true 0 true)) ⟨some ⟨H4.next, 0, none⟩, w.length, w.length⟩ H4.next [] w [] :=
    ⟨rfl, by rw [bytes_len]; show w.length = w.length * 1; omega, Nat.le_refl _, by simp, true, true, by simp [bytes]⟩
  have ge6 := ge4.new k6
  generalize H4.new (.cells (w.map fun b => .int .u8 b.toNat) t_uint8 true 0 true) = H6 at *
  obtain ⟨H7, A7, e7, g7, p7, s7⟩ := ge6.write e v6.hv (by omega)
  rw [show X (e + 11) n_grid_Grid_Write [.pointer (some ⟨A.D.p, 0, none⟩), .slice (some ⟨H4.next, 0, none⟩) w.length w.length] H6 = _ from e7]
  simp only [callK_s]
  rw [← p7]
  have hsz : Sz (GP.new (r0 + 1) (c0 + 1)).g ((GP.new (r0 + 1) (c0 + 1)).write G.doA w).g := acts_sz _ _
  generalize (GP.new (r0 + 1) (c0 + 1)).write G.doA w = q at g7 hsz
  have hrows : q.g.c.rows = r0 + 1 := hsz.1
  have hcols : q.g.c.cols = c0 + 1 := hsz.2
  have wf := g7.r.wf
  obtain ⟨y1, p1, b1, H8, e8, g8, o8, r8, m8, b8, lt8, k8, fy, fp, _⟩ := scr_s (e + 8) g7.r.rep wf
  rw [e8]
  have ge8 := g7.new k8
  have s1 : Shot H8 b1 q.g.c q.g.L y1 p1 := ⟨g8, o8, r8, m8⟩
  obtain ⟨n1, e9, h9⟩ := Pick_s (e + 10) x2 9 H8 (by omega) (by omega)
  obtain ⟨n2, e10, h10⟩ := Pick_s (e + 10) x3 9 H8 (by omega) (by omega)
  rw [show X (e + 11) n_hand_Pick [.int .i64 x2, .int .i64 9] H8 = _ from e9]
  simp only [callK_s, asI_s]
  rw [show X (e + 11) n_hand_Pick [.int .i64 x3, .int .i64 9] H8 = _ from e10]
  simp only [callK_s, asI_s]
  rw [show IntKind.wrap .i64 (((r0 + 1 : Nat) : Int) + (n1 : Int)) = ((r0 + 1 + n1 : Nat) : Int) by rw [w64 (by omega)]; omega, show IntKind.wrap .i64 (((c0 + 1 : Nat) : Int) + (n2 : Int)) = ((c0 + 1 + n2 : Nat) : Int) by rw [w64 (by omega)]; omega]
  have lt7 : ∀ k, A7.foot k → k < H7.next := fun k e => g7.r.lt e
  obtain ⟨H9, A9, e11, g9, p9, s9⟩ := ge8.resize (e + 4) (R := r0 + 1 + n1) (C := c0 + 1 + n2) (by omega) (by omega)
  rw [show X (e + 11) n_grid_Grid_Resize [.pointer (some ⟨A7.D.p, 0, none⟩), .int .i64 ((r0 + 1 + n1 : Nat) : Int), .int .i64 ((c0 + 1 + n2 : Nat) : Int)] H8 = _ from e11]
  simp only [callK_s, asI_s]
  have n8 := k8.1
  have s1b := s1.keep lt8 s9.kp (fun e => by have := lt7 _ e; omega) (fun k e e' => by have := lt7 _ e'; have := (fy k e).1; omega) (fun k e e' => by have := lt7 _ e'; have := (fp k e).1; omega)
  have fo9 : ∀ k, A9.foot k → k < H7.next ∨ H8.next ≤ k := fun k e => (s9.ft k e).imp (fun e => lt7 k e) id
  rw [if_neg (show ¬ (!decide True) = true by simp), ← p9]
  obtain ⟨H10, A10, e12, g10, p10, s10⟩ := g9.resize (e + 4) (R := r0 + 1) (C := c0 + 1) (by omega) (by omega)
  rw [show X (e + 11) n_grid_Grid_Resize [.pointer (some ⟨A9.D.p, 0, none⟩), .int .i64 ((r0 + 1 : Nat) : Int), .int .i64 ((c0 + 1 : Nat) : Int)] H9 = _ from e12]
  simp only [callK_s, asI_s]
  have y8 : ∀ k, y1.at k → k < H8.next := fun k e => Whole.lt o8 e
  have p8 : ∀ k, bl p1 k → k < H8.next := fun k e => r8.lt e
  have n9 := s9.kp.1
  have s1c := s1b.keep (by omega) s10.kp (fun e => by rcases fo9 _ e with e | e <;> omega) (fun k e e' => by have := (fy k e).1; have := y8 k e; rcases fo9 _ e' with e' | e' <;> omega) (fun k e e' => by have := (fp k e).1; have := p8 k e; rcases fo9 _ e' with e' | e' <;> omega)
  rw [show (!decide True) = false by simp, law21_GridSizes_p111111101_eq, if_neg ff, ← p10]
  obtain ⟨z1, z2, z3, z4⟩ := sizes_back wf (R2 := r0 + 1 + n1) (C2 := c0 + 1 + n2) (by omega) (by omega)
  rw [hrows, hcols] at z1 z2 z3 z4
  generalize (q.g.resize (r0 + 1 + n1) (c0 + 1 + n2)).resize (r0 + 1) (c0 + 1) = g3 at *
  obtain ⟨y2, p2, b2, H11, e13, g13, o13, r13, m13, _, lt13, k13, _⟩ := scr_s (e + 8) g10.r.rep g10.r.wf
  rw [e13]
  have n10 := s10.kp.1
  have s1d := s1c.keep (by omega) k13 id (fun _ _ e => e) (fun _ _ e => e)
  have s2 : Shot H11 b2 g3.c q.g.L y2 p2 := ⟨g13, o13, r13, m13.trans z1⟩
  rw [(ld1_s s1d.g).trans (show (scrL q.g.c y1)[3]? = some (.int .i64 (q.g.c.row : Int)) from rfl), (ld1_s s2.g).trans (show (scrL g3.c y2)[3]? = some (.int .i64 (g3.c.row : Int)) from rfl)]
  simp only [optK_s, asI_s]
  rw [if_neg (show ¬ (!decide ((q.g.c.row : Int) = (g3.c.row : Int))) = true by rw [z2]; simp), (ld1_s s1d.g).trans (show (scrL q.g.c y1)[4]? = some (.int .i64 (q.g.c.col : Int)) from rfl), (ld1_s s2.g).trans (show (scrL g3.c y2)[4]? = some (.int .i64 (g3.c.col : Int)) from rfl)]
  simp only [optK_s, asI_s]
  rw [if_neg (show ¬ (!decide ((q.g.c.col : Int) = (g3.c.col : Int))) = true by rw [z3]; simp), (ld1_s s1d.g).trans (show (scrL q.g.c y1)[5]? = some (.bool q.g.c.hidden) from rfl), (ld1_s s2.g).trans (show (scrL g3.c y2)[5]? = some (.bool g3.c.hidden) from rfl)]
  simp only [optK_s, asB_s]
  rw [show (!(q.g.c.hidden == g3.c.hidden)) = false by rw [z4]; simp, law21_GridSizes_p11111111101_eq, if_neg ff]
  exact ⟨H11, sizes_rows (e + 11) s1d s2 (by rw [wf.Ln, hrows]) (by omega) (by omega) (fun l hl => by rw [wf.Lw l hl, hcols]) NN 0 (NN_big _ (by omega)) (by omega)⟩
end Go.Proofs.YtjmiehbiindjdaaDoor.dec
