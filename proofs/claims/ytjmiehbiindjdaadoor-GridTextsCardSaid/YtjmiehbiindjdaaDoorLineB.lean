/-
  grid: one act; Write.
  And: grid: reset; New. grid: Text, Line, Past; the reference's Text. grid: what is written in plain letters. grid: GridWraps: what is printed into a fresh screen. grid: GridWraps. grid: GridTexts: lines, one below another. grid: GridTexts: a new line; the texts. grid: GridTexts: the five texts; what a write of one does. grid: GridTexts: the walk of its first loop. grid: arguments that are ints. grid: GridTexts: the lines are as wanted. grid: GridTexts.
-/
import Derived.Test.YtjmiehbiindjdaaDoorLineA
import Derived.Test.YtjmiehbiindjdaaDoorDec
namespace Go.Proofs.YtjmiehbiindjdaaDoor.dec
open Go Go.Cm

attribute [local congr] optK_congr asI_congr asN_congr asB_congr asS_congr asP_congr asA_congr asSL_congr callK_congr castT_congr chk_congr

theorem does_print (d : Nat) {F : G → Act → G} {a : Act} (hk : a.kind = 1) (hF : ∀ g, F g a = g.print a.rune) : Does (d + 10) F a := by
  intro H D g y h w _ _
  rw [grid_Grid_Do_eq, boxA]
  have k1 : Keep0 H (H.new (.cells (actL a y) t_vt_Act false 0 false)) := Keep.new _ _
  have g1 : (H.new (.cells (actL a y) t_vt_Act false 0 false)).get H.next = some (.cells (actL a y) t_vt_Act false 0 false) := by simp
  generalize H.new (.cells (actL a y) t_vt_Act false 0 false) = H1 at *
  simp only [P0, asP_s, optK_s]
  rw [show ap ⟨H.next, 0, none⟩ 0 = ⟨H.next, 0, none⟩ from rfl, (ld1_s g1).trans (show (actL a y)[0]? = some (.int .i64 (a.kind : Int)) from rfl)]
  simp only [optK_s, asI_s]
  rw [if_pos (show decide ((a.kind : Int) = 1) = true from decide_eq_true (by omega)), show ap ⟨H.next, 0, none⟩ 1 = ⟨H.next, 1, none⟩ from rfl, (ld1_s g1).trans (show (actL a y)[1]? = some (.int .i32 a.rune) from rfl)]
  simp only [optK_s, asI_s]
  obtain ⟨H2, D2, e2, h2, s2⟩ := print_s d (h.new k1) w a.rune
  rw [show X (d + 9) n_grid_Grid_print [.pointer (some ⟨D.p, 0, none⟩), .int .i32 a.rune] H1 = _ from e2]
  refine ⟨H2, D2, rfl, by rw [hF]; exact h2, by rw [hF]; exact w.print _, (Stp.new k1).trans s2⟩
theorem does_control (d : Nat) {F : G → Act → G} {a : Act} (hk : a.kind = 2) (hF : ∀ g, F g a = g.control a.rune) : Does (d + 10) F a := by
  intro H D g y h w _ _
  rw [grid_Grid_Do_eq, boxA]
  have k1 : Keep0 H (H.new (.cells (actL a y) t_vt_Act false 0 false)) := Keep.new _ _
  have g1 : (H.new (.cells (actL a y) t_vt_Act false 0 false)).get H.next = some (.cells (actL a y) t_vt_Act false 0 false) := by simp
  generalize H.new (.cells (actL a y) t_vt_Act false 0 false) = H1 at *
  simp only [P0, asP_s, optK_s]
  rw [show ap ⟨H.next, 0, none⟩ 0 = ⟨H.next, 0, none⟩ from rfl, (ld1_s g1).trans (show (actL a y)[0]? = some (.int .i64 (a.kind : Int)) from rfl)]
  simp only [optK_s, asI_s]
  rw [if_neg (show ¬ decide ((a.kind : Int) = 1) = true from dneg (by omega)), if_pos (show decide ((a.kind : Int) = 2) = true from decide_eq_true (by omega)), show ap ⟨H.next, 0, none⟩ 1 = ⟨H.next, 1, none⟩ from rfl, (ld1_s g1).trans (show (actL a y)[1]? = some (.int .i32 a.rune) from rfl)]
  simp only [optK_s, asI_s]
  obtain ⟨H2, D2, e2, h2, s2⟩ := control_s d (h.new k1) w a.rune
  rw [show X (d + 9) n_grid_Grid_control [.pointer (some ⟨D.p, 0, none⟩), .int .i32 a.rune] H1 = _ from e2]
  refine ⟨H2, D2, rfl, by rw [hF]; exact h2, by rw [hF]; exact w.control _, (Stp.new k1).trans s2⟩

/-! ### the acts, one after another -/
theorem Acts_s (d : Nat) {F : G → Act → G} {x : Sl} {al : AL} {N : Nat} (hal : al.length ≤ 1000000) (hdo : ∀ a ∈ al, Does d F a.1) : ∀ (r : AL) (m i : Nat) {H : Heap} {D : GD} {g : G}, r.length < m → al.drop i = r → i + r.length = al.length → Rep H D g → WF g → AR N H x al → (∀ k, x.at k → ¬ D.foot k) → (∀ a ∈ al, ∀ k, a.2.at k → ¬ D.foot k) →
    ∃ H' D', grid_Grid_Write_p10 d m D.p x (al.length : Int) (i : Int) H = some (.tuple #[], H') ∧ Rep H' D' ((r.map Prod.fst).foldl F g) ∧ WF ((r.map Prod.fst).foldl F g) ∧ Stp H D H' D' := fun r => by
  induction r with
  | nil =>
    intro m i H D g hm _ hi h w _ _ _
    obtain ⟨m, rfl⟩ : ∃ m', m = m' + 1 := ⟨m - 1, by simp at hm; omega⟩
    simp only [List.length_nil] at hi
    rw [grid_Grid_Write_p10_s, if_neg (show ¬ decide ((i : Int) < (al.length : Int)) = true from dneg (by omega))]
    exact ⟨H, D, rfl, h, w, Stp.refl _ _⟩
  | cons a r ih =>
    intro m i H D g hm hd hi h w ar hx ha
    simp only [List.length_cons] at hm hi
    obtain ⟨m, rfl⟩ : ∃ m', m = m' + 1 := ⟨m - 1, by omega⟩
    have hc : al[i]? = some a := by have := congrArg (fun x => x[0]?) hd; simpa using this
    have hdr : al.drop (i + 1) = r := by rw [← List.drop_drop, hd]; rfl
    have ham : a ∈ al := List.mem_of_getElem? hc
    have hn := ar.n
    have hxne : x.a ≠ none := by
      rcases ar.w with ⟨h1, _⟩ | ⟨b, q, h1, _⟩
      · rw [h1] at hn; simp [] at hn; omega
      · rw [h1]; simp
    obtain ⟨b, vw, hat⟩ := Vw.of ar.w hxne
    rw [grid_Grid_Write_p10_s, if_pos (show decide ((i : Int) < (al.length : Int)) = true from decide_eq_true (by omega)), vw.sa]
    simp only [optK_s]
    have hld : ldA H ⟨b, i * 4, none⟩ 4 = some (.agg ⟨actL a.1 a.2⟩) := by
      obtain ⟨_, _, _, _, o, st, g0⟩ := vw
      unfold ldA
      rw [List.nil_append, List.append_nil] at g0
      rw [ldN_s g0 (by rw [actsV_len]; omega), show actsV al = al.flatMap (fun x => actL x.1 x.2) from rfl, fm_at (fun x : Act × Sl => actL x.1 x.2) 4 (fun _ => rfl) hc]
    rw [if_pos (show (0 : Int) ≤ (i : Int) ∧ (i : Int) < (x.n : Int) by omega), show ap ⟨b, ([] : List Value).length, none⟩ (((i : Int).toNat) * 4) = ⟨b, i * 4, none⟩ by simp [ap], hld]
    simp only [optK_s, asA_s, newK_s]
    have k2 : Keep0 H (H.new (.cells [.int .i64 0, .int .i32 0, .bool false, .slice none 0 0] t_vt_Act false 0 false)) := Keep.new _ _
    have g2 : (H.new (.cells [.int .i64 0, .int .i32 0, .bool false, .slice none 0 0] t_vt_Act false 0 false)).get H.next = some (.cells zeroA t_vt_Act false 0 false) := by simp; rfl
    generalize H.new (.cells [.int .i64 0, .int .i32 0, .bool false, .slice none 0 0] t_vt_Act false 0 false) = H2 at *
    rw [st_act _ _ g2 rfl]
    have k3 : Keep0 H (H2.put H.next (.cells (actL a.1 a.2) t_vt_Act false 0 false)) := k2.fresh (Keep.put (S := fun k => k = H.next) _ _ _ rfl) fun k e => by have e' : k = H.next := e; omega
    have g3 : (H2.put H.next (.cells (actL a.1 a.2) t_vt_Act false 0 false)).get H.next = some (.cells (actL a.1 a.2) t_vt_Act false 0 false) := by simp
    generalize H2.put H.next (.cells (actL a.1 a.2) t_vt_Act false 0 false) = H3 at *
    rw [ld_act g3 rfl]
    simp only [optK_s, asA_s]
    have ar3 : AR N H3 x al := ar.keep k3 (fun _ _ e => e) fun _ _ _ _ e => e
    obtain ⟨H4, D4, e4, h4, w4, s4⟩ := hdo a ham (h.new k3) w (ar3.p a ham) (ha a ham)
    rw [e4]
    simp only [callK_s]
    rw [wi (by omega)]
    have hf4 : ∀ k, D4.foot k → D.foot k ∨ H3.next ≤ k := s4.ft
    have hxl : ∀ k, x.at k → k < H3.next := fun k e => Whole.lt ar3.w e
    have hal3 : ∀ a ∈ al, ∀ k, a.2.at k → k < H3.next := fun a ha k e => Whole.lt (ar3.p a ha) e
    have ar4 : AR N H4 x al := ar3.keep s4.kp hx ha
    obtain ⟨H', D', e5, h5, w5, s5⟩ := ih m (i + 1) (by omega) hdr (by omega) h4 w4 ar4 (fun k e e' => (hf4 k e').elim (hx k e) (fun e' => by have := hxl k e; omega)) (fun a ha' k e e' => (hf4 k e').elim (ha a ha' k e) (fun e' => by have := hal3 a ha' k e; omega))
    rw [s4.p] at e5
    exact ⟨H', D', e5, h5, w5, ((Stp.new k3).trans s4).trans s5⟩

/-! ### Write -/
theorem PD.keep {S : Nat → Prop} {H H' : Heap} {pp dp : Nat} {s h : Sl} {c : PS} {w : W} (p : PD H pp dp s h c w) (hk : Keep S H H') (h1 : ¬ S pp) (h2 : ¬ S dp) (h3 : ∀ k, s.at k → ¬ S k) (h4 : ∀ k, h.at k → ¬ S k) : PD H' pp dp s h c w :=
  ⟨p.pr.keep hk h1 h3, p.ok, p.dr.keep hk h2 h4, p.w3, p.ne, p.hp, p.sd, p.hs, p.d3⟩
/-- where a grid with its parser lies -/
structure GA where
  D : GD
  dp : Nat
  s : Sl
  h : Sl
def GA.foot (A : GA) (k : Nat) : Prop := A.D.foot k ∨ k = A.D.pp ∨ k = A.dp ∨ A.s.at k ∨ A.h.at k
structure GP where
  g : G
  c : PS
  w : W
/-- a grid with its parser -/
structure Gr (H : Heap) (A : GA) (q : GP) : Prop where
  rep : Rep H A.D q.g
  wf : WF q.g
  pd : PD H A.D.pp A.dp A.s A.h q.c q.w
  lo : ∀ k, A.foot k → 3 < k
  f1 : ¬ A.D.foot A.D.pp
  f2 : ¬ A.D.foot A.dp
  f3 : ∀ k, A.s.at k → ¬ A.D.foot k
  f4 : ∀ k, A.h.at k → ¬ A.D.foot k
theorem Gr.lt {H : Heap} {A : GA} {q : GP} (h : Gr H A q) {k : Nat} (e : A.foot k) : k < H.next := by
  rcases e with e | e | e | e | e
  · exact h.rep.ltF e
  · rw [e]; exact h.pd.pr.lt
  · rw [e]; exact h.pd.dr.2.1
  · exact Whole.lt h.pd.pr.par e
  · exact h.pd.dr.2.2.1.lt e
theorem Gr.keep {S : Nat → Prop} {H H' : Heap} {A : GA} {q : GP} (h : Gr H A q) (hk : Keep S H H') (hs : ∀ k, A.foot k → ¬ S k) : Gr H' A q :=
  ⟨h.rep.keep hk fun k e => hs k (.inl e), h.wf, h.pd.keep hk (hs _ (.inr (.inl rfl))) (hs _ (.inr (.inr (.inl rfl)))) (fun k e => hs k (.inr (.inr (.inr (.inl e))))) (fun k e => hs k (.inr (.inr (.inr (.inr e))))), h.lo, h.f1, h.f2, h.f3, h.f4⟩
structure GStp (H : Heap) (A : GA) (H' : Heap) (A' : GA) : Prop where
  p : A'.D.p = A.D.p
  kp : Keep A.foot H H'
  ft : ∀ k, A'.foot k → A.foot k ∨ H.next ≤ k
theorem GStp.trans {H H' H'' : Heap} {D D' D'' : GA} (h : GStp H D H' D') (h' : GStp H' D' H'' D'') : GStp H D H'' D'' :=
  ⟨h'.p.trans h.p, h.kp.trans h'.kp fun k hk hf => (h.ft k hf).elim id (fun e => by omega), fun k hk => by
    rcases h'.ft k hk with e | e
    · exact h.ft k e
    · have := h.kp.1; exact .inr (by omega)⟩
def GP.acts (q : GP) (l : W) : List Act := (pFeed q.c (feedL (q.w ++ l))).2
def GP.write (F : G → Act → G) (q : GP) (l : W) : GP := ⟨(q.acts l).foldl F q.g, (pFeed q.c (feedL (q.w ++ l))).1, heldW (q.w ++ l)⟩

theorem Write_s (d : Nat) {F : G → Act → G} {H : Heap} (t : Tab H) {A : GA} {q : GP} (h : Gr H A q) {x : Sl} {l : W} (hx : HV H x l) (hl : l.length ≤ 900000) (hdo : ∀ a ∈ q.acts l, Does (d + 4) F a) :
    ∃ H' A', X (d + 5) n_grid_Grid_Write [P0 A.D.p, x.v] H = some (.tuple #[], H') ∧ Gr H' A' (q.write F l) ∧ GStp H A H' A' := by
  rw [grid_Grid_Write_eq, h.rep.l32]
  simp only [optK_s, P0, asP_s]
  obtain ⟨y, s1, h1, H1, al, e1, p1, m1, a1, n1, n2, f1, f2, k1⟩ := PFeed_s d t h.pd hx hl
  rw [show X (d + 4) n_vt_Parser_Feed [.pointer (some ⟨A.D.pp, 0, none⟩), x.v] H = some (y.v, H1) from e1]
  simp only [callK_s, asSL_k]
  have hlen : al.length ≤ 1000000 := by
    have e : al.length = (q.acts l).length := by unfold GP.acts; rw [← m1, List.length_map]
    have := pFeed_len (c := q.c) (feedL (q.w ++ l))
    have h2 := runes_len ((q.w ++ l).take (cut (q.w ++ l)))
    have h3 := h.pd.w3
    unfold feedL at this
    rw [List.length_take, List.length_append] at h2
    rw [e]
    unfold GP.acts feedL
    omega
  have hlt : ∀ k, A.D.foot k → k < H.next := fun k e => h.rep.ltF e
  have rep1 : Rep H1 A.D q.g := h.rep.keep k1 fun k e e' => by
    rcases e' with e' | e' | e'
    · exact h.f1 (e' ▸ e)
    · exact h.f2 (e' ▸ e)
    · exact h.f3 k e' e
  rw [show (y.n : Int) = (al.length : Int) by rw [a1.n]]
  obtain ⟨H2, D2, e2, r2, w2, s2⟩ := Acts_s (d + 4) (F := F) hlen (fun a ha => hdo _ (by unfold GP.acts; rw [← m1]; exact List.mem_map_of_mem ha)) al NN 0 (NN_big _ (by omega)) rfl (by omega) rep1 h.wf a1
    (fun k e e' => by have := a1.x0 k e; have := hlt k e'; omega) (fun a ha k e e' => by have := (a1.a0 a ha k e).1; have := hlt k e'; omega)
  rw [show (0 : Int) = ((0 : Nat) : Int) from rfl, e2]
  have ef : (al.map Prod.fst) = q.acts l := m1
  rw [ef] at r2 w2
  have hk1 := k1.1
  have g1 : ¬ A.D.foot A.D.pp := h.f1
  have hs1 : ∀ k, s1.at k → ¬ A.D.foot k := fun k e e' => (f1 k e).elim (fun e => h.f3 k e e') (fun e => by have := hlt k e'; omega)
  have hh1 : ∀ k, h1.at k → ¬ A.D.foot k := fun k e e' => by have := f2 k e; have := hlt k e'; omega
  have pd2 : PD H2 A.D.pp A.dp s1 h1 (pFeed q.c (feedL (q.w ++ l))).1 (heldW (q.w ++ l)) := p1.keep s2.kp h.f1 h.f2 hs1 hh1
  have ft : ∀ k, D2.foot k → A.D.foot k ∨ H1.next ≤ k := s2.ft
  have hpp := p1.pr.lt; have hdp := p1.dr.2.1
  have hsl : ∀ k, s1.at k → k < H1.next := fun k e => Whole.lt p1.pr.par e
  have hhl : ∀ k, h1.at k → k < H1.next := fun k e => p1.dr.2.2.1.lt e
  have foot2 : ∀ k, (⟨D2, A.dp, s1, h1⟩ : GA).foot k → A.foot k ∨ H.next ≤ k := fun k e => by
    rcases e with e | e | e | e | e
    · exact (ft k e).imp .inl fun e => by omega
    · have e' : k = D2.pp := e
      rw [s2.pp] at e'
      exact .inl (.inr (.inl e'))
    · exact .inl (.inr (.inr (.inl e)))
    · exact (f1 k e).imp (fun e => .inr (.inr (.inr (.inl e)))) id
    · exact .inr (f2 k e)
  have h3 := t.lt
  refine ⟨H2, ⟨D2, A.dp, s1, h1⟩, rfl, ⟨r2, w2, by rw [show (⟨D2, A.dp, s1, h1⟩ : GA).D.pp = A.D.pp from s2.pp]; exact pd2, fun k e => (foot2 k e).elim (h.lo k) (fun e => by omega), ?_, ?_, ?_, ?_⟩, ⟨s2.p, ?_, foot2⟩⟩
  · show ¬ D2.foot D2.pp
    rw [s2.pp]
    exact fun e => (ft _ e).elim h.f1 (fun e => by omega)
  · show ¬ D2.foot A.dp
    exact fun e => (ft _ e).elim h.f2 (fun e => by omega)
  · exact fun k e e' => (ft k e').elim (hs1 k e) (fun e' => by have := hsl k e; omega)
  · exact fun k e e' => (ft k e').elim (hh1 k e) (fun e' => by have := hhl k e; omega)
  · exact (k1.mono (T := A.foot) fun k _ e => e.elim (fun e => .inr (.inl e)) fun e => e.elim (fun e => .inr (.inr (.inl e))) fun e => .inr (.inr (.inr (.inl e)))).trans s2.kp fun k _ e => .inl e
end Go.Proofs.YtjmiehbiindjdaaDoor.dec

namespace Go.Proofs.YtjmiehbiindjdaaDoor.dec
open Go Go.Cm

attribute [local congr] optK_congr asI_congr asN_congr asB_congr asS_congr asP_congr asA_congr asSL_congr callK_congr castT_congr chk_congr

def Sc.init (r c : Nat) : Sc := ⟨r, c, 0, 0, false, zeroC, 0, 0, false, zeroC, 0, r - 1, true, false, false, 0, 0, false, zeroC⟩
def tabs0 (n : Nat) : List Bool := (List.range n).map fun i => decide (0 < i) && decide (i % 8 = 0)
def G.fresh (r c : Nat) (past : List (List Cl)) : G := ⟨Sc.init r c, List.replicate r (List.replicate c blank), tabs0 c, none, past⟩

theorem tabs0_succ (n : Nat) : tabs0 (n + 1) = tabs0 n ++ [decide (0 < n) && decide (n % 8 = 0)] := by
  simp [tabs0, List.range_succ]

/-- one tab more -/
theorem Rep.tab {H : Heap} {D : GD} {g : G} (h : Rep H D g) (hn : g.tabs.length ≤ 1000) (b : Bool) :
    ∃ y H1 H', (∀ K, appendK t_bool 1 1 false D.tabs.v (.slice (some ⟨H.next, 0, none⟩) 1 1) (H.new (.cells [.bool b] t_bool false 0 false)) K = K (Sl.v y) H1) ∧ Heap.st1 H1 ⟨D.p, 22, none⟩ y.v = some H' ∧ Rep H' { D with tabs := y } { g with tabs := g.tabs ++ [b] } ∧ Stp H D H' { D with tabs := y } := by
  have hl := (Whole.len h.ta).1
  rw [List.length_map] at hl
  obtain ⟨y, H1, e1, w1, k1, k1', f1, n1⟩ := push_whole (bytes := 1) (new := [.bool b]) h.ta rfl (by omega) (by omega) (by omega)
  have hS : ∀ k, D.tabs.at k → D.cmp 3 k := fun k e => e
  have g1 := h.o0 k1 hS (by decide)
  have kp : Keep (fun k => k = D.p) H1 (H1.put D.p (.cells (gridL g.c { D with tabs := y }) t_grid_Grid false 0 false)) := Keep.put _ _ _ rfl
  have hn1 := k1.1
  have k2 : Keep (fun k => D.cmp 0 k ∨ D.cmp 3 k) H (H1.put D.p (.cells (gridL g.c { D with tabs := y }) t_grid_Grid false 0 false)) :=
    (k1.mono fun k _ e => .inr e).trans (kp.mono (T := fun k => D.cmp 0 k ∨ D.cmp 3 k) fun k _ e => .inl e) fun _ _ e => e
  have hS2 : ∀ i, i ≠ 0 → i ≠ 3 → ∀ k, D.cmp i k → ¬ (D.cmp 0 k ∨ D.cmp 3 k) := fun i h0 h3 k e e' => e'.elim (fun e' => h0 (h.sep _ _ k e e')) (fun e' => h3 (h.sep _ _ k e e'))
  have hyp : ¬ y.at D.p := fun e => by have := f1 _ e; have := h.lt; omega
  refine ⟨y, H1, H1.put D.p (.cells (gridL g.c { D with tabs := y }) t_grid_Grid false 0 false), e1, (st1_s g1 (v := y.v) (by show 22 < 33; omega) (by omega)).trans rfl, ?_, ⟨rfl, rfl, k2.mono fun k _ e => e.elim (fun e => ⟨0, e⟩) (fun e => ⟨3, e⟩), fun k ⟨i, e⟩ => ?_⟩⟩
  · refine ⟨by simp, Nat.lt_of_lt_of_le h.lt k2.1, Whole.keep h.co k2 (hS2 1 (by decide) (by decide)), h.cr.keep k2 (hS2 2 (by decide) (by decide)), h.cL, ?_, h.oo.keep k2 (hS2 4 (by decide) (by decide)), h.or.keep k2 (hS2 5 (by decide) (by decide)), h.po.keep k2 (hS2 6 (by decide) (by decide)), h.pr.keep k2 (hS2 7 (by decide) (by decide)), h.pL, ?_⟩
    · have := Whole.keep w1 kp fun k e e' => hyp (by have e'' : k = D.p := e'; rw [← e'']; exact e)
      simpa using this
    · refine sep_of (D := D) (N := H.next + 1) h.sep (fun i k e => ?_) (fun i j k hN e e' => ?_)
      · match i, e with
        | 0, e => exact .inl e
        | 1, e => exact .inl e
        | 2, e => exact .inl e
        | 3, e => exact .inr (f1 k e)
        | 4, e => exact .inl e
        | 5, e => exact .inl e
        | 6, e => exact .inl e
        | 7, e => exact .inl e
      · have z : ∀ i, ({ D with tabs := y } : GD).cmp i k → i = 3 := fun i e => by
          have old : ∀ i, D.cmp i k → False := fun i e => by have := cmp_lt h e; omega
          match i, e with
          | 0, e => exact (old 0 e).elim
          | 1, e => exact (old 1 e).elim
          | 2, e => exact (old 2 e).elim
          | 3, e => rfl
          | 4, e => exact (old 4 e).elim
          | 5, e => exact (old 5 e).elim
          | 6, e => exact (old 6 e).elim
          | 7, e => exact (old 7 e).elim
        rw [z i e, z j e']
  · match i, e with
    | 0, e => exact .inl ⟨0, e⟩
    | 1, e => exact .inl ⟨1, e⟩
    | 2, e => exact .inl ⟨2, e⟩
    | 3, e => exact .inr (by have := f1 k e; omega)
    | 4, e => exact .inl ⟨4, e⟩
    | 5, e => exact .inl ⟨5, e⟩
    | 6, e => exact .inl ⟨6, e⟩
    | 7, e => exact .inl ⟨7, e⟩

theorem tabs_loop (d n : Nat) (hn : n ≤ 1000) {c : Sc} (h1 : c.st = zeroC) (h2 : c.sst = zeroC) : ∀ (m i : Nat) {H : Heap} {D : GD} {g : G}, n - i < m → i ≤ n → g.c = c → g.tabs = tabs0 i → Rep H D g →
    ∃ H' y, grid_Grid_reset_p1111010 d m D.p (n : Int) (i : Int) H = some (.tuple #[], H') ∧ Rep H' { D with tabs := y } { g with tabs := tabs0 n } ∧ Stp H D H' { D with tabs := y } := fun m => by
  induction m with
  | zero => intro i H D g hm; omega
  | succ m ih =>
    intro i H D g hm hi hc ht h
    rw [grid_Grid_reset_p1111010_s]
    by_cases hlt : i < n
    · rw [if_pos (show decide ((i : Int) < (n : Int)) = true from decide_eq_true (by omega)), h.l22]
      simp only [optK_s, asSL_k]
      have A : ∀ (z : Bool), z = (decide (0 < i) && decide (i % 8 = 0)) → ∃ H' y, newK H (.cells [.bool z] t_bool false 0 false) (fun p3 H4 =>
          appendK t_bool 1 1 false D.tabs.v (.slice (some ⟨p3, 0, none⟩) 1 1) H4 fun v5 H6 =>
          asSL v5 fun l7 => optK (Heap.st1 H6 ⟨D.p, 22, none⟩ l7.v) fun H8 => grid_Grid_reset_p11110100111 d m D.p (n : Int) (i : Int) H8) = some (.tuple #[], H') ∧ Rep H' { D with tabs := y } { g with tabs := tabs0 n } ∧ Stp H D H' { D with tabs := y } := fun z hz => by
        have htl : g.tabs.length ≤ 1000 := by rw [ht]; simp [tabs0]; omega
        obtain ⟨y, H1, H2, e1, e2, h', s'⟩ := h.tab htl z
        simp only [newK_s]
        rw [e1]
        simp only [asSL_k]
        rw [e2]
        simp only [optK_s]
        rw [grid_Grid_reset_p11110100111_eq, wi (by omega)]
        obtain ⟨H3, y3, e3, h3, s3⟩ := ih (i + 1) (by omega) (by omega) (g := { g with tabs := g.tabs ++ [z] }) hc (by show g.tabs ++ [z] = _; rw [tabs0_succ, ht, hz]) h'
        exact ⟨H3, y3, e3, h3, s'.trans s3⟩
      by_cases h0 : 0 < i
      · rw [if_pos (show decide ((0 : Int) < (i : Int)) = true from decide_eq_true (by omega))]
        refine A _ ?_
        rw [decide_eq_true h0, Bool.true_and]
        have : Int.tmod (i : Int) 8 = ((i % 8 : Nat) : Int) := by rw [Int.tmod_eq_emod_of_nonneg (by omega)]; omega
        rw [this]
        exact decide_eq_decide.2 (by omega)
      · rw [if_neg (show ¬ decide ((0 : Int) < (i : Int)) = true from dneg (by omega))]
        exact A false (by rw [decide_eq_false h0]; rfl)
    · rw [if_neg (show ¬ decide ((i : Int) < (n : Int)) = true from dneg (by omega))]
      have hin : i = n := by omega
      subst hin
      have z : Heap.stN H ⟨D.p, 6, none⟩ [.int .i32 0, .int .i64 0, .int .i64 0, .int .i64 0] = some (H.put D.p (.cells (gridL g.c D) t_grid_Grid false 0 false)) := by
        simp only [Heap.stN, h.get]
        rw [hc]
        simp only [gridL, h1, h2]
        rfl
      rw [z]
      simp only [optK_s]
      have hg2 : (H.put D.p (.cells (gridL g.c D) t_grid_Grid false 0 false)).get D.p = some (.cells (gridL g.c D) t_grid_Grid false 0 false) := by simp
      have z2 : Heap.stN (H.put D.p (.cells (gridL g.c D) t_grid_Grid false 0 false)) ⟨D.p, 13, none⟩ [.int .i32 0, .int .i64 0, .int .i64 0, .int .i64 0] = some ((H.put D.p (.cells (gridL g.c D) t_grid_Grid false 0 false)).put D.p (.cells (gridL g.c D) t_grid_Grid false 0 false)) := by
        simp only [Heap.stN, hg2]
        rw [hc]
        simp only [gridL, h1, h2]
        rfl
      rw [z2]
      simp only [optK_s]
      have h3 := h.setc g.c
      have s3 := Stp.setc h g.c
      have h4 := h3.setc g.c
      have s4 := Stp.setc h3 g.c
      refine ⟨_, D.tabs, rfl, ?_, s3.trans s4⟩
      rw [← ht]
      exact h4

/-- a grid's cells ahead of reset -/
theorem reset_s (d : Nat) {H : Heap} {p pp r c : Nat} {past : Sl} {pq : Q} {L : List Value} (hr : 1 ≤ r ∧ r ≤ 60) (hc : 1 ≤ c ∧ c ≤ 120) (hg : H.get p = some (.cells L t_grid_Grid false 0 false)) (hL : L.length = 33) (l0 : L[0]? = some (.int .i64 (r : Int))) (l1 : L[1]? = some (.int .i64 (c : Int)))
    (l31 : L[31]? = some past.v) (l32 : L[32]? = some (P0 pp)) (hp : p < H.next) (po : PastO H past pq) (pr : Rows H pq) (n1 : ¬ past.at p) (n2 : ¬ bl pq p) (n3 : ∀ k, past.at k → ¬ bl pq k) :
    ∃ H' D', X (d + 6) n_grid_Grid_reset [P0 p] H = some (.tuple #[], H') ∧ Rep H' D' (G.fresh r c (pq.map Prod.snd)) ∧ D'.p = p ∧ D'.pp = pp ∧ Keep (fun k => k = p ∨ past.at k ∨ bl pq k) H H' ∧ (∀ k, D'.foot k → k = p ∨ past.at k ∨ bl pq k ∨ H.next ≤ k) := by
  rw [grid_Grid_reset_eq, (ld1_s hg).trans l0]
  simp only [optK_s, asI_s]
  rw [(ld1_s hg).trans l1]
  simp only [optK_s, asI_s]
  rw [(ld1_s hg).trans l31]
  simp only [optK_s, asSL_k]
  rw [(ld1_s hg).trans l32]
  simp only [optK_s, P0, asP_s]
  -- all but the past is new
  let c9 : Sc := { Sc.init r c with bottom := 0, wrap := false }
  let D9 : GD := ⟨p, pp, Sl.nil, [], Sl.nil, Sl.nil, [], past, pq⟩
  have e9 : Heap.stN H ⟨p, 0, none⟩ [.int .i64 r, .int .i64 c, .slice none 0 0, .int .i64 0, .int .i64 0, .bool false, .int .i32 0, .int .i64 0, .int .i64 0, .int .i64 0, .int .i64 0, .int .i64 0, .bool false, .int .i32 0, .int .i64 0, .int .i64 0, .int .i64 0, .int .i64 0, .int .i64 0, .bool false, .bool false, .bool false, .slice none 0 0, .slice none 0 0, .int .i64 0, .int .i64 0, .bool false, .int .i32 0, .int .i64 0, .int .i64 0, .int .i64 0, past.v, .pointer (some ⟨pp, 0, none⟩)] = some (H.put p (.cells (gridL c9 D9) t_grid_Grid false 0 false)) := by
    simp only [Heap.stN, hg]
    rw [if_pos (by rw [hL]; exact ⟨Nat.le_refl 33, Nat.le_refl 0⟩)]
    simp only [splice, List.take_zero, List.nil_append, Nat.zero_add]
    rw [List.drop_eq_nil_of_le (by rw [hL]; exact Nat.le_refl 33), List.append_nil]
    rfl
  rw [e9]
  simp only [optK_s]
  have g9 : (H.put p (.cells (gridL c9 D9) t_grid_Grid false 0 false)).get p = some (.cells (gridL c9 D9) t_grid_Grid false 0 false) := by simp
  have k9 : Keep (fun k => k = p) H (H.put p (.cells (gridL c9 D9) t_grid_Grid false 0 false)) := Keep.put _ _ _ rfl
  have n9 : (H.put p (.cells (gridL c9 D9) t_grid_Grid false 0 false)).next = H.next := rfl
  generalize H.put p (.cells (gridL c9 D9) t_grid_Grid false 0 false) = H9 at *
  rw [(ld1_s g9).trans (show (gridL c9 D9)[0]? = some (.int .i64 (r : Int)) from rfl)]
  simp only [optK_s, asI_s]
  rw [(ld1_s g9).trans (show (gridL c9 D9)[1]? = some (.int .i64 (c : Int)) from rfl)]
  simp only [optK_s, asI_s]
  obtain ⟨s, q, H15, e15, o15, r15, q15, s15, b15, d15, k15⟩ := sheet_s d r c (by omega) (by omega) H9
  rw [e15]
  simp only [callK_s, asSL_k]
  have g15 := k15.get (by omega) g9
  let D17 : GD := ⟨p, pp, s, q, Sl.nil, Sl.nil, [], past, pq⟩
  have e17 : Heap.st1 H15 ⟨p, 2, none⟩ s.v = some (H15.put p (.cells (gridL c9 D17) t_grid_Grid false 0 false)) := (st1_s g15 (v := s.v) (by show 2 < 33; omega) (by omega)).trans rfl
  rw [e17]
  simp only [optK_s]
  have kp : Keep (fun k => k = p) H15 (H15.put p (.cells (gridL c9 D17) t_grid_Grid false 0 false)) := Keep.put _ _ _ rfl
  have g17 : (H15.put p (.cells (gridL c9 D17) t_grid_Grid false 0 false)).get p = some (.cells (gridL c9 D17) t_grid_Grid false 0 false) := by simp
  generalize H15.put p (.cells (gridL c9 D17) t_grid_Grid false 0 false) = H17 at *
  have n15 := k15.1
  have n17 := kp.1
  have k017 : Keep (fun k => k = p) H H17 := (k9.trans k15.to fun _ _ e => e).trans kp fun _ _ e => e
  have po17 : PastO H17 past pq := po.keep k017 fun k e e' => n1 (by have e'' : k = p := e'; rw [← e'']; exact e)
  have pr17 : Rows H17 pq := pr.keep k017 fun k e e' => n2 (by have e'' : k = p := e'; rw [← e'']; exact e)
  have o17 : Outer H17 s q := Whole.keep o15 kp fun k e e' => by have e'' : k = p := e'; have := s15 k e; omega
  have r17 : Rows H17 q := r15.keep kp fun k e e' => by have e'' : k = p := e'; have := b15 k e; omega
  have cs : ∀ i k, D17.cmp i k → (i = 0 ∧ k = p) ∨ (i = 1 ∧ s.at k ∧ H.next ≤ k) ∨ (i = 2 ∧ bl q k ∧ H.next ≤ k) ∨ (i = 6 ∧ past.at k ∧ k < H.next ∧ k ≠ p) ∨ (i = 7 ∧ bl pq k ∧ k < H.next ∧ k ≠ p) := fun i k e => by
    match i, e with
    | 0, e => exact .inl ⟨rfl, e⟩
    | 1, e => exact .inr (.inl ⟨rfl, e, by have := s15 k e; omega⟩)
    | 2, e => exact .inr (.inr (.inl ⟨rfl, e, by have := b15 k e; omega⟩))
    | 3, e => exact absurd e Sl.at_nil
    | 4, e => exact absurd e Sl.at_nil
    | 5, e => exact absurd e bl_nil
    | 6, e => exact .inr (.inr (.inr (.inl ⟨rfl, e, po.lt e, fun e' => n1 (e' ▸ e)⟩)))
    | 7, e => exact .inr (.inr (.inr (.inr ⟨rfl, e, pr.lt e, fun e' => n2 (e' ▸ e)⟩)))
  have rep17 : Rep H17 D17 ⟨c9, List.replicate r (List.replicate c blank), [], none, pq.map Prod.snd⟩ := by
    refine ⟨g17, by show p < H17.next; omega, o17, r17, q15, .inl ⟨rfl, rfl⟩, ⟨rfl, rfl⟩, ⟨by simp [D17], by simp [D17]⟩, po17, pr17, rfl, fun i j k e1 e2 => ?_⟩
    rcases cs i k e1 with ⟨rfl, a1⟩ | ⟨rfl, a1, b1⟩ | ⟨rfl, a1, b1⟩ | ⟨rfl, a1, b1, z1⟩ | ⟨rfl, a1, b1, z1⟩ <;> rcases cs j k e2 with ⟨rfl, a2⟩ | ⟨rfl, a2, b2⟩ | ⟨rfl, a2, b2⟩ | ⟨rfl, a2, b2, z2⟩ | ⟨rfl, a2, b2, z2⟩ <;>
      first | rfl | (exfalso; omega) | exact absurd a2 (d15 k a1) | exact absurd a1 (d15 k a2) | exact absurd a2 (n3 k a1) | exact absurd a1 (n3 k a2)
  rw [show Heap.ld1 H17 ⟨p, 0, none⟩ = some (.int .i64 (r : Int)) from rep17.l0]
  simp only [optK_s, asI_s]
  obtain ⟨H20, e20, rep20, s20⟩ := rep17.s18 (r - 1)
  rw [show IntKind.wrap .i64 ((r : Int) - 1) = ((r - 1 : Nat) : Int) by rw [w64 (by omega)]; omega, show Heap.st1 H17 ⟨p, 18, none⟩ (.int .i64 ((r - 1 : Nat) : Int)) = some H20 from e20]
  simp only [optK_s]
  obtain ⟨H21, e21, rep21, s21⟩ := rep20.s19 true
  rw [show Heap.st1 H20 ⟨p, 19, none⟩ (.bool true) = some H21 from e21]
  simp only [optK_s]
  rw [show Heap.ld1 H21 ⟨p, 1, none⟩ = some (.int .i64 (c : Int)) from rep21.l1]
  simp only [optK_s, asI_s]
  obtain ⟨H', y, e', rep', s'⟩ := tabs_loop (d + 5) c (by omega) (c := Sc.init r c) rfl rfl NN 0 (NN_big _ (by omega)) (by omega) rfl rfl rep21
  rw [show (0 : Int) = ((0 : Nat) : Int) from rfl]
  have st := (s20.trans s21).trans s'
  refine ⟨H', { D17 with tabs := y }, e', rep', rfl, rfl, ?_, fun k e => ?_⟩
  · have hf : ∀ k, D17.foot k → k = p ∨ past.at k ∨ bl pq k ∨ H.next ≤ k := fun k ⟨i, e⟩ => by
      rcases cs i k e with ⟨_, a⟩ | ⟨_, a, b⟩ | ⟨_, a, b⟩ | ⟨_, a, _⟩ | ⟨_, a, _⟩
      · exact .inl a
      · exact .inr (.inr (.inr b))
      · exact .inr (.inr (.inr b))
      · exact .inr (.inl a)
      · exact .inr (.inr (.inl a))
    exact (k017.mono (T := fun k => k = p ∨ past.at k ∨ bl pq k) fun k _ e => .inl e).trans st.kp fun k hk e => by
      rcases hf k e with e | e | e | e
      · exact .inl e
      · exact .inr (.inl e)
      · exact .inr (.inr e)
      · omega
  · rcases st.ft k e with ⟨i, e⟩ | e
    · rcases cs i k e with ⟨_, a⟩ | ⟨_, a, b⟩ | ⟨_, a, b⟩ | ⟨_, a, _⟩ | ⟨_, a, _⟩
      · exact .inl a
      · exact .inr (.inr (.inr b))
      · exact .inr (.inr (.inr b))
      · exact .inr (.inl a)
      · exact .inr (.inr (.inl a))
    · exact .inr (.inr (.inr (by omega)))

theorem WF.fresh {r c : Nat} (hr : 1 ≤ r ∧ r ≤ 60) (hc : 1 ≤ c ∧ c ≤ 120) {past : List (List Cl)} (h1 : past.length ≤ 200) (h2 : ∀ l ∈ past, l ≠ [] ∧ l.length ≤ 120) : WF (G.fresh r c past) := by
  refine ⟨hr.1, hr.2, hc.1, hc.2, ?_, ?_, ?_, Nat.zero_le _, ?_, by show 0 ≤ 1000; omega, by show 0 ≤ 1000; omega, ?_, ?_, ?_, ?_, ?_, fun M h => (by cases h), h1, h2⟩
  · show 0 < r; omega
  · show 0 < c; omega
  · show 0 < r; omega
  · show r - 1 < r; omega
  · show 0 < r; omega
  · show 0 < c; omega
  · show (List.replicate r (List.replicate c blank)).length = r; simp
  · intro l hl
    have := (List.mem_replicate.1 hl).2
    rw [this]; simp; rfl
  · show (tabs0 c).length = c; simp [tabs0]

def PS.new : PS := ⟨0, false, false, false, false, []⟩
def GP.new (r c : Nat) : GP := ⟨G.fresh r c [], PS.new, []⟩
theorem size_s (d : Nat) (H : Heap) {r c : Nat} (hr : 1 ≤ r ∧ r ≤ 60) (hc : 1 ≤ c ∧ c ≤ 120) : X (d + 1) n_grid_size [.int .i64 (r : Int), .int .i64 (c : Int)] H = some (.bool true, H) := by
  rw [grid_size_eq, if_pos (decide_eq_true (by omega)), if_pos (decide_eq_true (by omega)), if_pos (decide_eq_true (by omega)), decide_eq_true (show (c : Int) ≤ 120 by omega)]
theorem New_s (d : Nat) {H : Heap} (hH : 3 < H.next) {r c : Nat} (hr : 1 ≤ r ∧ r ≤ 60) (hc : 1 ≤ c ∧ c ≤ 120) :
    ∃ H' A, X (d + 7) n_grid_New [.int .i64 (r : Int), .int .i64 (c : Int)] H = some (.tuple #[P0 A.D.p, .int .i64 0], H') ∧ Gr H' A (GP.new r c) ∧ Keep0 H H' ∧ (∀ k, A.foot k → H.next ≤ k) := by
  rw [grid_New_eq, size_s (d + 5) H hr hc]
  simp only [callK_s, asB_s]
  rw [if_neg (show ¬ (!true) = true by simp), vt_New_eq, utf_New_eq]
  simp only [newK_s, callK_s, P0, asP_s]
  have k1 : Keep0 H (H.new (.cells [.slice none 0 0] t_utf_Decoder false 0 false)) := Keep.new _ _
  have g1 : (H.new (.cells [.slice none 0 0] t_utf_Decoder false 0 false)).get H.next = some (.cells [.slice none 0 0] t_utf_Decoder false 0 false) := by simp
  have n1 : (H.new (.cells [.slice none 0 0] t_utf_Decoder false 0 false)).next = H.next + 1 := by simp
  generalize H.new (.cells [.slice none 0 0] t_utf_Decoder false 0 false) = H1 at *
  have k2 : Keep0 H1 (H1.new (.cells [.pointer (some ⟨H.next, 0, none⟩), .int .i64 0, .bool false, .bool false, .bool false, .bool false, .slice none 0 0] t_vt_Parser false 0 false)) := Keep.new _ _
  have g2 : (H1.new (.cells [.pointer (some ⟨H.next, 0, none⟩), .int .i64 0, .bool false, .bool false, .bool false, .bool false, .slice none 0 0] t_vt_Parser false 0 false)).get H1.next = some (.cells [.pointer (some ⟨H.next, 0, none⟩), .int .i64 0, .bool false, .bool false, .bool false, .bool false, .slice none 0 0] t_vt_Parser false 0 false) := by simp
  have n2 : (H1.new (.cells [.pointer (some ⟨H.next, 0, none⟩), .int .i64 0, .bool false, .bool false, .bool false, .bool false, .slice none 0 0] t_vt_Parser false 0 false)).next = H1.next + 1 := by simp
  generalize H1.new (.cells [.pointer (some ⟨H.next, 0, none⟩), .int .i64 0, .bool false, .bool false, .bool false, .bool false, .slice none 0 0] t_vt_Parser false 0 false) = H2 at *
  have g12 := k2.get (show H.next < H1.next by omega) g1
  generalize hLL : [Value.int .i64 (r : Int), Value.int .i64 (c : Int), .slice none 0 0, .int .i64 0, .int .i64 0, .bool false, .int .i32 0, .int .i64 0, .int .i64 0, .int .i64 0, .int .i64 0, .int .i64 0, .bool false, .int .i32 0, .int .i64 0, .int .i64 0, .int .i64 0, .int .i64 0, .int .i64 0, .bool false, .bool false, .bool false, .slice none 0 0, .slice none 0 0, .int .i64 0, .int .i64 0, .bool false, .int .i32 0, .int .i64 0, .int .i64 0, .int .i64 0, .slice none 0 0, .pointer (some ⟨H1.next, 0, none⟩)] = L
  have k3 : Keep0 H2 (H2.new (.cells L t_grid_Grid false 0 false)) := Keep.new _ _
  have g3 : (H2.new (.cells L t_grid_Grid false 0 false)).get H2.next = some (.cells L t_grid_Grid false 0 false) := by simp
  have n3 : (H2.new (.cells L t_grid_Grid false 0 false)).next = H2.next + 1 := by simp
  generalize H2.new (.cells L t_grid_Grid false 0 false) = H3 at *
  obtain ⟨H', D', e', rep, dp, dpp, kk, ff⟩ := reset_s d (p := H2.next) (pp := H1.next) (past := Sl.nil) (pq := []) hr hc g3 (by rw [← hLL]; rfl) (by rw [← hLL]; rfl) (by rw [← hLL]; rfl) (by rw [← hLL]; rfl) (by rw [← hLL]; rfl) (by omega) (.inl ⟨rfl, rfl⟩) ⟨by simp, by simp⟩ Sl.at_nil bl_nil fun k e => absurd e Sl.at_nil
  rw [show X (d + 6) n_grid_Grid_reset [.pointer (some ⟨H2.next, 0, none⟩)] H3 = some (.tuple #[], H') from e']
  simp only [callK_s]
  have hf : ∀ k, D'.foot k → k = H2.next ∨ H3.next ≤ k := fun k e => by
    rcases ff k e with e | e | e | e
    · exact .inl e
    · exact absurd e Sl.at_nil
    · exact absurd e bl_nil
    · exact .inr e
  have hkS : ∀ k, (k = H2.next ∨ Sl.nil.at k ∨ bl [] k) → k = H2.next := fun k e => by
    rcases e with e | e | e
    · exact e
    · exact absurd e Sl.at_nil
    · exact absurd e bl_nil
  have kk3 := kk.1
  have gp : H'.get H1.next = some (.cells (psL PS.new H.next Sl.nil) t_vt_Parser false 0 false) := (kk.2 H1.next (by omega) fun e => by have := hkS _ e; omega).trans (k3.get (by omega) g2)
  have gd : H'.get H.next = some (.cells [Sl.nil.v] t_utf_Decoder false 0 false) := (kk.2 H.next (by omega) fun e => by have := hkS _ e; omega).trans (k3.get (by omega) g12)
  have hfoot : ∀ k, (⟨D', H.next, Sl.nil, Sl.nil⟩ : GA).foot k → H.next ≤ k := fun k e => by
    rcases e with e | e | e | e | e
    · have := hf k e; omega
    · have e' : k = D'.pp := e
      omega
    · have e' : k = H.next := e
      omega
    · exact absurd e Sl.at_nil
    · exact absurd e Sl.at_nil
  refine ⟨H', ⟨D', H.next, Sl.nil, Sl.nil⟩, by rw [show (⟨D', H.next, Sl.nil, Sl.nil⟩ : GA).D.p = H2.next from dp], ⟨rep, WF.fresh hr hc (by simp) (by simp), ?_, fun k e => by have := hfoot k e; omega, ?_, ?_, fun k e => absurd e Sl.at_nil, fun k e => absurd e Sl.at_nil⟩, ?_, hfoot⟩
  · show PD H' D'.pp H.next Sl.nil Sl.nil PS.new []
    rw [dpp]
    exact ⟨⟨gp, by omega, .inl ⟨rfl, rfl⟩, Sl.at_nil⟩, fun h => absurd h (by decide), ⟨⟨_, _, _, gd⟩, by omega, .inl ⟨rfl, rfl⟩, Sl.at_nil⟩, by simp, by omega, Sl.at_nil, Sl.at_nil, fun k e => absurd e Sl.at_nil, hH⟩
  · show ¬ D'.foot D'.pp
    rw [dpp]; intro e; have := hf _ e; omega
  · show ¬ D'.foot H.next
    intro e; have := hf _ e; omega
  · exact (((k1.trans k2).trans k3).fresh (kk.mono (T := fun k => k = H2.next) fun k _ e => hkS k e) fun k e => by have e' : k = H2.next := e; omega)
end Go.Proofs.YtjmiehbiindjdaaDoor.dec

namespace Go.Proofs.YtjmiehbiindjdaaDoor.dec
open Go Go.Cm

attribute [local congr] optK_congr asI_congr asN_congr asB_congr asS_congr asP_congr asA_congr asSL_congr callK_congr castT_congr chk_congr

def enc (r : Int) : W := lst (Utf8.encode r)
def encs (l : List Int) : W := l.flatMap enc
theorem runesOf_s (l : List Int) : runesOf (runeV l) = some (encs l) := by
  induction l with
  | nil => rfl
  | cons a l ih =>
    show (match runesOf (runeV l) with | some r => some (lst (Utf8.encode a) ++ r) | none => none) = _
    rw [ih]
    rfl
theorem runesStr_s {H : Heap} {s : Sl} {l : List Int} (h : Whole H s (runeV l) t_int32 1) : readD .runesStr [s.v] H = some (.string (S (encs l))) := by
  have hn := (Whole.len h).1
  rw [runeV_len] at hn
  rcases h with ⟨rfl, h2⟩ | ⟨b, n, rfl, h1, h2, o, st, h3⟩
  · have : l = [] := by cases l <;> simp [runeV] at h2 ⊢
    subst this; rfl
  · have : H.ldN ⟨b, 0, none⟩ n = some (runeV l) := by
      rw [ldN_s h3 (by rw [h1]; omega), List.drop_zero, List.take_of_length_le (by rw [h1]; omega)]
    simp only [readD, this, runesOf_s]
    split
    · rename_i h0
      have hn2 : l.length = n * 1 := hn
      have hl : l = [] := List.eq_nil_of_length_eq_zero (by omega)
      subst hl; rfl
    · rfl

/-- without the spaces at its end -/
def trimR (l : W) : W := (l.reverse.dropWhile fun c => decide (c.toNat = 32)).reverse
theorem trimR_nil : trimR [] = [] := rfl
theorem trimR_snoc (l : W) (c : UInt8) : trimR (l ++ [c]) = if c.toNat = 32 then trimR l else l ++ [c] := by
  unfold trimR
  rw [List.reverse_append]
  simp only [List.reverse_cons, List.reverse_nil, List.nil_append, List.singleton_append, List.dropWhile_cons, decide_eq_true_eq]
  split
  · rfl
  · simp
theorem trim_s (d : Nat) (H : Heap) : ∀ (k : Nat) (l : W) (m : Nat), l.length = k → k < m → k < 1000000 → strings_trimRightByte_p100 d m (S l) 32 H = some (.string (S (trimR l)), H) := fun k => by
  induction k with
  | zero =>
    intro l m hl hm _
    obtain ⟨m, rfl⟩ : ∃ m', m = m' + 1 := ⟨m - 1, by omega⟩
    have : l = [] := List.eq_nil_of_length_eq_zero hl
    subst this
    rw [strings_trimRightByte_p100_s, slenS, if_neg (show ¬ decide ((0 : Int) < (([] : W).length : Int)) = true from dneg (by simp)), strings_trimRightByte_p100001_eq, if_neg ff]
    rfl
  | succ k ih =>
    intro l m hl hm hk
    obtain ⟨m, rfl⟩ : ∃ m', m = m' + 1 := ⟨m - 1, by omega⟩
    rcases List.eq_nil_or_concat l with h | ⟨l', c, h⟩
    · subst h; simp at hl
    rw [List.concat_eq_append] at h
    subst h
    have hl' : l'.length = k := by simp at hl; omega
    have hlen : (l' ++ [c]).length = k + 1 := hl
    rw [strings_trimRightByte_p100_s, slenS, hlen, w64 (n := ((k + 1 : Nat) : Int) - 1) (by omega), if_pos (show decide ((0 : Int) < ((k + 1 : Nat) : Int)) = true from decide_eq_true (by omega)), if_pos (show (0 : Int) ≤ ((k + 1 : Nat) : Int) - 1 ∧ ((k + 1 : Nat) : Int) - 1 < ((k + 1 : Nat) : Int) by omega),
      show (((k + 1 : Nat) : Int) - 1).toNat = k by omega, btS (l := l' ++ [c]) (i := k) (c := c) (by rw [List.getElem?_append_right (by omega), hl']; simp), strings_trimRightByte_p100001_eq, trimR_snoc, slenS, hlen, w64 (n := ((k + 1 : Nat) : Int) - 1) (by omega)]
    by_cases h32 : c.toNat = 32
    · rw [if_pos (show decide ((c.toNat : Int) = 32) = true from decide_eq_true (by omega)), if_pos h32, if_pos (show (0 : Int) ≤ ((k + 1 : Nat) : Int) - 1 ∧ ((k + 1 : Nat) : Int) - 1 ≤ ((k + 1 : Nat) : Int) by omega), show (((k + 1 : Nat) : Int) - 1).toNat = k by omega, sSubS, List.drop_zero, List.take_left' hl']
      exact ih l' m hl' (by omega) (by omega)
    · rw [if_neg (show ¬ decide ((c.toNat : Int) = 32) = true from dneg (by omega)), if_neg h32]
theorem TrimRight_s (d : Nat) (H : Heap) (l : W) (hl : l.length < 1000000) : X (d + 2) n_strings_TrimRight [.string (S l), .string (S [32])] H = some (.string (S (trimR l)), H) := by
  rw [strings_TrimRight_eq, sEqS, sEqS]
  by_cases h0 : l = []
  · subst h0
    rw [if_pos (show (([] : W) == []) = true from rfl), strings_TrimRight_p101_eq, if_pos rfl]
    rfl
  · have hs : slen (S [32]) = 1 := by rw [slenS]; rfl
    have hb : bt (S [32]) 0 = 32 := by rw [btS (l := [32]) (i := 0) (c := 32) rfl]; decide
    rw [if_neg (show ¬ (l == []) = true by simpa using h0), strings_TrimRight_p101_eq, if_neg (show ¬ ((([32] : W) == []) = true) by decide), hs, if_pos (show decide (((1 : Nat) : Int) = 1) = true from decide_eq_true (by omega)), if_pos (show (0 : Int) ≤ 0 ∧ (0 : Int) < ((1 : Nat) : Int) by omega),
      hb, strings_TrimRight_p1101_eq, if_pos (show decide ((32 : Int) < 128) = true from decide_eq_true (by omega)), hs, if_pos (show (0 : Int) ≤ 0 ∧ (0 : Int) < ((1 : Nat) : Int) by omega), hb, strings_trimRightByte_eq, trim_s d H l.length l NN rfl (NN_big _ (by omega)) (by omega)]
    rfl

def rr (l : List Cl) : List Int := l.map Cl.r
def rowText (l : List Cl) : W := trimR (encs (rr l))
theorem enc_len (r : Int) : (enc r).length ≤ 4 := by
  unfold enc Utf8.encode
  dsimp only
  generalize (if Utf8.valid r = true then r.toNat else Utf8.runeError) = c
  split
  · show ([_] : W).length ≤ 4; simp
  split
  · show ([_, _] : W).length ≤ 4; simp
  split
  · show ([_, _, _] : W).length ≤ 4; simp
  · show ([_, _, _, _] : W).length ≤ 4; simp
theorem encs_len (l : List Int) : (encs l).length ≤ l.length * 4 := by
  induction l with
  | nil => exact Nat.le_refl _
  | cons a l ih =>
    have := enc_len a
    simp only [encs, List.flatMap_cons, List.length_append, List.length_cons] at *
    omega

theorem Row.lda {H : Heap} {b : Nat} {L : List Cl} (h : Row H b L) {i : Nat} {c : Cl} (hc : L[i]? = some c) : ldA H ⟨b, i * 4, none⟩ 4 = some (.agg ⟨cellV c⟩) := by
  obtain ⟨_, _, _, _, o, st, g0⟩ := h.vw
  have hi := (List.getElem?_eq_some_iff.1 hc).1
  unfold ldA
  rw [List.nil_append, List.append_nil] at g0
  rw [ldN_s g0 (by rw [flat_ln]; omega), fm_at cellV 4 cellV_len hc]
theorem Row.ldr {H : Heap} {b : Nat} {L : List Cl} (h : Row H b L) {i : Nat} {c : Cl} (hc : L[i]? = some c) : Heap.ld1 H ⟨b, i * 4, none⟩ = some (.int .i32 c.r) := by
  obtain ⟨_, _, _, _, o, st, g0⟩ := h.vw
  have hi := (List.getElem?_eq_some_iff.1 hc).1
  rw [List.nil_append, List.append_nil] at g0
  have h4 := fm_at cellV 4 cellV_len hc
  have : ((flat L).drop (i * 4))[0]? = some (.int .i32 c.r) := by
    have h5 : (((flat L).drop (i * 4)).take 4)[0]? = (cellV c)[0]? := by rw [h4]
    rw [List.getElem?_take_of_lt (by omega)] at h5
    exact h5
  rw [ld1_s g0]
  simpa using this

theorem Text_loop (d : Nat) {H0 : Heap} {b : Nat} {L : List Cl} (hL : L.length ≤ 1000) (row : Row H0 b L) : ∀ (r : List Cl) (m i : Nat) {H : Heap} {s : Sl} {rs : List Int}, r.length < m → L.drop i = r → i + r.length = L.length → Keep0 H0 H → Whole H s (runeV rs) t_int32 1 → (∀ k, s.at k → H0.next ≤ k) → rs.length = i →
    ∃ H', grid_Text_p11010 (d + 2) m s (wsl b L.length) (L.length : Int) (i : Int) H = some (.string (S (trimR (encs (rs ++ rr r)))), H') ∧ Keep0 H0 H' := fun r => by
  induction r with
  | nil =>
    intro m i H s rs hm _ hi k0 w _ hrs
    obtain ⟨m, rfl⟩ : ∃ m', m = m' + 1 := ⟨m - 1, by simp at hm; omega⟩
    simp only [List.length_nil] at hi
    rw [grid_Text_p11010_s, if_neg (show ¬ decide ((i : Int) < (L.length : Int)) = true from dneg (by omega)), utf_Text_eq, runesStr_s w]
    simp only [optK_s, asS_s, callK_s]
    have := encs_len rs
    rw [TrimRight_s d H (encs rs) (by omega)]
    simp only [callK_s, asS_s]
    exact ⟨H, by simp [rr], k0⟩
  | cons c r ih =>
    intro m i H s rs hm hd hi k0 w hs hrs
    simp only [List.length_cons] at hm hi
    obtain ⟨m, rfl⟩ : ∃ m', m = m' + 1 := ⟨m - 1, by omega⟩
    have hc : L[i]? = some c := by have := congrArg (fun x => x[0]?) hd; simpa using this
    have hdr : L.drop (i + 1) = r := by rw [← List.drop_drop, hd]; rfl
    have row1 := row.keep k0 id
    rw [grid_Text_p11010_s, if_pos (show decide ((i : Int) < (L.length : Int)) = true from decide_eq_true (by omega))]
    simp only [optK_s]
    rw [if_pos (show (0 : Int) ≤ (i : Int) ∧ (i : Int) < ((wsl b L.length).n : Int) by show (0 : Int) ≤ (i : Int) ∧ (i : Int) < (L.length : Int); omega), show ap ⟨b, 0, none⟩ (((i : Int).toNat) * 4) = ⟨b, i * 4, none⟩ by simp [ap], row1.lda hc]
    simp only [optK_s, asA_s, newK_s]
    have k2 : Keep0 H (H.new (.cells [.int .i32 0, .int .i64 0, .int .i64 0, .int .i64 0] t_api_Cell false 0 false)) := Keep.new _ _
    have g2 : (H.new (.cells [.int .i32 0, .int .i64 0, .int .i64 0, .int .i64 0] t_api_Cell false 0 false)).get H.next = some (.cells [.int .i32 0, .int .i64 0, .int .i64 0, .int .i64 0] t_api_Cell false 0 false) := by simp
    have n2 : (H.new (.cells [.int .i32 0, .int .i64 0, .int .i64 0, .int .i64 0] t_api_Cell false 0 false)).next = H.next + 1 := by simp
    generalize H.new (.cells [.int .i32 0, .int .i64 0, .int .i64 0, .int .i64 0] t_api_Cell false 0 false) = H2 at *
    have es : ∀ K, effK (.store 4) [P0 H.next, .agg ⟨cellV c⟩] H2 K = K (.tuple #[]) (H2.put H.next (.cells (cellV c) t_api_Cell false 0 false)) := fun K => by
      simp only [effK]
      rw [if_neg (by omega), if_pos ⟨rfl, rfl, by omega⟩, show H2.stN ⟨H.next, 0, none⟩ (cellsL (.agg ⟨cellV c⟩)) = some (H2.put H.next (.cells (cellV c) t_api_Cell false 0 false)) from by simp only [Heap.stN, g2]; rfl]
      rfl
    rw [es]
    have k3 : Keep0 H (H2.put H.next (.cells (cellV c) t_api_Cell false 0 false)) := k2.fresh (Keep.put (S := fun k => k = H.next) _ _ _ rfl) fun k e => by have e' : k = H.next := e; omega
    have g3 : (H2.put H.next (.cells (cellV c) t_api_Cell false 0 false)).get H.next = some (.cells (cellV c) t_api_Cell false 0 false) := by simp
    generalize H2.put H.next (.cells (cellV c) t_api_Cell false 0 false) = H3 at *
    rw [(ld1_s g3).trans (show (cellV c)[0]? = some (.int .i32 c.r) from rfl)]
    simp only [optK_s, asI_s]
    have w3 := Whole.keep w k3 fun _ _ e => e
    have hn : s.n = rs.length := by have := (Whole.len w).1; rw [runeV_len] at this; omega
    obtain ⟨y, H5, e5, w5, k5, k5', f5, _⟩ := push_whole (bytes := 4) (new := [.int .i32 c.r]) w3 rfl (by omega) (by omega) (by omega)
    rw [e5]
    simp only [asSL_k]
    rw [wi (by omega)]
    have hn0 := k0.1
    have hn3 := k3.1
    obtain ⟨H', e', k'⟩ := ih m (i + 1) (rs := rs ++ [c.r]) (by omega) hdr (by omega) ((k0.trans k3).fresh k5 hs) (by simpa [runeV] using w5) (fun k e => by have := f5 k e; omega) (by simp; omega)
    exact ⟨H', by rw [e']; simp [rr], k'⟩
theorem Text_s (d : Nat) {H : Heap} {b : Nat} {L : List Cl} (hL : L.length ≤ 1000) (row : Row H b L) : ∃ H', X (d + 3) n_grid_Text [(wsl b L.length).v] H = some (.string (S (rowText L)), H') ∧ Keep0 H H' := by
  rw [grid_Text_eq]
  exact Text_loop d hL row L NN 0 (rs := []) (NN_big _ (by omega)) rfl (by omega) (Keep.refl _) (.inl ⟨rfl, rfl⟩) (fun k e => absurd e Sl.at_nil) rfl

theorem Line_s (d : Nat) {H : Heap} {D : GD} {g : G} (h : Rep H D g) (w : WF g) (i : Int) : ∃ H', X (d + 4) n_grid_Grid_Line [P0 D.p, .int .i64 i] H = some (.string (S (if 0 ≤ i ∧ i < (g.c.rows : Int) then rowText (g.L.getD i.toNat []) else [])), H') ∧ Keep0 H H' := by
  have c2 := w.c2; have r2 := w.r2
  rw [grid_Grid_Line_eq]
  by_cases h0 : i < 0
  · rw [if_pos (show decide (i < 0) = true from decide_eq_true h0), grid_Grid_Line_p101_eq, if_pos rfl, if_neg (show ¬ (0 ≤ i ∧ i < (g.c.rows : Int)) by omega)]
    exact ⟨H, rfl, Keep.refl _⟩
  · rw [if_neg (show ¬ decide (i < 0) = true from dneg h0), h.l0]
    simp only [optK_s, asI_s]
    rw [grid_Grid_Line_p101_eq]
    by_cases h1 : (g.c.rows : Int) ≤ i
    · rw [if_pos (show decide ((g.c.rows : Int) ≤ i) = true from decide_eq_true h1), if_neg (show ¬ (0 ≤ i ∧ i < (g.c.rows : Int)) by omega)]
      exact ⟨H, rfl, Keep.refl _⟩
    · rw [if_neg (show ¬ decide ((g.c.rows : Int) ≤ i) = true from dneg h1), if_pos (show (0 ≤ i ∧ i < (g.c.rows : Int)) by omega), h.l2]
      simp only [optK_s, asSL_k]
      obtain ⟨x, b, hx, hxL, hxn, hca, hcn, hld, hrow, hat⟩ := h.rowat w (i := i.toNat) (by omega)
      rw [hca]
      simp only [optK_s]
      rw [if_pos (show 0 ≤ i ∧ i < (D.cells.n : Int) by omega), show ap ⟨b, 0, none⟩ (i.toNat * 1) = ⟨b, i.toNat, none⟩ by simp [ap], hld]
      simp only [optK_s, asSL_k]
      obtain ⟨H', e', k'⟩ := Text_s d (by omega) hrow
      rw [e']
      simp only [callK_s, asS_s]
      rw [List.getD_eq_getElem?_getD, hxL]
      exact ⟨H', rfl, k'⟩

theorem Past_s (d : Nat) {H : Heap} {D : GD} {g : G} (h : Rep H D g) (w : WF g) : ∃ y p H', X (d + 3) n_grid_Grid_Past [P0 D.p] H = some (Sl.v y, H') ∧ Outer H' y p ∧ Rows H' p ∧ p.map Prod.snd = g.past ∧ (∀ k, y.at k → H.next ≤ k) ∧ (∀ k, bl p k → H.next ≤ k) ∧ (∀ k, y.at k → ¬ bl p k) ∧ Keep0 H H' := by
  rw [grid_Grid_Past_eq, h.l31]
  simp only [optK_s, asSL_k]
  have hpl : D.pq.length = g.past.length := by rw [← h.pL, List.length_map]
  have hpn := w.pn
  have hpw : ∀ x ∈ D.pq, x.2 ≠ [] ∧ x.2.length ≤ 1000 := fun x hx => by
    have := w.pw x.2 (by rw [← h.pL]; exact List.mem_map_of_mem hx)
    exact ⟨this.1, by omega⟩
  have key : ∃ y p H', X (d + 2) n_grid_copied [D.past.v] H = some (Sl.v y, H') ∧ Outer H' y p ∧ Rows H' p ∧ p.map Prod.snd = D.pq.map Prod.snd ∧ (∀ k, y.at k → H.next ≤ k) ∧ (∀ k, bl p k → H.next ≤ k) ∧ (∀ k, y.at k → ¬ bl p k) ∧ Keep0 H H' := by
    rcases h.po with hn | ⟨b, A, v, _⟩
    · exact copied_s d (b := 0) (A := []) (Z := []) (.inr hn) h.pr hpw (by omega)
    · exact copied_s d (.inl v) h.pr hpw (by omega)
  obtain ⟨y, p, H', e, a1, a2, a3, a4, a5, a6, a7⟩ := key
  rw [e]
  simp only [callK_s, asSL_k]
  exact ⟨y, p, H', rfl, a1, a2, a3.trans h.pL, a4, a5, a6, a7⟩

/-! ### the reference's text of a row -/
def dropSp (l : List Int) : List Int := (l.reverse.dropWhile fun r => decide (r = 32)).reverse
theorem dropSp_snoc (l : List Int) (c : Int) : dropSp (l ++ [c]) = if c = 32 then dropSp l else l ++ [c] := by
  unfold dropSp
  rw [List.reverse_append]
  simp only [List.reverse_cons, List.reverse_nil, List.nil_append, List.singleton_append, List.dropWhile_cons, decide_eq_true_eq]
  split
  · rfl
  · simp
def refText (l : List Cl) : W := encs (dropSp (rr l))

theorem RText_loop (d : Nat) {H0 : Heap} {b : Nat} {L : List Cl} (hL : L.length ≤ 1000) (row : Row H0 b L) {n : Nat} (hn : n ≤ L.length) : ∀ (r : List Cl) (m i : Nat) {H : Heap} {s : Sl} {rs : List Int}, r.length < m → (L.take n).drop i = r → i + r.length = n → Keep0 H0 H → Whole H s (runeV rs) t_int32 1 → (∀ k, s.at k → H0.next ≤ k) → rs.length = i →
    ∃ H', ref19_Text_p1111010 d m (wsl b L.length) (n : Int) s (i : Int) H = some (.string (S (encs (rs ++ rr r))), H') ∧ Keep0 H0 H' := fun r => by
  induction r with
  | nil =>
    intro m i H s rs hm _ hi k0 w _ hrs
    obtain ⟨m, rfl⟩ : ∃ m', m = m' + 1 := ⟨m - 1, by simp at hm; omega⟩
    simp only [List.length_nil] at hi
    rw [ref19_Text_p1111010_s, if_neg (show ¬ decide ((i : Int) < (n : Int)) = true from dneg (by omega)), runesStr_s w]
    simp only [optK_s, asS_s]
    exact ⟨H, by simp [rr], k0⟩
  | cons c r ih =>
    intro m i H s rs hm hd hi k0 w hs hrs
    simp only [List.length_cons] at hm hi
    obtain ⟨m, rfl⟩ : ∃ m', m = m' + 1 := ⟨m - 1, by omega⟩
    have hc0 : (L.take n)[i]? = some c := by have := congrArg (fun x => x[0]?) hd; simpa using this
    have hc : L[i]? = some c := by rw [List.getElem?_take_of_lt (by omega)] at hc0; exact hc0
    have hdr : (L.take n).drop (i + 1) = r := by rw [← List.drop_drop, hd]; rfl
    have row1 := row.keep k0 id
    rw [ref19_Text_p1111010_s, if_pos (show decide ((i : Int) < (n : Int)) = true from decide_eq_true (by omega))]
    simp only [optK_s]
    rw [if_pos (show (0 : Int) ≤ (i : Int) ∧ (i : Int) < ((wsl b L.length).n : Int) by show (0 : Int) ≤ (i : Int) ∧ (i : Int) < (L.length : Int); omega), show ap (ap ⟨b, 0, none⟩ (((i : Int).toNat) * 4)) 0 = ⟨b, i * 4, none⟩ by simp [ap], row1.ldr hc]
    simp only [optK_s, asI_s, newK_s]
    have hsn : s.n = rs.length := by have := (Whole.len w).1; rw [runeV_len] at this; omega
    obtain ⟨y, H5, e5, w5, k5, k5', f5, _⟩ := push_whole (bytes := 4) (new := [.int .i32 c.r]) w rfl (by omega) (by omega) (by omega)
    rw [e5]
    simp only [asSL_k]
    rw [wi (by omega)]
    have hn0 := k0.1
    obtain ⟨H', e', k'⟩ := ih m (i + 1) (rs := rs ++ [c.r]) (by omega) hdr (by omega) (k0.fresh k5 hs) (by simpa [runeV] using w5) (fun k e => by have := f5 k e; omega) (by simp; omega)
    exact ⟨H', by rw [e']; simp [rr], k'⟩
theorem RText_s (d : Nat) {H : Heap} {b : Nat} {L : List Cl} (hL : L.length ≤ 1000) (row : Row H b L) : ∃ H', X (d + 1) n_ref19_Text [(wsl b L.length).v] H = some (.string (S (refText L)), H') ∧ Keep0 H H' := by
  rw [ref19_Text_eq]
  have loop : ∀ (n m : Nat), n < m → n ≤ L.length → ∃ H', ref19_Text_p1100 d m (wsl b L.length) (n : Int) H = some (.string (S (encs (dropSp (rr (L.take n))))), H') ∧ Keep0 H H' := fun n => by
    induction n with
    | zero =>
      intro m hm _
      obtain ⟨m, rfl⟩ : ∃ m', m = m' + 1 := ⟨m - 1, by omega⟩
      rw [ref19_Text_p1100_s, if_neg (show ¬ decide ((0 : Int) < ((0 : Nat) : Int)) = true from dneg (by omega)), ref19_Text_p1100001_eq, if_neg ff]
      exact RText_loop d hL row (n := 0) (by omega) [] NN 0 (rs := []) (NN_big _ (by simp)) (by simp) (by simp) (Keep.refl _) (.inl ⟨rfl, rfl⟩) (fun k e => absurd e Sl.at_nil) rfl
    | succ n ih =>
      intro m hm hn
      obtain ⟨m, rfl⟩ : ∃ m', m = m' + 1 := ⟨m - 1, by omega⟩
      have hlt : n < L.length := by omega
      have hc : L[n]? = some L[n] := List.getElem?_eq_getElem hlt
      have ht : L.take (n + 1) = L.take n ++ [L[n]] := by rw [List.take_succ_eq_append_getElem hlt]
      generalize L[n] = c at hc ht
      rw [ref19_Text_p1100_s, w64 (n := ((n + 1 : Nat) : Int) - 1) (by omega), if_pos (show decide ((0 : Int) < ((n + 1 : Nat) : Int)) = true from decide_eq_true (by omega))]
      simp only [optK_s]
      rw [if_pos (show (0 : Int) ≤ ((n + 1 : Nat) : Int) - 1 ∧ ((n + 1 : Nat) : Int) - 1 < ((wsl b L.length).n : Int) by show (0 : Int) ≤ ((n + 1 : Nat) : Int) - 1 ∧ ((n + 1 : Nat) : Int) - 1 < (L.length : Int); omega), show ap (ap ⟨b, 0, none⟩ ((((n + 1 : Nat) : Int) - 1).toNat * 4)) 0 = ⟨b, n * 4, none⟩ by rw [show (((n + 1 : Nat) : Int) - 1).toNat = n by omega]; simp [ap], row.ldr hc]
      simp only [optK_s, asI_s]
      have hrr : rr (L.take (n + 1)) = rr (L.take n) ++ [c.r] := by rw [ht]; simp [rr]
      rw [ref19_Text_p1100001_eq, hrr, dropSp_snoc]
      by_cases h32 : c.r = 32
      · rw [if_pos (show decide (c.r = 32) = true from decide_eq_true h32), if_pos h32, w64 (n := ((n + 1 : Nat) : Int) - 1) (by omega), show ((n + 1 : Nat) : Int) - 1 = (n : Int) by omega]
        exact ih m (by omega) (by omega)
      · rw [if_neg (show ¬ decide (c.r = 32) = true from dneg h32), if_neg h32, ← hrr]
        exact RText_loop d hL row (n := n + 1) hn (L.take (n + 1)) NN 0 (rs := []) (NN_big _ (by rw [List.length_take]; omega)) (by simp) (by rw [List.length_take]; omega) (Keep.refl _) (.inl ⟨rfl, rfl⟩) (fun k e => absurd e Sl.at_nil) rfl
  obtain ⟨H', e, k⟩ := loop L.length NN (NN_big _ (by omega)) (Nat.le_refl _)
  rw [List.take_length] at e
  exact ⟨H', e, k⟩
end Go.Proofs.YtjmiehbiindjdaaDoor.dec

namespace Go.Proofs.YtjmiehbiindjdaaDoor.dec
open Go Go.Cm

/-! ### letters of one byte -/
set_option maxRecDepth 100000 in
theorem first_ascii : ∀ i, i < 128 → firstT.getD i 0 = 240 := by decide
theorem full_ascii (c : UInt8) (r : W) (h : c.toNat < 128) : full (c :: r) = true := by
  unfold full
  simp only
  rw [first_ascii _ h, if_pos (by omega)]
theorem cutR_ascii : ∀ l : W, (∀ b ∈ l, b.toNat < 128) → cutR l = l.length
  | [], _ => rfl
  | c :: r, h => by
    unfold cutR
    rw [full_ascii c r (h c List.mem_cons_self), if_neg (by simp), cutR_ascii r fun b hb => h b (List.mem_cons_of_mem _ hb)]
    rfl
theorem cut_ascii {l : W} (h : ∀ b ∈ l, b.toNat < 128) : cut l = l.length := by
  unfold cut
  rw [cutR_ascii _ fun b hb => h b (List.mem_of_mem_drop hb), List.length_drop]
  omega
theorem dec_ascii {w : W} {i : Nat} {c : UInt8} (h : w[i]? = some c) (hc : c.toNat < 128) : Utf8.decode (S w) i = (c.toNat, 1) := by
  have hg : (S w).get! (i + 0) = c := by
    obtain ⟨hl, he⟩ := List.getElem?_eq_some_iff.1 h
    show (ByteArray.mk w.toArray).data[i]! = c
    simp [hl, he]
  unfold Utf8.decode
  simp only [hg]
  rw [if_pos (by omega)]
def nums (l : W) : List Int := l.map fun b => (b.toNat : Int)
theorem runesAt_ascii {l : W} (h : ∀ b ∈ l, b.toNat < 128) : ∀ (m i : Nat), l.length ≤ i + m → runesAt l m i = nums (l.drop i)
  | 0, i, hm => by rw [List.drop_eq_nil_of_le (by omega)]; rfl
  | m + 1, i, hm => by
    unfold runesAt
    by_cases hi : i < l.length
    · rw [if_pos hi, dec_ascii (c := l[i]) (List.getElem?_eq_getElem hi) (h _ (List.getElem_mem hi)), List.drop_eq_getElem_cons hi]
      simp only
      rw [runesAt_ascii h m (i + 1) (by omega)]
      rfl
    · rw [if_neg hi, List.drop_eq_nil_of_le (by omega)]; rfl
theorem runes_ascii {l : W} (h : ∀ b ∈ l, b.toNat < 128) : runes l = nums l := by
  unfold runes
  rw [runesAt_ascii h _ _ (by omega), List.drop_zero]
theorem feedL_ascii {l : W} (h : ∀ b ∈ l, b.toNat < 128) : feedL l = nums l := by
  unfold feedL
  rw [cut_ascii h, List.take_length, runes_ascii h]
theorem heldW_ascii {l : W} (h : ∀ b ∈ l, b.toNat < 128) : heldW l = [] := by
  unfold heldW
  rw [cut_ascii h, List.drop_length]
theorem enc_ascii {r : Nat} (h : r < 128) : enc (r : Int) = [UInt8.ofNat r] := by
  unfold enc Utf8.encode
  have hv : Utf8.valid (r : Int) = true := by
    unfold Utf8.valid
    simp only [Bool.or_eq_true, Bool.and_eq_true, decide_eq_true_eq]
    left; omega
  simp only [hv, if_true, Int.toNat_natCast]
  rw [if_pos (by omega)]
  rfl

/-- printable letters, to a parser at rest -/
def prints (l : W) : List Act := l.map fun b => ⟨1, (b.toNat : Int), false, []⟩
theorem pRune_print {c : PS} (hc : c.state = 0) {r : Int} (h : 32 ≤ r ∧ r ≠ 127) : pRune c r = (c, some ⟨1, r, false, []⟩) := by
  unfold pRune
  rw [if_neg (show ¬ (r = 27 ∧ c.state ≠ 4) by omega), if_neg (show ¬ r = 27 by omega), if_neg (show ¬ c.state = 1 by omega), if_neg (show ¬ c.state = 2 by omega), if_neg (show ¬ c.state = 3 by omega), if_neg (show ¬ c.state = 4 by omega), if_neg (show ¬ c.state = 5 by omega)]
  have h1 : ctrl r = false := by
    unfold ctrl
    rw [decide_eq_false (show ¬ r ≤ 13 by omega), Bool.and_false]
  unfold pPlain
  rw [h1, if_neg ff, if_neg (show ¬ (r < 32 ∨ r = 127) by omega)]
theorem pFeed_print {c : PS} (hc : c.state = 0) : ∀ l : W, (∀ b ∈ l, 32 ≤ b.toNat ∧ b.toNat < 127) → pFeed c (nums l) = (c, prints l)
  | [], _ => rfl
  | b :: l, h => by
    have hb := h b List.mem_cons_self
    show pFeed c ((b.toNat : Int) :: nums l) = _
    unfold pFeed
    rw [pRune_print hc (by omega)]
    simp only
    rw [pFeed_print hc l fun b hb => h b (List.mem_cons_of_mem _ hb)]
    rfl
def F0 (g : G) (a : Act) : G := if a.kind = 1 then g.print a.rune else if a.kind = 2 then g.control a.rune else g
def G.puts (g : G) (l : W) : G := l.foldl (fun g b => g.print b.toNat) g
theorem does0 (d : Nat) {a : Act} (h : a.kind = 1 ∨ a.kind = 2) : Does (d + 10) F0 a := by
  rcases h with h | h
  · exact does_print d h fun g => by simp [F0, h]
  · exact does_control d h fun g => by simp [F0, h]
theorem write_print {g : G} {c : PS} (hc : c.state = 0) {l : W} (h : ∀ b ∈ l, 32 ≤ b.toNat ∧ b.toNat < 127) : (⟨g, c, []⟩ : GP).acts l = prints l ∧ (⟨g, c, []⟩ : GP).write F0 l = ⟨g.puts l, c, []⟩ := by
  have h1 : ∀ b ∈ ([] ++ l : W), b.toNat < 128 := fun b hb => by have := h b hb; omega
  have e1 : (⟨g, c, []⟩ : GP).acts l = prints l := by
    unfold GP.acts
    simp only
    rw [feedL_ascii h1, List.nil_append, pFeed_print hc l h]
  refine ⟨e1, ?_⟩
  unfold GP.write
  rw [e1]
  simp only
  rw [feedL_ascii h1, heldW_ascii h1, List.nil_append, pFeed_print hc l h]
  congr 1
  unfold G.puts prints
  rw [List.foldl_map]
  rfl

/-! ### rows that are filled -/
theorem trimR_all : ∀ l : W, (∀ b ∈ l, b.toNat ≠ 32) → trimR l = l := fun l h => by
  rcases List.eq_nil_or_concat l with e | ⟨l', c, e⟩
  · subst e; rfl
  · rw [List.concat_eq_append] at e
    subst e
    rw [trimR_snoc, if_neg (h c (by simp))]
theorem trimR_rep {l : W} (h : ∀ b ∈ l, b.toNat ≠ 32) : ∀ m, trimR (l ++ List.replicate m 32) = l
  | 0 => by rw [List.replicate_zero, List.append_nil, trimR_all l h]
  | m + 1 => by rw [List.replicate_succ', ← List.append_assoc, trimR_snoc, if_pos (by decide), trimR_rep h m]
def cellOf (b : UInt8) : Cl := ⟨b.toNat, 0, 0, 0⟩
def padRow (c : Nat) (s : W) : List Cl := s.map cellOf ++ List.replicate (c - s.length) blank
theorem encs_nums {l : W} (h : ∀ b ∈ l, b.toNat < 128) : encs (nums l) = l := by
  induction l with
  | nil => rfl
  | cons b l ih =>
    show enc (b.toNat : Int) ++ encs (nums l) = _
    rw [enc_ascii (h b List.mem_cons_self), ih fun b hb => h b (List.mem_cons_of_mem _ hb)]
    simp
theorem rowText_pad {c : Nat} {s : W} (h : ∀ b ∈ s, b.toNat < 128 ∧ b.toNat ≠ 32) : rowText (padRow c s) = s := by
  have e : rr (padRow c s) = nums (s ++ List.replicate (c - s.length) 32) := by
    simp [rr, padRow, nums, cellOf, blank, Function.comp_def]
  unfold rowText
  rw [e, encs_nums fun b hb => ?_, trimR_rep fun b hb => (h b hb).2]
  rcases List.mem_append.1 hb with h1 | h1
  · exact (h b h1).1
  · rw [(List.mem_replicate.1 h1).2]; decide
end Go.Proofs.YtjmiehbiindjdaaDoor.dec

namespace Go.Proofs.YtjmiehbiindjdaaDoor.dec
open Go Go.Cm

theorem dm (c q t : Nat) (ht : t < c) : (q * c + t) / c = q ∧ (q * c + t) % c = t := by
  have hc : 0 < c := by omega
  constructor
  · rw [Nat.add_comm, Nat.add_mul_div_right _ _ hc, Nat.div_eq_of_lt ht]; omega
  · rw [Nat.add_comm, Nat.add_mul_mod_self_right, Nat.mod_eq_of_lt ht]

/-- the cell (i, j) when k letters of l were written -/
def wcell (c : Nat) (l : W) (k i j : Nat) : Cl := if i * c + j < k then cellOf (l.getD (i * c + j) 0) else blank
def wrows (r c : Nat) (l : W) (k : Nat) : List (List Cl) := (List.range r).map fun i => (List.range c).map fun j => wcell c l k i j
def wr (r c : Nat) (l : W) (k : Nat) : G :=
  { G.fresh r c [] with L := wrows r c l k, c := { Sc.init r c with row := (k - 1) / c, col := if k = 0 then 0 else if k % c = 0 then c - 1 else k % c, due := decide (0 < k ∧ k % c = 0) } }

theorem wr_zero (r c : Nat) (l : W) : wr r c l 0 = G.fresh r c [] := by
  have h : wrows r c l 0 = List.replicate r (List.replicate c blank) := by
    unfold wrows
    have : (fun i => (List.range c).map fun j => wcell c l 0 i j) = fun _ => List.replicate c blank := by
      funext i
      apply List.ext_getElem?
      intro j
      rw [List.getElem?_map, List.getElem?_replicate]
      by_cases hj : j < c
      · rw [List.getElem?_range hj, if_pos hj]; simp [wcell]
      · rw [List.getElem?_eq_none (l := List.range c) (by simp; omega), if_neg hj]; rfl
    rw [this]
    apply List.ext_getElem?
    intro j
    rw [List.getElem?_map, List.getElem?_replicate]
    by_cases hj : j < r
    · rw [List.getElem?_range hj, if_pos hj]; rfl
    · rw [List.getElem?_eq_none (l := List.range r) (by simp; omega), if_neg hj]; rfl
  unfold wr
  rw [h]
  simp [G.fresh, Sc.init]

theorem modify_range {α : Type} (r : Nat) (f : Nat → α) (q : Nat) (h : α → α) : ((List.range r).map f).modify q h = (List.range r).map fun i => if i = q then h (f i) else f i := by
  apply List.ext_getElem?
  intro j
  rw [List.getElem?_modify, List.getElem?_map, List.getElem?_map]
  by_cases hj : j < r
  · rw [List.getElem?_range hj]
    by_cases e : q = j
    · subst e; simp
    · simp [e, Eq.comm]
  · rw [List.getElem?_eq_none (by simp; omega)]
    split <;> rfl
theorem set_range {α : Type} (c : Nat) (f : Nat → α) (t : Nat) (v : α) : ((List.range c).map f).set t v = (List.range c).map fun j => if j = t then v else f j := by
  apply List.ext_getElem?
  intro j
  rw [List.getElem?_set, List.getElem?_map, List.getElem?_map]
  by_cases hj : j < c
  · rw [List.getElem?_range hj]
    by_cases e : t = j
    · subst e; simp [hj]
    · simp [e, Eq.comm]
  · rw [List.getElem?_eq_none (l := List.range c) (by simp; omega)]
    by_cases e : t = j
    · subst e; simp [hj]
    · simp [e]
theorem wrows_step (r c : Nat) (l : W) (q t : Nat) (ht : t < c) : (wrows r c l (q * c + t)).modify q (fun x => x.set t (cellOf (l.getD (q * c + t) 0))) = wrows r c l (q * c + t + 1) := by
  unfold wrows
  rw [modify_range]
  apply List.map_congr_left
  intro i _
  by_cases hi : i = q
  · subst hi
    rw [if_pos rfl, set_range]
    apply List.map_congr_left
    intro j _
    unfold wcell
    by_cases hj : j = t
    · subst hj; rw [if_pos rfl, if_pos (by omega)]
    · rw [if_neg hj]
      by_cases h : i * c + j < i * c + t
      · rw [if_pos h, if_pos (by omega)]
      · rw [if_neg h, if_neg (by omega)]
  · rw [if_neg hi]
    apply List.map_congr_left
    intro j hj
    have hjc : j < c := List.mem_range.1 hj
    unfold wcell
    rcases Nat.lt_or_ge i q with h | h
    · have := Nat.mul_le_mul_right c (show i + 1 ≤ q by omega)
      rw [Nat.add_mul, Nat.one_mul] at this
      rw [if_pos (by omega), if_pos (by omega)]
    · have := Nat.mul_le_mul_right c (show q + 1 ≤ i by omega)
      rw [Nat.add_mul, Nat.one_mul] at this
      rw [if_neg (by omega), if_neg (by omega)]

theorem wr_step (r c : Nat) (l : W) (q t : Nat) (ht : t < c) (hq : q < r) : (wr r c l (q * c + t)).print ((l.getD (q * c + t) 0).toNat : Int) = wr r c l (q * c + t + 1) := by
  have p0 : ∀ (g : G), g.L = wrows r c l (q * c + t) → g.c = { Sc.init r c with row := q, col := t, due := false } → g.tabs = tabs0 c → g.other = none → g.past = [] → g.print0 ((l.getD (q * c + t) 0).toNat : Int) = wr r c l (q * c + t + 1) := fun g h1 h2 h3 h4 h5 => by
    obtain ⟨gc, gL, gt, go, gp⟩ := g
    simp only at h1 h2 h3 h4 h5
    subst h1 h2 h3 h4 h5
    unfold G.print0 wr
    simp only [Sc.init, G.fresh, Bool.false_eq_true, if_false]
    have hst : ({ zeroC with r := ((l.getD (q * c + t) 0).toNat : Int) } : Cl) = cellOf (l.getD (q * c + t) 0) := rfl
    rw [hst, wrows_step r c l q t ht]
    rw [show q * c + t + 1 - 1 = q * c + t by omega, (dm c q t ht).1]
    by_cases h : t + 1 = c
    · have e1 : (q * c + t + 1) % c = 0 := by rw [show q * c + t + 1 = (q + 1) * c + 0 by rw [Nat.add_mul]; omega, (dm c (q + 1) 0 (by omega)).2]
      rw [if_pos h, if_neg (show ¬ q * c + t + 1 = 0 by omega), if_pos e1, decide_eq_true (show 0 < q * c + t + 1 ∧ (q * c + t + 1) % c = 0 from ⟨by omega, e1⟩), show c - 1 = t by omega]
    · have e1 : (q * c + t + 1) % c = t + 1 := by rw [show q * c + t + 1 = q * c + (t + 1) by omega, (dm c q (t + 1) (by omega)).2]
      rw [if_neg h, if_neg (show ¬ q * c + t + 1 = 0 by omega), e1, if_neg (show ¬ t + 1 = 0 by omega), decide_eq_false (show ¬ (0 < q * c + t + 1 ∧ t + 1 = 0) by omega)]
  unfold G.print
  by_cases hd : 0 < q * c + t ∧ t = 0
  · obtain ⟨h1, rfl⟩ := hd
    have hq0 : 0 < q := by
      rcases Nat.eq_zero_or_pos q with h | h
      · subst h; simp at h1
      · exact h
    have e0 : (q * c + 0) % c = 0 := (dm c q 0 ht).2
    have e2 : (q * c + 0 - 1) / c = q - 1 := by
      have : q * c + 0 - 1 = (q - 1) * c + (c - 1) := by
        have : q * c = (q - 1) * c + c := by rw [show q = (q - 1) + 1 by omega, Nat.add_mul]; simp
        omega
      rw [this, (dm c (q - 1) (c - 1) (by omega)).1]
    rw [if_pos (show (wr r c l (q * c + 0)).c.due = true ∧ (wr r c l (q * c + 0)).c.wrap = true from ⟨decide_eq_true ⟨h1, e0⟩, rfl⟩)]
    apply p0
    · unfold G.index
      simp only [wr, Sc.init, e2]
      rw [if_neg (by omega), if_pos (by omega)]
    · unfold G.index
      simp only [wr, Sc.init, e2]
      rw [if_neg (by omega), if_pos (by omega)]
      simp only [Sc.mk.injEq, and_true, true_and]
      omega
    all_goals
      unfold G.index
      simp only [wr, Sc.init, e2, G.fresh]
      rw [if_neg (by omega), if_pos (by omega)]
  · have hdue : (wr r c l (q * c + t)).c.due = false := by
      show decide (0 < q * c + t ∧ (q * c + t) % c = 0) = false
      rw [(dm c q t ht).2]
      exact decide_eq_false hd
    rw [if_neg (show ¬ ((wr r c l (q * c + t)).c.due = true ∧ (wr r c l (q * c + t)).c.wrap = true) from fun e => by rw [hdue] at e; simp at e)]
    apply p0 _ rfl _ rfl rfl rfl
    show ({ Sc.init r c with row := (q * c + t - 1) / c, col := if q * c + t = 0 then 0 else if (q * c + t) % c = 0 then c - 1 else (q * c + t) % c, due := decide (0 < q * c + t ∧ (q * c + t) % c = 0) } : Sc) = _
    rw [(dm c q t ht).2, decide_eq_false hd]
    by_cases h0 : q * c + t = 0
    · have ht0 : t = 0 := by omega
      have hq0 : q = 0 := by
        rcases Nat.eq_zero_or_pos q with h | h
        · exact h
        · have := Nat.mul_le_mul_right c (show 1 ≤ q from h); omega
      rw [if_pos h0, h0]
      subst ht0 hq0
      simp
    · have ht0 : ¬ t = 0 := fun e => hd ⟨by omega, e⟩
      rw [if_neg h0, if_neg ht0, show q * c + t - 1 = q * c + (t - 1) by omega, (dm c q (t - 1) (by omega)).1]

theorem wr_puts (r c : Nat) (hc : 0 < c) (l : W) (hl : l.length ≤ r * c) : ∀ (s : W) (k : Nat), l.drop k = s → k + s.length = l.length → (wr r c l k).puts s = wr r c l l.length := fun s => by
  induction s with
  | nil =>
    intro k _ hk
    simp only [List.length_nil] at hk
    rw [show k = l.length by omega]; rfl
  | cons b s ih =>
    intro k hd hk
    simp only [List.length_cons] at hk
    have hb : l[k]? = some b := by have := congrArg (fun x => x[0]?) hd; simpa using this
    have hs : l.drop (k + 1) = s := by rw [← List.drop_drop, hd]; rfl
    show ((wr r c l k).print (b.toNat : Int)).puts s = _
    have hkq : k = (k / c) * c + k % c := by rw [Nat.mul_comm]; exact (Nat.div_add_mod k c).symm
    have ht : k % c < c := Nat.mod_lt _ hc
    have hq : k / c < r := by
      rw [Nat.div_lt_iff_lt_mul hc]; omega
    have st := wr_step r c l (k / c) (k % c) ht hq
    rw [← hkq, List.getD_eq_getElem?_getD, hb] at st
    rw [show (b.toNat : Int) = ((some b).getD 0).toNat from rfl, st]
    exact ih (k + 1) hs (by omega)

theorem wrow_text (c : Nat) (l : W) (h : ∀ b ∈ l, b.toNat < 128 ∧ b.toNat ≠ 32) (i : Nat) : rowText ((List.range c).map fun j => wcell c l l.length i j) = (l.drop (i * c)).take c := by
  have e : ((List.range c).map fun j => wcell c l l.length i j) = padRow c ((l.drop (i * c)).take c) := by
    unfold padRow
    apply List.ext_getElem?
    intro j
    rw [List.getElem?_map]
    by_cases hj : j < c
    · rw [List.getElem?_range hj, Option.map_some]
      unfold wcell
      by_cases h1 : i * c + j < l.length
      · rw [if_pos h1, List.getElem?_append_left (by simp; omega), List.getElem?_map, List.getElem?_take_of_lt hj, List.getElem?_drop, List.getD_eq_getElem?_getD, List.getElem?_eq_getElem h1]
        rfl
      · rw [if_neg h1, List.getElem?_append_right (by simp; omega), List.getElem?_replicate, if_pos (by simp; omega)]
    · rw [List.getElem?_eq_none (l := List.range c) (by simp; omega), List.getElem?_eq_none (by simp; omega)]
      rfl
  rw [e, rowText_pad fun b hb => h b (List.mem_of_mem_drop (List.mem_of_mem_take hb))]
end Go.Proofs.YtjmiehbiindjdaaDoor.dec

namespace Go.Proofs.YtjmiehbiindjdaaDoor.dec
open Go Go.Cm

attribute [local congr] optK_congr asI_congr asN_congr asB_congr asS_congr asP_congr asA_congr asSL_congr callK_congr castT_congr chk_congr

theorem known_s (d : Nat) (H : Heap) : X (d + 1) n_law21_known [] H = some (.bool true, H) := by kernel_rfl
theorem Pick_s (d : Nat) (n : Int) (m : Nat) (H : Heap) (hm : 0 < m) (hm2 : m ≤ 1048576) : ∃ r : Nat, X (d + 1) n_hand_Pick [.int .i64 n, .int .i64 (m : Int)] H = some (.int .i64 (r : Int), H) ∧ r < m := by
  rw [hand_Pick_eq, if_neg (by omega)]
  have h1 := Int.tmod_lt_of_pos n (show (0 : Int) < (m : Int) by omega)
  have h2 : -(m : Int) < Int.tmod n m := by
    have := Int.lt_tmod_of_pos n (show (0 : Int) < (m : Int) by omega)
    omega
  simp only [decide_eq_true_eq]
  by_cases h : Int.tmod n m < 0
  · rw [if_pos h, w64 (by omega)]
    exact ⟨(Int.tmod n m + m).toNat, by rw [Int.toNat_of_nonneg (by omega)], by omega⟩
  · rw [if_neg h]
    exact ⟨(Int.tmod n m).toNat, by rw [Int.toNat_of_nonneg (by omega)], by omega⟩
theorem castPI (p : Nat) (n : Int) (K : List Value → Res) : castT [.ptr, .int .i64] (.tuple ⟨[P0 p, .int .i64 n]⟩) K = K [P0 p, .int .i64 n] := rfl
theorem wu8 {n : Int} (h : 0 ≤ n ∧ n < 256) : IntKind.wrap .u8 n = n := by
  unfold IntKind.wrap
  simp only [IntKind.signed, IntKind.bits]
  simp
  omega
theorem one_byte (H : Heap) (b : UInt8) : readD .bytesStr [.slice (some ⟨H.next, 0, none⟩) 1 1] (H.new (.cells [.int .u8 (b.toNat : Int)] t_uint8 false 0 false)) = some (.string (S [b])) := by
  have w : Whole (H.new (.cells [.int .u8 (b.toNat : Int)] t_uint8 false 0 false)) ⟨some ⟨H.next, 0, none⟩, 1, 1⟩ (bytes [b]) t_uint8 1 := .inr ⟨H.next, 1, rfl, rfl, by simp, false, false, by simp; rfl⟩
  exact (HV.of w).str

theorem BV.hv {H : Heap} {s : Sl} {b : Nat} {A Z : List Value} {l : W} (h : BV H s b A l Z) : HV H s l := Or.inr ⟨b, A, Z, h⟩

def txt (n : Nat) : W := (List.range n).map fun j => UInt8.ofNat (97 + j % 26)
theorem txt_len (n : Nat) : (txt n).length = n := by simp [txt]
theorem txt_succ (n : Nat) : txt (n + 1) = txt n ++ [UInt8.ofNat (97 + n % 26)] := by simp [txt, List.range_succ]
theorem txt_mem {n : Nat} {b : UInt8} (h : b ∈ txt n) : 97 ≤ b.toNat ∧ b.toNat < 123 := by
  obtain ⟨j, _, rfl⟩ := List.mem_map.1 h
  have : (UInt8.ofNat (97 + j % 26)).toNat = 97 + j % 26 := by
    rw [UInt8.toNat_ofNat']; omega
  omega

theorem part_eq (l : W) (a c : Nat) : (l.take (min (a + c) l.length)).drop (min a l.length) = (l.drop a).take c := by
  rw [List.drop_take]
  by_cases h : a ≤ l.length
  · rw [Nat.min_eq_left h]
    rcases Nat.le_total (a + c) l.length with h2 | h2
    · rw [Nat.min_eq_left h2]; congr 1; omega
    · rw [Nat.min_eq_right h2, List.take_of_length_le (by rw [List.length_drop]; omega), List.take_of_length_le (by rw [List.length_drop]; omega)]
  · rw [Nat.min_eq_right (show l.length ≤ a + c by omega), Nat.min_eq_right (show l.length ≤ a by omega), List.drop_length, List.drop_eq_nil_of_le (show l.length ≤ a by omega)]; simp

theorem lines_loop (e : Nat) {c n r : Nat} (hc : 1 ≤ c ∧ c ≤ 20) (hn : n < 100) (hr : 1 ≤ r ∧ r ≤ 60) {A : GA} {q : GP} (hq : q.g = wr r c (txt n) n) : ∀ (m i : Nat) {H : Heap}, r - i < m → i ≤ r → Gr H A q →
    ∃ H', law21_GridWraps_p1111111111010 (e + 11) m (c : Int) (n : Int) (r : Int) (some ⟨A.D.p, 0, none⟩) (S (txt n)) (i : Int) H = some (.bool true, H') := fun m => by
  induction m with
  | zero => intro i H hm; omega
  | succ m ih =>
    intro i H hm hi h
    have hL : q.g.L = wrows r c (txt n) n := by rw [hq]; rfl
    have hR : q.g.c.rows = r := by rw [hq]; rfl
    rw [law21_GridWraps_p1111111111010_s]
    by_cases hlt : i < r
    · rw [if_pos (show decide ((i : Int) < (r : Int)) = true from decide_eq_true (by omega))]
      obtain ⟨H2, e2, k2⟩ := Line_s (e + 7) h.rep h.wf (i : Int)
      rw [show X (e + 11) n_grid_Grid_Line [.pointer (some ⟨A.D.p, 0, none⟩), .int .i64 (i : Int)] H = _ from e2]
      simp only [callK_s, asS_s]
      have hic : i * c ≤ 60 * 20 := Nat.mul_le_mul (by omega) hc.2
      have hic2 : (i + 1) * c ≤ 61 * 20 := Nat.mul_le_mul (by omega) hc.2
      have m1 : IntKind.wrap .i64 ((i : Int) * (c : Int)) = ((i * c : Nat) : Int) := by rw [← Int.natCast_mul, w64 (by omega)]
      have m2 : IntKind.wrap .i64 (IntKind.wrap .i64 ((i : Int) + 1) * (c : Int)) = (((i + 1) * c : Nat) : Int) := by rw [wi (by omega), ← Int.natCast_mul, w64 (by omega)]
      have a1 : (if (IntKind.wrap .i64 ((i : Int) * (c : Int))) < (n : Int) then (IntKind.wrap .i64 ((i : Int) * (c : Int))) else (n : Int)) = ((min (i * c) n : Nat) : Int) := by rw [m1]; split <;> omega
      have a2 : (if (IntKind.wrap .i64 (IntKind.wrap .i64 ((i : Int) + 1) * (c : Int))) < (n : Int) then (IntKind.wrap .i64 (IntKind.wrap .i64 ((i : Int) + 1) * (c : Int))) else (n : Int)) = ((min ((i + 1) * c) n : Nat) : Int) := by rw [m2]; split <;> omega
      rw [a1, a2, slenS, txt_len]
      have hle : i * c ≤ (i + 1) * c := Nat.mul_le_mul_right _ (by omega)
      rw [if_pos (show (0 : Int) ≤ ((min (i * c) n : Nat) : Int) ∧ ((min (i * c) n : Nat) : Int) ≤ ((min ((i + 1) * c) n : Nat) : Int) ∧ ((min ((i + 1) * c) n : Nat) : Int) ≤ ((n : Nat) : Int) by omega), Int.toNat_natCast, Int.toNat_natCast, Int.toNat_natCast, sSubS, sEqS]
      have hp := part_eq (txt n) (i * c) c
      rw [txt_len, show i * c + c = (i + 1) * c by rw [Nat.add_mul]; omega] at hp
      rw [hp, hR, if_pos (show (0 : Int) ≤ (i : Int) ∧ (i : Int) < (r : Int) by omega), hL]
      have hrow : (wrows r c (txt n) n).getD i [] = (List.range c).map fun j => wcell c (txt n) (txt n).length i j := by
        rw [txt_len, List.getD_eq_getElem?_getD]
        unfold wrows
        rw [List.getElem?_map, List.getElem?_range hlt]
        rfl
      rw [hrow, wrow_text c (txt n) (fun b hb => by have := txt_mem hb; omega) i, beq_self_eq_true, if_neg (show ¬ (!true) = true by simp), wi (by omega)]
      exact ih (i + 1) (by omega) (by omega) (h.keep k2 fun _ _ e => e)
    · rw [if_neg (show ¬ decide ((i : Int) < (r : Int)) = true from dneg (by omega))]
      obtain ⟨y, p, H', e', o', _, p', _⟩ := Past_s (e + 8) h.rep h.wf
      rw [show X (e + 11) n_grid_Grid_Past [.pointer (some ⟨A.D.p, 0, none⟩)] H = _ from e']
      simp only [callK_s, asSL_k]
      have hp : p.length = 0 := by
        have := congrArg List.length p'
        rw [hq, List.length_map] at this
        exact this
      have hy : y.n = 0 := by rw [o'.n, hp]
      rw [hy]
      exact ⟨H', rfl⟩

theorem text_loop (e : Nat) {c n r : Nat} (hc : 1 ≤ c ∧ c ≤ 20) (hn : n < 100) (hr : 1 ≤ r ∧ r ≤ 60) (hrc : n ≤ r * c) {A : GA} : ∀ (m i : Nat) {H : Heap}, n - i < m → i ≤ n → Tab H → Gr H A (GP.new r c) →
    ∃ H', law21_GridWraps_p11111111010 (e + 11) m (c : Int) (n : Int) (r : Int) (some ⟨A.D.p, 0, none⟩) (S (txt i)) (i : Int) H = some (.bool true, H') := fun m => by
  induction m with
  | zero => intro i H hm; omega
  | succ m ih =>
    intro i H hm hi t h
    rw [law21_GridWraps_p11111111010_s]
    by_cases hlt : i < n
    · rw [if_pos (show decide ((i : Int) < (n : Int)) = true from decide_eq_true (by omega))]
      have hb : IntKind.wrap .u8 (IntKind.wrap .i64 (97 + Int.tmod (i : Int) 26)) = ((UInt8.ofNat (97 + i % 26)).toNat : Int) := by
        have h1 : Int.tmod (i : Int) 26 = ((i % 26 : Nat) : Int) := by rw [Int.tmod_eq_emod_of_nonneg (by omega)]; omega
        rw [h1, w64 (by omega), wu8 (by omega), UInt8.toNat_ofNat']
        omega
      rw [hb]
      simp only [newK_s]
      rw [one_byte]
      simp only [optK_s, asS_s]
      rw [slenS, slenS, txt_len, if_pos (show i + [UInt8.ofNat (97 + i % 26)].length ≤ 9223372036854775807 by show i + 1 ≤ _; omega), sCatS, ← txt_succ, wi (by omega)]
      exact ih (i + 1) (by omega) (by omega) (t.keep (Keep.new (S := fun _ => False) _ _) id id) (h.keep (Keep.new (S := fun _ => False) _ _) fun _ _ e => e)
    · have hin : i = n := by omega
      subst hin
      rw [if_neg (show ¬ decide ((i : Int) < (i : Int)) = true from dneg (by omega)), lstS, slenS]
      simp only [newK_s]
      have k6 : Keep0 H (H.new (.cells ((txt i).map fun b => .int .u8 b.toNat) t_uint8 true 0 true)) := Keep.new _ _
      have v6 : BV (H.new (.cells ((txt i).map fun b => .int .u8 b.toNat) t_uint8 true 0 true)) ⟨some ⟨H.next, 0, none⟩, (txt i).length, (txt i).length⟩ H.next [] (txt i) [] :=
        ⟨rfl, by rw [bytes_len]; show (txt i).length = (txt i).length * 1; omega, Nat.le_refl _, by simp, true, true, by simp [bytes]⟩
      have t6 := t.keep k6 id id
      have h6 := h.keep k6 fun _ _ e => e
      generalize H.new (.cells ((txt i).map fun b => .int .u8 b.toNat) t_uint8 true 0 true) = H6 at *
      have hp := write_print (g := G.fresh r c []) (c := PS.new) rfl (l := txt i) fun b hb => by have := txt_mem hb; omega
      obtain ⟨H8, A8, e8, h8, s8⟩ := Write_s (e + 6) (F := F0) t6 h6 v6.hv (by rw [txt_len]; omega) fun a ha => does0 e (by
        rw [show (GP.new r c).acts (txt i) = prints (txt i) from hp.1] at ha
        obtain ⟨b, _, rfl⟩ := List.mem_map.1 ha
        exact .inl rfl)
      rw [show X (e + 11) n_grid_Grid_Write [.pointer (some ⟨A.D.p, 0, none⟩), .slice (some ⟨H.next, 0, none⟩) (txt i).length (txt i).length] H6 = _ from e8]
      simp only [callK_s]
      have hq : ((GP.new r c).write F0 (txt i)).g = wr r c (txt i) i := by
        rw [show (GP.new r c).write F0 (txt i) = _ from hp.2]
        have := wr_puts r c (by omega) (txt i) (by rw [txt_len]; exact hrc) (txt i) 0 rfl (by omega)
        rw [wr_zero, txt_len] at this
        exact this
      have := lines_loop e hc hn hr hq NN 0 (NN_big _ (by omega)) (by omega) h8
      rw [s8.p] at this
      exact this

theorem GridWraps_s (e : Nat) {H : Heap} (t : Tab H) (x0 x1 : Int) : ∃ H', X (e + 12) n_law21_GridWraps [.int .i64 x0, .int .i64 x1] H = some (.bool true, H') := by
  rw [law21_GridWraps_eq]
  obtain ⟨c0, e1, h1⟩ := Pick_s (e + 10) x0 20 H (by omega) (by omega)
  obtain ⟨n, e2, h2⟩ := Pick_s (e + 10) x1 100 H (by omega) (by omega)
  rw [show X (e + 11) n_hand_Pick [.int .i64 x0, .int .i64 20] H = _ from e1]
  simp only [callK_s, asI_s]
  rw [show X (e + 11) n_hand_Pick [.int .i64 x1, .int .i64 100] H = _ from e2]
  simp only [callK_s, asI_s]
  have hc : IntKind.wrap .i64 (1 + (c0 : Int)) = ((c0 + 1 : Nat) : Int) := by rw [w64 (by omega)]; omega
  rw [hc]
  generalize hcc : c0 + 1 = c
  have hc1 : 1 ≤ c ∧ c ≤ 20 := by omega
  rw [if_neg (show ¬ (c : Int) = 0 by omega)]
  have hdiv : (n + c - 1) / c ≤ n + c - 1 := Nat.div_le_self _ _
  have hd0 : (0 : Int) ≤ ((n + c - 1 : Nat) : Int) / (c : Int) := Int.ediv_nonneg (by omega) (by omega)
  have hE : (if 1 < (IntKind.wrap .i64 (Int.tdiv (IntKind.wrap .i64 ((IntKind.wrap .i64 ((n : Int) + (c : Int))) - 1)) (c : Int))) then (IntKind.wrap .i64 (Int.tdiv (IntKind.wrap .i64 ((IntKind.wrap .i64 ((n : Int) + (c : Int))) - 1)) (c : Int))) else 1) = ((max 1 ((n + c - 1) / c) : Nat) : Int) := by
    rw [w64 (n := (n : Int) + (c : Int)) (by omega), w64 (n := (n : Int) + (c : Int) - 1) (by omega), show (n : Int) + (c : Int) - 1 = ((n + c - 1 : Nat) : Int) by omega, Int.tdiv_eq_ediv_of_nonneg (by omega), ← Int.natCast_ediv, w64 (by omega)]
    split <;> omega
  rw [hE]
  have hrn : n ≤ max 1 ((n + c - 1) / c) * c := by
    have h1 := Nat.div_add_mod (n + c - 1) c
    have h2 := Nat.mod_lt (n + c - 1) (show c > 0 by omega)
    have h3 : (n + c - 1) / c * c ≤ max 1 ((n + c - 1) / c) * c := Nat.mul_le_mul_right _ (Nat.le_max_right _ _)
    rw [Nat.mul_comm] at h1
    omega
  have hr1 : 1 ≤ max 1 ((n + c - 1) / c) := Nat.le_max_left _ _
  generalize max 1 ((n + c - 1) / c) = r at *
  by_cases h60 : 60 < r
  · rw [if_pos (show decide ((60 : Int) < (r : Int)) = true from decide_eq_true (by omega)), known_s]
    exact ⟨H, rfl⟩
  · rw [if_neg (show ¬ decide ((60 : Int) < (r : Int)) = true from dneg (by omega))]
    obtain ⟨H', A, e', h', k', f'⟩ := New_s (e + 4) t.lt (r := r) (c := c) (by omega) (by omega)
    rw [e', callK_s, castPI, castPI]
    simp only [List.getElem?_cons_zero, List.getElem?_cons_succ, optK_s, P0, asP_s, asI_s]
    rw [known_s]
    simp only [callK_s, asB_s]
    simp only [decide_true, Bool.not_true, Bool.false_eq_true, if_false, Option.isNone_some]
    rw [law21_GridWraps_p11111101_eq, if_neg ff]
    exact text_loop e hc1 h2 ⟨hr1, by omega⟩ hrn NN 0 (NN_big _ (by omega)) (by omega) (t.keep k' id id) h'
end Go.Proofs.YtjmiehbiindjdaaDoor.dec

namespace Go.Proofs.YtjmiehbiindjdaaDoor.dec
open Go Go.Cm

def cellR (n : Int) : Cl := ⟨n, 0, 0, 0⟩
def padR (c : Nat) (s : List Int) : List Cl := s.map cellR ++ List.replicate (c - s.length) blank
/-- a screen that shows the last r of the lines -/
def shown (r : Nat) (all : List (List Int)) : List (List Int) := all.drop (all.length - r) ++ List.replicate (r - all.length) []
def ts (r c : Nat) (ls : List (List Int)) (cur : List Int) : G :=
  { G.fresh r c [] with L := (shown r (ls ++ [cur])).map (padR c), past := ((ls ++ [cur]).take (ls.length + 1 - r)).map (padR c), c := { Sc.init r c with row := min (ls.length + 1) r - 1, col := cur.length } }

theorem shown_len (r : Nat) (all : List (List Int)) : (shown r all).length = r := by
  unfold shown
  rw [List.length_append, List.length_drop, List.length_replicate]; omega
theorem padR_nil (c : Nat) : padR c [] = List.replicate c blank := by simp [padR]
theorem ts_zero (r c : Nat) (hr : 1 ≤ r) : ts r c [] [] = G.fresh r c [] := by
  have h1 : shown r [[]] = List.replicate r [] := by
    unfold shown
    rw [show ([[]] : List (List Int)).length = 1 from rfl, show 1 - r = 0 by omega, List.drop_zero]
    obtain ⟨r, rfl⟩ : ∃ k, r = k + 1 := ⟨r - 1, by omega⟩
    rfl
  unfold ts
  rw [List.nil_append, h1, List.map_replicate, padR_nil, show ([] : List (List Int)).length + 1 - r = 0 by simp; omega, List.take_zero]
  simp only [G.fresh, Sc.init, List.length_nil, List.map_nil]
  rw [show min (0 + 1) r - 1 = 0 by omega]

/-- the line under way is the row of the cursor -/
theorem shown_cur (r : Nat) (hr : 1 ≤ r) (ls : List (List Int)) (cur : List Int) : (shown r (ls ++ [cur])) = (shown r (ls ++ [cur])).set (min (ls.length + 1) r - 1) cur := by
  have hl : (ls ++ [cur]).length = ls.length + 1 := by simp
  apply List.ext_getElem?
  intro j
  rw [List.getElem?_set]
  by_cases h : min (ls.length + 1) r - 1 = j
  · subst h
    rw [if_pos rfl, shown_len, if_pos (by omega)]
    unfold shown
    rw [List.getElem?_append_left (by rw [List.length_drop, hl]; omega), List.getElem?_drop, hl, List.getElem?_append_right (by omega), show ls.length + 1 - r + (min (ls.length + 1) r - 1) - ls.length = 0 by omega]
    rfl
  · rw [if_neg h]
theorem shown_set (r : Nat) (ls : List (List Int)) (cur cur' : List Int) (hr : 1 ≤ r) : (shown r (ls ++ [cur])).set (min (ls.length + 1) r - 1) cur' = shown r (ls ++ [cur']) := by
  have hl : ∀ x : List Int, (ls ++ [x]).length = ls.length + 1 := fun x => by simp
  unfold shown
  rw [hl, hl, List.set_append_left _ _ (by rw [List.length_drop, hl]; omega)]
  congr 1
  apply List.ext_getElem?
  intro j
  rw [List.getElem?_set, List.getElem?_drop, List.getElem?_drop]
  by_cases h : min (ls.length + 1) r - 1 = j
  · subst h
    rw [if_pos rfl, List.length_drop, hl, if_pos (by omega), List.getElem?_append_right (by omega), show ls.length + 1 - r + (min (ls.length + 1) r - 1) - ls.length = 0 by omega]
    rfl
  · rw [if_neg h]
    by_cases h2 : ls.length + 1 - r + j < ls.length
    · rw [List.getElem?_append_left h2, List.getElem?_append_left h2]
    · rw [List.getElem?_eq_none (by rw [hl]; omega), List.getElem?_eq_none (by rw [hl]; omega)]

theorem padR_set (c : Nat) (s : List Int) (n : Int) (h : s.length < c) : (padR c s).set s.length (cellR n) = padR c (s ++ [n]) := by
  unfold padR
  rw [List.set_append_right _ _ (by simp), List.length_map, Nat.sub_self, List.map_append, List.append_assoc]
  congr 1
  obtain ⟨k, hk⟩ : ∃ k, c - s.length = k + 1 := ⟨c - s.length - 1, by omega⟩
  rw [hk, List.replicate_succ, List.set_cons_zero, show c - (s ++ [n]).length = k by simp; omega]
  rfl

theorem ts_print (r c : Nat) (hr : 1 ≤ r) (ls : List (List Int)) (cur : List Int) (n : Int) (h : cur.length + 1 < c) : (ts r c ls cur).print n = ts r c ls (cur ++ [n]) := by
  unfold G.print
  rw [if_neg (show ¬ ((ts r c ls cur).c.due = true ∧ (ts r c ls cur).c.wrap = true) from fun e => by have : false = true := e.1; cases this)]
  unfold G.print0
  have hrow : (ts r c ls cur).L.modify (min (ls.length + 1) r - 1) (fun l => l.set cur.length (cellR n)) = (ts r c ls (cur ++ [n])).L := by
    show ((shown r (ls ++ [cur])).map (padR c)).modify _ _ = (shown r (ls ++ [cur ++ [n]])).map (padR c)
    have hat : ((shown r (ls ++ [cur])).map (padR c))[min (ls.length + 1) r - 1]? = some (padR c cur) := by
      rw [List.getElem?_map, shown_cur r hr, List.getElem?_set, if_pos rfl, shown_len, if_pos (by omega)]
      rfl
    rw [modify_at hat, padR_set c cur n (by omega), ← List.map_set, shown_set r ls cur (cur ++ [n]) hr]
  have hp : (ls ++ [cur]).take (ls.length + 1 - r) = (ls ++ [cur ++ [n]]).take (ls.length + 1 - r) := by
    rw [List.take_append_of_le_length (by omega), List.take_append_of_le_length (by omega)]
  have e1 : (ts r c ls cur).c.insert = false := rfl
  have e2 : ({ (ts r c ls cur).c.st with r := n } : Cl) = cellR n := rfl
  have e3 : (ts r c ls cur).c.col = cur.length := rfl
  have e4 : (ts r c ls cur).c.cols = c := rfl
  have e5 : (ts r c ls cur).c.row = min (ls.length + 1) r - 1 := rfl
  rw [e1, e2, e3, e4, e5]
  simp only [Bool.false_eq_true, if_false]
  rw [if_neg (show ¬ cur.length + 1 = c by omega), hrow]
  unfold ts
  rw [hp]
  simp
end Go.Proofs.YtjmiehbiindjdaaDoor.dec

namespace Go.Proofs.YtjmiehbiindjdaaDoor.dec
open Go Go.Cm

theorem ts_nl (r c : Nat) (hr : 1 ≤ r) (hc : 1 ≤ c) (ls : List (List Int)) (cur : List Int) (hn : ls.length ≤ 100) : ((ts r c ls cur).control 13).control 10 = ts r c (ls ++ [cur]) [] := by
  have hl : (ls ++ [cur]).length = ls.length + 1 := by simp
  have hl2 : ((ls ++ [cur]) ++ [[]]).length = ls.length + 2 := by simp
  have e13 : (ts r c ls cur).control 13 = { ts r c ls cur with c := { (ts r c ls cur).c with col := 0 } } := by
    unfold G.control
    rw [if_neg (by decide), if_neg (by decide), if_neg (by decide), if_pos rfl]
    unfold G.move
    have e1 : (min (max (((ts r c ls cur).c.row : Nat) : Int) 0) (((ts r c ls cur).c.rows : Int) - 1)).toNat = (ts r c ls cur).c.row := by
      show (min (max ((min (ls.length + 1) r - 1 : Nat) : Int) 0) ((r : Int) - 1)).toNat = min (ls.length + 1) r - 1
      omega
    have e2 : (min (max (0 : Int) 0) (((ts r c ls cur).c.cols : Int) - 1)).toNat = 0 := by
      show (min (max (0 : Int) 0) ((c : Int) - 1)).toNat = 0
      omega
    rw [e1, e2]
    rfl
  rw [e13]
  unfold G.control
  rw [if_neg (by decide), if_neg (by decide), if_pos (by decide)]
  unfold G.index
  have er : ({ ts r c ls cur with c := { (ts r c ls cur).c with col := 0 } } : G).c.row = min (ls.length + 1) r - 1 := rfl
  have eb : ({ ts r c ls cur with c := { (ts r c ls cur).c with col := 0 } } : G).c.bottom = r - 1 := rfl
  have ers : ({ ts r c ls cur with c := { (ts r c ls cur).c with col := 0 } } : G).c.rows = r := rfl
  rw [er, eb, ers]
  by_cases h : ls.length + 1 < r
  · rw [if_neg (by omega), if_pos (by omega)]
    have hs : shown r (ls ++ [cur]) = shown r ((ls ++ [cur]) ++ [[]]) := by
      unfold shown
      rw [hl, hl2, show ls.length + 1 - r = 0 by omega, show ls.length + 2 - r = 0 by omega, List.drop_zero, List.drop_zero, show r - (ls.length + 1) = (r - (ls.length + 2)) + 1 by omega, List.replicate_succ]
      simp
    unfold ts
    rw [hs, hl, show ls.length + 1 - r = 0 by omega, show ls.length + 1 + 1 - r = 0 by omega, List.take_zero, List.take_zero, show min (ls.length + 1) r - 1 + 1 = min (ls.length + 1 + 1) r - 1 by omega]
    rfl
  · rw [if_pos (by omega)]
    have hsr : shown r (ls ++ [cur]) = (ls ++ [cur]).drop (ls.length + 1 - r) := by
      unfold shown
      rw [hl, show r - (ls.length + 1) = 0 by omega, List.replicate_zero, List.append_nil]
    have hsr2 : shown r ((ls ++ [cur]) ++ [[]]) = (ls ++ [cur]).drop (ls.length + 2 - r) ++ [[]] := by
      unfold shown
      rw [hl2, show r - (ls.length + 2) = 0 by omega, List.replicate_zero, List.append_nil, List.drop_append_of_le_length (by omega)]
    obtain ⟨x, hx⟩ : ∃ x, (ls ++ [cur])[ls.length + 1 - r]? = some x := ⟨_, List.getElem?_eq_getElem (by rw [hl]; omega)⟩
    have hd : (ls ++ [cur]).drop (ls.length + 1 - r) = x :: (ls ++ [cur]).drop (ls.length + 2 - r) := by
      obtain ⟨h1, h2⟩ := List.getElem?_eq_some_iff.1 hx
      rw [List.drop_eq_getElem_cons h1, h2, show ls.length + 1 - r + 1 = ls.length + 2 - r by omega]
    have ht : ((ls ++ [cur]) ++ [[]]).take (ls.length + 1 + 1 - r) = (ls ++ [cur]).take (ls.length + 1 - r) ++ [x] := by
      obtain ⟨h1, h2⟩ := List.getElem?_eq_some_iff.1 hx
      rw [List.take_append_of_le_length (by omega), show ls.length + 1 + 1 - r = (ls.length + 1 - r) + 1 by omega, List.take_succ_eq_append_getElem h1, h2]
    have hdl : ((ls ++ [cur]).drop (ls.length + 2 - r)).length = r - 1 := by rw [List.length_drop, hl]; omega
    let g1 : G := ({ ts r c ls cur with c := { (ts r c ls cur).c with col := 0 } } : G).due false
    show g1.up 1 = _
    have gL : g1.L = padR c x :: ((ls ++ [cur]).drop (ls.length + 2 - r)).map (padR c) := by
      show (shown r (ls ++ [cur])).map (padR c) = _
      rw [hsr, hd]; rfl
    have gp : g1.past = ((ls ++ [cur]).take (ls.length + 1 - r)).map (padR c) := rfl
    have gc : g1.c = { Sc.init r c with row := min (ls.length + 1) r - 1, col := 0 } := rfl
    have gt : g1.tabs = tabs0 c := rfl
    have go : g1.other = none := rfl
    clear_value g1
    obtain ⟨c1, L1, t1, o1, p1⟩ := g1
    simp only at gL gp gc gt go
    subst gL gp gc gt go
    unfold G.up
    simp only [Sc.init]
    rw [if_pos ⟨trivial, trivial⟩, show min 1 (r - 1 - 0 + 1) = 1 by omega]
    simp only [List.take_succ_cons, List.take_zero, G.keeps, List.foldl_cons, List.foldl_nil, G.keep, G.take]
    rw [show min 1 (r - 1 + 1 - 0) = 1 by omega, show r - 1 + 1 - 0 = r by omega, show r - 1 + 1 = r by omega]
    have hlen : (((ls ++ [cur]).take (ls.length + 1 - r)).map (padR c) ++ [padR c x]).length - 200 = 0 := by
      rw [List.length_append, List.length_map, List.length_take, hl]
      simp only [List.length_cons, List.length_nil]
      omega
    rw [hlen, List.drop_zero, List.drop_zero, List.nil_append]
    have hall : (padR c x :: ((ls ++ [cur]).drop (ls.length + 2 - r)).map (padR c)).length = r := by rw [List.length_cons, List.length_map, hdl]; omega
    rw [List.take_of_length_le (Nat.le_of_eq hall), List.drop_eq_nil_of_le (Nat.le_of_eq hall), List.drop_succ_cons, List.drop_zero, List.append_nil]
    unfold ts
    rw [hsr2, hl, ht]
    simp only [G.fresh, Sc.init, List.map_append, List.map_cons, List.map_nil, padR_nil, List.length_nil]
    rw [show min (ls.length + 1 + 1) r - 1 = min (ls.length + 1) r - 1 by omega]
    rfl
end Go.Proofs.YtjmiehbiindjdaaDoor.dec

namespace Go.Proofs.YtjmiehbiindjdaaDoor.dec
open Go Go.Cm

def txb : Nat → W
  | 0 => [97, 98, 99]
  | 1 => []
  | 2 => [97, 32, 98]
  | 3 => [195, 169]
  | _ => [48, 49, 50, 51, 52, 53, 54, 55, 56, 57]
def txr : Nat → List Int
  | 0 => [97, 98, 99]
  | 1 => []
  | 2 => [97, 32, 98]
  | 3 => [233]
  | _ => [48, 49, 50, 51, 52, 53, 54, 55, 56, 57]
theorem tx_feed : ∀ i, i < 5 → feedL (txb i) = txr i ∧ heldW (txb i) = []
  | 0, _ => ⟨by kernel_rfl, by kernel_rfl⟩
  | 1, _ => ⟨by kernel_rfl, by kernel_rfl⟩
  | 2, _ => ⟨by kernel_rfl, by kernel_rfl⟩
  | 3, _ => ⟨by kernel_rfl, by kernel_rfl⟩
  | 4, _ => ⟨by kernel_rfl, by kernel_rfl⟩
theorem tx_row : ∀ i, i < 5 → rowText (padR 12 (txr i)) = txb i ∧ refText (padR 12 (txr i)) = txb i
  | 0, _ => ⟨by kernel_rfl, by kernel_rfl⟩
  | 1, _ => ⟨by kernel_rfl, by kernel_rfl⟩
  | 2, _ => ⟨by kernel_rfl, by kernel_rfl⟩
  | 3, _ => ⟨by kernel_rfl, by kernel_rfl⟩
  | 4, _ => ⟨by kernel_rfl, by kernel_rfl⟩
theorem tx_ok : ∀ i, i < 5 → (txr i).length < 12 ∧ (∀ r ∈ txr i, 32 ≤ r ∧ r ≠ 127) ∧ (txb i).length ≤ 10
  | 0, _ => by decide
  | 1, _ => by decide
  | 2, _ => by decide
  | 3, _ => by decide
  | 4, _ => by decide
theorem crlf_feed : feedL [13, 10] = [13, 10] ∧ heldW [13, 10] = [] := ⟨by kernel_rfl, by kernel_rfl⟩

def printsR (l : List Int) : List Act := l.map fun r => ⟨1, r, false, []⟩
theorem pFeed_printR {c : PS} (hc : c.state = 0) : ∀ l : List Int, (∀ r ∈ l, 32 ≤ r ∧ r ≠ 127) → pFeed c l = (c, printsR l)
  | [], _ => rfl
  | b :: l, h => by
    have hb := h b List.mem_cons_self
    unfold pFeed
    rw [pRune_print hc hb]
    simp only
    rw [pFeed_printR hc l fun b hb => h b (List.mem_cons_of_mem _ hb)]
    rfl
theorem pRune_ctrl {c : PS} (hc : c.state = 0) {r : Int} (h : 7 ≤ r ∧ r ≤ 13) : pRune c r = (c, some ⟨2, r, false, []⟩) := by
  unfold pRune
  rw [if_neg (show ¬ (r = 27 ∧ c.state ≠ 4) by omega), if_neg (show ¬ r = 27 by omega), if_neg (show ¬ c.state = 1 by omega), if_neg (show ¬ c.state = 2 by omega), if_neg (show ¬ c.state = 3 by omega), if_neg (show ¬ c.state = 4 by omega), if_neg (show ¬ c.state = 5 by omega)]
  have h1 : ctrl r = true := by
    unfold ctrl
    rw [decide_eq_true h.1, decide_eq_true h.2]; rfl
  unfold pPlain
  rw [h1, if_pos rfl]
theorem ts_puts (r : Nat) (hr : 1 ≤ r) (ls : List (List Int)) : ∀ (s cur : List Int), cur.length + s.length < 12 → (printsR s).foldl F0 (ts r 12 ls cur) = ts r 12 ls (cur ++ s)
  | [], cur, _ => by rw [List.append_nil]; rfl
  | b :: s, cur, h => by
    simp only [List.length_cons] at h
    show (printsR s).foldl F0 (F0 (ts r 12 ls cur) ⟨1, b, false, []⟩) = _
    rw [show F0 (ts r 12 ls cur) ⟨1, b, false, []⟩ = (ts r 12 ls cur).print b from rfl, ts_print r 12 hr ls cur b (by omega), ts_puts r hr ls s (cur ++ [b]) (by simp; omega)]
    simp

theorem write_text (r : Nat) (hr : 1 ≤ r) (ls : List (List Int)) {c : PS} (hc : c.state = 0) {i : Nat} (hi : i < 5) :
    (∀ a ∈ (⟨ts r 12 ls [], c, []⟩ : GP).acts (txb i), a.kind = 1 ∨ a.kind = 2) ∧ (⟨ts r 12 ls [], c, []⟩ : GP).write F0 (txb i) = ⟨ts r 12 ls (txr i), c, []⟩ := by
  obtain ⟨h1, h2⟩ := tx_feed i hi
  obtain ⟨h3, h4, _⟩ := tx_ok i hi
  have e1 : (⟨ts r 12 ls [], c, []⟩ : GP).acts (txb i) = printsR (txr i) := by
    unfold GP.acts
    simp only [List.nil_append]
    rw [h1, pFeed_printR hc _ h4]
  refine ⟨fun a ha => ?_, ?_⟩
  · rw [e1] at ha
    obtain ⟨b, _, rfl⟩ := List.mem_map.1 ha
    exact .inl rfl
  · unfold GP.write
    rw [e1]
    simp only [List.nil_append]
    rw [h1, h2, pFeed_printR hc _ h4, ts_puts r hr ls (txr i) [] (by simp; omega)]
    rfl
theorem write_crlf (r : Nat) (hr : 1 ≤ r) (ls : List (List Int)) (cur : List Int) (hn : ls.length ≤ 100) {c : PS} (hc : c.state = 0) :
    (∀ a ∈ (⟨ts r 12 ls cur, c, []⟩ : GP).acts [13, 10], a.kind = 1 ∨ a.kind = 2) ∧ (⟨ts r 12 ls cur, c, []⟩ : GP).write F0 [13, 10] = ⟨ts r 12 (ls ++ [cur]) [], c, []⟩ := by
  have hf : pFeed c [13, 10] = (c, [⟨2, 13, false, []⟩, ⟨2, 10, false, []⟩]) := by
    unfold pFeed
    rw [pRune_ctrl hc (by omega)]
    simp only
    unfold pFeed
    rw [pRune_ctrl hc (by omega)]
    rfl
  have e1 : (⟨ts r 12 ls cur, c, []⟩ : GP).acts [13, 10] = [⟨2, 13, false, []⟩, ⟨2, 10, false, []⟩] := by
    unfold GP.acts
    simp only [List.nil_append]
    rw [crlf_feed.1, hf]
  refine ⟨fun a ha => ?_, ?_⟩
  · rw [e1] at ha
    simp only [List.mem_cons, List.not_mem_nil, or_false] at ha
    rcases ha with rfl | rfl <;> exact .inr rfl
  · unfold GP.write
    rw [e1]
    simp only [List.nil_append]
    rw [crlf_feed.1, crlf_feed.2, hf]
    show (⟨((ts r 12 ls cur).control 13).control 10, c, []⟩ : GP) = _
    rw [ts_nl r 12 hr (by omega) ls cur hn]
end Go.Proofs.YtjmiehbiindjdaaDoor.dec

namespace Go.Proofs.YtjmiehbiindjdaaDoor.dec
open Go Go.Cm

attribute [local congr] optK_congr asI_congr asN_congr asB_congr asS_congr asP_congr asA_congr asSL_congr callK_congr castT_congr chk_congr

def Ints (H : Heap) (x : Sl) (l : List Int) : Prop := x.n ≤ l.length ∧ ∀ (i : Nat) n, i < x.n → l[i]? = some n → ∃ b o, x.a = some ⟨b, o, none⟩ ∧ b < H.next ∧ H.ld1 ⟨b, o + i, none⟩ = some (.int .i64 n)
theorem Ints.new {H H' : Heap} {x : Sl} {l : List Int} (h : Ints H x l) (k : Keep0 H H') : Ints H' x l := ⟨h.1, fun i n hi hn => by
  obtain ⟨b, o, h1, h2, h3⟩ := h.2 i n hi hn
  refine ⟨b, o, h1, Nat.lt_of_lt_of_le h2 k.1, ?_⟩
  have e := k.2 b h2 id
  unfold Heap.ld1 at h3 ⊢
  simp only [e]
  exact h3⟩
def strV (ix : List Nat) : List Value := ix.map fun i => .string (S (txb i))
theorem strV_len (ix : List Nat) : (strV ix).length = ix.length := by simp [strV]
/-- where the law stands -/
structure St (H0 H : Heap) (A : GA) (q : GP) (x7 : Sl) (ix : List Nat) : Prop where
  k0 : Keep0 H0 H
  gr : Gr H A q
  fa : ∀ k, A.foot k → H0.next ≤ k
  wx : Whole H x7 (strV ix) t_string 1
  xa : ∀ k, x7.at k → H0.next ≤ k ∧ ¬ A.foot k
theorem St.new {H0 H H' : Heap} {A : GA} {q : GP} {x7 : Sl} {ix : List Nat} (h : St H0 H A q x7 ix) (k : Keep0 H H') : St H0 H' A q x7 ix :=
  ⟨h.k0.trans k, h.gr.keep k fun _ _ e => e, h.fa, Whole.keep h.wx k fun _ _ e => e, h.xa⟩
theorem St.write (e : Nat) {H0 H : Heap} {A : GA} {q : GP} {x7 x : Sl} {ix : List Nat} {l : W} (t : Tab H0) (h : St H0 H A q x7 ix) (hx : HV H x l) (hl : l.length ≤ 900000) (ha : ∀ a ∈ q.acts l, a.kind = 1 ∨ a.kind = 2) :
    ∃ H' A', X (e + 11) n_grid_Grid_Write [P0 A.D.p, x.v] H = some (.tuple #[], H') ∧ A'.D.p = A.D.p ∧ St H0 H' A' (q.write F0 l) x7 ix := by
  obtain ⟨H', A', e1, g1, s1⟩ := Write_s (e + 6) (F := F0) (t.keep h.k0 id id) h.gr hx hl fun a h => does0 e (ha a h)
  have hn := h.k0.1
  exact ⟨H', A', e1, s1.p, ⟨h.k0.fresh s1.kp h.fa, g1, fun k e => (s1.ft k e).elim (h.fa k) (fun e => by omega), Whole.keep h.wx s1.kp fun k e => (h.xa k e).2,
    fun k e => ⟨(h.xa k e).1, fun e' => (s1.ft k e').elim (h.xa k e).2 (fun e' => by have := Whole.lt h.wx e; omega)⟩⟩⟩
theorem St.push {H0 H : Heap} {A : GA} {q : GP} {x7 : Sl} {ix : List Nat} (h : St H0 H A q x7 ix) (hix : ix.length ≤ 100) (i : Nat) :
    ∃ y H', (∀ K, appendK t_string 1 16 false x7.v (.slice (some ⟨H.next, 0, none⟩) 1 1) (H.new (.cells [.string (S (txb i))] t_string false 0 false)) K = K (Sl.v y) H') ∧ St H0 H' A q y (ix ++ [i]) := by
  have hl := (Whole.len h.wx).1
  rw [strV_len] at hl
  obtain ⟨y, H', e1, w1, k1, _, f1, _⟩ := push_whole (bytes := 16) (new := [.string (S (txb i))]) h.wx rfl (by omega) (by omega) (by omega)
  have hn := h.k0.1
  refine ⟨y, H', e1, ⟨h.k0.fresh k1 fun k e => (h.xa k e).1, h.gr.keep k1 fun k e e' => (h.xa k e').2 e, h.fa, by simpa [strV] using w1, fun k e => ⟨by have := f1 k e; omega, fun e' => by have := f1 k e; have := h.gr.lt e'; omega⟩⟩⟩

/-- the screen after the lines ix -/
def after (r : Nat) (ix : List Nat) : G := match ix.reverse with
  | [] => ts r 12 [] []
  | i :: rest => ts r 12 (rest.reverse.map txr) (txr i)
theorem after_snoc (r : Nat) (ix : List Nat) (i : Nat) : after r (ix ++ [i]) = ts r 12 (ix.map txr) (txr i) := by
  unfold after
  rw [List.reverse_append]
  simp
def GP.at (r : Nat) (ix : List Nat) : GP := ⟨after r ix, PS.new, []⟩

theorem pick_txt {n : Nat} (h : n < 5) : partL [.string (S [97, 98, 99]), .string (S []), .string (S [97, 32, 98]), .string (S [195, 169]), .string (S [48, 49, 50, 51, 52, 53, 54, 55, 56, 57])] ((((n : Nat) : Int).toNat) * 1) 1 false = some (.string (S (txb n))) := by
  have : n = 0 ∨ n = 1 ∨ n = 2 ∨ n = 3 ∨ n = 4 := by omega
  rcases this with rfl | rfl | rfl | rfl | rfl <;> rfl

/-- one line is written, and wanted -/
theorem line_put (e : Nat) {r : Nat} (hr : 1 ≤ r) {H0 H : Heap} (t : Tab H0) {A : GA} {x7 : Sl} (x1 : Sl) (x0 x8 : Int) {ix : List Nat} (hix : ix.length ≤ 60) {i : Nat} (hi : i < 5)
    (h : St H0 H A ⟨ts r 12 (ix.map txr) [], PS.new, []⟩ x7 ix) (m : Nat) : ∃ y A' H', law21_GridTexts_p11111010010011 (e + 11) m x0 x1 (some ⟨A.D.p, 0, none⟩) x7 x8 (S (txb i)) H = law21_GridTexts_p11111010 (e + 11) m x0 x1 (some ⟨A.D.p, 0, none⟩) y (IntKind.wrap .i64 (x8 + 1)) H' ∧
      A'.D.p = A.D.p ∧ St H0 H' A' (GP.at r (ix ++ [i])) y (ix ++ [i]) := by
  rw [law21_GridTexts_p11111010010011_eq, lstS, slenS]
  simp only [newK_s]
  have k6 : Keep0 H (H.new (.cells ((txb i).map fun b => .int .u8 b.toNat) t_uint8 true 0 true)) := Keep.new _ _
  have v6 : BV (H.new (.cells ((txb i).map fun b => .int .u8 b.toNat) t_uint8 true 0 true)) ⟨some ⟨H.next, 0, none⟩, (txb i).length, (txb i).length⟩ H.next [] (txb i) [] :=
    ⟨rfl, by rw [bytes_len]; show (txb i).length = (txb i).length * 1; omega, Nat.le_refl _, by simp, true, true, by simp [bytes]⟩
  have h6 := h.new k6
  generalize H.new (.cells ((txb i).map fun b => .int .u8 b.toNat) t_uint8 true 0 true) = H6 at *
  have hw := write_text r hr (ix.map txr) (c := PS.new) rfl hi
  have hb := (tx_ok i hi).2.2
  obtain ⟨H8, A8, e8, p8, s8⟩ := h6.write e t v6.hv (by omega) hw.1
  rw [show X (e + 11) n_grid_Grid_Write [.pointer (some ⟨A.D.p, 0, none⟩), .slice (some ⟨H.next, 0, none⟩) (txb i).length (txb i).length] H6 = _ from e8]
  simp only [callK_s]
  obtain ⟨y, H9, e9, s9⟩ := s8.push (by omega) i
  rw [e9]
  simp only [asSL_k]
  refine ⟨y, A8, H9, rfl, p8, ?_⟩
  rw [hw.2] at s9
  unfold GP.at
  rw [after_snoc]
  exact s9
end Go.Proofs.YtjmiehbiindjdaaDoor.dec

namespace Go.Proofs.YtjmiehbiindjdaaDoor.frame
open Go Go.Cm Go.ChangeShapes Go.WideShapes Go.ChangeAt Go.RowKit

theorem ints_of {H : Type} {ws : List Win} {cs : List Value} {d : DataW H} (h : DR Tryd.prog ws 22 cs d) : ∃ (x : Sl) (l : List Int), cs = [x.v] ∧ dec.Ints (heapW ws) x l := by
  obtain ⟨x, es, rest, rfl, h1, _, h3, h4⟩ := h.slice_inv Tryd.underlying22
  have hc : Tryd.prog.cellsOf 3 = 1 := by kernel_rfl
  rw [hc] at h4
  have each : ∀ i, i < es.length → ∃ (n : Int) (b : Nat), x.a = some ⟨b, 0, none⟩ ∧ b < (heapW ws).next ∧ (heapW ws).ld1 ⟨b, i, none⟩ = some (.int .i64 n) := by
    intro i hi
    obtain ⟨b, y, q1, q2, q3, q4⟩ := h4 i _ (List.getElem?_eq_getElem hi)
    obtain ⟨n, g1, _⟩ := q4.int_inv Tryd.underlying3
    refine ⟨n, b, q1, (List.getElem?_eq_some_iff.1 q2).1, ?_⟩
    rw [ld1_s (heapW_get q2)]
    rw [Nat.mul_one] at g1
    have : ((y.cells.drop i).take 1)[0]? = some (.int .i64 n) := by rw [g1]; rfl
    simpa using this
  refine ⟨x, (List.range es.length).map fun i => if hi : i < es.length then (each i hi).choose else 0, rfl, ⟨by simp; omega, fun i n hi hn => ?_⟩⟩
  have hlt := (List.getElem?_eq_some_iff.1 hn).1
  simp only [List.length_map, List.length_range] at hlt
  rw [List.getElem?_map, List.getElem?_range hlt] at hn
  simp only [Option.map_some, Option.some.injEq, dif_pos hlt] at hn
  subst hn
  obtain ⟨b, q1, q2, q3⟩ := (each i hlt).choose_spec
  exact ⟨b, 0, q1, q2, by rw [Nat.zero_add]; exact q3⟩
end Go.Proofs.YtjmiehbiindjdaaDoor.frame

namespace Go.Proofs.YtjmiehbiindjdaaDoor.dec
open Go Go.Cm

attribute [local congr] optK_congr asI_congr asN_congr asB_congr asS_congr asP_congr asA_congr asSL_congr callK_congr castT_congr chk_congr

theorem after_past (r : Nat) (hr : 1 ≤ r) (ix : List Nat) : (after r ix).past = ((ix.map txr).take (ix.length - r)).map (padR 12) := by
  rcases List.eq_nil_or_concat ix with e | ⟨l, i, e⟩
  · subst e
    show (([[]] : List (List Int)).take (0 + 1 - r)).map (padR 12) = _
    rw [show 0 + 1 - r = 0 by omega]; simp
  · rw [List.concat_eq_append] at e
    subst e
    rw [after_snoc]
    show (((l.map txr) ++ [txr i]).take ((l.map txr).length + 1 - r)).map (padR 12) = _
    simp
theorem after_row (r : Nat) (hr : 1 ≤ r) (ix : List Nat) {j k : Nat} (hj : ix[j]? = some k) (hp : ix.length - r ≤ j) : (after r ix).L.getD (j - (ix.length - r)) [] = padR 12 (txr k) := by
  rcases List.eq_nil_or_concat ix with e | ⟨l, i, e⟩
  · subst e; simp at hj
  · rw [List.concat_eq_append] at e
    have hlt := (List.getElem?_eq_some_iff.1 hj).1
    have e2 : (l.map txr) ++ [txr i] = ix.map txr := by rw [e]; simp
    have e3 : after r ix = ts r 12 (l.map txr) (txr i) := by rw [e, after_snoc]
    rw [e3]
    show ((shown r ((l.map txr) ++ [txr i])).map (padR 12)).getD (j - (ix.length - r)) [] = _
    rw [e2, List.getD_eq_getElem?_getD, List.getElem?_map]
    unfold shown
    rw [List.length_map, List.getElem?_append_left (by rw [List.length_drop, List.length_map]; omega), List.getElem?_drop, List.getElem?_map, show ix.length - r + (j - (ix.length - r)) = j by omega, hj]
    rfl
theorem after_rows (r : Nat) (ix : List Nat) : (after r ix).c.rows = r := by
  rcases List.eq_nil_or_concat ix with e | ⟨l, i, e⟩
  · subst e; rfl
  · rw [List.concat_eq_append] at e
    subst e
    rw [after_snoc]; rfl

theorem want_ld {H : Heap} {x7 : Sl} {ix : List Nat} (h : Whole H x7 (strV ix) t_string 1) {j k : Nat} (hj : ix[j]? = some k) : ∃ b, x7.a = some ⟨b, 0, none⟩ ∧ x7.n = ix.length ∧ Heap.ld1 H (ap ⟨b, 0, none⟩ (((j : Nat) : Int).toNat * 1)) = some (.string (S (txb k))) := by
  have hn := (Whole.len h).1
  rw [strV_len] at hn
  have hlt := (List.getElem?_eq_some_iff.1 hj).1
  have hne : x7.a ≠ none := by
    rcases h with ⟨h1, _⟩ | ⟨b, q, h1, _⟩
    · rw [h1] at hn
      have hn' : ix.length = 0 * 1 := hn
      omega
    · rw [h1]; simp
  obtain ⟨b, v, _⟩ := Vw.of h hne
  refine ⟨b, v.sa, by omega, ?_⟩
  have := v.ld (i := j) (x := .string (S (txb k))) (by simp [strV, hj])
  simpa [ap] using this

theorem check_loop (e : Nat) {r : Nat} (hr : 1 ≤ r) {H0 : Heap} {A : GA} {x7 y : Sl} {p : Q} {ix : List Nat} (hix : ix.length ≤ 60) (h5 : ∀ k ∈ ix, k < 5) (hp : p.map Prod.snd = (after r ix).past) : ∀ (m j : Nat) {H : Heap}, ix.length - j < m → j ≤ ix.length → St H0 H A (GP.at r ix) x7 ix → Outer H y p → Rows H p →
    ∃ H', law21_GridTexts_p11111111010 (e + 11) m (some ⟨A.D.p, 0, none⟩) x7 y (j : Int) H = some (.bool true, H') := fun m => by
  induction m with
  | zero => intro j H hm; omega
  | succ m ih =>
    intro j H hm hj h oy ry
    have hn := (Whole.len h.wx).1
    rw [strV_len] at hn
    have hpl : p.length = ix.length - r := by
      have := congrArg List.length hp
      rw [after_past r hr, List.length_map, List.length_map, List.length_take, List.length_map] at this
      omega
    have hyn := oy.n
    rw [law21_GridTexts_p11111111010_s]
    by_cases hlt : j < ix.length
    · have hk : ix[j]? = some ix[j] := List.getElem?_eq_getElem hlt
      have hk5 := h5 _ (List.getElem_mem hlt)
      generalize ix[j] = k at hk hk5
      obtain ⟨t1, t2⟩ := tx_row k hk5
      obtain ⟨b7, a7, n7, l7⟩ := want_ld h.wx hk
      rw [if_pos (show decide ((j : Int) < (x7.n : Int)) = true from decide_eq_true (by omega))]
      by_cases hpj : j < p.length
      · rw [if_pos (show decide ((j : Int) < (y.n : Int)) = true from decide_eq_true (by omega))]
        have hne : y.a ≠ none := oy.some (fun e => by rw [e] at hpj; simp at hpj)
        obtain ⟨b, v, _⟩ := oy.ov hne
        have hx : p[j]? = some p[j] := List.getElem?_eq_getElem hpj
        have hmem := List.getElem_mem hpj
        generalize p[j] = x at hx hmem
        have hx2 : x.2 = padR 12 (txr k) := by
          have h1 : (p.map Prod.snd)[j]? = some x.2 := by rw [List.getElem?_map, hx]; rfl
          rw [hp, after_past r hr, List.getElem?_map, List.getElem?_take_of_lt (by omega), List.getElem?_map, hk] at h1
          simpa using h1.symm
        have hld : Heap.ld1 H ⟨b, j, none⟩ = some (rowV x) := by
          have := Vw.ld v (i := j) (x := rowV x) (by simp [hx])
          simpa using this
        rw [Vw.sa v]
        simp only [optK_s]
        rw [if_pos (show (0 : Int) ≤ (j : Int) ∧ (j : Int) < (y.n : Int) by omega), show ap ⟨b, ([] : List Value).length, none⟩ (((j : Int).toNat) * 1) = ⟨b, j, none⟩ by simp [ap], hld, show rowV x = (wsl x.1 x.2.length).v from rfl]
        simp only [optK_s, asSL_k]
        have hxl : x.2.length ≤ 1000 := by
          have h1 := (tx_ok k hk5).1
          rw [hx2]; unfold padR; simp; omega
        obtain ⟨H5, e5, k5⟩ := RText_s (e + 10) hxl (ry.1 x hmem)
        rw [e5]
        simp only [callK_s, asS_s]
        rw [a7]
        simp only [optK_s]
        have w5 := Whole.keep h.wx k5 fun _ _ e => e
        obtain ⟨b7', a7', _, l7'⟩ := want_ld w5 hk
        rw [a7] at a7'
        cases a7'
        rw [if_pos (show (0 : Int) ≤ (j : Int) ∧ (j : Int) < (x7.n : Int) by omega), l7']
        simp only [optK_s, asS_s]
        rw [show rdsOk [H, H5] [⟨.load 1 false, [.pointer (some (ap ⟨b7, 0, none⟩ (((j : Int).toNat) * 1)))], .string (S (txb k)), 0, 1⟩] = true from by
          simp only [rdsOk, Bool.and_true]
          rw [show 1 + 1 - 0 = 2 from rfl, rdOk_2, rdAt_s rfl (rd1' l7) (same_str _), rdAt_s rfl (rd1' l7') (same_str _)]; rfl]
        simp only [chk_s]
        rw [hx2, t2, sEqS, beq_self_eq_true, if_neg (show ¬ (!true) = true by simp), law21_GridTexts_p11111111010011_eq, wi (by omega)]
        exact ih (j + 1) (by omega) (by omega) (h.new k5) (Whole.keep oy k5 fun _ _ e => e) (ry.keep k5 fun _ _ e => e)
      · rw [if_neg (show ¬ decide ((j : Int) < (y.n : Int)) = true from dneg (by omega))]
        have hw : IntKind.wrap .i64 ((j : Int) - (y.n : Int)) = ((j - (ix.length - r) : Nat) : Int) := by rw [w64 (by omega)]; omega
        rw [hw]
        obtain ⟨H5, e5, k5⟩ := Line_s (e + 7) h.gr.rep h.gr.wf ((j - (ix.length - r) : Nat) : Int)
        rw [show X (e + 11) n_grid_Grid_Line [.pointer (some ⟨A.D.p, 0, none⟩), .int .i64 ((j - (ix.length - r) : Nat) : Int)] H = _ from e5]
        simp only [callK_s, asS_s]
        have hrow : (if 0 ≤ ((j - (ix.length - r) : Nat) : Int) ∧ ((j - (ix.length - r) : Nat) : Int) < ((GP.at r ix).g.c.rows : Int) then rowText ((GP.at r ix).g.L.getD (((j - (ix.length - r) : Nat) : Int)).toNat []) else []) = txb k := by
          show (if 0 ≤ ((j - (ix.length - r) : Nat) : Int) ∧ ((j - (ix.length - r) : Nat) : Int) < ((after r ix).c.rows : Int) then rowText ((after r ix).L.getD (((j - (ix.length - r) : Nat) : Int)).toNat []) else []) = txb k
          rw [after_rows, if_pos (by omega), Int.toNat_natCast, after_row r hr ix hk (by omega), t1]
        rw [hrow, a7]
        simp only [optK_s]
        have w5 := Whole.keep h.wx k5 fun _ _ e => e
        obtain ⟨b7', a7', _, l7'⟩ := want_ld w5 hk
        rw [a7] at a7'
        cases a7'
        rw [if_pos (show (0 : Int) ≤ (j : Int) ∧ (j : Int) < (x7.n : Int) by omega), l7']
        simp only [optK_s, asS_s]
        rw [show rdsOk [H, H5] [⟨.load 1 false, [.pointer (some (ap ⟨b7, 0, none⟩ (((j : Int).toNat) * 1)))], .string (S (txb k)), 0, 1⟩] = true from by
          simp only [rdsOk, Bool.and_true]
          rw [show 1 + 1 - 0 = 2 from rfl, rdOk_2, rdAt_s rfl (rd1' l7) (same_str _), rdAt_s rfl (rd1' l7') (same_str _)]; rfl]
        simp only [chk_s]
        rw [sEqS, beq_self_eq_true, if_neg (show ¬ (!true) = true by simp), law21_GridTexts_p11111111010011_eq, wi (by omega)]
        exact ih (j + 1) (by omega) (by omega) (h.new k5) (Whole.keep oy k5 fun _ _ e => e) (ry.keep k5 fun _ _ e => e)
    · rw [if_neg (show ¬ decide ((j : Int) < (x7.n : Int)) = true from dneg (by omega))]
      exact ⟨H, rfl⟩
end Go.Proofs.YtjmiehbiindjdaaDoor.dec

namespace Go.Proofs.YtjmiehbiindjdaaDoor.dec
open Go Go.Cm

attribute [local congr] optK_congr asI_congr asN_congr asB_congr asS_congr asP_congr asA_congr asSL_congr callK_congr castT_congr chk_congr

theorem texts_loop (e : Nat) {r : Nat} (hr : 1 ≤ r ∧ r ≤ 60) {H0 : Heap} (t : Tab H0) {x1 : Sl} {l : List Int} (hx : Ints H0 x1 l) : ∀ (m : Nat) {ix : List Nat} {H : Heap} {A : GA} {x7 : Sl}, 31 - ix.length < m → ix.length ≤ 30 → (∀ k ∈ ix, k < 5) → St H0 H A (GP.at r ix) x7 ix →
    ∃ H', law21_GridTexts_p11111010 (e + 11) m (r : Int) x1 (some ⟨A.D.p, 0, none⟩) x7 (ix.length : Int) H = some (.bool true, H') := fun m => by
  induction m with
  | zero => intro ix H A x7 hm; omega
  | succ m ih =>
    intro ix H A x7 hm h30 h5 h
    have G : ∀ z : Bool, z = decide (ix.length < x1.n ∧ ix.length < 30) → ∃ H', law21_GridTexts_p11111010001 (e + 11) m (r : Int) x1 (some ⟨A.D.p, 0, none⟩) x7 (ix.length : Int) z H = some (.bool true, H') := fun z hz => by
      rw [law21_GridTexts_p11111010001_eq]
      by_cases hc : ix.length < x1.n ∧ ix.length < 30
      · rw [if_pos (show z = true by rw [hz]; exact decide_eq_true hc)]
        have hxl := hx.1
        have hn : l[ix.length]? = some l[ix.length] := List.getElem?_eq_getElem (by omega)
        generalize l[ix.length] = n at hn
        obtain ⟨b, o, a1, _, l1⟩ := (hx.new h.k0).2 _ n hc.1 hn
        rw [a1]
        simp only [optK_s]
        rw [if_pos (show (0 : Int) ≤ (ix.length : Int) ∧ (ix.length : Int) < (x1.n : Int) by omega), show ap ⟨b, o, none⟩ (((ix.length : Int).toNat) * 1) = ⟨b, o + ix.length, none⟩ by simp [ap], l1]
        simp only [optK_s, asI_s]
        obtain ⟨k, e2, hk⟩ := Pick_s (e + 10) n 5 H (by omega) (by omega)
        rw [show X (e + 11) n_hand_Pick [.int .i64 n, .int .i64 5] H = _ from e2]
        simp only [callK_s, asI_s]
        rw [if_pos (show (0 : Int) ≤ (k : Int) ∧ (k : Int) < 5 by omega), pick_txt hk]
        simp only [optK_s, asS_s]
        have next : ∀ {y : Sl} {A' : GA} {H' : Heap}, A'.D.p = A.D.p → St H0 H' A' (GP.at r (ix ++ [k])) y (ix ++ [k]) → ∃ H'', law21_GridTexts_p11111010 (e + 11) m (r : Int) x1 (some ⟨A.D.p, 0, none⟩) y (IntKind.wrap .i64 ((ix.length : Int) + 1)) H' = some (.bool true, H'') := fun {y A' H'} hp hs => by
          have := ih (ix := ix ++ [k]) (H := H') (A := A') (x7 := y) (by simp; omega) (by simp; omega) (fun j hj => (List.mem_append.1 hj).elim (h5 j) (fun e => by rw [show j = k by simpa using e]; exact hk)) hs
          rw [hp, List.length_append] at this
          rw [wi (by omega)]
          exact this
        have put : ∀ {A1 : GA} {H1 : Heap}, A1.D.p = A.D.p → St H0 H1 A1 ⟨ts r 12 (ix.map txr) [], PS.new, []⟩ x7 ix → ∃ H', law21_GridTexts_p11111010010011 (e + 11) m (r : Int) x1 (some ⟨A.D.p, 0, none⟩) x7 (ix.length : Int) (S (txb k)) H1 = some (.bool true, H') := fun {A1 H1} hp1 h1 => by
          obtain ⟨y, A', H', q1, q2, q3⟩ := line_put e hr.1 t x1 (r : Int) (ix.length : Int) (by omega) hk h1 m
          rw [hp1] at q1
          rw [q1]
          exact next (q2.trans hp1) q3
        by_cases h0 : 0 < ix.length
        · rw [if_pos (show decide ((0 : Int) < (ix.length : Int)) = true from decide_eq_true (by omega))]
          simp only [newK_s]
          have k1 : Keep0 H (H.new (.cells [.int .u8 13, .int .u8 10] t_uint8 false 0 false)) := Keep.new _ _
          have g1 : (H.new (.cells [.int .u8 13, .int .u8 10] t_uint8 false 0 false)).get H.next = some (.cells [.int .u8 13, .int .u8 10] t_uint8 false 0 false) := by simp
          have n1 : (H.new (.cells [.int .u8 13, .int .u8 10] t_uint8 false 0 false)).next = H.next + 1 := by simp
          generalize H.new (.cells [.int .u8 13, .int .u8 10] t_uint8 false 0 false) = H1 at *
          have em : ∀ K, effK (.markStr) [.slice (some ⟨H.next, 0, none⟩) 2 2] H1 K = K (.slice (some ⟨H.next, 0, none⟩) 2 2) (H1.put H.next (.cells [.int .u8 13, .int .u8 10] t_uint8 false 0 true)) := fun K => by
            simp only [effK, g1]
            rfl
          rw [em]
          have k2 : Keep0 H (H1.put H.next (.cells [.int .u8 13, .int .u8 10] t_uint8 false 0 true)) := k1.fresh (Keep.put (S := fun k => k = H.next) _ _ _ rfl) fun k e => by have e' : k = H.next := e; omega
          have v2 : BV (H1.put H.next (.cells [.int .u8 13, .int .u8 10] t_uint8 false 0 true)) ⟨some ⟨H.next, 0, none⟩, 2, 2⟩ H.next [] [13, 10] [] :=
            ⟨rfl, rfl, Nat.le_refl _, by show H.next < H1.next; omega, false, true, by simp; rfl⟩
          have h2 := h.new k2
          generalize H1.put H.next (.cells [.int .u8 13, .int .u8 10] t_uint8 false 0 true) = H2 at *
          simp only [asSL_s]
          rcases List.eq_nil_or_concat ix with e0 | ⟨l', i', e0⟩
          · subst e0; simp at h0
          · rw [List.concat_eq_append] at e0
            have hat : GP.at r ix = ⟨ts r 12 (l'.map txr) (txr i'), PS.new, []⟩ := by
              unfold GP.at
              rw [e0, after_snoc]
            have hl' : l'.length ≤ 100 := by have := congrArg List.length e0; simp at this; omega
            have hw := write_crlf r hr.1 (l'.map txr) (txr i') (by simpa using hl') (c := PS.new) rfl
            rw [hat] at h2
            obtain ⟨H3, A3, e3, p3, s3⟩ := h2.write e t v2.hv (by decide) hw.1
            rw [show X (e + 11) n_grid_Grid_Write [.pointer (some ⟨A.D.p, 0, none⟩), (⟨some ⟨H.next, 0, none⟩, 2, 2⟩ : Sl).v] H2 = _ from e3]
            simp only [callK_s]
            rw [hw.2] at s3
            have hm : l'.map txr ++ [txr i'] = ix.map txr := by rw [e0]; simp
            rw [hm] at s3
            exact put p3 s3
        · rw [if_neg (show ¬ decide ((0 : Int) < (ix.length : Int)) = true from dneg (by omega))]
          have e0 : ix = [] := List.eq_nil_of_length_eq_zero (by omega)
          exact put rfl (by
            have hat : GP.at r ix = ⟨ts r 12 (ix.map txr) [], PS.new, []⟩ := by rw [e0]; rfl
            rw [← hat]; exact h)
      · rw [if_neg (show ¬ z = true by rw [hz]; exact dneg hc)]
        obtain ⟨y, p, H', e', o', r', p', _, _, _, k'⟩ := Past_s (e + 8) h.gr.rep h.gr.wf
        rw [show X (e + 11) n_grid_Grid_Past [.pointer (some ⟨A.D.p, 0, none⟩)] H = _ from e']
        simp only [callK_s, asSL_k]
        have hn := (Whole.len h.wx).1
        rw [strV_len] at hn
        have hpl : p.length = ix.length - r := by
          have := congrArg List.length p'
          rw [show (GP.at r ix).g.past = _ from after_past r hr.1 ix, List.length_map, List.length_map, List.length_take, List.length_map] at this
          omega
        have hyn := o'.n
        have hw : (if 0 < (IntKind.wrap .i64 ((x7.n : Int) - (r : Int))) then (IntKind.wrap .i64 ((x7.n : Int) - (r : Int))) else 0) = ((ix.length - r : Nat) : Int) := by
          rw [w64 (by omega)]; split <;> omega
        rw [hw, decide_eq_true (show (y.n : Int) = ((ix.length - r : Nat) : Int) by omega), if_neg (show ¬ (!true) = true by simp)]
        exact check_loop e hr.1 (by omega) h5 p' NN 0 (NN_big _ (by omega)) (by omega) (h.new k') o' r'
    rw [law21_GridTexts_p11111010_s]
    by_cases h1 : ix.length < x1.n
    · rw [if_pos (show decide ((ix.length : Int) < (x1.n : Int)) = true from decide_eq_true (by omega))]
      exact G _ (decide_eq_decide.2 (by omega))
    · rw [if_neg (show ¬ decide ((ix.length : Int) < (x1.n : Int)) = true from dneg (by omega))]
      exact G false (decide_eq_false (fun e => h1 e.1)).symm

theorem GridTexts_s (e : Nat) {H : Heap} (t : Tab H) (x0 : Int) {x1 : Sl} {l : List Int} (hx : Ints H x1 l) : ∃ H', X (e + 12) n_law21_GridTexts [.int .i64 x0, x1.v] H = some (.bool true, H') := by
  rw [law21_GridTexts_eq]
  obtain ⟨r0, e1, h1⟩ := Pick_s (e + 10) x0 9 H (by omega) (by omega)
  rw [show X (e + 11) n_hand_Pick [.int .i64 x0, .int .i64 9] H = _ from e1]
  simp only [callK_s, asI_s]
  have hr : IntKind.wrap .i64 (1 + (r0 : Int)) = ((r0 + 1 : Nat) : Int) := by rw [w64 (by omega)]; omega
  rw [hr]
  obtain ⟨H', A, e', h', k', f'⟩ := New_s (e + 4) t.lt (r := r0 + 1) (c := 12) (by omega) (by omega)
  rw [show X (e + 11) n_grid_New [.int .i64 ((r0 + 1 : Nat) : Int), .int .i64 12] H = _ from e', callK_s, castPI, castPI]
  simp only [List.getElem?_cons_zero, List.getElem?_cons_succ, optK_s, P0, asP_s, asI_s]
  rw [known_s]
  simp only [callK_s, asB_s]
  simp only [decide_true, Bool.not_true, Bool.false_eq_true, if_false, Option.isNone_some]
  rw [law21_GridTexts_p11101_eq, if_neg ff]
  have hq : GP.at (r0 + 1) [] = GP.new (r0 + 1) 12 := by
    unfold GP.at GP.new
    rw [show after (r0 + 1) [] = ts (r0 + 1) 12 [] [] from rfl, ts_zero (r0 + 1) 12 (by omega)]
  exact texts_loop e (r := r0 + 1) (by omega) t hx NN (ix := []) (NN_big _ (by simp)) (by simp) (by simp) ⟨k', by rw [hq]; exact h', f', .inl ⟨rfl, rfl⟩, fun k e => absurd e Sl.at_nil⟩
end Go.Proofs.YtjmiehbiindjdaaDoor.dec
