/-
  MuxBuffers: Copy.
  And: grid: GridTexts: lines, one below another. grid: GridTexts: a new line; the texts. MuxBuffers: the four texts; what a write of one does; what is copied of them. MuxBuffers: the law's loops.
-/
import Derived.Test.YtkkhljcjjhcnhaaGreatDoorLineB
import Derived.Test.YtkkhljcjjhcnhaaGreatDoorDec
import Derived.Lib.Join
namespace Go.Proofs.YtkkhljcjjhcnhaaGreatDoor.dec
open Go Go.Cm

attribute [local congr] optK_congr asI_congr asN_congr asB_congr asS_congr asP_congr asA_congr asSL_congr callK_congr castT_congr chk_congr

theorem strsAt_of {H : Heap} {b : Nat} : ∀ (l : List W) (o : Nat), (∀ (j : Nat) w, l[j]? = some w → H.ld1 ⟨b, o + j, none⟩ = some (.string (S w))) → strsAt H b o l.length = some (l.map S) := by
  intro l
  induction l with
  | nil => intro o _; rfl
  | cons w l ih =>
    intro o h
    have h0 := h 0 w rfl
    have hr := ih (o + 1) fun j x hx => by
      have := h (j + 1) x hx
      rwa [show o + (j + 1) = o + 1 + j by omega] at this
    simp only [List.length_cons, strsAt]
    rw [Nat.add_zero] at h0
    rw [h0, hr]
    rfl
theorem join_X (d : Nat) (x : Sl) (sep : ByteArray) (H : Heap) : X (d + 1) n_strings_Join [x.v, .string sep] H = joinP [x.v, .string sep] H := by kernel_rfl
theorem join_b (d : Nat) (x : Sl) (l : List W) (sep : W) (H : Heap) (h : BL H x l) (hl : (Lib.join l sep).length ≤ 140737488355328) (hn : l.length ≤ 1048576) :
    X (d + 1) n_strings_Join [x.v, .string (S sep)] H = some (.string (S (Lib.join l sep)), H) := by
  rw [join_X]
  have hnum := h.n
  have hS : (l.map S).map (·.data.toList) = l := by
    rw [List.map_map]
    exact List.map_id'' (fun w => by simp [S]) l
  cases l with
  | nil =>
    simp only [List.length_nil] at hnum
    simp only [joinP, hnum, if_true]
    rfl
  | cons w l =>
    obtain ⟨b, hb, h1⟩ := h.ld (i := 0) rfl
    have hst := strsAt_of (b := b) (w :: l) 0 fun j v hv => by
      obtain ⟨b', e1, e2⟩ := h.ld hv
      rw [hb] at e1
      cases e1
      rw [Nat.zero_add]; exact e2
    simp only [joinP, hb, hnum, if_true]
    rw [if_neg (by simp), hst]
    simp only [hS]
    have : (S sep).data.toList = sep := by simp [S]
    rw [this, if_pos ⟨hl, by simp only [List.length_cons] at hn ⊢; omega⟩]
    rfl

section
variable {M : MB} {A : GA} {q : GP} {bs : Sl} {bufs : List W} {qs : Sl} {qu : W}

/-- the buffers are others -/
theorem Bx.setB {H H1 H2 : Heap} {bs' : Sl} {bufs' : List W} (h : Bx H M A q bs bufs qs qu) (hk : Keep0 H H1) (hb : BL H1 bs' bufs') (h0 : ∀ k, bs'.at k → ¬ M.fx k ∧ ¬ qs.at k ∧ ¬ A.foot k)
    (e : H2 = H1.put M.m (.cells [.int .i64 30, .int .i64 20, .map (some M.sm), .map (some M.pm), .int .i64 1, bs'.v] t_mux_Mux false 0 false)) : Bx H2 M A q bs' bufs' qs qu ∧ Keep (fun k => k = M.m) H H2 := by
  subst e
  have kp : Keep (fun k => k = M.m) H1 (H1.put M.m (.cells [.int .i64 30, .int .i64 20, .map (some M.sm), .map (some M.pm), .int .i64 1, bs'.v] t_mux_Mux false 0 false)) := Keep.put _ _ _ rfl
  have kk := (hk.to (S := fun k => k = M.m)).trans kp fun _ _ e => e
  have hm := h.nm
  have f : ∀ {k : Nat} {o : CObj}, M.fx k → k ≠ M.m → H.get k = some o → (H1.put M.m (.cells [.int .i64 30, .int .i64 20, .map (some M.sm), .map (some M.pm), .int .i64 1, bs'.v] t_mux_Mux false 0 false)).get k = some o := fun hx hne hg => (kk.2 _ (h.lt _ hx) hne).trans hg
  obtain ⟨a2, c2, h2⟩ := h.sm
  obtain ⟨a3, c3, h3⟩ := h.pm
  obtain ⟨t, h6⟩ := h.w
  refine ⟨⟨by simp, ⟨a2, c2, f MB.f2 (by omega) h2⟩, ⟨a3, c3, f MB.f3 (by omega) h3⟩, f MB.f4 (by omega) h.s, f MB.f5 (by omega) h.wl, ⟨t, f MB.f6 (by omega) h6⟩, f MB.f7 (by omega) h.p, h.gr.keep kk fun k e e' => (h.na k e).1 (by have e'' : k = M.m := e'; rw [e'']; exact MB.f1), hb.keep kp fun k e e' => ?_, h.tq.keep kk fun k e e' => h.nq k e (by have e'' : k = M.m := e'; rw [e'']; exact MB.f1), h.ql, fun k e => by have := kk.1; have := h.lt k e; omega, fun k e => ⟨(h.na k e).1, fun e' => ?_, (h.na k e).2.2⟩, fun k e => ⟨fun e' => ?_, fun e' => ?_⟩, h.nq, h.nm, h.np⟩, kk⟩
  · have e'' : k = M.m := e'
    exact (h0 k e).1 (e'' ▸ MB.f1)
  · exact (h0 k e').2.2 e
  · exact (h0 k e).1 e'
  · exact (h0 k e).2.1 e'
/-- a block that is new is none of its own -/
theorem Bx.new {H : Heap} (h : Bx H M A q bs bufs qs qu) {k : Nat} (hk : H.next ≤ k) : ¬ M.fx k ∧ ¬ qs.at k ∧ ¬ A.foot k :=
  ⟨fun e => by have := h.lt k e; omega, fun e => by have := h.tq.lt e; omega, fun e => by have := h.gr.lt e; omega⟩

theorem copy_loop (d : Nat) {H0 : Heap} (h : Bx H0 M A q bs bufs qs qu) {z : Sl} {b o : Nat} {p : Q} {R : List (List Cl)} (hR : p.map Prod.snd = R) (hRl : ∀ l ∈ R, l.length ≤ 1000) (hza : z.a = some ⟨b, o, none⟩) (hzn : z.n = p.length) (hpl : p.length ≤ 100)
    (hB : bufs.length ≤ 100) (hJ : (Lib.join (R.map rowText) [10]).length ≤ 100000) :
    ∀ (m1 i : Nat) {H : Heap} {x : Sl}, p.length - i < m1 → i ≤ p.length → Keep0 H0 H → Rows H p → (∀ (j : Nat) y, p[j]? = some y → Heap.ld1 H ⟨b, o + j, none⟩ = some (rowV y)) → b < H.next → Whole H x (stL ((R.take i).map rowText)) t_string 1 → (∀ k, x.at k → H0.next ≤ k ∧ ¬ bl p k ∧ k ≠ b) →
    ∃ H' bs', mux_Mux_Copy_p1111111010 (d + 3) m1 M.m x z (p.length : Int) (i : Int) H = some (.int .i64 0, H') ∧ Bx H' M A q bs' ((Lib.join (R.map rowText) [10] :: bufs).take 6) qs qu ∧ Keep (fun k => k = M.m) H0 H' ∧ (∀ k, bs'.at k → H0.next ≤ k) := fun m1 => by
  have hRn : R.length = p.length := by rw [← hR, List.length_map]
  induction m1 with
  | zero => intro i H x hm; omega
  | succ m1 ih =>
    intro i H x hm hi k0 rows rd hbl wx nx
    rw [mux_Mux_Copy_p1111111010_s]
    by_cases c : i < p.length
    · rw [if_pos (decide_eq_true (by omega)), hza]
      simp only [optK_s]
      have hpi : p[i]? = some p[i] := List.getElem?_eq_getElem c
      rw [if_pos (show (0 : Int) ≤ (i : Int) ∧ (i : Int) < (z.n : Int) by omega), Int.toNat_natCast, Nat.mul_one, show ap ⟨b, o, none⟩ i = ⟨b, o + i, none⟩ from rfl, rd i _ hpi]
      simp only [optK_s, rowV, asSL_k]
      have hmem : p[i] ∈ p := List.getElem_mem c
      have hRi : R[i]? = some (p[i]).2 := by rw [← hR, List.getElem?_map, hpi]; rfl
      obtain ⟨H1, e1, k1⟩ := Text_s d (hRl _ (List.mem_of_getElem? hRi)) (rows.1 _ hmem)
      rw [e1]
      simp only [callK_s, asS_s, newK_s]
      have hxl := wx.len.1
      rw [st_len, List.length_map, List.length_take] at hxl
      obtain ⟨y, H2, e2, w2, k2, _, f2, _⟩ := push_whole (H := H1) (s := x) (cs := stL ((R.take i).map rowText)) (e := t_string) (sz := 1) (bytes := 16) (new := [.string (S (rowText (p[i]).2))]) (wx.keep k1 fun _ _ e => e) rfl (by omega) (by omega) (by omega)
      rw [e2]
      simp only [asSL_k]
      rw [wi (by omega)]
      have n1 := k1.1
      have n2 := k2.1
      have n0 := k0.1
      have kx : Keep (fun k => x.at k) H H2 := (k1.to (S := fun k => x.at k)).trans k2 fun _ _ e => e
      refine ih (i + 1) (by omega) (by omega) ((k0.trans k1).fresh k2 fun k e => (nx k e).1) (rows.keep kx fun k e e' => (nx k e').2.1 e) (fun j y hy => ?_) (by omega) ?_ fun k e => ?_
      · rw [← rd j y hy]
        unfold Heap.ld1
        rw [kx.2 b hbl fun e => (nx b e).2.2 rfl]
      · have hil : i < R.length := by omega
        rw [List.take_succ_eq_append_getElem hil, List.map_append, show stL ((R.take i).map rowText ++ [R[i]].map rowText) = stL ((R.take i).map rowText) ++ [.string (S (rowText R[i]))] by simp [stL]]
        have : R[i] = (p[i]).2 := by
          have := List.getElem?_eq_getElem hil
          rw [hRi] at this
          exact (Option.some.inj this).symm
        rw [this]
        exact w2
      · have := f2 k e
        refine ⟨by omega, fun e' => ?_, by omega⟩
        have := rows.lt e'
        omega
    · rw [if_neg (by rw [decide_eq_true_eq]; omega)]
      have ei : i = p.length := by omega
      subst ei
      rw [← hRn, List.take_length] at wx
      have hbx : BL H x (R.map rowText) := BL.of wx
      rw [join_b (d + 2) x (R.map rowText) [10] H hbx (by omega) (by rw [List.length_map]; omega)]
      simp only [callK_s, asS_s, newK_s]
      generalize hjw : Lib.join (R.map rowText) [10] = jw at *
      have k1 : Keep0 H (H.new (.cells [.string (S jw)] t_string false 0 false)) := Keep.new _ _
      have g1 : (H.new (.cells [.string (S jw)] t_string false 0 false)).get H.next = some (.cells [.string (S jw)] t_string false 0 false) := by simp
      have n1 : (H.new (.cells [.string (S jw)] t_string false 0 false)).next = H.next + 1 := by simp
      generalize H.new (.cells [.string (S jw)] t_string false 0 false) = H1 at *
      have h1 := h.keep0 (k0.trans k1)
      have l5 : ∀ {Hx : Heap} {v : Sl}, Hx.get M.m = some (.cells [.int .i64 30, .int .i64 20, .map (some M.sm), .map (some M.pm), .int .i64 1, v.v] t_mux_Mux false 0 false) → Heap.ld1 Hx ⟨M.m, 5, none⟩ = some v.v := fun g => (ld1_s g).trans rfl
      rw [l5 h1.m]
      simp only [optK_s, asSL_k]
      have w1 : Whole H1 ⟨some ⟨H.next, 0, none⟩, 1, 1⟩ [.string (S jw)] t_string 1 := .inr ⟨H.next, 1, rfl, rfl, by omega, false, false, g1⟩
      have hbn := h1.bf.n
      obtain ⟨y, H2, e2, w2, k2, f2, c2, _⟩ := append_whole (bytes := 16) (str := false) (x := bs.v) (n := bs.n) (new := stL bufs) w1 rfl h1.bf.src (by rw [st_len]; omega) (by show (1 + bs.n) * 16 ≤ _; omega) (by omega) (by omega)
      rw [show appendK t_string 1 16 false (.slice (some ⟨H.next, 0, none⟩) 1 1) = appendK t_string 1 16 false (Sl.v ⟨some ⟨H.next, 0, none⟩, 1, 1⟩) from rfl, e2]
      simp only [asSL_k]
      have at0 : ∀ j, Sl.at ⟨some ⟨H.next, 0, none⟩, 1, 1⟩ j → H.next ≤ j := fun j e => by obtain ⟨a, ha, rfl⟩ := e; cases ha; exact Nat.le_refl _
      have n0 := k0.1
      have k02 : Keep0 H0 H2 := (k0.trans k1).fresh k2 fun j e => by have := at0 j e; omega
      have h2 := h.keep0 k02
      have fy : ∀ k, y.at k → H.next ≤ k := fun k e => (f2 k e).elim (at0 k) fun e => by omega
      rw [(st1_s (v := y.v) h2.m (by show 5 < 6; omega) (by omega)).trans (show _ = some (H2.put M.m (.cells [.int .i64 30, .int .i64 20, .map (some M.sm), .map (some M.pm), .int .i64 1, y.v] t_mux_Mux false 0 false)) from rfl)]
      simp only [optK_s]
      have hjb : BL H2 y (jw :: bufs) := BL.of (by rw [show stL (jw :: bufs) = [.string (S jw)] ++ stL bufs from rfl]; exact w2)
      obtain ⟨h3, k3⟩ := h.setB k02 hjb (fun k e => h.new (by have := fy k e; omega)) rfl
      generalize hH3 : H2.put M.m (.cells [.int .i64 30, .int .i64 20, .map (some M.sm), .map (some M.pm), .int .i64 1, y.v] t_mux_Mux false 0 false) = H3 at *
      have hmH := h.keep0 k0
      rw [show rdsOk _ _ = true from by
        simp only [rdsOk, Bool.and_true]
        rw [show 1 + 2 - 0 = 3 from rfl, rdOk_3, rdAt_s rfl (rd1' (l5 hmH.m)) (same_sl _ _ _), rdAt_s rfl (rd1' (l5 hmH.m)) (same_sl _ _ _), rdAt_s rfl (rd1' (l5 h1.m)) (same_sl _ _ _)]; rfl]
      simp only [chk_s]
      rw [l5 h3.m]
      simp only [optK_s, asSL_k]
      have hyn := h3.bf.n
      rw [show (if (6 : Int) < (y.n : Int) then 6 else (y.n : Int)) = ((min 6 (jw :: bufs).length : Nat) : Int) by rw [hyn]; simp only [List.length_cons]; split <;> omega]
      obtain ⟨y2, ey, by2, fy2⟩ := h3.bf.front (k := min 6 (jw :: bufs).length) (by omega)
      rw [ey]
      simp only [optK_s, asSL_k]
      rw [(st1_s (v := y2.v) h3.m (by show 5 < 6; omega) (by omega)).trans (show _ = some (H3.put M.m (.cells [.int .i64 30, .int .i64 20, .map (some M.sm), .map (some M.pm), .int .i64 1, y2.v] t_mux_Mux false 0 false)) from rfl)]
      simp only [optK_s]
      have etk : (jw :: bufs).take (min 6 (jw :: bufs).length) = (jw :: bufs).take 6 := by
        rcases Nat.le_total 6 (jw :: bufs).length with e | e
        · rw [Nat.min_eq_left e]
        · rw [Nat.min_eq_right e, List.take_length, List.take_of_length_le e]
      rw [etk] at by2
      obtain ⟨h4, k4⟩ := h3.setB (Keep.refl _) by2 (fun k e => h.new (by have := fy k (fy2 k e); omega)) rfl
      exact ⟨_, y2, rfl, h4, k3.trans k4 fun _ _ e => e, fun k e => by have := fy2 k e; have := fy k this; omega⟩

theorem Copy_b (d : Nat) {H : Heap} (h : Bx H M A q bs bufs qs qu) (hp : q.g.past = []) (hL : q.g.L.length = 30) {a b : Nat} (hab : a ≤ b) (hb : b < 30) (hB : bufs.length ≤ 100) (hJ : (Lib.join (((q.g.L.drop a).take (b + 1 - a)).map rowText) [10]).length ≤ 100000) :
    ∃ H' bs', X (d + 4) n_mux_Mux_Copy [P0 M.m, .string (S [97]), .int .i64 (a : Int), .int .i64 (b : Int)] H = some (.int .i64 0, H') ∧ Bx H' M A q bs' ((Lib.join (((q.g.L.drop a).take (b + 1 - a)).map rowText) [10] :: bufs).take 6) qs qu ∧ Keep (fun k => k = M.m) H H' ∧ ∀ k, bs'.at k → H.next ≤ k := by
  rw [mux_Mux_Copy_eq, window_b (d + 2) h]
  simp only [callK_s, P0, asP_s]
  rw [if_neg (by simp), if_neg (by rw [decide_eq_true_eq]; omega), (ld1_s h.m).trans (show _ = some (Value.map (some M.pm)) from rfl)]
  simp only [optK_s, asM_s, nilP_s, ap_1]
  obtain ⟨t, hw⟩ := h.w
  rw [(ld1_s hw).trans (show _ = some (Value.int .i64 0) from rfl)]
  simp only [optK_s, asI_s]
  rw [look_0 h.pm, lookV_f]
  simp only [optK_s, P0, asP_s, nilP_s, ap_0]
  rw [(ld1_s h.p).trans (show _ = some (P0 A.D.p) from rfl)]
  simp only [optK_s, P0, asP_s]
  obtain ⟨y1, p1, H1, e1, o1, _, q1, f1, _, _, k1⟩ := Past_s d h.gr.rep h.gr.wf
  rw [show X (d + 3) n_grid_Grid_Past [.pointer (some ⟨A.D.p, 0, none⟩)] H = _ from e1]
  simp only [callK_s, asSL_k]
  have p1n : p1 = [] := by
    rw [hp] at q1
    simpa using q1
  subst p1n
  have h1 := h.keep0 k1
  obtain ⟨y2, p2, H2, e2, o2, r2, q2, f2, g2, _, k2⟩ := Screen_s d h1.gr.rep h1.gr.wf
  rw [show X (d + 3) n_grid_Grid_Screen [.pointer (some ⟨A.D.p, 0, none⟩)] H1 = _ from e2]
  simp only [callK_s, asA_s]
  rw [show partL (scrL q.g.c y2) 2 1 false = some y2.v from rfl]
  simp only [optK_s, asSL_k]
  have hpl : p2.length = 30 := by rw [← hL, ← q2, List.length_map]
  have hyn := o2.n
  have n1 := k1.1
  have n2 := k2.1
  have hy2 : srcCells H2 1 y2.n y2.v = some (p2.map rowV) := by
    have hne : y2.a ≠ none := fun e => by
      rcases o2 with ⟨h1, _⟩ | ⟨b, n, h1, _⟩
      · rw [h1] at hyn; simp at hyn; omega
      · rw [h1] at e; cases e
    obtain ⟨b', v, _⟩ := Vw.of o2 hne
    rw [v.src (Nat.le_refl _), List.take_of_length_le (by rw [List.length_map]; omega)]
  obtain ⟨z, H3, e3, w3, k3, f3, c3, _⟩ := append_whole (bytes := 24) (str := false) (x := y2.v) (n := y2.n) (new := p2.map rowV) (o1.keep k2 fun _ _ e => e) rfl hy2 (by rw [List.length_map]; omega) (by have := o1.n; simp only [List.length_nil] at this; omega) (by omega) (by omega)
  rw [e3]
  simp only [asSL_k]
  have o1n := o1.n
  simp only [List.length_nil] at o1n
  have hzn : z.n = 30 := by omega
  rw [show (p2.map rowV) = ([] : Q).map rowV ++ p2.map rowV from rfl] at *
  have w3' : Whole H3 z (p2.map rowV) t_S_api_Cell 1 := w3
  obtain ⟨bz, hz⟩ : ∃ bz, z = ⟨some ⟨bz, 0, none⟩, 30, 30⟩ := by
    rcases w3' with ⟨hx, _⟩ | ⟨bz, n, hx, _, _⟩
    · rw [hx] at hzn; cases hzn
    · rw [hx] at hzn
      have : n = 30 := hzn
      subst this
      exact ⟨bz, hx⟩
  subst hz
  have v3 := Whole.vw w3'
  have ei : ∀ (x : Nat), x < 30 → (if IntKind.wrap .i64 (((30 : Nat) : Int) - 1) < (if (x : Int) < 0 then 0 else (x : Int)) then IntKind.wrap .i64 (((30 : Nat) : Int) - 1) else (if (x : Int) < 0 then 0 else (x : Int))) = (x : Int) := fun x hx => by
    rw [if_neg (show ¬ (x : Int) < 0 by omega), w64 (by omega), if_neg (by omega)]
  rw [ei a (by omega), ei b hb, wi (by omega), v3.s_lh (l := a) (h := b + 1) (by omega) (by show b + 1 ≤ 30; omega)]
  simp only [optK_s, asSL_k]
  have ysub : ∀ k, y1.at k → H.next ≤ k := f1
  have k3' : Keep0 H2 H3 → Keep0 H H3 := fun k => (k1.trans k2).trans k
  have k03 : Keep0 H H3 := (k1.trans k2).fresh k3 fun k e => f1 k e
  have r3 : Rows H3 p2 := r2.keep k3 fun k e e' => by
    have := g2 k e
    rcases o1 with ⟨h1, _⟩ | ⟨b, n, h1, _, h2, _⟩
    · rw [h1] at e'; exact Sl.at_nil e'
    · rw [h1] at e'
      obtain ⟨ad, ha, hk⟩ := e'
      cases ha
      have h3 : b < H1.next := h2
      have h4 : b = k := hk
      omega
  let p := (p2.drop a).take (b + 1 - a)
  have hpp : p.length = b + 1 - a := by show ((p2.drop a).take (b + 1 - a)).length = _; rw [List.length_take, List.length_drop]; omega
  have hsubl : ∀ x ∈ p, x ∈ p2 := fun x hx => List.mem_of_mem_drop (List.mem_of_mem_take hx)
  have rp : Rows H3 p := ⟨fun x hx => r3.1 x (hsubl x hx), by
    have : (p.map Prod.fst).Sublist (p2.map Prod.fst) := List.Sublist.map _ ((List.take_sublist _ _).trans (List.drop_sublist _ _))
    exact r3.2.sublist this⟩
  have hR : p.map Prod.snd = (q.g.L.drop a).take (b + 1 - a) := by
    show ((p2.drop a).take (b + 1 - a)).map Prod.snd = _
    rw [List.map_take, List.map_drop, q2]
  have hzf : ∀ k, Sl.at ⟨some ⟨bz, 0, none⟩, 30, 30⟩ k → y1.at k ∨ H2.next ≤ k := f3
  have hbz : ¬ bl p bz ∧ bz < H3.next := by
    refine ⟨fun e => ?_, v3.lt⟩
    obtain ⟨x, hx, hxe⟩ := e
    have hbl : bl p2 bz := ⟨x, hsubl x hx, hxe⟩
    have h1 := g2 _ hbl
    have h2 := r2.lt hbl
    rcases hzf bz ⟨_, rfl, rfl⟩ with e | e
    · rcases o1 with ⟨h3, _⟩ | ⟨b', n, h3, _, h4, _⟩
      · rw [h3] at e; exact Sl.at_nil e
      · rw [h3] at e
        obtain ⟨ad, ha, hb'⟩ := e
        cases ha
        simp only at hb'
        have : b' < H1.next := h4
        omega
    · omega
  have hloop := copy_loop d h (p := p) hR (fun l hl => ?_) (z := subS ⟨some ⟨bz, 0, none⟩, 30, 30⟩ a (b + 1) 1) (b := bz) (o := 0 + a * 1) rfl (by show b + 1 - a = _; omega) (by omega) hB hJ NN 0 (NN_big _ (by omega)) (by omega) k03 rp (fun j y hy => ?_) hbz.2 (.inl ⟨rfl, rfl⟩) (fun k e => absurd e Sl.at_nil)
  · rw [show ((subS ⟨some ⟨bz, 0, none⟩, 30, 30⟩ a (b + 1) 1).n : Int) = (p.length : Int) by show ((b + 1 - a : Nat) : Int) = _; rw [hpp]]
    exact hloop
  · have h1 := h.gr.wf.Lw l (List.mem_of_mem_drop (List.mem_of_mem_take hl))
    have h2 := h.gr.wf.c2
    omega
  · have hy' : p2[a + j]? = some y := by
      have hjl := (List.getElem?_eq_some_iff.1 hy).1
      have : ((p2.drop a).take (b + 1 - a))[j]? = some y := hy
      rw [List.getElem?_take_of_lt (by omega), List.getElem?_drop] at this
      exact this
    have := v3.ld (i := a + j) (x := rowV y) (by rw [List.getElem?_map, hy']; rfl)
    rw [show 0 + a * 1 + j = ([] : List Value).length + (a + j) by simp]
    exact this
end
end Go.Proofs.YtkkhljcjjhcnhaaGreatDoor.dec

namespace Go.Proofs.YtkkhljcjjhcnhaaGreatDoor.dec
open Go Go.Cm

def cellR (n : Int) : Cl := ⟨n, 0, 0, 0⟩
def padR (c : Nat) (s : List Int) : List Cl := s.map cellR ++ List.replicate (c - s.length) blank
/-- a screen that shows the last r of the lines -/
def shown (r : Nat) (all : List (List Int)) : List (List Int) := all.drop (all.length - r) ++ List.replicate (r - all.length) []
def ts (r c : Nat) (ls : List (List Int)) (cur : List Int) : G :=
  { G.fresh r c [] with L := (shown r (ls ++ [cur])).map (padR c), past := ((ls ++ [cur]).take (ls.length + 1 - r)).map (padR c), c := { Sc.init r c with row := min (ls.length + 1) r - 1, col := cur.length } }

theorem shown_len (r : Nat) (all : List (List Int)) : (shown r all).length = r := by
  unfold shown
  rw [List.length_append, List.length_drop, List.length_replicate]; omega
theorem padR_nil (c : Nat) : padR c [] = List.replicate c blank := by simp [padR]
theorem ts_zero (r c : Nat) (hr : 1 ≤ r) : ts r c [] [] = G.fresh r c [] := by
  have h1 : shown r [[]] = List.replicate r [] := by
    unfold shown
    rw [show ([[]] : List (List Int)).length = 1 from rfl, show 1 - r = 0 by omega, List.drop_zero]
    obtain ⟨r, rfl⟩ : ∃ k, r = k + 1 := ⟨r - 1, by omega⟩
    rfl
  unfold ts
  rw [List.nil_append, h1, List.map_replicate, padR_nil, show ([] : List (List Int)).length + 1 - r = 0 by simp; omega, List.take_zero]
  simp only [G.fresh, Sc.init, List.length_nil, List.map_nil]
  rw [show min (0 + 1) r - 1 = 0 by omega]

/-- the line under way is the row of the cursor -/
theorem shown_cur (r : Nat) (hr : 1 ≤ r) (ls : List (List Int)) (cur : List Int) : (shown r (ls ++ [cur])) = (shown r (ls ++ [cur])).set (min (ls.length + 1) r - 1) cur := by
  have hl : (ls ++ [cur]).length = ls.length + 1 := by simp
  apply List.ext_getElem?
  intro j
  rw [List.getElem?_set]
  by_cases h : min (ls.length + 1) r - 1 = j
  · subst h
    rw [if_pos rfl, shown_len, if_pos (by omega)]
    unfold shown
    rw [List.getElem?_append_left (by rw [List.length_drop, hl]; omega), List.getElem?_drop, hl, List.getElem?_append_right (by omega), show ls.length + 1 - r + (min (ls.length + 1) r - 1) - ls.length = 0 by omega]
    rfl
  · rw [if_neg h]
theorem shown_set (r : Nat) (ls : List (List Int)) (cur cur' : List Int) (hr : 1 ≤ r) : (shown r (ls ++ [cur])).set (min (ls.length + 1) r - 1) cur' = shown r (ls ++ [cur']) := by
  have hl : ∀ x : List Int, (ls ++ [x]).length = ls.length + 1 := fun x => by simp
  unfold shown
  rw [hl, hl, List.set_append_left _ _ (by rw [List.length_drop, hl]; omega)]
  congr 1
  apply List.ext_getElem?
  intro j
  rw [List.getElem?_set, List.getElem?_drop, List.getElem?_drop]
  by_cases h : min (ls.length + 1) r - 1 = j
  · subst h
    rw [if_pos rfl, List.length_drop, hl, if_pos (by omega), List.getElem?_append_right (by omega), show ls.length + 1 - r + (min (ls.length + 1) r - 1) - ls.length = 0 by omega]
    rfl
  · rw [if_neg h]
    by_cases h2 : ls.length + 1 - r + j < ls.length
    · rw [List.getElem?_append_left h2, List.getElem?_append_left h2]
    · rw [List.getElem?_eq_none (by rw [hl]; omega), List.getElem?_eq_none (by rw [hl]; omega)]

theorem padR_set (c : Nat) (s : List Int) (n : Int) (h : s.length < c) : (padR c s).set s.length (cellR n) = padR c (s ++ [n]) := by
  unfold padR
  rw [List.set_append_right _ _ (by simp), List.length_map, Nat.sub_self, List.map_append, List.append_assoc]
  congr 1
  obtain ⟨k, hk⟩ : ∃ k, c - s.length = k + 1 := ⟨c - s.length - 1, by omega⟩
  rw [hk, List.replicate_succ, List.set_cons_zero, show c - (s ++ [n]).length = k by simp; omega]
  rfl

theorem ts_print (r c : Nat) (hr : 1 ≤ r) (ls : List (List Int)) (cur : List Int) (n : Int) (h : cur.length + 1 < c) : (ts r c ls cur).print n = ts r c ls (cur ++ [n]) := by
  unfold G.print
  rw [if_neg (show ¬ ((ts r c ls cur).c.due = true ∧ (ts r c ls cur).c.wrap = true) from fun e => by have : false = true := e.1; cases this)]
  unfold G.print0
  have hrow : (ts r c ls cur).L.modify (min (ls.length + 1) r - 1) (fun l => l.set cur.length (cellR n)) = (ts r c ls (cur ++ [n])).L := by
    show ((shown r (ls ++ [cur])).map (padR c)).modify _ _ = (shown r (ls ++ [cur ++ [n]])).map (padR c)
    have hat : ((shown r (ls ++ [cur])).map (padR c))[min (ls.length + 1) r - 1]? = some (padR c cur) := by
      rw [List.getElem?_map, shown_cur r hr, List.getElem?_set, if_pos rfl, shown_len, if_pos (by omega)]
      rfl
    rw [modify_at hat, padR_set c cur n (by omega), ← List.map_set, shown_set r ls cur (cur ++ [n]) hr]
  have hp : (ls ++ [cur]).take (ls.length + 1 - r) = (ls ++ [cur ++ [n]]).take (ls.length + 1 - r) := by
    rw [List.take_append_of_le_length (by omega), List.take_append_of_le_length (by omega)]
  have e1 : (ts r c ls cur).c.insert = false := rfl
  have e2 : ({ (ts r c ls cur).c.st with r := n } : Cl) = cellR n := rfl
  have e3 : (ts r c ls cur).c.col = cur.length := rfl
  have e4 : (ts r c ls cur).c.cols = c := rfl
  have e5 : (ts r c ls cur).c.row = min (ls.length + 1) r - 1 := rfl
  rw [e1, e2, e3, e4, e5]
  simp only [Bool.false_eq_true, if_false]
  rw [if_neg (show ¬ cur.length + 1 = c by omega), hrow]
  unfold ts
  rw [hp]
  simp
end Go.Proofs.YtkkhljcjjhcnhaaGreatDoor.dec

namespace Go.Proofs.YtkkhljcjjhcnhaaGreatDoor.dec
open Go Go.Cm

theorem ts_nl (r c : Nat) (hr : 1 ≤ r) (hc : 1 ≤ c) (ls : List (List Int)) (cur : List Int) (hn : ls.length ≤ 100) : ((ts r c ls cur).control 13).control 10 = ts r c (ls ++ [cur]) [] := by
  have hl : (ls ++ [cur]).length = ls.length + 1 := by simp
  have hl2 : ((ls ++ [cur]) ++ [[]]).length = ls.length + 2 := by simp
  have e13 : (ts r c ls cur).control 13 = { ts r c ls cur with c := { (ts r c ls cur).c with col := 0 } } := by
    unfold G.control
    rw [if_neg (by decide), if_neg (by decide), if_neg (by decide), if_pos rfl]
    unfold G.move
    have e1 : (min (max (((ts r c ls cur).c.row : Nat) : Int) 0) (((ts r c ls cur).c.rows : Int) - 1)).toNat = (ts r c ls cur).c.row := by
      show (min (max ((min (ls.length + 1) r - 1 : Nat) : Int) 0) ((r : Int) - 1)).toNat = min (ls.length + 1) r - 1
      omega
    have e2 : (min (max (0 : Int) 0) (((ts r c ls cur).c.cols : Int) - 1)).toNat = 0 := by
      show (min (max (0 : Int) 0) ((c : Int) - 1)).toNat = 0
      omega
    rw [e1, e2]
    rfl
  rw [e13]
  unfold G.control
  rw [if_neg (by decide), if_neg (by decide), if_pos (by decide)]
  unfold G.index
  have er : ({ ts r c ls cur with c := { (ts r c ls cur).c with col := 0 } } : G).c.row = min (ls.length + 1) r - 1 := rfl
  have eb : ({ ts r c ls cur with c := { (ts r c ls cur).c with col := 0 } } : G).c.bottom = r - 1 := rfl
  have ers : ({ ts r c ls cur with c := { (ts r c ls cur).c with col := 0 } } : G).c.rows = r := rfl
  rw [er, eb, ers]
  by_cases h : ls.length + 1 < r
  · rw [if_neg (by omega), if_pos (by omega)]
    have hs : shown r (ls ++ [cur]) = shown r ((ls ++ [cur]) ++ [[]]) := by
      unfold shown
      rw [hl, hl2, show ls.length + 1 - r = 0 by omega, show ls.length + 2 - r = 0 by omega, List.drop_zero, List.drop_zero, show r - (ls.length + 1) = (r - (ls.length + 2)) + 1 by omega, List.replicate_succ]
      simp
    unfold ts
    rw [hs, hl, show ls.length + 1 - r = 0 by omega, show ls.length + 1 + 1 - r = 0 by omega, List.take_zero, List.take_zero, show min (ls.length + 1) r - 1 + 1 = min (ls.length + 1 + 1) r - 1 by omega]
    rfl
  · rw [if_pos (by omega)]
    have hsr : shown r (ls ++ [cur]) = (ls ++ [cur]).drop (ls.length + 1 - r) := by
      unfold shown
      rw [hl, show r - (ls.length + 1) = 0 by omega, List.replicate_zero, List.append_nil]
    have hsr2 : shown r ((ls ++ [cur]) ++ [[]]) = (ls ++ [cur]).drop (ls.length + 2 - r) ++ [[]] := by
      unfold shown
      rw [hl2, show r - (ls.length + 2) = 0 by omega, List.replicate_zero, List.append_nil, List.drop_append_of_le_length (by omega)]
    obtain ⟨x, hx⟩ : ∃ x, (ls ++ [cur])[ls.length + 1 - r]? = some x := ⟨_, List.getElem?_eq_getElem (by rw [hl]; omega)⟩
    have hd : (ls ++ [cur]).drop (ls.length + 1 - r) = x :: (ls ++ [cur]).drop (ls.length + 2 - r) := by
      obtain ⟨h1, h2⟩ := List.getElem?_eq_some_iff.1 hx
      rw [List.drop_eq_getElem_cons h1, h2, show ls.length + 1 - r + 1 = ls.length + 2 - r by omega]
    have ht : ((ls ++ [cur]) ++ [[]]).take (ls.length + 1 + 1 - r) = (ls ++ [cur]).take (ls.length + 1 - r) ++ [x] := by
      obtain ⟨h1, h2⟩ := List.getElem?_eq_some_iff.1 hx
      rw [List.take_append_of_le_length (by omega), show ls.length + 1 + 1 - r = (ls.length + 1 - r) + 1 by omega, List.take_succ_eq_append_getElem h1, h2]
    have hdl : ((ls ++ [cur]).drop (ls.length + 2 - r)).length = r - 1 := by rw [List.length_drop, hl]; omega
    let g1 : G := ({ ts r c ls cur with c := { (ts r c ls cur).c with col := 0 } } : G).due false
    show g1.up 1 = _
    have gL : g1.L = padR c x :: ((ls ++ [cur]).drop (ls.length + 2 - r)).map (padR c) := by
      show (shown r (ls ++ [cur])).map (padR c) = _
      rw [hsr, hd]; rfl
    have gp : g1.past = ((ls ++ [cur]).take (ls.length + 1 - r)).map (padR c) := rfl
    have gc : g1.c = { Sc.init r c with row := min (ls.length + 1) r - 1, col := 0 } := rfl
    have gt : g1.tabs = tabs0 c := rfl
    have go : g1.other = none := rfl
    clear_value g1
    obtain ⟨c1, L1, t1, o1, p1⟩ := g1
    simp only at gL gp gc gt go
    subst gL gp gc gt go
    unfold G.up
    simp only [Sc.init]
    rw [if_pos ⟨trivial, trivial⟩, show min 1 (r - 1 - 0 + 1) = 1 by omega]
    simp only [List.take_succ_cons, List.take_zero, G.keeps, List.foldl_cons, List.foldl_nil, G.keep, G.take]
    rw [show min 1 (r - 1 + 1 - 0) = 1 by omega, show r - 1 + 1 - 0 = r by omega, show r - 1 + 1 = r by omega]
    have hlen : (((ls ++ [cur]).take (ls.length + 1 - r)).map (padR c) ++ [padR c x]).length - 200 = 0 := by
      rw [List.length_append, List.length_map, List.length_take, hl]
      simp only [List.length_cons, List.length_nil]
      omega
    rw [hlen, List.drop_zero, List.drop_zero, List.nil_append]
    have hall : (padR c x :: ((ls ++ [cur]).drop (ls.length + 2 - r)).map (padR c)).length = r := by rw [List.length_cons, List.length_map, hdl]; omega
    rw [List.take_of_length_le (Nat.le_of_eq hall), List.drop_eq_nil_of_le (Nat.le_of_eq hall), List.drop_succ_cons, List.drop_zero, List.append_nil]
    unfold ts
    rw [hsr2, hl, ht]
    simp only [G.fresh, Sc.init, List.map_append, List.map_cons, List.map_nil, padR_nil, List.length_nil]
    rw [show min (ls.length + 1 + 1) r - 1 = min (ls.length + 1) r - 1 by omega]
    rfl
end Go.Proofs.YtkkhljcjjhcnhaaGreatDoor.dec

namespace Go.Proofs.YtkkhljcjjhcnhaaGreatDoor.dec
open Go Go.Cm

def mxb : Nat → W
  | 0 => [97, 98, 99]
  | 1 => [120, 32, 121]
  | 2 => []
  | _ => [104, 101, 108, 108, 111]
def mxr : Nat → List Int
  | 0 => [97, 98, 99]
  | 1 => [120, 32, 121]
  | 2 => []
  | _ => [104, 101, 108, 108, 111]
theorem mx_feed : ∀ i, i < 4 → feedL (mxb i) = mxr i ∧ heldW (mxb i) = []
  | 0, _ => ⟨by kernel_rfl, by kernel_rfl⟩
  | 1, _ => ⟨by kernel_rfl, by kernel_rfl⟩
  | 2, _ => ⟨by kernel_rfl, by kernel_rfl⟩
  | 3, _ => ⟨by kernel_rfl, by kernel_rfl⟩
theorem mx_row : ∀ i, i < 4 → rowText (padR 20 (mxr i)) = mxb i
  | 0, _ => by kernel_rfl
  | 1, _ => by kernel_rfl
  | 2, _ => by kernel_rfl
  | 3, _ => by kernel_rfl
theorem mx_ok : ∀ i, i < 4 → (mxr i).length < 12 ∧ (∀ r ∈ mxr i, 32 ≤ r ∧ r ≠ 127) ∧ (mxb i).length ≤ 5
  | 0, _ => by decide
  | 1, _ => by decide
  | 2, _ => by decide
  | 3, _ => by decide
theorem mcrlf_feed : feedL [13, 10] = [13, 10] ∧ heldW [13, 10] = [] := ⟨by kernel_rfl, by kernel_rfl⟩

def mprints (l : List Int) : List Act := l.map fun r => ⟨1, r, false, []⟩
theorem pFeed_mprint {c : PS} (hc : c.state = 0) : ∀ l : List Int, (∀ r ∈ l, 32 ≤ r ∧ r ≠ 127) → pFeed c l = (c, mprints l)
  | [], _ => rfl
  | b :: l, h => by
    have hb := h b List.mem_cons_self
    unfold pFeed
    rw [pRune_print hc hb]
    simp only
    rw [pFeed_mprint hc l fun b hb => h b (List.mem_cons_of_mem _ hb)]
    rfl
theorem pRune_mctrl {c : PS} (hc : c.state = 0) {r : Int} (h : 7 ≤ r ∧ r ≤ 13) : pRune c r = (c, some ⟨2, r, false, []⟩) := by
  unfold pRune
  rw [if_neg (show ¬ (r = 27 ∧ c.state ≠ 4) by omega), if_neg (show ¬ r = 27 by omega), if_neg (show ¬ c.state = 1 by omega), if_neg (show ¬ c.state = 2 by omega), if_neg (show ¬ c.state = 3 by omega), if_neg (show ¬ c.state = 4 by omega), if_neg (show ¬ c.state = 5 by omega)]
  have h1 : ctrl r = true := by
    unfold ctrl
    rw [decide_eq_true h.1, decide_eq_true h.2]; rfl
  unfold pPlain
  rw [h1, if_pos rfl]
theorem ts_mputs (r : Nat) (hr : 1 ≤ r) (ls : List (List Int)) : ∀ (s cur : List Int), cur.length + s.length < 20 → (mprints s).foldl G.doA (ts r 20 ls cur) = ts r 20 ls (cur ++ s)
  | [], cur, _ => by rw [List.append_nil]; rfl
  | b :: s, cur, h => by
    simp only [List.length_cons] at h
    show (mprints s).foldl G.doA (G.doA (ts r 20 ls cur) ⟨1, b, false, []⟩) = _
    rw [show G.doA (ts r 20 ls cur) ⟨1, b, false, []⟩ = (ts r 20 ls cur).print b from rfl, ts_print r 20 hr ls cur b (by omega), ts_mputs r hr ls s (cur ++ [b]) (by simp; omega)]
    simp
theorem mwrite_text (r : Nat) (hr : 1 ≤ r) (ls : List (List Int)) {c : PS} (hc : c.state = 0) {i : Nat} (hi : i < 4) : (⟨ts r 20 ls [], c, []⟩ : GP).write G.doA (mxb i) = ⟨ts r 20 ls (mxr i), c, []⟩ := by
  obtain ⟨h1, h2⟩ := mx_feed i hi
  obtain ⟨h3, h4, _⟩ := mx_ok i hi
  have e1 : (⟨ts r 20 ls [], c, []⟩ : GP).acts (mxb i) = mprints (mxr i) := by
    unfold GP.acts
    simp only [List.nil_append]
    rw [h1, pFeed_mprint hc _ h4]
  unfold GP.write
  rw [e1]
  simp only [List.nil_append]
  rw [h1, h2, pFeed_mprint hc _ h4, ts_mputs r hr ls (mxr i) [] (by simp; omega)]
  rfl
theorem mwrite_crlf (r : Nat) (hr : 1 ≤ r) (ls : List (List Int)) (cur : List Int) (hn : ls.length ≤ 100) {c : PS} (hc : c.state = 0) : (⟨ts r 20 ls cur, c, []⟩ : GP).write G.doA [13, 10] = ⟨ts r 20 (ls ++ [cur]) [], c, []⟩ := by
  have hf : pFeed c [13, 10] = (c, [⟨2, 13, false, []⟩, ⟨2, 10, false, []⟩]) := by
    unfold pFeed
    rw [pRune_mctrl hc (by omega)]
    simp only
    unfold pFeed
    rw [pRune_mctrl hc (by omega)]
    rfl
  have e1 : (⟨ts r 20 ls cur, c, []⟩ : GP).acts [13, 10] = [⟨2, 13, false, []⟩, ⟨2, 10, false, []⟩] := by
    unfold GP.acts
    simp only [List.nil_append]
    rw [mcrlf_feed.1, hf]
  unfold GP.write
  rw [e1]
  simp only [List.nil_append]
  rw [mcrlf_feed.1, mcrlf_feed.2, hf]
  show (⟨((ts r 20 ls cur).control 13).control 10, c, []⟩ : GP) = _
  rw [ts_nl r 20 hr (by omega) ls cur hn]

/-- behind these texts -/
def atx (ix : List Nat) : GP := ⟨ts 30 20 (ix.dropLast.map mxr) ((ix.getLast?.map mxr).getD []), PS.new, []⟩
theorem atx_nil : atx [] = GP.new 30 20 := by
  unfold atx GP.new
  rw [show ts 30 20 (([] : List Nat).dropLast.map mxr) ((([] : List Nat).getLast?.map mxr).getD []) = ts 30 20 [] [] from rfl, ts_zero 30 20 (by omega)]
theorem atx_first {k : Nat} (hk : k < 4) : (atx []).write G.doA (mxb k) = atx [k] := mwrite_text 30 (by omega) [] rfl hk
theorem atx_next {ix : List Nat} (h0 : ix ≠ []) (hl : ix.length ≤ 90) {k : Nat} (hk : k < 4) : ((atx ix).write G.doA [13, 10]).write G.doA (mxb k) = atx (ix ++ [k]) := by
  obtain ⟨l, i, rfl⟩ : ∃ l i, ix = l ++ [i] := ⟨ix.dropLast, ix.getLast h0, (List.dropLast_concat_getLast h0).symm⟩
  simp only [List.length_append, List.length_cons, List.length_nil] at hl
  have e : atx (l ++ [i]) = ⟨ts 30 20 (l.map mxr) (mxr i), PS.new, []⟩ := by unfold atx; simp
  rw [e, mwrite_crlf 30 (by omega) _ _ (by rw [List.length_map]; omega) rfl, mwrite_text 30 (by omega) _ rfl hk]
  unfold atx
  simp
theorem atx_all {ix : List Nat} (h0 : ix ≠ []) : ix.dropLast.map mxr ++ [((ix.getLast?.map mxr).getD [])] = ix.map mxr := by
  obtain ⟨l, i, rfl⟩ : ∃ l i, ix = l ++ [i] := ⟨ix.dropLast, ix.getLast h0, (List.dropLast_concat_getLast h0).symm⟩
  simp
theorem atx_past {ix : List Nat} (hl : ix.length ≤ 20) : (atx ix).g.past = [] := by
  have h : (ix.dropLast.map mxr).length + 1 - 30 = 0 := by rw [List.length_map, List.length_dropLast]; omega
  show ((ix.dropLast.map mxr ++ [_]).take ((ix.dropLast.map mxr).length + 1 - 30)).map (padR 20) = []
  rw [h, List.take_zero]; rfl
theorem atx_L (ix : List Nat) : (atx ix).g.L.length = 30 := by
  show ((shown 30 _).map (padR 20)).length = 30
  rw [List.length_map, shown_len]
theorem atx_rows {ix : List Nat} (h0 : ix ≠ []) (hl : ix.length ≤ 20) (h4 : ∀ k ∈ ix, k < 4) {a b : Nat} (hb : b < ix.length) : (((atx ix).g.L.drop a).take (b + 1 - a)).map rowText = ((ix.map mxb).drop a).take (b + 1 - a) := by
  have hL : (atx ix).g.L = (ix.map mxr ++ List.replicate (30 - ix.length) []).map (padR 20) := by
    show (shown 30 (ix.dropLast.map mxr ++ [((ix.getLast?.map mxr).getD [])])).map (padR 20) = _
    rw [atx_all h0]
    unfold shown
    rw [List.length_map, show ix.length - 30 = 0 by omega, List.drop_zero]
  rw [hL]
  by_cases hab : b + 1 ≤ a
  · rw [show b + 1 - a = 0 by omega, List.take_zero, List.take_zero]; rfl
  · rw [List.map_append, List.drop_append_of_le_length (by rw [List.length_map, List.length_map]; omega), List.take_append_of_le_length (by rw [List.length_drop, List.length_map, List.length_map]; omega), List.map_take, List.map_drop, List.map_map, List.map_map]
    congr 2
    refine List.map_congr_left fun k hk => ?_
    exact mx_row k (h4 k hk)

theorem join_le {l : List W} (h : ∀ w ∈ l, w.length ≤ 5) : (Lib.join l [10]).length ≤ 6 * l.length := by
  cases l with
  | nil => simp [Lib.join_nil]
  | cons x r =>
    rw [Lib.join_cons, List.length_append]
    have hx := h x List.mem_cons_self
    have : (Lib.joinTail [10] r).length ≤ 6 * r.length := by
      have hr : ∀ w ∈ r, w.length ≤ 5 := fun w hw => h w (List.mem_cons_of_mem _ hw)
      clear h
      induction r with
      | nil => simp [Lib.joinTail]
      | cons y r ih =>
        have h1 := ih fun w hw => hr w (List.mem_cons_of_mem _ hw)
        have h2 := hr y List.mem_cons_self
        simp only [Lib.joinTail, List.map_cons, List.flatten_cons, List.length_append, List.length_cons, List.length_nil] at h1 ⊢
        omega
    simp only [List.length_cons]
    omega
/-- one more line is joined -/
theorem join_snoc {l : List W} (h : l ≠ []) (w : W) : Lib.join (l ++ [w]) [10] = Lib.join l [10] ++ [10] ++ w := by
  cases l with
  | nil => exact absurd rfl h
  | cons x r =>
    rw [List.cons_append, Lib.join_cons, Lib.join_cons]
    simp [Lib.joinTail, List.append_assoc]
end Go.Proofs.YtkkhljcjjhcnhaaGreatDoor.dec

namespace Go.Proofs.YtkkhljcjjhcnhaaGreatDoor.dec
open Go Go.Cm

attribute [local congr] optK_congr asI_congr asN_congr asB_congr asS_congr asP_congr asA_congr asSL_congr callK_congr castT_congr chk_congr

theorem Pick_b (d : Nat) (n : Int) (m : Nat) (H : Heap) (hm : 0 < m) (hm2 : m ≤ 1048576) : ∃ r : Nat, X (d + 1) n_hand_Pick [.int .i64 n, .int .i64 (m : Int)] H = some (.int .i64 (r : Int), H) ∧ r < m := by
  rw [hand_Pick_eq, if_neg (by omega)]
  have h1 := Int.tmod_lt_of_pos n (show (0 : Int) < (m : Int) by omega)
  have h2 : -(m : Int) < Int.tmod n m := by
    have := Int.lt_tmod_of_pos n (show (0 : Int) < (m : Int) by omega)
    omega
  simp only [decide_eq_true_eq]
  by_cases h : Int.tmod n m < 0
  · rw [if_pos h, w64 (by omega)]
    exact ⟨(Int.tmod n m + m).toNat, by rw [Int.toNat_of_nonneg (by omega)], by omega⟩
  · rw [if_neg h]
    exact ⟨(Int.tmod n m).toNat, by rw [Int.toNat_of_nonneg (by omega)], by omega⟩
def ArgB (N : Nat) (H : Heap) (x : Sl) (L : List Int) : Prop := x.n = L.length ∧ ∀ (i : Nat) n, L[i]? = some n → ∃ b, b < N ∧ x.a = some ⟨b, 0, none⟩ ∧ H.ld1 ⟨b, i, none⟩ = some (.int .i64 n)
theorem ldb_keep {S : Nat → Prop} {H H' : Heap} (hk : Keep S H H') {N b i : Nat} (hN : N ≤ H.next) (hb : b < N) (hs : ∀ k, S k → N ≤ k) : H'.ld1 ⟨b, i, none⟩ = H.ld1 ⟨b, i, none⟩ := by
  unfold Heap.ld1
  rw [hk.2 b (by omega) fun e => by have := hs b e; omega]
theorem pick_m {k : Nat} (hk : k < 4) : partL [.string (S [97, 98, 99]), .string (S [120, 32, 121]), .string (S []), .string (S [104, 101, 108, 108, 111])] (((k : Int).toNat) * 1) 1 false = some (.string (S (mxb k))) := by
  match k, hk with
  | 0, _ => rfl
  | 1, _ => rfl
  | 2, _ => rfl
  | 3, _ => rfl

section
variable {H0 : Heap} {x0 : Sl} {L : List Int} {M : MB}

/-- while texts are written -/
structure L1 (H0 H : Heap) (M : MB) (A : GA) (q : GP) (ix : List Nat) (x : Sl) : Prop where
  bx : Bx H M A q Sl.nil [] Sl.nil []
  kp : Keep (fun j => H0.next ≤ j) H0 H
  lm : ∀ k, M.fx k → H0.next ≤ k
  la : ∀ k, A.foot k → H0.next ≤ k
  wx : Whole H x (stL (ix.map mxb)) t_string 1
  xa : ∀ k, x.at k → H0.next ≤ k ∧ ¬ M.fx k ∧ ¬ A.foot k
theorem L1.new {H H' : Heap} {A : GA} {q : GP} {ix : List Nat} {x : Sl} (h : L1 H0 H M A q ix x) (k : Keep0 H H') : L1 H0 H' M A q ix x :=
  ⟨h.bx.keep0 k, h.kp.trans k fun _ _ e => e.elim, h.lm, h.la, h.wx.keep k fun _ _ e => e, h.xa⟩
theorem L1.out (e : Nat) (t : Tab H0) {H : Heap} {A : GA} {q : GP} {ix : List Nat} {x y : Sl} {l : W} (h : L1 H0 H M A q ix x) (hy : HV H y l) (hl : l.length ≤ 1000) :
    ∃ H' A', X (e + 12) n_mux_Mux_Output [P0 M.m, .int .i64 0, y.v] H = some (.int .i64 0, H') ∧ L1 H0 H' M A' (q.write G.doA l) ix x := by
  have t1 : Tab H := t.keep h.kp (fun e => by have := t.lt; have e' : H0.next ≤ 3 := e; omega) (fun e => by have := t.lt; have e' : H0.next ≤ 4 := e; omega)
  obtain ⟨H1, A1, e1, b1, s1⟩ := Output_b e t1 h.bx hy (by omega)
  have n0 := h.kp.1
  refine ⟨H1, A1, e1, b1, h.kp.trans s1.kp fun k _ e => h.la k e, h.lm, fun k e => (s1.ft k e).elim (h.la k) fun e => by omega, h.wx.keep s1.kp fun k e => (h.xa k e).2.2, fun k e => ⟨(h.xa k e).1, (h.xa k e).2.1, fun e' => ?_⟩⟩
  rcases s1.ft k e' with e' | e'
  · exact (h.xa k e).2.2 e'
  · have := h.wx.lt e; omega

/-- while lines are copied -/
structure L2 (H0 H : Heap) (M : MB) (A : GA) (ix : List Nat) (x : Sl) (want : List W) (bs y : Sl) : Prop where
  bx : Bx H M A (atx ix) bs (want.take 6) Sl.nil []
  wx : Whole H x (stL (ix.map mxb)) t_string 1
  xa : ∀ k, x.at k → ¬ M.fx k
  wy : Whole H y (stL want) t_string 1
  ya : ∀ k, y.at k → ¬ M.fx k
  wl : ∀ w ∈ want, w.length ≤ 200
  n : want.length ≤ 10

/-- the check of the buffers -/
theorem check_b (e : Nat) {A : GA} {ws : List W} (hws : ws.length ≤ 6) (hwl : ∀ w ∈ ws, w.length ≤ 200) {x y : Sl} : ∀ (f i : Nat) {H : Heap} {q : GP} {bs qs : Sl}, ws.length - i < f → i ≤ ws.length → Bx H M A q bs ws qs [] → BL H x ws → BL H y ws → (∀ k, x.at k → k ≠ M.p ∧ ¬ qs.at k) → (∀ k, y.at k → k ≠ M.p ∧ ¬ qs.at k) →
    ∃ H', law23_MuxBuffers_p1111111111010 (e + 12) f (some ⟨M.m, 0, none⟩) x y (i : Int) H = some (.bool true, H') := fun f => by
  induction f with
  | zero => intro i H q bs qs hf; omega
  | succ f ih =>
    intro i H q bs qs hf hi h hx hy xa ya
    have hxn := hx.n
    have hyn := hy.n
    rw [law23_MuxBuffers_p1111111111010_s]
    by_cases c : i < ws.length
    · rw [if_pos (decide_eq_true (by omega))]
      have hw : ws[i]? = some ws[i] := List.getElem?_eq_getElem c
      have hwm := hwl _ (List.mem_of_getElem? hw)
      generalize ws[i] = w at hw hwm
      obtain ⟨b1, ey, ly⟩ := hy.ld hw
      obtain ⟨b2, ex, lx⟩ := hx.ld hw
      rw [ey]
      simp only [optK_s]
      rw [if_pos (show (0 : Int) ≤ (i : Int) ∧ (i : Int) < (y.n : Int) by omega), Int.toNat_natCast, Nat.mul_one, show ap ⟨b1, 0, none⟩ i = ⟨b1, i, none⟩ by simp [ap], ly]
      simp only [optK_s, asS_s]
      rw [ex]
      simp only [optK_s]
      rw [if_pos (show (0 : Int) ≤ (i : Int) ∧ (i : Int) < (x.n : Int) by omega), show ap ⟨b2, 0, none⟩ i = ⟨b2, i, none⟩ by simp [ap], lx]
      simp only [optK_s, asS_s]
      rw [show sEq (S w) (S w) = true by simp [sEq], if_neg (show ¬ (!true) = true by simp)]
      obtain ⟨qs1, H1, e1, h1, k1, f1⟩ := Paste_b (e + 9) h (k := i) (by omega) hw (by simp; omega)
      rw [show X (e + 12) n_mux_Mux_Paste [.pointer (some ⟨M.m, 0, none⟩), .string (S [97]), .int .i64 (i : Int)] H = _ from e1]
      simp only [callK_s, asI_s]
      rw [show (!decide True) = false from rfl, law23_MuxBuffers_p1111111111010010001_eq, if_neg (by simp)]
      rw [List.nil_append] at h1
      obtain ⟨o, qs2, H2, e2, r2, h2, k2, f2⟩ := Take_b (e + 11) 4096 (by omega) h1
      rw [show X (e + 12) n_mux_Mux_Take [.pointer (some ⟨M.m, 0, none⟩), .int .i64 0, .int .i64 4096] H1 = _ from e2]
      have ct : ∀ K, castT [.sl, .bool] (.tuple ⟨[Sl.v o, .bool true]⟩) K = K [Sl.v o, .bool true] := fun _ => rfl
      simp only [callK_s, ct, asSL_k, asB_s, optK_s, List.getElem?_cons_zero, List.getElem?_cons_succ]
      rw [r2]
      simp only [optK_s, asS_s]
      rw [List.take_of_length_le (by omega)]
      have n1 := k1.1
      have xk : BL H2 x ws := (hx.keep k1 fun k e e' => (e'.elim (xa k e).1 (xa k e).2)).keep k2 fun k e e' => (xa k e).1 e'
      have yk : BL H2 y ws := (hy.keep k1 fun k e e' => (e'.elim (ya k e).1 (ya k e).2)).keep k2 fun k e e' => (ya k e).1 e'
      obtain ⟨b3, ex3, lx3⟩ := xk.ld hw
      rw [ex] at ex3
      cases ex3
      rw [ex]
      simp only [optK_s]
      rw [if_pos (show (0 : Int) ≤ (i : Int) ∧ (i : Int) < (x.n : Int) by omega), Int.toNat_natCast, Nat.mul_one, show ap ⟨b2, 0, none⟩ i = ⟨b2, i, none⟩ by simp [ap], lx3]
      simp only [optK_s, asS_s]
      rw [show sEq (S w) (S w) = true by simp [sEq], if_neg (show ¬ (!true) = true by simp), wi (by omega)]
      rw [List.drop_eq_nil_of_le (by omega)] at h2
      refine ih (i + 1) (by omega) (by omega) h2 xk yk (fun k e => ⟨(xa k e).1, fun e' => ?_⟩) fun k e => ⟨(ya k e).1, fun e' => ?_⟩
      · have := f2 k e'; have := hx.lt e; omega
      · have := f2 k e'; have := hy.lt e; omega
    · rw [if_neg (by rw [decide_eq_true_eq]; omega)]
      have e1 := Paste_none (e + 9) h (k := ws.length) (by omega) (Nat.le_refl _)
      rw [show (x.n : Int) = ((ws.length : Nat) : Int) by omega]
      rw [show X (e + 12) n_mux_Mux_Paste [.pointer (some ⟨M.m, 0, none⟩), .string (S [97]), .int .i64 (ws.length : Int)] H = _ from e1]
      simp only [callK_s, asI_s]
      exact ⟨H, rfl⟩

theorem end_b (e f : Nat) {n1 : Int} {H : Heap} {A : GA} {ix : List Nat} {x : Sl} {want : List W} {bs y : Sl} (h : L2 H0 H M A ix x want bs y) (i : Int) : ∃ H', law23_MuxBuffers_p111111010001 (e + 12) f n1 (some ⟨M.m, 0, none⟩) x y i false H = some (.bool true, H') := by
  rw [law23_MuxBuffers_p111111010001_eq, if_neg (by simp)]
  have hb : BL H y want := BL.of h.wy
  have hn := hb.n
  have hwn := h.n
  rw [show (if (6 : Int) < (y.n : Int) then 6 else (y.n : Int)) = ((min 6 want.length : Nat) : Int) by split <;> omega]
  obtain ⟨z, ez, bz, fz⟩ := hb.front (k := min 6 want.length) (by omega)
  rw [ez]
  simp only [optK_s, asSL_k]
  have etk : want.take (min 6 want.length) = want.take 6 := by
    rcases Nat.le_total 6 want.length with e | e
    · rw [Nat.min_eq_left e]
    · rw [Nat.min_eq_right e, List.take_length, List.take_of_length_le e]
  rw [etk] at bz
  have htl : (want.take 6).length ≤ 6 := by rw [List.length_take]; omega
  obtain ⟨u, H1, e1, b1, k1, f1⟩ := Buffers_b (e + 11) h.bx (by omega)
  rw [show X (e + 12) n_mux_Mux_Buffers [.pointer (some ⟨M.m, 0, none⟩)] H = _ from e1]
  simp only [callK_s, asSL_k]
  have hzn := bz.n
  have hun := b1.n
  rw [decide_eq_true (show (u.n : Int) = (z.n : Int) by omega), if_neg (show ¬ (!true) = true by simp)]
  have h1 := h.bx.keep0 k1
  have n1 := k1.1
  exact check_b e htl (fun w hw => h.wl w (List.mem_of_mem_take hw)) NN 0 (NN_big _ (by omega)) (by omega) h1 (bz.keep k1 fun _ _ e => e) b1 (fun k e => ⟨fun e' => h.ya k (fz k e) (e' ▸ MB.f7), Sl.at_nil⟩) fun k e => ⟨fun e' => by have := f1 k e; have := h.bx.lt M.p MB.f7; omega, Sl.at_nil⟩

/-- the lines that were copied are joined; the next turn -/
theorem join_loop (e f : Nat) {n1 : Int} {i : Nat} (hi : i < 10) {A : GA} {ix : List Nat} {x : Sl} {want : List W} {bs y : Sl} (hl : ix.length ≤ 20) (h4 : ∀ k ∈ ix, k < 4) {a b : Nat} (hab : a ≤ b) (hb : b < ix.length)
    (go : ∀ {H : Heap} {want : List W} {bs y : Sl}, want.length = i + 1 → L2 H0 H M A ix x want bs y → ∃ H', law23_MuxBuffers_p111111010 (e + 12) f n1 (some ⟨M.m, 0, none⟩) x y ((i + 1 : Nat) : Int) H = some (.bool true, H'))
    {H : Heap} (hwi : want.length = i) (h : Bx H M A (atx ix) bs ((Lib.join (((ix.map mxb).drop a).take (b + 1 - a)) [10] :: want).take 6) Sl.nil []) (wx : Whole H x (stL (ix.map mxb)) t_string 1) (xa : ∀ k, x.at k → ¬ M.fx k) (wy : Whole H y (stL want) t_string 1) (wl : ∀ w ∈ want, w.length ≤ 200) :
    ∀ (m1 k : Nat), b + 1 - k < m1 → a < k → k ≤ b + 1 → ∃ H', law23_MuxBuffers_p11111101001001111010 (e + 12) f m1 n1 (some ⟨M.m, 0, none⟩) x y (i : Int) (b : Int) (S (Lib.join (((ix.map mxb).drop a).take (k - a)) [10])) (k : Int) H = some (.bool true, H') := fun m1 => by
  have hlen : ∀ c, (Lib.join (((ix.map mxb).drop a).take c) [10]).length ≤ 120 := fun c => by
    have := join_le (l := ((ix.map mxb).drop a).take c) fun w hw => by
      obtain ⟨j, hj, rfl⟩ := List.mem_map.1 (List.mem_of_mem_drop (List.mem_of_mem_take hw))
      exact (mx_ok j (h4 j hj)).2.2
    rw [List.length_take, List.length_drop, List.length_map] at this
    omega
  have hxb : BL H x (ix.map mxb) := BL.of wx
  have hxn := hxb.n
  rw [List.length_map] at hxn
  induction m1 with
  | zero => intro k hk; omega
  | succ m1 ih =>
    intro k hk hak hkb
    rw [law23_MuxBuffers_p11111101001001111010_s]
    have h1 := hlen (k - a)
    by_cases c : k ≤ b
    · rw [if_pos (decide_eq_true (by omega)), if_pos (show slen (S (Lib.join (((ix.map mxb).drop a).take (k - a)) [10])) + slen (S [10]) ≤ 9223372036854775807 by rw [slenS, slenS, List.length_singleton]; omega)]
      have hw : (ix.map mxb)[k]? = some (mxb ix[k]) := by rw [List.getElem?_map, List.getElem?_eq_getElem (by omega)]; rfl
      have hw5 := (mx_ok ix[k] (h4 _ (List.getElem_mem _))).2.2
      obtain ⟨bb, ex, lx⟩ := hxb.ld hw
      rw [ex]
      simp only [optK_s]
      rw [if_pos (show (0 : Int) ≤ (k : Int) ∧ (k : Int) < (x.n : Int) by omega), Int.toNat_natCast, Nat.mul_one, show ap ⟨bb, 0, none⟩ k = ⟨bb, k, none⟩ by simp [ap], lx]
      simp only [optK_s, asS_s]
      rw [sCatS, if_pos (show slen (S (Lib.join (((ix.map mxb).drop a).take (k - a)) [10] ++ [10])) + slen (S (mxb ix[k])) ≤ 9223372036854775807 by rw [slenS, slenS, List.length_append, List.length_singleton]; omega), sCatS, wi (by omega)]
      have hsn : ((ix.map mxb).drop a).take (k + 1 - a) = ((ix.map mxb).drop a).take (k - a) ++ [mxb ix[k]] := by
        rw [show k + 1 - a = (k - a) + 1 by omega, List.take_add_one, List.getElem?_drop, show a + (k - a) = k by omega, hw]
        rfl
      have := ih (k + 1) (by omega) (by omega) (by omega)
      rw [hsn, join_snoc (fun e => by
        have := congrArg List.length e
        rw [List.length_take, List.length_drop, List.length_map, List.length_nil] at this
        omega)] at this
      exact this
    · rw [if_neg (by rw [decide_eq_true_eq]; omega)]
      have ek : k = b + 1 := by omega
      subst ek
      generalize hj : Lib.join (((ix.map mxb).drop a).take (b + 1 - a)) [10] = jw at *
      simp only [newK_s]
      have k1 : Keep0 H (H.new (.cells [.string (S jw)] t_string false 0 false)) := Keep.new _ _
      have g1 : (H.new (.cells [.string (S jw)] t_string false 0 false)).get H.next = some (.cells [.string (S jw)] t_string false 0 false) := by simp
      have n1' : (H.new (.cells [.string (S jw)] t_string false 0 false)).next = H.next + 1 := by simp
      generalize H.new (.cells [.string (S jw)] t_string false 0 false) = H1 at *
      have w1 : Whole H1 ⟨some ⟨H.next, 0, none⟩, 1, 1⟩ [.string (S jw)] t_string 1 := .inr ⟨H.next, 1, rfl, rfl, by omega, false, false, g1⟩
      have hyb : BL H1 y want := BL.of (wy.keep k1 fun _ _ e => e)
      have hyn := hyb.n
      obtain ⟨z, H2, e2, w2, k2, f2, c2, _⟩ := append_whole (bytes := 16) (str := false) (x := y.v) (n := y.n) (new := stL want) w1 rfl hyb.src (by rw [st_len]; omega) (by show (1 + y.n) * 16 ≤ _; omega) (by omega) (by omega)
      rw [show appendK t_string 1 16 false (.slice (some ⟨H.next, 0, none⟩) 1 1) = appendK t_string 1 16 false (Sl.v ⟨some ⟨H.next, 0, none⟩, 1, 1⟩) from rfl, e2]
      simp only [asSL_k]
      rw [wi (by omega)]
      have at0 : ∀ j, Sl.at ⟨some ⟨H.next, 0, none⟩, 1, 1⟩ j → H.next ≤ j := fun j e => by obtain ⟨a, ha, rfl⟩ := e; cases ha; exact Nat.le_refl _
      have k02 : Keep0 H H2 := k1.fresh k2 at0
      refine go (want := jw :: want) (by simp [hwi]) ⟨h.keep0 k02, wx.keep k02 fun _ _ e => e, xa, w2, fun k e e' => ?_, fun w hw => ?_, by simp; omega⟩
      · have := h.lt k e'
        rcases f2 k e with e | e
        · have := at0 k e; omega
        · omega
      · rcases List.mem_cons.1 hw with rfl | hw
        · omega
        · exact wl w hw

theorem copies_loop (e : Nat) {n1 : Int} {A : GA} {ix : List Nat} {x : Sl} (hl : ix.length ≤ 20) (h4 : ∀ k ∈ ix, k < 4) {P : Nat} (hP : P < 10) (hPe : ∀ H, X (e + 12) n_hand_Pick [.int .i64 n1, .int .i64 10] H = some (.int .i64 (P : Int), H)) : ∀ (f i : Nat) {H : Heap} {want : List W} {bs y : Sl}, 11 - i < f → i ≤ 10 → want.length = i → L2 H0 H M A ix x want bs y →
    ∃ H', law23_MuxBuffers_p111111010 (e + 12) f n1 (some ⟨M.m, 0, none⟩) x y (i : Int) H = some (.bool true, H') := fun f => by
  induction f with
  | zero => intro i H want bs y hf; omega
  | succ f ih =>
    intro i H want bs y hf hi hwi h
    rw [law23_MuxBuffers_p111111010_s, hPe]
    simp only [callK_s, asI_s]
    have hxb : BL H x (ix.map mxb) := BL.of h.wx
    have hxn := hxb.n
    rw [List.length_map] at hxn
    by_cases c : i < P
    · rw [if_pos (decide_eq_true (by omega))]
      by_cases c2 : 0 < ix.length
      · rw [decide_eq_true (show (0 : Int) < (x.n : Int) by omega), law23_MuxBuffers_p111111010001_eq, if_pos rfl]
        obtain ⟨a, ea, la⟩ := Pick_b (e + 11) (IntKind.wrap .i64 (n1 + (i : Int))) x.n H (by omega) (by omega)
        rw [ea]
        simp only [callK_s, asI_s]
        have eb : (if IntKind.wrap .i64 ((a : Int) + (i : Int)) < IntKind.wrap .i64 ((x.n : Int) - 1) then IntKind.wrap .i64 ((a : Int) + (i : Int)) else IntKind.wrap .i64 ((x.n : Int) - 1)) = ((min (a + i) (ix.length - 1) : Nat) : Int) := by
          rw [w64 (by omega), w64 (by omega)]
          split <;> omega
        rw [eb]
        have hne : ix ≠ [] := fun e => by rw [e] at c2; simp at c2
        have hrows := atx_rows hne hl h4 (a := a) (b := min (a + i) (ix.length - 1)) (by omega)
        have htl : (want.take 6).length ≤ 6 := by rw [List.length_take]; omega
        obtain ⟨H1, bs1, e1, h1, k1, f1⟩ := Copy_b (e + 8) h.bx (atx_past hl) (atx_L ix) (a := a) (b := min (a + i) (ix.length - 1)) (by omega) (by omega) (by omega) (by
          rw [hrows]
          have := join_le (l := ((ix.map mxb).drop a).take (min (a + i) (ix.length - 1) + 1 - a)) fun w hw => by
            obtain ⟨j, hj, rfl⟩ := List.mem_map.1 (List.mem_of_mem_drop (List.mem_of_mem_take hw))
            exact (mx_ok j (h4 j hj)).2.2
          rw [List.length_take, List.length_drop, List.length_map] at this
          omega)
        rw [show X (e + 12) n_mux_Mux_Copy [.pointer (some ⟨M.m, 0, none⟩), .string (S [97]), .int .i64 (a : Int), .int .i64 ((min (a + i) (ix.length - 1) : Nat) : Int)] H = _ from e1]
        simp only [callK_s, asI_s]
        rw [if_neg (show ¬ (!decide True) = true by simp)]
        rw [hrows] at h1
        have etk : (Lib.join (((ix.map mxb).drop a).take (min (a + i) (ix.length - 1) + 1 - a)) [10] :: want.take 6).take 6 = (Lib.join (((ix.map mxb).drop a).take (min (a + i) (ix.length - 1) + 1 - a)) [10] :: want).take 6 := by
          rw [List.take_succ_cons, List.take_succ_cons, List.take_take]; rfl
        rw [etk] at h1
        have wx1 : Whole H1 x (stL (ix.map mxb)) t_string 1 := h.wx.keep k1 fun k e e' => h.xa k e (by have e'' : k = M.m := e'; rw [e'']; exact MB.f1)
        have wy1 : Whole H1 y (stL want) t_string 1 := h.wy.keep k1 fun k e e' => h.ya k e (by have e'' : k = M.m := e'; rw [e'']; exact MB.f1)
        have hw : (ix.map mxb)[a]? = some (mxb (ix[a]'(by omega))) := by rw [List.getElem?_map, List.getElem?_eq_getElem (by omega)]; rfl
        obtain ⟨bb, ex, lx⟩ := (BL.of wx1).ld hw
        rw [ex]
        simp only [optK_s]
        rw [if_pos (show (0 : Int) ≤ (a : Int) ∧ (a : Int) < (x.n : Int) by omega), Int.toNat_natCast, Nat.mul_one, show ap ⟨bb, 0, none⟩ a = ⟨bb, a, none⟩ by simp [ap], lx]
        simp only [optK_s, asS_s]
        rw [wi (by omega)]
        have h0 : Lib.join (((ix.map mxb).drop a).take (a + 1 - a)) [10] = mxb (ix[a]'(by omega)) := by
          rw [show a + 1 - a = 0 + 1 by omega, List.take_add_one, List.take_zero, List.getElem?_drop, Nat.add_zero, hw]
          exact Lib.join_one _ _
        have := join_loop (H0 := H0) e f (n1 := n1) (i := i) (by omega) hl h4 (a := a) (b := min (a + i) (ix.length - 1)) (by omega) (by omega) (fun {H want bs y} hw h => ih (i + 1) (by omega) (by omega) hw h) hwi h1 wx1 h.xa wy1 h.wl NN (a + 1) (NN_big _ (by omega)) (by omega) (by omega)
        rw [h0] at this
        exact this
      · rw [decide_eq_false (show ¬ (0 : Int) < (x.n : Int) by omega)]
        exact end_b e f h (i : Int)
    · rw [if_neg (by rw [decide_eq_true_eq]; omega)]
      exact end_b e f h (i : Int)

theorem texts_b (e : Nat) (t : Tab H0) (hx : ArgB H0.next H0 x0 L) {n1 : Int} : ∀ (f : Nat) {ix : List Nat} {H : Heap} {A : GA} {x : Sl}, 21 - ix.length < f → ix.length ≤ 20 → (∀ k ∈ ix, k < 4) → L1 H0 H M A (atx ix) ix x →
    ∃ H', law23_MuxBuffers_p1111010 (e + 12) f x0 n1 (some ⟨M.m, 0, none⟩) x (ix.length : Int) H = some (.bool true, H') := fun f => by
  induction f with
  | zero => intro ix H A x hf; omega
  | succ f ih =>
    intro ix H A x hf h20 h4 h
    have hxn := hx.1
    rw [law23_MuxBuffers_p1111010_s]
    have last : ∃ H', law23_MuxBuffers_p1111010001 (e + 12) f x0 n1 (some ⟨M.m, 0, none⟩) x (ix.length : Int) false H = some (.bool true, H') := by
      rw [law23_MuxBuffers_p1111010001_eq, if_neg (by simp)]
      obtain ⟨P, eP, hP⟩ := Pick_b (e + 11) n1 10 H (by omega) (by omega)
      have hPe : ∀ H, X (e + 12) n_hand_Pick [.int .i64 n1, .int .i64 10] H = some (.int .i64 (P : Int), H) := fun H' => by
        have h1 : X (e + 11 + 1) n_hand_Pick [.int .i64 n1, .int .i64 10] H = some (.int .i64 (P : Int), H) := eP
        rw [hand_Pick_eq] at h1 ⊢
        rw [if_neg (by omega)] at h1 ⊢
        split at h1 <;> rename_i hc
        · rw [if_pos hc]
          simp only [Option.some.injEq, Prod.mk.injEq, and_true] at h1
          rw [h1]
        · rw [if_neg hc]
          simp only [Option.some.injEq, Prod.mk.injEq, and_true] at h1
          rw [h1]
      exact copies_loop (H0 := H0) e h20 h4 hP hPe NN 0 (want := []) (NN_big _ (by omega)) (by omega) rfl ⟨h.bx, h.wx, fun k e => (h.xa k e).2.1, .inl ⟨rfl, rfl⟩, fun k e => absurd e Sl.at_nil, fun w hw => absurd hw List.not_mem_nil, by simp⟩
    by_cases c1 : ix.length < L.length
    · rw [if_pos (decide_eq_true (by omega))]
      by_cases c2 : ix.length < 20
      · rw [decide_eq_true (show (ix.length : Int) < 20 by omega), law23_MuxBuffers_p1111010001_eq, if_pos rfl]
        obtain ⟨b, hbN, ea, el⟩ := hx.2 ix.length L[ix.length] (List.getElem?_eq_getElem c1)
        have el' : Heap.ld1 H ⟨b, ix.length, none⟩ = some (.int .i64 L[ix.length]) := (ldb_keep h.kp (Nat.le_refl _) hbN (fun _ e => e)).trans el
        rw [ea]
        simp only [optK_s]
        rw [if_pos (show (0 : Int) ≤ (ix.length : Int) ∧ (ix.length : Int) < (x0.n : Int) by omega), Int.toNat_natCast, Nat.mul_one, show ap ⟨b, 0, none⟩ ix.length = ⟨b, ix.length, none⟩ by simp [ap], el']
        simp only [optK_s, asI_s]
        obtain ⟨k, e2, hk⟩ := Pick_b (e + 11) L[ix.length] 4 H (by omega) (by omega)
        rw [show X (e + 12) n_hand_Pick [.int .i64 L[ix.length], .int .i64 4] H = _ from e2]
        simp only [callK_s, asI_s]
        rw [if_pos (show (0 : Int) ≤ (k : Int) ∧ (k : Int) < 4 by omega), pick_m hk]
        simp only [optK_s, asS_s]
        -- a text is written
        have put : ∀ {H1 : Heap} {A1 : GA} {q1 : GP}, L1 H0 H1 M A1 q1 ix x → q1.write G.doA (mxb k) = atx (ix ++ [k]) → ∃ H', law23_MuxBuffers_p1111010010011 (e + 12) f x0 n1 (some ⟨M.m, 0, none⟩) x (ix.length : Int) (S (mxb k)) H1 = some (.bool true, H') := fun {H1 A1 q1} h1 hq => by
          rw [law23_MuxBuffers_p1111010010011_eq]
          simp only [newK_s]
          rw [lstS, slenS, show ((mxb k).map fun b => Value.int .u8 (b.toNat : Int)) = bc (mxb k) from rfl]
          have k2 : Keep0 H1 (H1.new (.cells (bc (mxb k)) t_uint8 true 0 true)) := Keep.new _ _
          have g2 : (H1.new (.cells (bc (mxb k)) t_uint8 true 0 true)).get H1.next = some (.cells (bc (mxb k)) t_uint8 true 0 true) := by simp
          have n2 : (H1.new (.cells (bc (mxb k)) t_uint8 true 0 true)).next = H1.next + 1 := by simp
          generalize H1.new (.cells (bc (mxb k)) t_uint8 true 0 true) = H2 at *
          have v2 : BV H2 ⟨some ⟨H1.next, 0, none⟩, (mxb k).length, (mxb k).length⟩ H1.next [] (mxb k) [] := ⟨rfl, by rw [bytes_len]; simp, Nat.le_refl _, by omega, true, true, by rw [List.nil_append, List.append_nil]; exact g2⟩
          obtain ⟨H3, A3, e3, h3⟩ := (h1.new k2).out e t (.inr ⟨_, _, _, v2⟩) (by have := (mx_ok k hk).2.2; omega)
          rw [show X (e + 12) n_mux_Mux_Output [.pointer (some ⟨M.m, 0, none⟩), .int .i64 0, .slice (some ⟨H1.next, 0, none⟩) (mxb k).length (mxb k).length] H2 = _ from e3]
          simp only [callK_s, asI_s]
          have hxl := h3.wx.len.1
          rw [st_len, List.length_map] at hxl
          obtain ⟨y, H5, e5, w5, k5, _, f5, c5⟩ := push_whole (H := H3) (s := x) (cs := stL (ix.map mxb)) (e := t_string) (sz := 1) (bytes := 16) (new := [.string (S (mxb k))]) h3.wx rfl (by omega) (by omega) (by omega)
          rw [e5]
          simp only [asSL_k]
          rw [wi (by omega)]
          rw [hq] at h3
          have n5 := k5.1
          have n0 := h3.kp.1
          have h5 : L1 H0 H5 M A3 (atx (ix ++ [k])) (ix ++ [k]) y := ⟨h3.bx.keep k5 (fun j e e' => (h3.xa j e').2.1 e) (fun j e e' => (h3.xa j e').2.2 e) (fun j e => absurd e Sl.at_nil) (fun j e => absurd e Sl.at_nil), h3.kp.trans k5 fun j _ e => (h3.xa j e).1, h3.lm, h3.la, by
            rw [show stL ((ix ++ [k]).map mxb) = stL (ix.map mxb) ++ [.string (S (mxb k))] by simp [stL]]
            exact w5, fun j e => by
            have := f5 j e
            exact ⟨by omega, fun e' => by have := h3.bx.lt j e'; omega, fun e' => by have := h3.bx.gr.lt e'; omega⟩⟩
          have := ih (ix := ix ++ [k]) (by simp; omega) (by simp; omega) (fun j hj => (List.mem_append.1 hj).elim (h4 j) fun e => by rw [List.mem_singleton.1 e]; exact hk) h5
          rw [List.length_append] at this
          exact this
        by_cases h0 : 0 < ix.length
        · rw [if_pos (show decide ((0 : Int) < (ix.length : Int)) = true from decide_eq_true (by omega))]
          simp only [newK_s]
          have k1 : Keep0 H (H.new (.cells [.int .u8 13, .int .u8 10] t_uint8 false 0 false)) := Keep.new _ _
          have g1 : (H.new (.cells [.int .u8 13, .int .u8 10] t_uint8 false 0 false)).get H.next = some (.cells [.int .u8 13, .int .u8 10] t_uint8 false 0 false) := by simp
          have n1 : (H.new (.cells [.int .u8 13, .int .u8 10] t_uint8 false 0 false)).next = H.next + 1 := by simp
          generalize H.new (.cells [.int .u8 13, .int .u8 10] t_uint8 false 0 false) = H1 at *
          have em : ∀ K, effK (.markStr) [.slice (some ⟨H.next, 0, none⟩) 2 2] H1 K = K (.slice (some ⟨H.next, 0, none⟩) 2 2) (H1.put H.next (.cells [.int .u8 13, .int .u8 10] t_uint8 false 0 true)) := fun K => by
            simp only [effK, g1]
            rfl
          rw [em]
          have k2 : Keep0 H (H1.put H.next (.cells [.int .u8 13, .int .u8 10] t_uint8 false 0 true)) := k1.fresh (Keep.put (S := fun k => k = H.next) _ _ _ rfl) fun k e => by have e' : k = H.next := e; omega
          have v2 : BV (H1.put H.next (.cells [.int .u8 13, .int .u8 10] t_uint8 false 0 true)) ⟨some ⟨H.next, 0, none⟩, 2, 2⟩ H.next [] [13, 10] [] :=
            ⟨rfl, rfl, Nat.le_refl _, by show H.next < H1.next; omega, false, true, by simp; rfl⟩
          generalize H1.put H.next (.cells [.int .u8 13, .int .u8 10] t_uint8 false 0 true) = H2 at *
          simp only [asSL_k2]
          obtain ⟨H3, A3, e3, h3⟩ := (h.new k2).out e t (.inr ⟨_, _, _, v2⟩) (by decide)
          rw [show X (e + 12) n_mux_Mux_Output [.pointer (some ⟨M.m, 0, none⟩), .int .i64 0, (⟨some ⟨H.next, 0, none⟩, 2, 2⟩ : Sl).v] H2 = _ from e3]
          simp only [callK_s, asI_s]
          exact put h3 (atx_next (fun e => by rw [e] at h0; simp at h0) (by omega) hk)
        · rw [if_neg (by rw [decide_eq_true_eq]; omega)]
          have e0 : ix = [] := List.eq_nil_of_length_eq_zero (by omega)
          subst e0
          exact put h (atx_first hk)
      · rw [decide_eq_false (show ¬ (ix.length : Int) < 20 by omega)]
        exact last
    · rw [if_neg (by rw [decide_eq_true_eq]; omega)]
      exact last
end

theorem known_b (d : Nat) (H : Heap) : X (d + 1) n_law23_known [] H = some (.bool true, H) := by kernel_rfl
theorem MuxBuffers_s (e : Nat) {H : Heap} (t : Tab H) {x0 : Sl} {L : List Int} (hx : ArgB H.next H x0 L) (n1 : Int) : ∃ H', X (e + 13) n_law23_MuxBuffers [x0.v, .int .i64 n1] H = some (.bool true, H') := by
  rw [law23_MuxBuffers_eq]
  have ht := t.lt
  obtain ⟨m, sm, pm, H1, e1, a1, a2, a3, b1, b2, b3, b4, k1⟩ := New5_s (e + 4) 30 20 (by omega) (by omega) ht
  rw [show X (e + 12) n_mux_New [.int .i64 30, .int .i64 20] H = _ from e1]
  simp only [callK_s, castT_s, castL_c, castL_n, cast0, P0, asP_s, asI_s, optK_s, List.getElem?_cons_zero, List.getElem?_cons_succ]
  rw [known_b]
  simp only [callK_s, asB_s]
  rw [if_neg (by simp), if_neg (by simp), if_neg (show ¬ (some (⟨m, 0, none⟩ : Addr)).isNone = true by simp)]
  have n1 := k1.1
  obtain ⟨s, wl, w, tt, nd, p, A, H2, e2, c1, c2, c3, c4, c5, c6, c7, c8, c9, o, gr, ff, kk⟩ := NewSession_s (e + 2) 30 20 0 (by omega) (by omega) (by omega) (nm := S [97]) (H := H1) (by omega) (m := m) (sm := sm) (pm := pm) (bf := .slice none 0 0) (ss := []) (es := []) (cls := 0) (clk := 0) (Right_a (e + 10) H1) a1 (by omega) a3 (by omega) a2 (by omega) (by omega) (by omega) (by omega) rfl rfl (by simp)
  rw [show X (e + 12) n_mux_Mux_NewSession [.pointer (some ⟨m, 0, none⟩), .string (S [97])] H1 = _ from e2]
  simp only [callK_s, asI_s]
  rw [show (!decide True) = false from rfl, law23_MuxBuffers_p1101_eq, if_neg (by simp)]
  have n2 := kk.1
  have fx : ∀ k, MB.fx ⟨m, sm, pm, s, wl, w, p⟩ k → H.next ≤ k ∧ k < H2.next ∧ (k < H1.next ∨ k = s ∨ k = wl ∨ k = w ∨ k = p) := fun k e => by
    rcases e with e | e | e | e | e | e | e <;> simp only at e <;> subst e <;> omega
  have af : ∀ k, A.foot k → ¬ MB.fx ⟨m, sm, pm, s, wl, w, p⟩ k := fun k e e' => by
    have h1 := ff k e
    have h2 := fx k e'
    rcases e' with e' | e' | e' | e' | e' | e' | e' <;> simp only at e' <;> omega
  have bx : Bx H2 ⟨m, sm, pm, s, wl, w, p⟩ A (GP.new 30 20) Sl.nil [] Sl.nil [] := ⟨c1, ⟨_, _, c3⟩, ⟨_, _, c2⟩, c4, c5, ⟨_, c7⟩, c6, gr, .inl ⟨rfl, rfl⟩, Tl.nil _, by simp, fun k e => (fx k e).2.1, fun k e => ⟨af k e, Sl.at_nil, Sl.at_nil⟩, fun k e => absurd e Sl.at_nil, fun k e => absurd e Sl.at_nil, by simp only; omega, by simp only; omega⟩
  have k02 : Keep (fun j => H.next ≤ j) H H2 := (k1.to (S := fun j => H.next ≤ j)).trans kk fun j _ e => by omega
  have hq : atx [] = GP.new 30 20 := atx_nil
  exact texts_b (M := ⟨m, sm, pm, s, wl, w, p⟩) e t hx NN (ix := []) (NN_big _ (by simp)) (by simp) (fun k hk => absurd hk List.not_mem_nil) ⟨by rw [hq]; exact bx, k02, fun k e => (fx k e).1, fun k e => by have := ff k e; omega, .inl ⟨rfl, rfl⟩, fun k e => absurd e Sl.at_nil⟩
end Go.Proofs.YtkkhljcjjhcnhaaGreatDoor.dec
