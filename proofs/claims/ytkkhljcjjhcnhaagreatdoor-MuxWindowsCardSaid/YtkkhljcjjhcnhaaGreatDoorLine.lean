/-
  grid: rows of cells; new ones, copies.
  And: grid: copies of rows; the grid's own cells. grid: its cells read and written. grid: small things that other texts of the first seat had. (MuxQueue's seat) grid: reset; New. grid: Screen. grid: New. mux: what a map says of a key. mux: windows of one pane: places, panes, fit; a new pane; a fresh window. mux: fit of a window of one pane; a new pane; a fresh window. mux: a fresh window; New; NewSession. MuxNames: the text of a leaf; a window's panes are dropped. MuxNames: names in the sessions' map. MuxNames: names of one letter are right; what the law's mux holds. MuxNames: NewSession. MuxNames: Rename. MuxNames: KillSession. MuxNames: Sessions: one session's turn. MuxNames: Sessions. MuxWindows: a session's windows; a window more; one less. MuxWindows: the law's mux; NewWindow, SelectWindow, KillWindow. MuxWindows: KillWindow. MuxWindows: Sessions, of one session of some windows. MuxWindows: the law's loops. MuxWindows: one turn; the law.
-/
import Derived.Test.YtkkhljcjjhcnhaaGreatDoorCmH
import Derived.Test.YtkkhljcjjhcnhaaGreatDoorDec
namespace Go.Proofs.YtkkhljcjjhcnhaaGreatDoor.dec
open Go Go.Cm

attribute [local congr] optK_congr asI_congr asN_congr asB_congr asS_congr asP_congr asA_congr asSL_congr callK_congr castT_congr chk_congr

abbrev W := List UInt8
theorem w64 {n : Int} (h : -9223372036854775808 ≤ n ∧ n ≤ 9223372036854775807) : IntKind.wrap .i64 n = n := by
  unfold IntKind.wrap
  simp only [IntKind.signed, IntKind.bits]
  simp
  split <;> omega
theorem u64w {n : Int} (h : 0 ≤ n ∧ n < 18446744073709551616) : IntKind.wrap .u64 n = n := by
  unfold IntKind.wrap
  simp only [IntKind.signed, IntKind.bits]
  simp
  omega
theorem NN_big (n : Nat) (h : n < 3999999999999) : n < NN := by rw [NN_eq]; omega
theorem wi {i : Nat} (h : i < 4000000000000000000) : IntKind.wrap .i64 ((i : Int) + 1) = ((i + 1 : Nat) : Int) := by rw [w64 (by omega)]; omega

/-! ### cells and rows -/
structure Cl where
  r : Int
  f : Int
  b : Int
  s : Int
deriving DecidableEq
def cellV (c : Cl) : List Value := [.int .i32 c.r, .int .i64 c.f, .int .i64 c.b, .int .i64 c.s]
def blank : Cl := ⟨32, 0, 0, 0⟩
def zeroC : Cl := ⟨0, 0, 0, 0⟩
theorem cellV_len (c : Cl) : (cellV c).length = 4 := rfl
abbrev flat (L : List Cl) : List Value := L.flatMap cellV
theorem flat_ln (L : List Cl) : (flat L).length = L.length * 4 := fm_len cellV 4 cellV_len L
abbrev wsl (b n : Nat) : Sl := ⟨some ⟨b, 0, none⟩, n, n⟩
/-- a row of cells that owns block b -/
def Row (H : Heap) (b : Nat) (L : List Cl) : Prop := Whole H (wsl b L.length) (flat L) t_api_Cell 4
theorem Row.keep {S : Nat → Prop} {H H' : Heap} {b : Nat} {L : List Cl} (h : Row H b L) (hk : Keep S H H') (hs : ¬ S b) : Row H' b L := Whole.keep h hk fun k ⟨_, e, hk⟩ => by cases e; subst hk; exact hs
theorem Row.lt {H : Heap} {b : Nat} {L : List Cl} (h : Row H b L) : b < H.next := Whole.lt h ⟨_, rfl, rfl⟩
theorem Row.vw {H : Heap} {b : Nat} {L : List Cl} (h : Row H b L) : Vw H (wsl b L.length) b [] (flat L) [] t_api_Cell 4 := Whole.vw h
theorem Row.of {H : Heap} {b n : Nat} {L : List Cl} {A Z : List Value} (v : Vw H (wsl b n) b A (flat L) Z t_api_Cell 4) (hA : A = []) (hZ : Z = []) : Row H b L := by
  subst hA hZ
  have hn := v.hn
  rw [flat_ln] at hn
  have e : n = L.length := by simp at hn; omega
  subst e
  obtain ⟨_, _, _, h4, o, st, h5⟩ := v
  exact .inr ⟨b, L.length, rfl, flat_ln L, h4, o, st, by simpa using h5⟩

/-- a part of a row -/
def CV (H : Heap) (s : Sl) (b : Nat) (A cs Z : List Cl) : Prop := Vw H s b (flat A) (flat cs) (flat Z) t_api_Cell 4
theorem Row.cv {H : Heap} {b : Nat} {L : List Cl} (h : Row H b L) : CV H (wsl b L.length) b [] L [] := h.vw
theorem CV.n {H : Heap} {s : Sl} {b : Nat} {A cs Z : List Cl} (h : CV H s b A cs Z) : s.n = cs.length := by
  have := Vw.hn h; rw [flat_ln] at this; omega
theorem CV.row {H : Heap} {s : Sl} {b : Nat} {A cs Z : List Cl} (h : CV H s b A cs Z) : Row H b (A ++ (cs ++ Z)) := by
  obtain ⟨_, _, _, h4, o, st, h5⟩ := h
  exact .inr ⟨b, _, rfl, flat_ln _, h4, o, st, by simpa [flat] using h5⟩
theorem CV.sub {H : Heap} {s : Sl} {b : Nat} {A cs Z : List Cl} (h : CV H s b A cs Z) {l k : Nat} (h1 : l ≤ k) (h2 : k ≤ cs.length) : CV H (subS s l k 4) b (A ++ cs.take l) ((cs.drop l).take (k - l)) (cs.drop k ++ Z) := by
  have hn := h.n
  have := Vw.sub h h1 (by omega)
  rw [fm_take cellV 4 cellV_len, fm_drop cellV 4 cellV_len, fm_drop cellV 4 cellV_len, fm_take cellV 4 cellV_len, ← List.flatMap_append, ← List.flatMap_append] at this
  exact this
theorem CV.s_l {H : Heap} {s : Sl} {b : Nat} {A cs Z : List Cl} (h : CV H s b A cs Z) {l : Nat} {i : IntKind} (h2 : l ≤ cs.length) : readD (.subSl t_api_Cell 4 true false false) [s.v, .int i (l : Int)] H = some (subS s l cs.length 4).v := by
  have hn := h.n
  rw [Vw.s_l h (by omega), hn]
theorem CV.s_h {H : Heap} {s : Sl} {b : Nat} {A cs Z : List Cl} (h : CV H s b A cs Z) {k : Nat} {i : IntKind} (h2 : k ≤ cs.length) : readD (.subSl t_api_Cell 4 false true false) [s.v, .int i (k : Int)] H = some (subS s 0 k 4).v := by
  have hn := h.n
  exact Vw.s_h h (by omega)
theorem CV.src {H : Heap} {s : Sl} {b : Nat} {A cs Z : List Cl} (h : CV H s b A cs Z) {n : Nat} (hn : n ≤ cs.length) : srcCells H 4 n s.v = some (flat (cs.take n)) := by
  have := h.n
  rw [Vw.src h (by omega), fm_take cellV 4 cellV_len]
/-- cells are copied into a part of a row -/
theorem CV.copy {H : Heap} {s x : Sl} {b : Nat} {A cs Z : List Cl} (h : CV H s b A cs Z) {new : List Cl} (h2 : srcCells H 4 (min x.n cs.length) x.v = some (flat new)) (h3 : new.length = min x.n cs.length) :
    ∃ H', (∀ K, effK (.copy 4 false) [s.v, x.v] H K = K (.int .i64 (new.length : Int)) H') ∧ CV H' s b A (new ++ cs.drop new.length) Z ∧ Keep (fun k => k = b) H H' ∧ H'.next = H.next := by
  have hn := h.n
  obtain ⟨H', e1, e2, e3, e4⟩ := Vw.copy h (x := x.v) (m := x.n) (str := false) (flat new) (by omega) rfl (by rw [hn]; exact h2) (by rw [flat_ln, hn, h3])
  rw [flat_ln, fm_drop cellV 4 cellV_len, ← List.flatMap_append] at e2
  exact ⟨H', fun K => by rw [e1, hn, h3], e2, e3, e4⟩
theorem CV.keep {S : Nat → Prop} {H H' : Heap} {s : Sl} {b : Nat} {A cs Z : List Cl} (h : CV H s b A cs Z) (hk : Keep S H H') (hs : ¬ S b) : CV H' s b A cs Z := Vw.keep h hk hs

theorem blank_s (d : Nat) (H : Heap) : ∃ H', X (d + 1) n_grid_blank [] H = some (.agg ⟨cellV blank⟩, H') ∧ Keep0 H H' := by
  rw [grid_blank_eq]
  simp only [newK_s]
  have g : (H.new (.cells [.int .i32 0, .int .i64 0, .int .i64 0, .int .i64 0] t_api_Cell false 0 false)).get H.next = some (.cells [.int .i32 0, .int .i64 0, .int .i64 0, .int .i64 0] t_api_Cell false 0 false) := by simp
  have e : Heap.stN (H.new (.cells [.int .i32 0, .int .i64 0, .int .i64 0, .int .i64 0] t_api_Cell false 0 false)) ⟨H.next, 0, none⟩ [.int .i32 32, .int .i64 0, .int .i64 0, .int .i64 0] = some ((H.new (.cells [.int .i32 0, .int .i64 0, .int .i64 0, .int .i64 0] t_api_Cell false 0 false)).put H.next (.cells (cellV blank) t_api_Cell false 0 false)) := by
    simp only [Heap.stN, g]; rfl
  rw [e]
  simp only [optK_s]
  refine ⟨(H.new (.cells [.int .i32 0, .int .i64 0, .int .i64 0, .int .i64 0] t_api_Cell false 0 false)).put H.next (.cells (cellV blank) t_api_Cell false 0 false), ?_, ⟨by simp, fun k hk _ => by rw [Heap.get_put_ne _ _ (by omega), Heap.get_new_ne _ _ (by omega)]⟩⟩
  have hr : readD (.load 4 true) [P0 H.next] ((H.new (.cells [.int .i32 0, .int .i64 0, .int .i64 0, .int .i64 0] t_api_Cell false 0 false)).put H.next (.cells (cellV blank) t_api_Cell false 0 false)) = some (.agg ⟨cellV blank⟩) := by
    simp only [readD, if_true]
    rw [ldN_s (Heap.get_put_same _ H.next _) (by rw [cellV_len]; omega)]
    rfl
  simp only [retK, resL, show Fr.get [(0, P0 H.next)] 0 = some (P0 H.next) from rfl, hr]

theorem and32 {n : Nat} (h : n < 4294967296) : bitsI .and .u64 (n : Int) 4294967295 = (n : Int) := by
  have e1 : (BitVec.ofInt 64 (n : Int)).toNat = n := by
    rw [BitVec.toNat_ofInt]; omega
  have e2 : (BitVec.ofInt 64 4294967295).toNat = 2 ^ 32 - 1 := by decide
  have e3 : (BitVec.ofInt 64 (n : Int) &&& BitVec.ofInt 64 4294967295).toNat = n := by
    rw [BitVec.toNat_and, e1, e2, Nat.and_two_pow_sub_one_eq_mod]; omega
  show IntKind.wrap .u64 (((BitVec.ofInt 64 (n : Int) &&& BitVec.ofInt 64 4294967295).toNat : Nat) : Int) = (n : Int)
  rw [e3, u64w (by omega)]

theorem Mul_s (d n : Nat) (hn : n ≤ 1000) (H : Heap) : X (d + 2) n_math_bits_Mul [.int .u64 1, .int .u64 (n : Int)] H = some (.tuple #[.int .u64 0, .int .u64 (n : Int)], H) := by
  rw [math_bits_Mul_eq, math_bits_Mul64_eq]
  have f1 : Int.fdiv 1 4294967296 = 0 := by decide
  have f2 : Int.fdiv (n : Int) 4294967296 = 0 := by rw [Int.fdiv_eq_ediv_of_nonneg _ (by omega)]; omega
  have b1 : bitsI .and .u64 1 4294967295 = 1 := by decide
  have w0 : IntKind.wrap .u64 0 = 0 := by decide
  have b0 : bitsI .and .u64 0 4294967295 = 0 := by decide
  have z : Int.fdiv 0 4294967296 = 0 := by decide
  simp only [f1, f2, b1, and32 (show n < 4294967296 by omega), Int.zero_mul, Int.mul_zero, Int.one_mul, w0, u64w (show 0 ≤ (n : Int) ∧ (n : Int) < 18446744073709551616 by omega), Int.add_zero, b0, z, callK_s, castT_s, castL_c, castL_n, cast0, asI_s, List.getElem?_cons_zero, List.getElem?_cons_succ, optK_s]

theorem rep_cells (c : Cl) (n : Nat) : rep (cellV c) n = flat (List.replicate n c) := by
  induction n with
  | zero => rfl
  | succ n ih => simp only [rep, ih, List.replicate_succ, List.flatMap_cons]

theorem cellV_zero : [Value.int .i32 0, .int .i64 0, .int .i64 0, .int .i64 0] = cellV zeroC := rfl

/-- slices.Repeat of one cell -/
theorem Repeat_s (d n : Nat) (hn : n ≤ 1000) (c : Cl) (p : Nat) (H : Heap) (hp : H.get p = some (.cells (cellV c) t_api_Cell false 0 false)) (hlt : p < H.next) :
    ∃ b H', X (d + 3) n_slices_Repeat_S_api_Cell_api_Cell [.slice (some ⟨p, 0, none⟩) 1 1, .int .i64 (n : Int)] H = some ((wsl b n).v, H') ∧ H.next ≤ b ∧ Row H' b (List.replicate n c) ∧ Keep0 H H' := by
  have e0 := slices_Repeat_S_api_Cell_api_Cell_eq (d + 2) ⟨some ⟨p, 0, none⟩, 1, 1⟩ (n : Int) H
  simp only [Sl.v] at e0
  rw [e0, if_neg (by simp), slices_Repeat_S_api_Cell_api_Cell_p11_eq]
  rw [show IntKind.wrap .u64 (((1 : Nat) : Int)) = 1 from by decide, u64w (by omega), Mul_s d n hn]
  simp only [callK_s, castT_s, castL_c, castL_n, cast0, asI_s, List.getElem?_cons_zero, List.getElem?_cons_succ, optK_s]
  rw [if_neg (by decide), slices_Repeat_S_api_Cell_api_Cell_p110101_eq, if_neg (by simp; omega), slices_Repeat_S_api_Cell_api_Cell_p11011_eq, w64 (by omega)]
  have e1 : ∀ K, effK (.mkSl t_api_Cell 4 32 [.int .i32 0, .int .i64 0, .int .i64 0, .int .i64 0]) [.int .i64 (n : Int), .int .i64 (n : Int)] H K = K (.slice (some ⟨H.next, 0, none⟩) n n) (H.new (.cells (flat (List.replicate n zeroC)) t_api_Cell false 0 false)) := fun K => by
    simp only [effK, asN_s]
    rw [if_pos (by omega), Int.toNat_natCast, cellV_zero, rep_cells]
  rw [e1]
  simp only [asSL_s]
  have k1 : Keep0 H (H.new (.cells (flat (List.replicate n zeroC)) t_api_Cell false 0 false)) := Keep.new _ _
  have v1 : Vw (H.new (.cells (flat (List.replicate n zeroC)) t_api_Cell false 0 false)) (wsl H.next n) H.next [] (flat (List.replicate n zeroC)) [] t_api_Cell 4 := ⟨rfl, by rw [flat_ln, List.length_replicate], Nat.le_refl _, by simp, false, false, by simp⟩
  have vp : Vw (H.new (.cells (flat (List.replicate n zeroC)) t_api_Cell false 0 false)) ⟨some ⟨p, 0, none⟩, 1, 1⟩ p [] (cellV c) [] t_api_Cell 4 := ⟨rfl, rfl, Nat.le_refl _, by simp; omega, false, false, by rw [Heap.get_new_ne _ _ (by omega)]; simpa using hp⟩
  generalize H.new (.cells (flat (List.replicate n zeroC)) t_api_Cell false 0 false) = H1 at *
  obtain ⟨H2, e2, v2, k2, n2⟩ := v1.copy (x := .slice (some ⟨p, 0, none⟩) 1 1) (m := 1) (str := false) (flat (List.replicate (min 1 n) c)) (by omega) rfl (by
    have := vp.src (n := min 1 n) (by show min 1 n ≤ 1; omega)
    simp only [Sl.v] at this
    rw [this]
    rcases Nat.eq_zero_or_pos n with h | h
    · subst h; rfl
    · rw [Nat.min_eq_left (by omega)]; rfl) (by rw [flat_ln, List.length_replicate])
  rw [show ∀ (K : Value → Heap → Res), effK (.copy 4 false) [(⟨some ⟨H.next, 0, none⟩, n, n⟩ : Sl).v, .slice (some ⟨p, 0, none⟩) 1 1] H1 K = _ from e2]
  simp only [asI_s]
  -- doubling
  have hd : ∀ (j : Nat), j ≤ n → (flat (List.replicate j c) ++ (flat (List.replicate n zeroC)).drop (flat (List.replicate j c)).length) = flat (List.replicate j c ++ List.replicate (n - j) zeroC) := fun j hj => by
    rw [flat_ln, fm_drop cellV 4 cellV_len, List.length_replicate, List.drop_replicate]
    simp [flat]
  have loop : ∀ (m j : Nat) (H3 : Heap), j ≤ n → (n = 0 ∨ 0 < j) → n - j < m → CV H3 (wsl H.next n) H.next [] (List.replicate j c ++ List.replicate (n - j) zeroC) [] → Keep (fun k => k = H.next) H1 H3 →
      ∃ H', slices_Repeat_S_api_Cell_api_Cell_p1101101100 (d + 2) m (wsl H.next n) (j : Int) H3 = some ((wsl H.next n).v, H') ∧ Row H' H.next (List.replicate n c) ∧ Keep (fun k => k = H.next) H1 H' := by
    intro m
    induction m with
    | zero => intro j H3 _ _ h; omega
    | succ m ih =>
      intro j H3 hj h0 hm v k
      rw [slices_Repeat_S_api_Cell_api_Cell_p1101101100_s]
      by_cases c1 : j < n
      · have hlen : (List.replicate j c ++ List.replicate (n - j) zeroC).length = n := by simp; omega
        rw [if_pos (decide_eq_true (by show (j : Int) < (n : Int); omega)), v.s_l (by rw [hlen]; omega)]
        simp only [optK_s, asSL_k, hlen]
        rw [v.s_h (by rw [hlen]; omega)]
        simp only [optK_s, asSL_k]
        have va := v.sub (l := j) (k := n) (by omega) (by simp; omega)
        have vb := v.sub (l := 0) (k := j) (by omega) (by simp)
        have t1 : (List.replicate j c ++ List.replicate (n - j) zeroC).take j = List.replicate j c := by rw [List.take_append_of_le_length (by simp), List.take_replicate, Nat.min_self]
        have t2 : (List.replicate j c ++ List.replicate (n - j) zeroC).drop j = List.replicate (n - j) zeroC := by rw [List.drop_append_of_le_length (by simp), List.drop_replicate, Nat.sub_self, List.replicate_zero, List.nil_append]
        have t3 : (List.replicate j c ++ List.replicate (n - j) zeroC).drop n = [] := List.drop_eq_nil_of_le (by simp; omega)
        rw [t1, t2, t3, List.take_replicate, Nat.min_self] at va
        rw [List.drop_zero, Nat.sub_zero, t1] at vb
        have hsb : (subS (wsl H.next n) 0 j 4).n = j := rfl
        obtain ⟨H4, e4, v4, k4, n4⟩ := va.copy (x := subS (wsl H.next n) 0 j 4) (new := List.replicate (min j (n - j)) c) (by
          rw [List.length_replicate, hsb, vb.src (by rw [List.length_replicate]; exact Nat.min_le_left _ _), List.take_replicate, Nat.min_eq_left (Nat.min_le_left _ _)]) (by rw [List.length_replicate, List.length_replicate, hsb])
        rw [e4]
        simp only [asI_s, List.length_replicate]
        have hjm : (j : Int) + ((min j (n - j) : Nat) : Int) = ((j + min j (n - j) : Nat) : Int) := by omega
        rw [hjm, w64 (by omega)]
        refine ih (j + min j (n - j)) H4 (by omega) (by omega) (by omega) ?_ (k.trans k4 fun _ _ h => h)
        have hr := v4.row.cv
        have hl : [] ++ List.replicate j c ++ (List.replicate (min j (n - j)) c ++ (List.replicate (n - j) zeroC).drop (List.replicate (min j (n - j)) c).length ++ ([] ++ [])) = List.replicate (j + min j (n - j)) c ++ List.replicate (n - (j + min j (n - j))) zeroC := by
          rw [List.length_replicate, List.drop_replicate, List.nil_append, List.append_nil, List.append_nil, ← List.append_assoc, List.replicate_append_replicate, Nat.sub_sub]
        rw [hl] at hr
        have hln : (List.replicate (j + min j (n - j)) c ++ List.replicate (n - (j + min j (n - j))) zeroC).length = n := by simp; omega
        rw [hln] at hr
        exact hr
      · have hjn : j = n := by omega
        subst hjn
        rw [if_neg (by rw [decide_eq_true_eq]; show ¬ (j : Int) < (j : Int); omega)]
        rw [Nat.sub_self, List.replicate_zero, List.append_nil] at v
        have hr := v.row
        simp only [List.nil_append, List.append_nil] at hr
        exact ⟨H3, rfl, hr, k⟩
  have v2' : CV H2 (wsl H.next n) H.next [] (List.replicate (min 1 n) c ++ List.replicate (n - min 1 n) zeroC) [] := by
    rw [hd _ (Nat.min_le_right _ _)] at v2
    exact v2
  obtain ⟨H', f1, f2, f3⟩ := loop NN (min 1 n) H2 (Nat.min_le_right _ _) (by omega) (NN_big _ (by omega)) v2' k2
  exact ⟨H.next, H', f1, Nat.le_refl _, f2, Keep.fresh k1 f3 fun k e => by omega⟩

theorem line_s (d n : Nat) (hn : n ≤ 1000) (H : Heap) : ∃ b H', X (d + 4) n_grid_line [.int .i64 (n : Int)] H = some ((wsl b n).v, H') ∧ H.next ≤ b ∧ Row H' b (List.replicate n blank) ∧ Keep0 H H' := by
  rw [grid_line_eq]
  obtain ⟨H2, e, k2⟩ := blank_s (d + 2) H
  rw [e]
  simp only [callK_s, asA_s]
  have hf : fillL [(0, 4)] [.agg ⟨cellV blank⟩] [.int .i32 0, .int .i64 0, .int .i64 0, .int .i64 0] = some (cellV blank) := by rfl
  rw [hf]
  simp only [optK_s, newK_s]
  have k6 : Keep0 H2 (H2.new (.cells (cellV blank) t_api_Cell false 0 false)) := Keep.new _ _
  obtain ⟨b, H', f, hb, hr, k⟩ := Repeat_s d n hn blank H2.next (H2.new (.cells (cellV blank) t_api_Cell false 0 false)) (by simp) (by simp)
  rw [f]
  simp only [callK_s, asSL_k]
  have n2 := k2.1
  exact ⟨b, H', rfl, by simp at hb; omega, hr, (k2.trans k6).trans k⟩

/-! ### sheets -/
/-- rows: each with its block -/
abbrev Q := List (Nat × List Cl)
def rowV (x : Nat × List Cl) : Value := (wsl x.1 x.2.length).v
def bl (q : Q) (k : Nat) : Prop := ∃ x ∈ q, x.1 = k
def Rows (H : Heap) (q : Q) : Prop := (∀ x ∈ q, Row H x.1 x.2) ∧ (q.map Prod.fst).Nodup
/-- a slice over such rows -/
def Outer (H : Heap) (s : Sl) (q : Q) : Prop := Whole H s (q.map rowV) t_S_api_Cell 1
theorem Outer.n {H : Heap} {s : Sl} {q : Q} (h : Outer H s q) : s.n = q.length := by
  have := (Whole.len h).1; simp at this; omega
theorem Rows.keep {S : Nat → Prop} {H H' : Heap} {q : Q} (h : Rows H q) (hk : Keep S H H') (hs : ∀ k, bl q k → ¬ S k) : Rows H' q := ⟨fun x hx => (h.1 x hx).keep hk (hs _ ⟨x, hx, rfl⟩), h.2⟩
theorem Rows.lt {H : Heap} {q : Q} (h : Rows H q) {k : Nat} (hk : bl q k) : k < H.next := by
  obtain ⟨x, hx, rfl⟩ := hk; exact (h.1 x hx).lt
theorem bl_nil {k : Nat} : ¬ bl [] k := fun ⟨_, h, _⟩ => by cases h
theorem bl_app {q q' : Q} {k : Nat} : bl (q ++ q') k ↔ bl q k ∨ bl q' k := by
  constructor
  · rintro ⟨x, hx, h⟩
    rcases List.mem_append.1 hx with hx | hx
    · exact .inl ⟨x, hx, h⟩
    · exact .inr ⟨x, hx, h⟩
  · rintro (⟨x, hx, h⟩ | ⟨x, hx, h⟩)
    · exact ⟨x, List.mem_append.2 (.inl hx), h⟩
    · exact ⟨x, List.mem_append.2 (.inr hx), h⟩
theorem Rows.app {H : Heap} {q q' : Q} (h : Rows H q) (h' : Rows H q') (hd : ∀ k, bl q k → ¬ bl q' k) : Rows H (q ++ q') := by
  refine ⟨fun x hx => (List.mem_append.1 hx).elim (h.1 x) (h'.1 x), ?_⟩
  rw [List.map_append, List.nodup_append]
  refine ⟨h.2, h'.2, fun a ha b hb e => ?_⟩
  obtain ⟨x, hx, rfl⟩ := List.mem_map.1 ha
  obtain ⟨y, hy, rfl⟩ := List.mem_map.1 hb
  exact hd x.1 ⟨x, hx, rfl⟩ ⟨y, hy, e.symm⟩
theorem Rows.sub {H : Heap} {q q' : Q} (h : Rows H q) (hs : q'.Sublist q) : Rows H q' := ⟨fun x hx => h.1 x (hs.subset hx), h.2.sublist (hs.map _)⟩
/-- one more row -/
theorem Outer.push {H : Heap} {s : Sl} {q : Q} (h : Outer H s q) (hq : q.length ≤ 100000) (b : Nat) (L : List Cl) :
    ∃ s' H', (∀ K, appendK t_S_api_Cell 1 24 false s.v (.slice (some ⟨H.next, 0, none⟩) 1 1) (H.new (.cells [(wsl b L.length).v] t_S_api_Cell false 0 false)) K = K s'.v H') ∧ Outer H' s' (q ++ [(b, L)]) ∧ Keep s.at H H' ∧ (∀ k, s'.at k → H.next < k) := by
  have hn := h.n
  obtain ⟨s', H', e1, e2, e3, _, e5, _⟩ := push_whole (bytes := 24) (new := [(wsl b L.length).v]) h rfl (by omega) (by omega) (by omega)
  exact ⟨s', H', e1, by unfold Outer; rw [List.map_append]; exact e2, e3, e5⟩

theorem sheet_s (d r n : Nat) (hr : r ≤ 1000) (hn : n ≤ 1000) (H : Heap) : ∃ s q H', X (d + 5) n_grid_sheet [.int .i64 (r : Int), .int .i64 (n : Int)] H = some (Sl.v s, H') ∧ Outer H' s q ∧ Rows H' q ∧ q.map Prod.snd = List.replicate r (List.replicate n blank) ∧ (∀ k, s.at k → H.next ≤ k) ∧ (∀ k, bl q k → H.next ≤ k) ∧ (∀ k, s.at k → ¬ bl q k) ∧ Keep0 H H' := by
  rw [grid_sheet_eq]
  have loop : ∀ (m i : Nat) (s : Sl) (q : Q) (H1 : Heap), i ≤ r → r - i < m → Outer H1 s q → Rows H1 q → q.map Prod.snd = List.replicate i (List.replicate n blank) → (∀ k, s.at k → H.next ≤ k) → (∀ k, bl q k → H.next ≤ k) → (∀ k, s.at k → ¬ bl q k) → Keep0 H H1 →
      ∃ y p H', grid_sheet_p11010 (d + 4) m (n : Int) s (r : Int) (i : Int) H1 = some (Sl.v y, H') ∧ Outer H' y p ∧ Rows H' p ∧ p.map Prod.snd = List.replicate r (List.replicate n blank) ∧ (∀ k, y.at k → H.next ≤ k) ∧ (∀ k, bl p k → H.next ≤ k) ∧ (∀ k, y.at k → ¬ bl p k) ∧ Keep0 H H' := by
    intro m
    induction m with
    | zero => intro i s q H1 h1 h2; omega
    | succ m ih =>
      intro i s q H1 hi hm ho hq hL h1 h2 h3 hk
      rw [grid_sheet_p11010_s]
      by_cases c : i < r
      · rw [if_pos (decide_eq_true (by omega))]
        obtain ⟨b, H2, e2, hb, hrow, k2⟩ := line_s d n hn H1
        rw [e2]
        simp only [callK_s, asSL_k, newK_s]
        have ho2 : Outer H2 s q := Whole.keep ho k2 fun _ _ h => h
        have hq2 := hq.keep k2 fun _ _ h => h
        have hql : q.length = i := by rw [← List.length_map (f := Prod.snd), hL, List.length_replicate]
        obtain ⟨s', H', e1, ho', k3, hs'⟩ := ho2.push (by omega) b (List.replicate n blank)
        rw [List.length_replicate] at e1
        rw [show (⟨some ⟨b, 0, none⟩, n, n⟩ : Sl).v = (wsl b n).v from rfl] at *
        rw [e1]
        simp only [asSL_k]
        rw [wi (by omega)]
        have hn1 := hk.1
        have hn2 := k2.1
        have hbH : ∀ k, s.at k → k < H1.next := fun k h => Whole.lt ho h
        refine ih (i + 1) s' (q ++ [(b, List.replicate n blank)]) H' (by omega) (by omega) ho' ?_ ?_ (fun k h => by have := hs' k h; omega) (fun k h => ?_) (fun k h h' => ?_) ?_
        · refine Rows.app (hq2.keep k3 fun k h h' => h3 k h' h) ⟨fun x hx => ?_, by simp⟩ (fun k h ⟨x, hx, e⟩ => ?_)
          · simp only [List.mem_singleton] at hx; subst hx
            exact hrow.keep k3 fun h => by have := hbH b h; omega
          · simp only [List.mem_singleton] at hx; subst hx
            have := hq.lt h; simp only at e; omega
        · rw [List.map_append, hL, List.map_cons, List.map_nil, List.replicate_succ']
        · rcases bl_app.1 h with h | ⟨x, hx, e⟩
          · exact h2 k h
          · simp only [List.mem_singleton] at hx; subst hx; simp only at e; omega
        · have hlt := hs' k h
          rcases bl_app.1 h' with h' | ⟨x, hx, e⟩
          · have := hq2.lt h'; omega
          · simp only [List.mem_singleton] at hx; subst hx; have := hrow.lt; simp only at e; omega
        · exact (hk.trans k2).fresh k3 h1
      · rw [if_neg (by rw [decide_eq_true_eq]; omega)]
        have : i = r := by omega
        subst this
        exact ⟨s, q, H1, rfl, ho, hq, hL, h1, h2, h3, hk⟩
  have := loop NN 0 Sl.nil [] H (by omega) (NN_big _ (by omega)) (.inl ⟨rfl, rfl⟩) ⟨(fun _ h => nomatch h), by simp⟩ rfl (fun k h => absurd h Sl.at_nil) (fun k h => absurd h bl_nil) (fun k h => absurd h Sl.at_nil) (Keep.refl _)
  exact this
end Go.Proofs.YtkkhljcjjhcnhaaGreatDoor.dec

namespace Go.Proofs.YtkkhljcjjhcnhaaGreatDoor.dec
open Go Go.Cm

attribute [local congr] optK_congr asI_congr asN_congr asB_congr asS_congr asP_congr asA_congr asSL_congr callK_congr castT_congr chk_congr

/-! ### copies -/
/-- a slice that owns a block, or none -/
theorem Clone_s (d : Nat) {H : Heap} {s : Sl} {b : Nat} {A cs Z : List Cl} (v : CV H s b A cs Z) (hl : cs.length ≤ 100000) : ∃ y H', X (d + 1) n_slices_Clone_S_api_Cell_api_Cell [s.v] H = some (Sl.v y, H') ∧ Whole H' y (flat cs) t_api_Cell 4 ∧ (∀ k, y.at k → H.next ≤ k) ∧ y.n = cs.length ∧ Keep0 H H' := by
  have hn := v.n
  rw [slices_Clone_S_api_Cell_api_Cell_eq, if_neg (by rw [Vw.sa v]; simp), newK_s]
  have k1 : Keep0 H (H.new (.cells [] t_api_Cell false 0 false)) := Keep.new _ _
  have w1 : Whole (H.new (.cells [] t_api_Cell false 0 false)) ⟨some ⟨H.next, 0, none⟩, 0, 0⟩ [] t_api_Cell 4 := .inr ⟨H.next, 0, rfl, rfl, by simp, false, false, by simp⟩
  have v1 := v.keep k1 (fun h => h)
  generalize hH1 : H.new (.cells [] t_api_Cell false 0 false) = H1 at *
  have n1 : H1.next = H.next + 1 := by rw [← hH1]; simp
  obtain ⟨y, H', e1, e2, e3, e4, e5, _⟩ := append_whole (bytes := 32) (str := false) (x := s.v) (n := s.n) (new := flat cs) w1 rfl (by rw [v1.src (by omega), hn, List.take_length]) (by rw [flat_ln, hn]) (by show (0 + s.n) * 32 ≤ _; omega) (by omega) (by omega)
  rw [show (Value.slice (some ⟨H.next, 0, none⟩) 0 0) = (⟨some ⟨H.next, 0, none⟩, 0, 0⟩ : Sl).v from rfl, e1]
  simp only [asSL_k]
  refine ⟨y, H', rfl, by simpa using e2, fun k hk => ?_, by rw [e5, hn]; show 0 + cs.length = _; omega, k1.fresh e3 fun k hk => ?_⟩
  · rcases e4 k hk with ⟨_, h1, h2⟩ | h
    · cases h1; simp only at h2; omega
    · omega
  · obtain ⟨_, h1, h2⟩ := hk; cases h1; simp only at h2; omega

theorem Whole.row {H : Heap} {y : Sl} {L : List Cl} (h : Whole H y (flat L) t_api_Cell 4) (hL : L ≠ []) : ∃ b, y = wsl b L.length ∧ Row H b L := by
  rcases h with ⟨rfl, h⟩ | ⟨b, n, rfl, h1, h2, o, st, h3⟩
  · have := congrArg List.length h; rw [flat_ln] at this
    cases L with
    | nil => exact absurd rfl hL
    | cons _ _ => simp at this
  · rw [flat_ln] at h1
    have : n = L.length := by omega
    subst this
    exact ⟨b, rfl, .inr ⟨b, _, rfl, flat_ln L, h2, o, st, h3⟩⟩

/-- a view of rows -/
def OV (H : Heap) (s : Sl) (b : Nat) (A q Z : List Value) : Prop := Vw H s b A q Z t_S_api_Cell 1
theorem Outer.ov {H : Heap} {s : Sl} {q : Q} (h : Outer H s q) (hne : s.a ≠ none) : ∃ b, OV H s b [] (q.map rowV) [] ∧ s.at b := Vw.of h hne
theorem Outer.some {H : Heap} {s : Sl} {q : Q} (h : Outer H s q) (hq : q ≠ []) : s.a ≠ none := by
  rcases h with ⟨_, h⟩ | ⟨b, n, rfl, _⟩
  · exact absurd (List.map_eq_nil_iff.1 h) hq
  · simp

/-- one row of a view -/
theorem OV.ld {H : Heap} {s : Sl} {b : Nat} {A Z : List Value} {q : Q} (h : OV H s b A (q.map rowV) Z) {i : Nat} {x : Nat × List Cl} (hx : q[i]? = some x) : ∃ a, s.a = some a ∧ Heap.ld1 H (ap a (i * 1)) = some (rowV x) := by
  refine ⟨_, Vw.sa h, ?_⟩
  have := Vw.ld h (i := i) (x := rowV x) (by simp [hx])
  simpa [ap] using this

theorem copied_s (d : Nat) {H : Heap} {s : Sl} {b : Nat} {A Z : List Value} {q : Q} (v : OV H s b A (q.map rowV) Z ∨ (s = Sl.nil ∧ q = [])) (hr : Rows H q) (hne : ∀ x ∈ q, x.2 ≠ [] ∧ x.2.length ≤ 1000) (hq : q.length ≤ 10000) :
    ∃ y p H', X (d + 2) n_grid_copied [s.v] H = some (Sl.v y, H') ∧ Outer H' y p ∧ Rows H' p ∧ p.map Prod.snd = q.map Prod.snd ∧ (∀ k, y.at k → H.next ≤ k) ∧ (∀ k, bl p k → H.next ≤ k) ∧ (∀ k, y.at k → ¬ bl p k) ∧ Keep0 H H' := by
  rw [grid_copied_eq]
  have hn : s.n = q.length := by
    rcases v with v | ⟨rfl, rfl⟩
    · have := Vw.hn v; simp at this; omega
    · rfl
  have loop : ∀ (m i : Nat) (y : Sl) (p : Q) (H1 : Heap), i ≤ q.length → q.length - i < m → Outer H1 y p → Rows H1 p → p.map Prod.snd = (q.take i).map Prod.snd → (∀ k, y.at k → H.next ≤ k) → (∀ k, bl p k → H.next ≤ k) → (∀ k, y.at k → ¬ bl p k) → Keep0 H H1 →
      ∃ y' p' H', grid_copied_p11010 (d + 1) m y s (s.n : Int) (i : Int) H1 = some (Sl.v y', H') ∧ Outer H' y' p' ∧ Rows H' p' ∧ p'.map Prod.snd = q.map Prod.snd ∧ (∀ k, y'.at k → H.next ≤ k) ∧ (∀ k, bl p' k → H.next ≤ k) ∧ (∀ k, y'.at k → ¬ bl p' k) ∧ Keep0 H H' := by
    intro m
    induction m with
    | zero => intro i y p H1 h1 h2; omega
    | succ m ih =>
      intro i y p H1 hi hm ho hp hL h1 h2 h3 hk
      rw [grid_copied_p11010_s]
      by_cases c : i < q.length
      · rw [if_pos (decide_eq_true (by omega))]
        have hx : q[i]? = some q[i] := List.getElem?_eq_getElem c
        have hmem : q[i] ∈ q := List.getElem_mem c
        have htk : q.take (i + 1) = q.take i ++ [q[i]] := by rw [List.take_add_one, hx]; rfl
        generalize q[i] = x at hx hmem htk
        have v' : OV H1 s b A (q.map rowV) Z := by
          rcases v with v | ⟨_, rfl⟩
          · exact Vw.keep v hk id
          · cases hx
        obtain ⟨a, ea, eb⟩ := v'.ld hx
        rw [ea]
        simp only [optK_s]
        rw [if_pos (by omega), Int.toNat_natCast, eb]
        simp only [optK_s, rowV, asSL_k2]
        have hrow := (hr.1 x hmem).keep hk id
        obtain ⟨hx1, hx2⟩ := hne x hmem
        obtain ⟨z, H2, e2, w2, w3, _, k2⟩ := Clone_s d hrow.cv (by omega)
        rw [e2]
        simp only [callK_s, asSL_k, newK_s]
        obtain ⟨b2, rfl, r2⟩ := Whole.row w2 hx1
        have hb2 : H1.next ≤ b2 := w3 b2 ⟨_, rfl, rfl⟩
        have ho2 : Outer H2 y p := Whole.keep ho k2 fun _ _ h => h
        have hp2 := hp.keep k2 fun _ _ h => h
        have hpl : p.length = i := by rw [← List.length_map (f := Prod.snd), hL, List.length_map, List.length_take]; omega
        obtain ⟨y', H', e1, ho', k3, hy'⟩ := ho2.push (by omega) b2 x.2
        rw [e1]
        simp only [asSL_k]
        rw [wi (by omega)]
        have hn1 := hk.1
        have hn2 := k2.1
        have hbH : ∀ k, y.at k → k < H1.next := fun k h => Whole.lt ho h
        refine ih (i + 1) y' (p ++ [(b2, x.2)]) H' (by omega) (by omega) ho' ?_ ?_ (fun k h => by have := hy' k h; omega) (fun k h => ?_) (fun k h h' => ?_) ?_
        · refine Rows.app (hp2.keep k3 fun k h h' => h3 k h' h) ⟨fun z hz => ?_, by simp⟩ (fun k h ⟨z, hz, e⟩ => ?_)
          · simp only [List.mem_singleton] at hz; subst hz
            exact r2.keep k3 fun h => by have := hbH b2 h; omega
          · simp only [List.mem_singleton] at hz; subst hz
            have := hp.lt h; simp only at e; omega
        · rw [List.map_append, hL, htk, List.map_append]; rfl
        · rcases bl_app.1 h with h | ⟨z, hz, e⟩
          · exact h2 k h
          · simp only [List.mem_singleton] at hz; subst hz; simp only at e; omega
        · have hlt := hy' k h
          rcases bl_app.1 h' with h' | ⟨z, hz, e⟩
          · have := hp2.lt h'; omega
          · simp only [List.mem_singleton] at hz; subst hz; have := r2.lt; simp only at e; omega
        · exact (hk.trans k2).fresh k3 h1
      · rw [if_neg (by rw [decide_eq_true_eq]; omega)]
        rw [List.take_of_length_le (by omega)] at hL
        exact ⟨y, p, H1, rfl, ho, hp, hL, h1, h2, h3, hk⟩
  exact loop NN 0 Sl.nil [] H (by omega) (NN_big _ (by omega)) (.inl ⟨rfl, rfl⟩) ⟨(fun _ h => nomatch h), by simp⟩ rfl (fun k h => absurd h Sl.at_nil) (fun k h => absurd h bl_nil) (fun k h => absurd h Sl.at_nil) (Keep.refl _)

/-! ### the grid's cells -/
structure Sc where
  rows : Nat
  cols : Nat
  row : Nat
  col : Nat
  due : Bool
  st : Cl
  srow : Nat
  scol : Nat
  sdue : Bool
  sst : Cl
  top : Nat
  bottom : Nat
  wrap : Bool
  insert : Bool
  hidden : Bool
  arow : Nat
  acol : Nat
  adue : Bool
  ast : Cl
/-- a grid, in plain words -/
structure G where
  c : Sc
  L : List (List Cl)
  tabs : List Bool
  other : Option (List (List Cl))
  past : List (List Cl)
/-- where it lies -/
structure GD where
  p : Nat
  pp : Nat
  cells : Sl
  q : Q
  tabs : Sl
  other : Sl
  oq : Q
  past : Sl
  pq : Q
def gridL (c : Sc) (D : GD) : List Value := [.int .i64 c.rows, .int .i64 c.cols, D.cells.v, .int .i64 c.row, .int .i64 c.col, .bool c.due, .int .i32 c.st.r, .int .i64 c.st.f, .int .i64 c.st.b, .int .i64 c.st.s,
  .int .i64 c.srow, .int .i64 c.scol, .bool c.sdue, .int .i32 c.sst.r, .int .i64 c.sst.f, .int .i64 c.sst.b, .int .i64 c.sst.s, .int .i64 c.top, .int .i64 c.bottom, .bool c.wrap, .bool c.insert, .bool c.hidden, D.tabs.v, D.other.v,
  .int .i64 c.arow, .int .i64 c.acol, .bool c.adue, .int .i32 c.ast.r, .int .i64 c.ast.f, .int .i64 c.ast.b, .int .i64 c.ast.s, D.past.v, P0 D.pp]
def GD.cmp (D : GD) : Nat → Nat → Prop
  | 0 => (· = D.p)
  | 1 => D.cells.at
  | 2 => bl D.q
  | 3 => D.tabs.at
  | 4 => D.other.at
  | 5 => bl D.oq
  | 6 => D.past.at
  | 7 => bl D.pq
  | _ => fun _ => False
def GD.foot (D : GD) (k : Nat) : Prop := ∃ i, D.cmp i k
/-- the past: at the end of its block -/
def PastO (H : Heap) (s : Sl) (q : Q) : Prop := (s = Sl.nil ∧ q = []) ∨ ∃ b A, OV H s b A (q.map rowV) [] ∧ s.c = s.n
def OtherO (H : Heap) (s : Sl) (q : Q) (o : Option (List (List Cl))) : Prop := match o with
  | none => s = Sl.nil ∧ q = []
  | some M => s.a ≠ none ∧ Outer H s q ∧ q.map Prod.snd = M
/-- the stops: at the end of what they may have -/
def TabO (H : Heap) (s : Sl) (cs : List Value) : Prop := (s = Sl.nil ∧ cs = []) ∨ ∃ b Z, Vw H s b [] cs Z t_bool 1 ∧ s.c = s.n
theorem TabO.of {H : Heap} {s : Sl} {cs : List Value} (h : Whole H s cs t_bool 1) : TabO H s cs := by
  rcases h with ⟨h1, h2⟩ | ⟨b, n, rfl, h1, h2, o, st, h3⟩
  · exact .inl ⟨h1, h2⟩
  · exact .inr ⟨b, [], ⟨rfl, h1, Nat.le_refl _, h2, o, st, by simpa using h3⟩, rfl⟩
theorem TabO.keep {S : Nat → Prop} {H H' : Heap} {s : Sl} {cs : List Value} (h : TabO H s cs) (hk : Keep S H H') (hs : ∀ k, s.at k → ¬ S k) : TabO H' s cs := by
  rcases h with h | ⟨b, Z, v, hc⟩
  · exact .inl h
  · exact .inr ⟨b, Z, v.keep hk (hs b v.at), hc⟩
theorem TabO.lt {H : Heap} {s : Sl} {cs : List Value} (h : TabO H s cs) {k : Nat} (hk : s.at k) : k < H.next := by
  rcases h with ⟨rfl, _⟩ | ⟨b, Z, v, _⟩
  · exact absurd hk Sl.at_nil
  · obtain ⟨a, h1, rfl⟩ := hk
    rw [v.sa] at h1; cases h1; exact v.lt
theorem TabO.n {H : Heap} {s : Sl} {cs : List Value} (h : TabO H s cs) : s.n = cs.length := by
  rcases h with ⟨rfl, rfl⟩ | ⟨b, Z, v, _⟩
  · rfl
  · have := v.hn; omega
theorem TabO.vw {H : Heap} {s : Sl} {cs : List Value} (h : TabO H s cs) (hn : 0 < cs.length) : ∃ b Z, Vw H s b [] cs Z t_bool 1 ∧ s.c = s.n := by
  rcases h with ⟨rfl, rfl⟩ | h
  · simp at hn
  · exact h
structure Rep (H : Heap) (D : GD) (g : G) : Prop where
  get : H.get D.p = some (.cells (gridL g.c D) t_grid_Grid false 0 false)
  lt : D.p < H.next
  co : Outer H D.cells D.q
  cr : Rows H D.q
  cL : D.q.map Prod.snd = g.L
  ta : TabO H D.tabs (g.tabs.map Value.bool)
  oo : OtherO H D.other D.oq g.other
  or : Rows H D.oq
  po : PastO H D.past D.pq
  pr : Rows H D.pq
  pL : D.pq.map Prod.snd = g.past
  sep : ∀ i j k, D.cmp i k → D.cmp j k → i = j
end Go.Proofs.YtkkhljcjjhcnhaaGreatDoor.dec

namespace Go.Proofs.YtkkhljcjjhcnhaaGreatDoor.dec
open Go Go.Cm

attribute [local congr] optK_congr asI_congr asN_congr asB_congr asS_congr asP_congr asA_congr asSL_congr callK_congr castT_congr chk_congr

/-- what a call may turn -/
structure Stp (H : Heap) (D : GD) (H' : Heap) (D' : GD) : Prop where
  p : D'.p = D.p
  pp : D'.pp = D.pp
  kp : Keep D.foot H H'
  ft : ∀ k, D'.foot k → D.foot k ∨ H.next ≤ k
theorem Stp.refl (H : Heap) (D : GD) : Stp H D H D := ⟨rfl, rfl, Keep.refl _, fun _ h => .inl h⟩
theorem Stp.trans {H H' H'' : Heap} {D D' D'' : GD} (h : Stp H D H' D') (h' : Stp H' D' H'' D'') : Stp H D H'' D'' :=
  ⟨h'.p.trans h.p, h'.pp.trans h.pp, h.kp.trans h'.kp fun k hk hf => (h.ft k hf).elim id (fun e => by omega), fun k hk => by
    rcases h'.ft k hk with e | e
    · exact h.ft k e
    · have := h.kp.1; exact .inr (by omega)⟩
theorem Stp.new {H H' : Heap} {D : GD} (h : Keep0 H H') : Stp H D H' D := ⟨rfl, rfl, h.to, fun _ h => .inl h⟩
theorem Stp.of {H H' : Heap} {D : GD} {S : Nat → Prop} (h : Keep S H H') (hs : ∀ k, S k → D.foot k) : Stp H D H' D := ⟨rfl, rfl, h.mono fun k _ e => hs k e, fun _ h => .inl h⟩

section
variable {H H' : Heap} {D : GD} {g : G} {S : Nat → Prop} {i : Nat}
theorem Rep.o0 (h : Rep H D g) (hk : Keep S H H') (hS : ∀ k, S k → D.cmp i k) (hi : i ≠ 0) : H'.get D.p = some (.cells (gridL g.c D) t_grid_Grid false 0 false) := (hk.2 _ h.lt fun e => hi (h.sep _ _ _ (hS _ e) (show D.cmp 0 D.p from rfl))).trans h.get
theorem Rep.o1 (h : Rep H D g) (hk : Keep S H H') (hS : ∀ k, S k → D.cmp i k) (hi : i ≠ 1) : Outer H' D.cells D.q := Whole.keep h.co hk fun k e hs => hi (h.sep _ _ k (hS k hs) (show D.cmp 1 k from e))
theorem Rep.o2 (h : Rep H D g) (hk : Keep S H H') (hS : ∀ k, S k → D.cmp i k) (hi : i ≠ 2) : Rows H' D.q := h.cr.keep hk fun k e hs => hi (h.sep _ _ k (hS k hs) (show D.cmp 2 k from e))
theorem Rep.o3 (h : Rep H D g) (hk : Keep S H H') (hS : ∀ k, S k → D.cmp i k) (hi : i ≠ 3) : TabO H' D.tabs (g.tabs.map Value.bool) := TabO.keep h.ta hk fun k e hs => hi (h.sep _ _ k (hS k hs) (show D.cmp 3 k from e))
theorem OtherO.keep {s : Sl} {q : Q} {o : Option (List (List Cl))} (h : OtherO H s q o) (hk : Keep S H H') (hs : ∀ k, s.at k → ¬ S k) : OtherO H' s q o := by
  cases o with
  | none => exact h
  | some M => exact ⟨h.1, Whole.keep h.2.1 hk hs, h.2.2⟩
theorem PastO.keep {s : Sl} {q : Q} (h : PastO H s q) (hk : Keep S H H') (hs : ∀ k, s.at k → ¬ S k) : PastO H' s q := by
  rcases h with h | ⟨b, A, h, hc⟩
  · exact .inl h
  · exact .inr ⟨b, A, Vw.keep h hk (hs b (Vw.at h)), hc⟩
theorem Rep.o4 (h : Rep H D g) (hk : Keep S H H') (hS : ∀ k, S k → D.cmp i k) (hi : i ≠ 4) : OtherO H' D.other D.oq g.other := h.oo.keep hk fun k e hs => hi (h.sep _ _ k (hS k hs) (show D.cmp 4 k from e))
theorem Rep.o5 (h : Rep H D g) (hk : Keep S H H') (hS : ∀ k, S k → D.cmp i k) (hi : i ≠ 5) : Rows H' D.oq := h.or.keep hk fun k e hs => hi (h.sep _ _ k (hS k hs) (show D.cmp 5 k from e))
theorem Rep.o6 (h : Rep H D g) (hk : Keep S H H') (hS : ∀ k, S k → D.cmp i k) (hi : i ≠ 6) : PastO H' D.past D.pq := h.po.keep hk fun k e hs => hi (h.sep _ _ k (hS k hs) (show D.cmp 6 k from e))
theorem Rep.o7 (h : Rep H D g) (hk : Keep S H H') (hS : ∀ k, S k → D.cmp i k) (hi : i ≠ 7) : Rows H' D.pq := h.pr.keep hk fun k e hs => hi (h.sep _ _ k (hS k hs) (show D.cmp 7 k from e))
/-- what is new leaves it alone -/
theorem Rep.new (h : Rep H D g) (hk : Keep0 H H') : Rep H' D g :=
  ⟨h.o0 (i := 8) hk (fun _ e => e.elim) (by decide), Nat.lt_of_lt_of_le h.lt hk.1, h.o1 (i := 8) hk (fun _ e => e.elim) (by decide), h.o2 (i := 8) hk (fun _ e => e.elim) (by decide), h.cL, h.o3 (i := 8) hk (fun _ e => e.elim) (by decide), h.o4 (i := 8) hk (fun _ e => e.elim) (by decide),
    h.o5 (i := 8) hk (fun _ e => e.elim) (by decide), h.o6 (i := 8) hk (fun _ e => e.elim) (by decide), h.o7 (i := 8) hk (fun _ e => e.elim) (by decide), h.pL, h.sep⟩
theorem Rep.keep (h : Rep H D g) (hk : Keep S H H') (hs : ∀ k, D.foot k → ¬ S k) : Rep H' D g := by
  have c : ∀ i k, D.cmp i k → ¬ S k := fun i k e => hs k ⟨i, e⟩
  exact ⟨(hk.2 _ h.lt (c 0 _ rfl)).trans h.get, Nat.lt_of_lt_of_le h.lt hk.1, Whole.keep h.co hk (c 1), h.cr.keep hk (c 2), h.cL, TabO.keep h.ta hk (c 3), h.oo.keep hk (c 4), h.or.keep hk (c 5), h.po.keep hk (c 6), h.pr.keep hk (c 7), h.pL, h.sep⟩
theorem OtherO.lt {s : Sl} {q : Q} {o : Option (List (List Cl))} (h : OtherO H s q o) {k : Nat} (hk : s.at k) : k < H.next := by
  cases o with
  | none => obtain ⟨rfl, _⟩ := h; exact absurd hk Sl.at_nil
  | some M => exact Whole.lt h.2.1 hk
theorem PastO.lt {s : Sl} {q : Q} (h : PastO H s q) {k : Nat} (hk : s.at k) : k < H.next := by
  rcases h with ⟨rfl, _⟩ | ⟨b, A, h, _⟩
  · exact absurd hk Sl.at_nil
  · obtain ⟨a, h1, rfl⟩ := hk
    rw [Vw.sa h] at h1; cases h1; exact Vw.lt h
theorem Rep.ltF (h : Rep H D g) {k : Nat} (hk : D.foot k) : k < H.next := by
  obtain ⟨i, hi⟩ := hk
  match i, hi with
  | 0, e => have e : k = D.p := e; subst e; exact h.lt
  | 1, e => exact Whole.lt h.co e
  | 2, e => exact h.cr.lt e
  | 3, e => exact h.ta.lt e
  | 4, e => exact h.oo.lt e
  | 5, e => exact h.or.lt e
  | 6, e => exact h.po.lt e
  | 7, e => exact h.pr.lt e
/-- the scalars are turned -/
theorem Rep.setc (h : Rep H D g) (c : Sc) : Rep (H.put D.p (.cells (gridL c D) t_grid_Grid false 0 false)) D { g with c := c } := by
  have hk : Keep (fun k => k = D.p) H (H.put D.p (.cells (gridL c D) t_grid_Grid false 0 false)) := Keep.put _ _ _ rfl
  have hS : ∀ k, (fun k => k = D.p) k → D.cmp 0 k := fun k e => e
  exact ⟨by simp, h.lt, h.o1 hk hS (by decide), h.o2 hk hS (by decide), h.cL, h.o3 hk hS (by decide), h.o4 hk hS (by decide), h.o5 hk hS (by decide), h.o6 hk hS (by decide), h.o7 hk hS (by decide), h.pL, h.sep⟩
theorem Stp.setc (_h : Rep H D g) (c : Sc) : Stp H D (H.put D.p (.cells (gridL c D) t_grid_Grid false 0 false)) D := Stp.of (Keep.put (S := fun k => k = D.p) _ _ _ rfl) fun _k e => ⟨0, e⟩
end
section
variable {H : Heap} {D : GD} {g : G} (h : Rep H D g)
include h

theorem Rep.l0 : Heap.ld1 H ⟨D.p, 0, none⟩ = some (.int .i64 (g.c.rows : Int)) := (ld1_s h.get).trans rfl
theorem Rep.l1 : Heap.ld1 H ⟨D.p, 1, none⟩ = some (.int .i64 (g.c.cols : Int)) := (ld1_s h.get).trans rfl
theorem Rep.l2 : Heap.ld1 H ⟨D.p, 2, none⟩ = some (D.cells.v) := (ld1_s h.get).trans rfl
theorem Rep.l3 : Heap.ld1 H ⟨D.p, 3, none⟩ = some (.int .i64 (g.c.row : Int)) := (ld1_s h.get).trans rfl
theorem Rep.l4 : Heap.ld1 H ⟨D.p, 4, none⟩ = some (.int .i64 (g.c.col : Int)) := (ld1_s h.get).trans rfl
theorem Rep.l5 : Heap.ld1 H ⟨D.p, 5, none⟩ = some (.bool g.c.due) := (ld1_s h.get).trans rfl
theorem Rep.l6 : Heap.ld1 H ⟨D.p, 6, none⟩ = some (.int .i32 g.c.st.r) := (ld1_s h.get).trans rfl
theorem Rep.l7 : Heap.ld1 H ⟨D.p, 7, none⟩ = some (.int .i64 g.c.st.f) := (ld1_s h.get).trans rfl
theorem Rep.l8 : Heap.ld1 H ⟨D.p, 8, none⟩ = some (.int .i64 g.c.st.b) := (ld1_s h.get).trans rfl
theorem Rep.l9 : Heap.ld1 H ⟨D.p, 9, none⟩ = some (.int .i64 g.c.st.s) := (ld1_s h.get).trans rfl
theorem Rep.l10 : Heap.ld1 H ⟨D.p, 10, none⟩ = some (.int .i64 (g.c.srow : Int)) := (ld1_s h.get).trans rfl
theorem Rep.l11 : Heap.ld1 H ⟨D.p, 11, none⟩ = some (.int .i64 (g.c.scol : Int)) := (ld1_s h.get).trans rfl
theorem Rep.l12 : Heap.ld1 H ⟨D.p, 12, none⟩ = some (.bool g.c.sdue) := (ld1_s h.get).trans rfl
theorem Rep.l18 : Heap.ld1 H ⟨D.p, 18, none⟩ = some (.int .i64 (g.c.bottom : Int)) := (ld1_s h.get).trans rfl
theorem Rep.l20 : Heap.ld1 H ⟨D.p, 20, none⟩ = some (.bool g.c.insert) := (ld1_s h.get).trans rfl
theorem Rep.l21 : Heap.ld1 H ⟨D.p, 21, none⟩ = some (.bool g.c.hidden) := (ld1_s h.get).trans rfl
theorem Rep.l22 : Heap.ld1 H ⟨D.p, 22, none⟩ = some (D.tabs.v) := (ld1_s h.get).trans rfl
theorem Rep.l23 : Heap.ld1 H ⟨D.p, 23, none⟩ = some (D.other.v) := (ld1_s h.get).trans rfl
theorem Rep.l31 : Heap.ld1 H ⟨D.p, 31, none⟩ = some (D.past.v) := (ld1_s h.get).trans rfl
theorem Rep.l32 : Heap.ld1 H ⟨D.p, 32, none⟩ = some (P0 D.pp) := (ld1_s h.get).trans rfl
theorem Rep.s0 (v : Nat) : ∃ H', Heap.st1 H ⟨D.p, 0, none⟩ (.int .i64 (v : Int)) = some H' ∧ Rep H' D { g with c := { g.c with rows := v } } ∧ Stp H D H' D := ⟨H.put D.p (.cells (gridL { g.c with rows := v } D) t_grid_Grid false 0 false), (st1_s h.get (by show 0 < 33; omega) (by omega)).trans rfl, h.setc _, Stp.setc h _⟩
theorem Rep.s1 (v : Nat) : ∃ H', Heap.st1 H ⟨D.p, 1, none⟩ (.int .i64 (v : Int)) = some H' ∧ Rep H' D { g with c := { g.c with cols := v } } ∧ Stp H D H' D := ⟨H.put D.p (.cells (gridL { g.c with cols := v } D) t_grid_Grid false 0 false), (st1_s h.get (by show 1 < 33; omega) (by omega)).trans rfl, h.setc _, Stp.setc h _⟩
theorem Rep.s3 (v : Nat) : ∃ H', Heap.st1 H ⟨D.p, 3, none⟩ (.int .i64 (v : Int)) = some H' ∧ Rep H' D { g with c := { g.c with row := v } } ∧ Stp H D H' D := ⟨H.put D.p (.cells (gridL { g.c with row := v } D) t_grid_Grid false 0 false), (st1_s h.get (by show 3 < 33; omega) (by omega)).trans rfl, h.setc _, Stp.setc h _⟩
theorem Rep.s4 (v : Nat) : ∃ H', Heap.st1 H ⟨D.p, 4, none⟩ (.int .i64 (v : Int)) = some H' ∧ Rep H' D { g with c := { g.c with col := v } } ∧ Stp H D H' D := ⟨H.put D.p (.cells (gridL { g.c with col := v } D) t_grid_Grid false 0 false), (st1_s h.get (by show 4 < 33; omega) (by omega)).trans rfl, h.setc _, Stp.setc h _⟩
theorem Rep.s5 (v : Bool) : ∃ H', Heap.st1 H ⟨D.p, 5, none⟩ (.bool v) = some H' ∧ Rep H' D { g with c := { g.c with due := v } } ∧ Stp H D H' D := ⟨H.put D.p (.cells (gridL { g.c with due := v } D) t_grid_Grid false 0 false), (st1_s h.get (by show 5 < 33; omega) (by omega)).trans rfl, h.setc _, Stp.setc h _⟩
theorem Rep.s10 (v : Nat) : ∃ H', Heap.st1 H ⟨D.p, 10, none⟩ (.int .i64 (v : Int)) = some H' ∧ Rep H' D { g with c := { g.c with srow := v } } ∧ Stp H D H' D := ⟨H.put D.p (.cells (gridL { g.c with srow := v } D) t_grid_Grid false 0 false), (st1_s h.get (by show 10 < 33; omega) (by omega)).trans rfl, h.setc _, Stp.setc h _⟩
theorem Rep.s18 (v : Nat) : ∃ H', Heap.st1 H ⟨D.p, 18, none⟩ (.int .i64 (v : Int)) = some H' ∧ Rep H' D { g with c := { g.c with bottom := v } } ∧ Stp H D H' D := ⟨H.put D.p (.cells (gridL { g.c with bottom := v } D) t_grid_Grid false 0 false), (st1_s h.get (by show 18 < 33; omega) (by omega)).trans rfl, h.setc _, Stp.setc h _⟩
theorem Rep.s19 (v : Bool) : ∃ H', Heap.st1 H ⟨D.p, 19, none⟩ (.bool v) = some H' ∧ Rep H' D { g with c := { g.c with wrap := v } } ∧ Stp H D H' D := ⟨H.put D.p (.cells (gridL { g.c with wrap := v } D) t_grid_Grid false 0 false), (st1_s h.get (by show 19 < 33; omega) (by omega)).trans rfl, h.setc _, Stp.setc h _⟩
theorem Rep.s20 (v : Bool) : ∃ H', Heap.st1 H ⟨D.p, 20, none⟩ (.bool v) = some H' ∧ Rep H' D { g with c := { g.c with insert := v } } ∧ Stp H D H' D := ⟨H.put D.p (.cells (gridL { g.c with insert := v } D) t_grid_Grid false 0 false), (st1_s h.get (by show 20 < 33; omega) (by omega)).trans rfl, h.setc _, Stp.setc h _⟩
theorem Rep.s21 (v : Bool) : ∃ H', Heap.st1 H ⟨D.p, 21, none⟩ (.bool v) = some H' ∧ Rep H' D { g with c := { g.c with hidden := v } } ∧ Stp H D H' D := ⟨H.put D.p (.cells (gridL { g.c with hidden := v } D) t_grid_Grid false 0 false), (st1_s h.get (by show 21 < 33; omega) (by omega)).trans rfl, h.setc _, Stp.setc h _⟩
theorem Rep.s8 (v : Int) : ∃ H', Heap.st1 H ⟨D.p, 8, none⟩ (.int .i64 v) = some H' ∧ Rep H' D { g with c := { g.c with st := { g.c.st with b := v } } } ∧ Stp H D H' D := ⟨H.put D.p (.cells (gridL { g.c with st := { g.c.st with b := v } } D) t_grid_Grid false 0 false), (st1_s h.get (by show 8 < 33; omega) (by omega)).trans rfl, h.setc _, Stp.setc h _⟩
end

/-- a slice of the grid is turned: what is new of it -/
theorem Rep.swap {H H' : Heap} {D D' : GD} {g g' : G} (_h : Rep H D g) (hc : g'.c = g.c) (hget : H'.get D'.p = some (.cells (gridL g.c D') t_grid_Grid false 0 false)) (hlt : D'.p < H'.next) (co : Outer H' D'.cells D'.q) (cr : Rows H' D'.q) (cL : D'.q.map Prod.snd = g'.L) (ta : TabO H' D'.tabs (g'.tabs.map Value.bool))
    (oo : OtherO H' D'.other D'.oq g'.other) (or : Rows H' D'.oq) (po : PastO H' D'.past D'.pq) (pr : Rows H' D'.pq) (pL : D'.pq.map Prod.snd = g'.past) (sep : ∀ i j k, D'.cmp i k → D'.cmp j k → i = j) : Rep H' D' g' :=
  ⟨by rw [hc]; exact hget, hlt, co, cr, cL, ta, oo, or, po, pr, pL, sep⟩

/-- rows of the right form -/
structure WF (g : G) : Prop where
  r1 : 1 ≤ g.c.rows
  r2 : g.c.rows ≤ 60
  c1 : 1 ≤ g.c.cols
  c2 : g.c.cols ≤ 120
  row : g.c.row < g.c.rows
  col : g.c.col < g.c.cols
  top : g.c.top < g.c.rows
  tb : g.c.top ≤ g.c.bottom
  bot : g.c.bottom < g.c.rows
  srow : g.c.srow ≤ 1000
  scol : g.c.scol ≤ 1000
  arow : g.c.arow < g.c.rows
  acol : g.c.acol < g.c.cols
  Ln : g.L.length = g.c.rows
  Lw : ∀ l ∈ g.L, l.length = g.c.cols
  tn : g.tabs.length = g.c.cols
  on : ∀ M, g.other = some M → M.length = g.c.rows ∧ ∀ l ∈ M, l.length = g.c.cols
  pn : g.past.length ≤ 200
  pw : ∀ l ∈ g.past, l ≠ [] ∧ l.length ≤ 120

/-! ### move -/
def G.move (g : G) (row col : Int) : G := { g with c := { g.c with row := (min (max row 0) ((g.c.rows : Int) - 1)).toNat, col := (min (max col 0) ((g.c.cols : Int) - 1)).toNat, due := false } }
theorem WF.move {g : G} (w : WF g) (row col : Int) : WF (g.move row col) := by
  obtain ⟨h1, h2, h3, h4, h5, h6, h7, h8, h9, h10, h11, h12, h13, h14, h15, h16, h17, h18, h19⟩ := w
  exact ⟨h1, h2, h3, h4, by simp only [G.move]; omega, by simp only [G.move]; omega, h7, h8, h9, h10, h11, h12, h13, h14, h15, h16, h17, h18, h19⟩
end Go.Proofs.YtkkhljcjjhcnhaaGreatDoor.dec

namespace Go.Proofs.YtkkhljcjjhcnhaaGreatDoor.dec
open Go Go.Cm
theorem sep_of {D D' : GD} {N : Nat} (hs : ∀ i j k, D.cmp i k → D.cmp j k → i = j) (h1 : ∀ i k, D'.cmp i k → D.cmp i k ∨ N ≤ k) (h2 : ∀ i j k, N ≤ k → D'.cmp i k → D'.cmp j k → i = j) : ∀ i j k, D'.cmp i k → D'.cmp j k → i = j := fun i j k hi hj => by
  rcases Nat.lt_or_ge k N with h | h
  · exact hs i j k ((h1 i k hi).elim id fun e => by omega) ((h1 j k hj).elim id fun e => by omega)
  · exact h2 i j k h hi hj
theorem cmp_lt {H : Heap} {D : GD} {g : G} (h : Rep H D g) {i k : Nat} (e : D.cmp i k) : k < H.next := h.ltF ⟨i, e⟩
theorem Rep.ql {H : Heap} {D : GD} {g : G} (h : Rep H D g) : D.q.length = g.L.length := by rw [← h.cL, List.length_map]
theorem rd1' {H : Heap} {a : Addr} {v : Value} (h : Heap.ld1 H a = some v) : readD (.load 1 false) [.pointer (some a)] H = some v := h
theorem dneg {p : Prop} [Decidable p] (h : ¬ p) : ¬ (decide p = true) := by simpa using h
end Go.Proofs.YtkkhljcjjhcnhaaGreatDoor.dec

namespace Go.Proofs.YtkkhljcjjhcnhaaGreatDoor.dec
open Go Go.Cm

attribute [local congr] optK_congr asI_congr asN_congr asB_congr asS_congr asP_congr asA_congr asSL_congr callK_congr castT_congr chk_congr

def Sc.init (r c : Nat) : Sc := ⟨r, c, 0, 0, false, zeroC, 0, 0, false, zeroC, 0, r - 1, true, false, false, 0, 0, false, zeroC⟩
def tabs0 (n : Nat) : List Bool := (List.range n).map fun i => decide (0 < i) && decide (i % 8 = 0)
def G.fresh (r c : Nat) (past : List (List Cl)) : G := ⟨Sc.init r c, List.replicate r (List.replicate c blank), tabs0 c, none, past⟩

theorem tabs0_succ (n : Nat) : tabs0 (n + 1) = tabs0 n ++ [decide (0 < n) && decide (n % 8 = 0)] := by
  simp [tabs0, List.range_succ]

theorem TabO.push {H : Heap} {s : Sl} {cs : List Value} (h : TabO H s cs) (hq : cs.length ≤ 100000) (v : Value) :
    ∃ s' H', (∀ K, appendK t_bool 1 1 false s.v (.slice (some ⟨H.next, 0, none⟩) 1 1) (H.new (.cells [v] t_bool false 0 false)) K = K s'.v H') ∧ Whole H' s' (cs ++ [v]) t_bool 1 ∧ Keep s.at H H' ∧ (∀ k, s'.at k → H.next < k) := by
  rcases h with ⟨rfl, rfl⟩ | ⟨b, Z, h, hc⟩
  · obtain ⟨s', H', e1, e2, e3, _, e5, _⟩ := push_whole (H := H) (s := Sl.nil) (cs := []) (e := t_bool) (sz := 1) (bytes := 1) (new := [v]) (.inl ⟨rfl, rfl⟩) rfl (by show (0 + 1) * 1 ≤ _; omega) (by omega) (by omega)
    exact ⟨s', H', e1, e2, e3, e5⟩
  · obtain ⟨a1, a2, _, a4, o, st, a5⟩ := h
    rw [List.nil_append] at a5
    rw [List.length_nil] at a1
    have hn : s.n = cs.length := by omega
    have g1 : (H.new (.cells [v] t_bool false 0 false)).get b = some (.cells (cs ++ Z) t_bool o 0 st) := by rw [Heap.get_new_ne _ _ (by omega)]; exact a5
    have hsrc : srcCells (H.new (.cells [v] t_bool false 0 false)) 1 1 (.slice (some ⟨H.next, 0, none⟩) 1 1) = some [v] := by
      simp only [srcCells]
      rw [if_neg (by omega), ldN_s (Heap.get_new_same H _) (by simp)]; rfl
    have ht2 : List.take s.n (cs ++ Z) = cs := by rw [hn, List.take_append_of_le_length (Nat.le_refl _), List.take_length]
    have hlen : (cs ++ Z).length = s.n + Z.length := by rw [List.length_append, hn]
    have fin : ∀ H1 : Heap, H1.next = H.next + 1 → (∀ k, k < H.next → k ≠ b → H1.get k = H.get k) → ∀ st2, Whole (H1.new (.cells (cs ++ [v]) t_bool true 0 st2)) ⟨some ⟨H1.next, 0, none⟩, s.n + 1, s.n + 1⟩ (cs ++ [v]) t_bool 1 ∧ Keep s.at H (H1.new (.cells (cs ++ [v]) t_bool true 0 st2)) := fun H1 e1 e2 st2 =>
      ⟨.inr ⟨_, _, rfl, by simp [hn], by simp, true, st2, by simp⟩, by simp [e1]; omega, fun k hk hs => by
        rw [Heap.get_new_ne _ _ (by omega)]
        exact e2 k hk fun h => hs ⟨_, a1, h.symm⟩⟩
    by_cases hx : exact 1 (cs ++ Z).length 0 s.n o = true
    · obtain ⟨k1, k2⟩ := fin (H.new (.cells [v] t_bool false 0 false)) (by simp) (fun k hk hb => by rw [Heap.get_new_ne _ _ (by omega)]) false
      refine ⟨⟨some ⟨(H.new (.cells [v] t_bool false 0 false)).next, 0, none⟩, s.n + 1, s.n + 1⟩, _, fun K => ?_, k1, k2, ?_⟩
      · simp only [appendK, asSl, Sl.v, srcN, optK, hsrc, a1, g1, hc]
        rw [if_neg (by omega), if_pos (by omega), if_pos (by omega), if_pos ⟨hx, .inr trivial⟩, Nat.mul_one, List.drop_zero, ht2]
      · rintro k ⟨a, h, rfl⟩; cases h; simp
    · obtain ⟨k1, k2⟩ := fin ((H.new (.cells [v] t_bool false 0 false)).kill b) (by simp) (fun k hk hb => by rw [Heap.get_kill_ne _ hb, Heap.get_new_ne _ _ (by omega)]) st
      refine ⟨⟨some ⟨((H.new (.cells [v] t_bool false 0 false)).kill b).next, 0, none⟩, s.n + 1, s.n + 1⟩, _, fun K => ?_, k1, k2, ?_⟩
      · simp only [appendK, asSl, Sl.v, srcN, optK, hsrc, a1, g1, hc]
        rw [if_neg (by omega), if_pos (by omega), if_pos (by omega), if_neg (fun e => hx e.1), if_pos ⟨trivial, by omega⟩, Nat.mul_one, List.drop_zero, ht2]
        simp
      · rintro k ⟨a, h, rfl⟩; cases h; simp
/-- one tab more -/
theorem Rep.tab {H : Heap} {D : GD} {g : G} (h : Rep H D g) (hn : g.tabs.length ≤ 1000) (b : Bool) :
    ∃ y H1 H', (∀ K, appendK t_bool 1 1 false D.tabs.v (.slice (some ⟨H.next, 0, none⟩) 1 1) (H.new (.cells [.bool b] t_bool false 0 false)) K = K (Sl.v y) H1) ∧ Heap.st1 H1 ⟨D.p, 22, none⟩ y.v = some H' ∧ Rep H' { D with tabs := y } { g with tabs := g.tabs ++ [b] } ∧ Stp H D H' { D with tabs := y } := by
  have hl := h.ta.n
  rw [List.length_map] at hl
  obtain ⟨y, H1, e1, w1, k1, f1⟩ := h.ta.push (by rw [List.length_map]; omega) (.bool b)
  have hS : ∀ k, D.tabs.at k → D.cmp 3 k := fun k e => e
  have g1 := h.o0 k1 hS (by decide)
  have kp : Keep (fun k => k = D.p) H1 (H1.put D.p (.cells (gridL g.c { D with tabs := y }) t_grid_Grid false 0 false)) := Keep.put _ _ _ rfl
  have hn1 := k1.1
  have k2 : Keep (fun k => D.cmp 0 k ∨ D.cmp 3 k) H (H1.put D.p (.cells (gridL g.c { D with tabs := y }) t_grid_Grid false 0 false)) :=
    (k1.mono fun k _ e => .inr e).trans (kp.mono (T := fun k => D.cmp 0 k ∨ D.cmp 3 k) fun k _ e => .inl e) fun _ _ e => e
  have hS2 : ∀ i, i ≠ 0 → i ≠ 3 → ∀ k, D.cmp i k → ¬ (D.cmp 0 k ∨ D.cmp 3 k) := fun i h0 h3 k e e' => e'.elim (fun e' => h0 (h.sep _ _ k e e')) (fun e' => h3 (h.sep _ _ k e e'))
  have hyp : ¬ y.at D.p := fun e => by have := f1 _ e; have := h.lt; omega
  refine ⟨y, H1, H1.put D.p (.cells (gridL g.c { D with tabs := y }) t_grid_Grid false 0 false), e1, (st1_s g1 (v := y.v) (by show 22 < 33; omega) (by omega)).trans rfl, ?_, ⟨rfl, rfl, k2.mono fun k _ e => e.elim (fun e => ⟨0, e⟩) (fun e => ⟨3, e⟩), fun k ⟨i, e⟩ => ?_⟩⟩
  · refine ⟨by simp, Nat.lt_of_lt_of_le h.lt k2.1, Whole.keep h.co k2 (hS2 1 (by decide) (by decide)), h.cr.keep k2 (hS2 2 (by decide) (by decide)), h.cL, ?_, h.oo.keep k2 (hS2 4 (by decide) (by decide)), h.or.keep k2 (hS2 5 (by decide) (by decide)), h.po.keep k2 (hS2 6 (by decide) (by decide)), h.pr.keep k2 (hS2 7 (by decide) (by decide)), h.pL, ?_⟩
    · have := TabO.of <| Whole.keep w1 kp fun k e e' => hyp (by have e'' : k = D.p := e'; rw [← e'']; exact e)
      simpa using this
    · refine sep_of (D := D) (N := H.next + 1) h.sep (fun i k e => ?_) (fun i j k hN e e' => ?_)
      · match i, e with
        | 0, e => exact .inl e
        | 1, e => exact .inl e
        | 2, e => exact .inl e
        | 3, e => exact .inr (f1 k e)
        | 4, e => exact .inl e
        | 5, e => exact .inl e
        | 6, e => exact .inl e
        | 7, e => exact .inl e
      · have z : ∀ i, ({ D with tabs := y } : GD).cmp i k → i = 3 := fun i e => by
          have old : ∀ i, D.cmp i k → False := fun i e => by have := cmp_lt h e; omega
          match i, e with
          | 0, e => exact (old 0 e).elim
          | 1, e => exact (old 1 e).elim
          | 2, e => exact (old 2 e).elim
          | 3, e => rfl
          | 4, e => exact (old 4 e).elim
          | 5, e => exact (old 5 e).elim
          | 6, e => exact (old 6 e).elim
          | 7, e => exact (old 7 e).elim
        rw [z i e, z j e']
  · match i, e with
    | 0, e => exact .inl ⟨0, e⟩
    | 1, e => exact .inl ⟨1, e⟩
    | 2, e => exact .inl ⟨2, e⟩
    | 3, e => exact .inr (by have := f1 k e; omega)
    | 4, e => exact .inl ⟨4, e⟩
    | 5, e => exact .inl ⟨5, e⟩
    | 6, e => exact .inl ⟨6, e⟩
    | 7, e => exact .inl ⟨7, e⟩

theorem tabs_loop (d n : Nat) (hn : n ≤ 1000) {c : Sc} (h1 : c.st = zeroC) (h2 : c.sst = zeroC) : ∀ (m i : Nat) {H : Heap} {D : GD} {g : G}, n - i < m → i ≤ n → g.c = c → g.tabs = tabs0 i → Rep H D g →
    ∃ H' y, grid_Grid_reset_p1111010 d m D.p (n : Int) (i : Int) H = some (.tuple #[], H') ∧ Rep H' { D with tabs := y } { g with tabs := tabs0 n } ∧ Stp H D H' { D with tabs := y } := fun m => by
  induction m with
  | zero => intro i H D g hm; omega
  | succ m ih =>
    intro i H D g hm hi hc ht h
    rw [grid_Grid_reset_p1111010_s]
    by_cases hlt : i < n
    · rw [if_pos (show decide ((i : Int) < (n : Int)) = true from decide_eq_true (by omega)), h.l22]
      simp only [optK_s, asSL_k]
      have A : ∀ (z : Bool), z = (decide (0 < i) && decide (i % 8 = 0)) → ∃ H' y, newK H (.cells [.bool z] t_bool false 0 false) (fun p3 H4 =>
          appendK t_bool 1 1 false D.tabs.v (.slice (some ⟨p3, 0, none⟩) 1 1) H4 fun v5 H6 =>
          asSL v5 fun l7 => optK (Heap.st1 H6 ⟨D.p, 22, none⟩ l7.v) fun H8 => grid_Grid_reset_p11110100111 d m D.p (n : Int) (i : Int) H8) = some (.tuple #[], H') ∧ Rep H' { D with tabs := y } { g with tabs := tabs0 n } ∧ Stp H D H' { D with tabs := y } := fun z hz => by
        have htl : g.tabs.length ≤ 1000 := by rw [ht]; simp [tabs0]; omega
        obtain ⟨y, H1, H2, e1, e2, h', s'⟩ := h.tab htl z
        simp only [newK_s]
        rw [e1]
        simp only [asSL_k]
        rw [e2]
        simp only [optK_s]
        rw [grid_Grid_reset_p11110100111_eq, wi (by omega)]
        obtain ⟨H3, y3, e3, h3, s3⟩ := ih (i + 1) (by omega) (by omega) (g := { g with tabs := g.tabs ++ [z] }) hc (by show g.tabs ++ [z] = _; rw [tabs0_succ, ht, hz]) h'
        exact ⟨H3, y3, e3, h3, s'.trans s3⟩
      by_cases h0 : 0 < i
      · rw [if_pos (show decide ((0 : Int) < (i : Int)) = true from decide_eq_true (by omega))]
        refine A _ ?_
        rw [decide_eq_true h0, Bool.true_and]
        have : Int.tmod (i : Int) 8 = ((i % 8 : Nat) : Int) := by rw [Int.tmod_eq_emod_of_nonneg (by omega)]; omega
        rw [this]
        exact decide_eq_decide.2 (by omega)
      · rw [if_neg (show ¬ decide ((0 : Int) < (i : Int)) = true from dneg (by omega))]
        exact A false (by rw [decide_eq_false h0]; rfl)
    · rw [if_neg (show ¬ decide ((i : Int) < (n : Int)) = true from dneg (by omega))]
      have hin : i = n := by omega
      subst hin
      have z : Heap.stN H ⟨D.p, 6, none⟩ [.int .i32 0, .int .i64 0, .int .i64 0, .int .i64 0] = some (H.put D.p (.cells (gridL g.c D) t_grid_Grid false 0 false)) := by
        simp only [Heap.stN, h.get]
        rw [hc]
        simp only [gridL, h1, h2]
        rfl
      rw [z]
      simp only [optK_s]
      have hg2 : (H.put D.p (.cells (gridL g.c D) t_grid_Grid false 0 false)).get D.p = some (.cells (gridL g.c D) t_grid_Grid false 0 false) := by simp
      have z2 : Heap.stN (H.put D.p (.cells (gridL g.c D) t_grid_Grid false 0 false)) ⟨D.p, 13, none⟩ [.int .i32 0, .int .i64 0, .int .i64 0, .int .i64 0] = some ((H.put D.p (.cells (gridL g.c D) t_grid_Grid false 0 false)).put D.p (.cells (gridL g.c D) t_grid_Grid false 0 false)) := by
        simp only [Heap.stN, hg2]
        rw [hc]
        simp only [gridL, h1, h2]
        rfl
      rw [z2]
      simp only [optK_s]
      have h3 := h.setc g.c
      have s3 := Stp.setc h g.c
      have h4 := h3.setc g.c
      have s4 := Stp.setc h3 g.c
      refine ⟨_, D.tabs, rfl, ?_, s3.trans s4⟩
      rw [← ht]
      exact h4

/-- a grid's cells ahead of reset -/
theorem reset_s (d : Nat) {H : Heap} {p pp r c : Nat} {past : Sl} {pq : Q} {L : List Value} (hr : 1 ≤ r ∧ r ≤ 60) (hc : 1 ≤ c ∧ c ≤ 120) (hg : H.get p = some (.cells L t_grid_Grid false 0 false)) (hL : L.length = 33) (l0 : L[0]? = some (.int .i64 (r : Int))) (l1 : L[1]? = some (.int .i64 (c : Int)))
    (l31 : L[31]? = some past.v) (l32 : L[32]? = some (P0 pp)) (hp : p < H.next) (po : PastO H past pq) (pr : Rows H pq) (n1 : ¬ past.at p) (n2 : ¬ bl pq p) (n3 : ∀ k, past.at k → ¬ bl pq k) :
    ∃ H' D', X (d + 6) n_grid_Grid_reset [P0 p] H = some (.tuple #[], H') ∧ Rep H' D' (G.fresh r c (pq.map Prod.snd)) ∧ D'.p = p ∧ D'.pp = pp ∧ Keep (fun k => k = p ∨ past.at k ∨ bl pq k) H H' ∧ (∀ k, D'.foot k → k = p ∨ past.at k ∨ bl pq k ∨ H.next ≤ k) := by
  rw [grid_Grid_reset_eq, (ld1_s hg).trans l0]
  simp only [optK_s, asI_s]
  rw [(ld1_s hg).trans l1]
  simp only [optK_s, asI_s]
  rw [(ld1_s hg).trans l31]
  simp only [optK_s, asSL_k]
  rw [(ld1_s hg).trans l32]
  simp only [optK_s, P0, asP_s]
  -- all but the past is new
  let c9 : Sc := { Sc.init r c with bottom := 0, wrap := false }
  let D9 : GD := ⟨p, pp, Sl.nil, [], Sl.nil, Sl.nil, [], past, pq⟩
  have e9 : Heap.stN H ⟨p, 0, none⟩ [.int .i64 r, .int .i64 c, .slice none 0 0, .int .i64 0, .int .i64 0, .bool false, .int .i32 0, .int .i64 0, .int .i64 0, .int .i64 0, .int .i64 0, .int .i64 0, .bool false, .int .i32 0, .int .i64 0, .int .i64 0, .int .i64 0, .int .i64 0, .int .i64 0, .bool false, .bool false, .bool false, .slice none 0 0, .slice none 0 0, .int .i64 0, .int .i64 0, .bool false, .int .i32 0, .int .i64 0, .int .i64 0, .int .i64 0, past.v, .pointer (some ⟨pp, 0, none⟩)] = some (H.put p (.cells (gridL c9 D9) t_grid_Grid false 0 false)) := by
    simp only [Heap.stN, hg]
    rw [if_pos (by rw [hL]; exact ⟨Nat.le_refl 33, Nat.le_refl 0⟩)]
    simp only [splice, List.take_zero, List.nil_append, Nat.zero_add]
    rw [List.drop_eq_nil_of_le (by rw [hL]; exact Nat.le_refl 33), List.append_nil]
    rfl
  rw [e9]
  simp only [optK_s]
  have g9 : (H.put p (.cells (gridL c9 D9) t_grid_Grid false 0 false)).get p = some (.cells (gridL c9 D9) t_grid_Grid false 0 false) := by simp
  have k9 : Keep (fun k => k = p) H (H.put p (.cells (gridL c9 D9) t_grid_Grid false 0 false)) := Keep.put _ _ _ rfl
  have n9 : (H.put p (.cells (gridL c9 D9) t_grid_Grid false 0 false)).next = H.next := rfl
  generalize H.put p (.cells (gridL c9 D9) t_grid_Grid false 0 false) = H9 at *
  rw [(ld1_s g9).trans (show (gridL c9 D9)[0]? = some (.int .i64 (r : Int)) from rfl)]
  simp only [optK_s, asI_s]
  rw [(ld1_s g9).trans (show (gridL c9 D9)[1]? = some (.int .i64 (c : Int)) from rfl)]
  simp only [optK_s, asI_s]
  obtain ⟨s, q, H15, e15, o15, r15, q15, s15, b15, d15, k15⟩ := sheet_s d r c (by omega) (by omega) H9
  rw [e15]
  simp only [callK_s, asSL_k]
  have g15 := k15.get (by omega) g9
  let D17 : GD := ⟨p, pp, s, q, Sl.nil, Sl.nil, [], past, pq⟩
  have e17 : Heap.st1 H15 ⟨p, 2, none⟩ s.v = some (H15.put p (.cells (gridL c9 D17) t_grid_Grid false 0 false)) := (st1_s g15 (v := s.v) (by show 2 < 33; omega) (by omega)).trans rfl
  rw [e17]
  simp only [optK_s]
  have kp : Keep (fun k => k = p) H15 (H15.put p (.cells (gridL c9 D17) t_grid_Grid false 0 false)) := Keep.put _ _ _ rfl
  have g17 : (H15.put p (.cells (gridL c9 D17) t_grid_Grid false 0 false)).get p = some (.cells (gridL c9 D17) t_grid_Grid false 0 false) := by simp
  generalize H15.put p (.cells (gridL c9 D17) t_grid_Grid false 0 false) = H17 at *
  have n15 := k15.1
  have n17 := kp.1
  have k017 : Keep (fun k => k = p) H H17 := (k9.trans k15.to fun _ _ e => e).trans kp fun _ _ e => e
  have po17 : PastO H17 past pq := po.keep k017 fun k e e' => n1 (by have e'' : k = p := e'; rw [← e'']; exact e)
  have pr17 : Rows H17 pq := pr.keep k017 fun k e e' => n2 (by have e'' : k = p := e'; rw [← e'']; exact e)
  have o17 : Outer H17 s q := Whole.keep o15 kp fun k e e' => by have e'' : k = p := e'; have := s15 k e; omega
  have r17 : Rows H17 q := r15.keep kp fun k e e' => by have e'' : k = p := e'; have := b15 k e; omega
  have cs : ∀ i k, D17.cmp i k → (i = 0 ∧ k = p) ∨ (i = 1 ∧ s.at k ∧ H.next ≤ k) ∨ (i = 2 ∧ bl q k ∧ H.next ≤ k) ∨ (i = 6 ∧ past.at k ∧ k < H.next ∧ k ≠ p) ∨ (i = 7 ∧ bl pq k ∧ k < H.next ∧ k ≠ p) := fun i k e => by
    match i, e with
    | 0, e => exact .inl ⟨rfl, e⟩
    | 1, e => exact .inr (.inl ⟨rfl, e, by have := s15 k e; omega⟩)
    | 2, e => exact .inr (.inr (.inl ⟨rfl, e, by have := b15 k e; omega⟩))
    | 3, e => exact absurd e Sl.at_nil
    | 4, e => exact absurd e Sl.at_nil
    | 5, e => exact absurd e bl_nil
    | 6, e => exact .inr (.inr (.inr (.inl ⟨rfl, e, po.lt e, fun e' => n1 (e' ▸ e)⟩)))
    | 7, e => exact .inr (.inr (.inr (.inr ⟨rfl, e, pr.lt e, fun e' => n2 (e' ▸ e)⟩)))
  have rep17 : Rep H17 D17 ⟨c9, List.replicate r (List.replicate c blank), [], none, pq.map Prod.snd⟩ := by
    refine ⟨g17, by show p < H17.next; omega, o17, r17, q15, .inl ⟨rfl, rfl⟩, ⟨rfl, rfl⟩, ⟨by simp [D17], by simp [D17]⟩, po17, pr17, rfl, fun i j k e1 e2 => ?_⟩
    rcases cs i k e1 with ⟨rfl, a1⟩ | ⟨rfl, a1, b1⟩ | ⟨rfl, a1, b1⟩ | ⟨rfl, a1, b1, z1⟩ | ⟨rfl, a1, b1, z1⟩ <;> rcases cs j k e2 with ⟨rfl, a2⟩ | ⟨rfl, a2, b2⟩ | ⟨rfl, a2, b2⟩ | ⟨rfl, a2, b2, z2⟩ | ⟨rfl, a2, b2, z2⟩ <;>
      first | rfl | (exfalso; omega) | exact absurd a2 (d15 k a1) | exact absurd a1 (d15 k a2) | exact absurd a2 (n3 k a1) | exact absurd a1 (n3 k a2)
  rw [show Heap.ld1 H17 ⟨p, 0, none⟩ = some (.int .i64 (r : Int)) from rep17.l0]
  simp only [optK_s, asI_s]
  obtain ⟨H20, e20, rep20, s20⟩ := rep17.s18 (r - 1)
  rw [show IntKind.wrap .i64 ((r : Int) - 1) = ((r - 1 : Nat) : Int) by rw [w64 (by omega)]; omega, show Heap.st1 H17 ⟨p, 18, none⟩ (.int .i64 ((r - 1 : Nat) : Int)) = some H20 from e20]
  simp only [optK_s]
  obtain ⟨H21, e21, rep21, s21⟩ := rep20.s19 true
  rw [show Heap.st1 H20 ⟨p, 19, none⟩ (.bool true) = some H21 from e21]
  simp only [optK_s]
  rw [show Heap.ld1 H21 ⟨p, 1, none⟩ = some (.int .i64 (c : Int)) from rep21.l1]
  simp only [optK_s, asI_s]
  obtain ⟨H', y, e', rep', s'⟩ := tabs_loop (d + 5) c (by omega) (c := Sc.init r c) rfl rfl NN 0 (NN_big _ (by omega)) (by omega) rfl rfl rep21
  rw [show (0 : Int) = ((0 : Nat) : Int) from rfl]
  have st := (s20.trans s21).trans s'
  refine ⟨H', { D17 with tabs := y }, e', rep', rfl, rfl, ?_, fun k e => ?_⟩
  · have hf : ∀ k, D17.foot k → k = p ∨ past.at k ∨ bl pq k ∨ H.next ≤ k := fun k ⟨i, e⟩ => by
      rcases cs i k e with ⟨_, a⟩ | ⟨_, a, b⟩ | ⟨_, a, b⟩ | ⟨_, a, _⟩ | ⟨_, a, _⟩
      · exact .inl a
      · exact .inr (.inr (.inr b))
      · exact .inr (.inr (.inr b))
      · exact .inr (.inl a)
      · exact .inr (.inr (.inl a))
    exact (k017.mono (T := fun k => k = p ∨ past.at k ∨ bl pq k) fun k _ e => .inl e).trans st.kp fun k hk e => by
      rcases hf k e with e | e | e | e
      · exact .inl e
      · exact .inr (.inl e)
      · exact .inr (.inr e)
      · omega
  · rcases st.ft k e with ⟨i, e⟩ | e
    · rcases cs i k e with ⟨_, a⟩ | ⟨_, a, b⟩ | ⟨_, a, b⟩ | ⟨_, a, _⟩ | ⟨_, a, _⟩
      · exact .inl a
      · exact .inr (.inr (.inr b))
      · exact .inr (.inr (.inr b))
      · exact .inr (.inl a)
      · exact .inr (.inr (.inl a))
    · exact .inr (.inr (.inr (by omega)))

theorem WF.fresh {r c : Nat} (hr : 1 ≤ r ∧ r ≤ 60) (hc : 1 ≤ c ∧ c ≤ 120) {past : List (List Cl)} (h1 : past.length ≤ 200) (h2 : ∀ l ∈ past, l ≠ [] ∧ l.length ≤ 120) : WF (G.fresh r c past) := by
  refine ⟨hr.1, hr.2, hc.1, hc.2, ?_, ?_, ?_, Nat.zero_le _, ?_, by show 0 ≤ 1000; omega, by show 0 ≤ 1000; omega, ?_, ?_, ?_, ?_, ?_, fun M h => (by cases h), h1, h2⟩
  · show 0 < r; omega
  · show 0 < c; omega
  · show 0 < r; omega
  · show r - 1 < r; omega
  · show 0 < r; omega
  · show 0 < c; omega
  · show (List.replicate r (List.replicate c blank)).length = r; simp
  · intro l hl
    have := (List.mem_replicate.1 hl).2
    rw [this]; simp; rfl
  · show (tabs0 c).length = c; simp [tabs0]

theorem size_s (d : Nat) (H : Heap) {r c : Nat} (hr : 1 ≤ r ∧ r ≤ 60) (hc : 1 ≤ c ∧ c ≤ 120) : X (d + 1) n_grid_size [.int .i64 (r : Int), .int .i64 (c : Int)] H = some (.bool true, H) := by
  rw [grid_size_eq, if_pos (decide_eq_true (by omega)), if_pos (decide_eq_true (by omega)), if_pos (decide_eq_true (by omega)), decide_eq_true (show (c : Int) ≤ 120 by omega)]
end Go.Proofs.YtkkhljcjjhcnhaaGreatDoor.dec

namespace Go.Proofs.YtkkhljcjjhcnhaaGreatDoor.dec
open Go Go.Cm

attribute [local congr] optK_congr asI_congr asN_congr asB_congr asS_congr asP_congr asA_congr asSL_congr callK_congr castT_congr chk_congr

def scrL (c : Sc) (y : Sl) : List Value := [.int .i64 c.rows, .int .i64 c.cols, y.v, .int .i64 c.row, .int .i64 c.col, .bool c.hidden]
theorem Screen_s (d : Nat) {H : Heap} {D : GD} {g : G} (h : Rep H D g) (w : WF g) :
    ∃ y p H', X (d + 3) n_grid_Grid_Screen [P0 D.p] H = some (.agg ⟨scrL g.c y⟩, H') ∧ Outer H' y p ∧ Rows H' p ∧ p.map Prod.snd = g.L ∧ (∀ k, y.at k → H.next ≤ k) ∧ (∀ k, bl p k → H.next ≤ k) ∧ (∀ k, y.at k → ¬ bl p k) ∧ Keep0 H H' := by
  have r1 := w.r1; have r2 := w.r2; have c1 := w.c1; have c2 := w.c2; have hql := h.ql; have hLn := w.Ln
  rw [grid_Grid_Screen_eq]
  simp only [newK_s]
  have k2 : Keep0 H (H.new (.cells [.int .i64 0, .int .i64 0, .slice none 0 0, .int .i64 0, .int .i64 0, .bool false] t_api_Screen false 0 false)) := Keep.new _ _
  have g2 : (H.new (.cells [.int .i64 0, .int .i64 0, .slice none 0 0, .int .i64 0, .int .i64 0, .bool false] t_api_Screen false 0 false)).get H.next = some (.cells [.int .i64 0, .int .i64 0, .slice none 0 0, .int .i64 0, .int .i64 0, .bool false] t_api_Screen false 0 false) := by simp
  have n2 : (H.new (.cells [.int .i64 0, .int .i64 0, .slice none 0 0, .int .i64 0, .int .i64 0, .bool false] t_api_Screen false 0 false)).next = H.next + 1 := by simp
  generalize H.new (.cells [.int .i64 0, .int .i64 0, .slice none 0 0, .int .i64 0, .int .i64 0, .bool false] t_api_Screen false 0 false) = H2 at *
  have h2 := h.new k2
  rw [h2.l0, h2.l1]
  simp only [optK_s, asI_s]
  rw [h2.l2]
  simp only [optK_s, asSL_k]
  have hne : D.cells.a ≠ none := h2.co.some (by intro e; rw [e] at hql; simp at hql; omega)
  obtain ⟨b, v, _⟩ := h2.co.ov hne
  have hrows : ∀ x ∈ D.q, x.2 ≠ [] ∧ x.2.length ≤ 1000 := fun x hx => by
    have hl := w.Lw x.2 (by rw [← h.cL]; exact List.mem_map_of_mem hx)
    exact ⟨fun e => by rw [e] at hl; simp at hl; omega, by omega⟩
  obtain ⟨y, p, H10, e, a1, a2, a3, a4, a5, a6, k10⟩ := copied_s d (.inl v) h2.cr hrows (by omega)
  rw [e]
  simp only [callK_s, asSL_k]
  have h10 := h2.new k10
  rw [h10.l3, h10.l4]
  simp only [optK_s, asI_s]
  rw [h10.l21]
  simp only [optK_s, asB_s]
  have g10 := k10.get (by omega) g2
  have es : Heap.stN H10 ⟨H.next, 0, none⟩ [.int .i64 g.c.rows, .int .i64 g.c.cols, y.v, .int .i64 g.c.row, .int .i64 g.c.col, .bool g.c.hidden] = some (H10.put H.next (.cells (scrL g.c y) t_api_Screen false 0 false)) := by
    simp only [Heap.stN, g10]; rfl
  rw [es]
  simp only [optK_s]
  rw [show rdsOk [H2, H10, H10.put H.next (.cells (scrL g.c y) t_api_Screen false 0 false)] [⟨.load 1 false, [.pointer (some ⟨D.p, 21, none⟩)], .bool g.c.hidden, 0, 1⟩, ⟨.load 1 false, [.pointer (some ⟨D.p, 4, none⟩)], .int .i64 g.c.col, 0, 1⟩, ⟨.load 1 false, [.pointer (some ⟨D.p, 3, none⟩)], .int .i64 g.c.row, 0, 1⟩, ⟨.load 1 false, [.pointer (some ⟨D.p, 1, none⟩)], .int .i64 g.c.cols, 0, 1⟩, ⟨.load 1 false, [P0 D.p], .int .i64 g.c.rows, 0, 1⟩] = true from by
    simp only [rdsOk, Bool.and_true]
    rw [show 1 + 1 - 0 = 2 from rfl, rdOk_2, rdOk_2, rdOk_2, rdOk_2, rdOk_2, rdAt_s rfl (rd1' h2.l21) (same_bool _), rdAt_s rfl (rd1' h10.l21) (same_bool _), rdAt_s rfl (rd1' h2.l4) (same_int _ _), rdAt_s rfl (rd1' h10.l4) (same_int _ _), rdAt_s rfl (rd1' h2.l3) (same_int _ _), rdAt_s rfl (rd1' h10.l3) (same_int _ _), rdAt_s rfl (rd1' h2.l1) (same_int _ _), rdAt_s rfl (rd1' h10.l1) (same_int _ _), rdAt_s rfl (rd1' h2.l0) (same_int _ _), rdAt_s rfl (rd1' h10.l0) (same_int _ _)]; rfl]
  simp only [chk_s]
  have kp : Keep (fun k => k = H.next) H10 (H10.put H.next (.cells (scrL g.c y) t_api_Screen false 0 false)) := Keep.put _ _ _ rfl
  have gp : (H10.put H.next (.cells (scrL g.c y) t_api_Screen false 0 false)).get H.next = some (.cells (scrL g.c y) t_api_Screen false 0 false) := by simp
  generalize H10.put H.next (.cells (scrL g.c y) t_api_Screen false 0 false) = H18 at *
  have hr : readD (.load 6 true) [P0 H.next] H18 = some (.agg ⟨scrL g.c y⟩) := by
    simp only [readD, if_true]
    rw [ldN_s gp (by show 0 + 6 ≤ 6; omega)]
    rfl
  have g0 : Fr.get [(2, P0 H.next)] 2 = some (P0 H.next) := rfl
  refine ⟨y, p, H18, by simp only [retK, resL, g0, hr], Whole.keep a1 kp fun k e e' => by have e'' : k = H.next := e'; have := a4 k e; omega, a2.keep kp fun k e e' => by have e'' : k = H.next := e'; have := a5 k e; omega, a3.trans h.cL, fun k e => by have := a4 k e; omega, fun k e => by have := a5 k e; omega, a6, (k2.trans k10).fresh kp fun k e => by have e' : k = H.next := e; omega⟩
end Go.Proofs.YtkkhljcjjhcnhaaGreatDoor.dec

namespace Go.Proofs.YtkkhljcjjhcnhaaGreatDoor.dec
open Go Go.Cm

attribute [local congr] optK_congr asI_congr asN_congr asB_congr asS_congr asP_congr asA_congr asSL_congr callK_congr castT_congr chk_congr

theorem New_s (d : Nat) (H : Heap) {r c : Nat} (hr : 1 ≤ r ∧ r ≤ 60) (hc : 1 ≤ c ∧ c ≤ 120) :
    ∃ H' D, X (d + 7) n_grid_New [.int .i64 (r : Int), .int .i64 (c : Int)] H = some (.tuple #[P0 D.p, .int .i64 0], H') ∧ Rep H' D (G.fresh r c []) ∧ Keep0 H H' ∧ (∀ k, D.foot k → H.next ≤ k) := by
  rw [grid_New_eq, size_s (d + 5) H hr hc]
  simp only [callK_s, asB_s]
  rw [if_neg (show ¬ (!true) = true by simp), vt_New_eq, utf_New_eq]
  simp only [newK_s, callK_s, P0, asP_s]
  have k1 : Keep0 H (H.new (.cells [.slice none 0 0] t_utf_Decoder false 0 false)) := Keep.new _ _
  have n1 : (H.new (.cells [.slice none 0 0] t_utf_Decoder false 0 false)).next = H.next + 1 := by simp
  generalize H.new (.cells [.slice none 0 0] t_utf_Decoder false 0 false) = H1 at *
  have k2 : Keep0 H1 (H1.new (.cells [.pointer (some ⟨H.next, 0, none⟩), .int .i64 0, .bool false, .bool false, .bool false, .bool false, .slice none 0 0] t_vt_Parser false 0 false)) := Keep.new _ _
  have n2 : (H1.new (.cells [.pointer (some ⟨H.next, 0, none⟩), .int .i64 0, .bool false, .bool false, .bool false, .bool false, .slice none 0 0] t_vt_Parser false 0 false)).next = H1.next + 1 := by simp
  generalize H1.new (.cells [.pointer (some ⟨H.next, 0, none⟩), .int .i64 0, .bool false, .bool false, .bool false, .bool false, .slice none 0 0] t_vt_Parser false 0 false) = H2 at *
  generalize hLL : [Value.int .i64 (r : Int), Value.int .i64 (c : Int), .slice none 0 0, .int .i64 0, .int .i64 0, .bool false, .int .i32 0, .int .i64 0, .int .i64 0, .int .i64 0, .int .i64 0, .int .i64 0, .bool false, .int .i32 0, .int .i64 0, .int .i64 0, .int .i64 0, .int .i64 0, .int .i64 0, .bool false, .bool false, .bool false, .slice none 0 0, .slice none 0 0, .int .i64 0, .int .i64 0, .bool false, .int .i32 0, .int .i64 0, .int .i64 0, .int .i64 0, .slice none 0 0, .pointer (some ⟨H1.next, 0, none⟩)] = L
  have k3 : Keep0 H2 (H2.new (.cells L t_grid_Grid false 0 false)) := Keep.new _ _
  have g3 : (H2.new (.cells L t_grid_Grid false 0 false)).get H2.next = some (.cells L t_grid_Grid false 0 false) := by simp
  have n3 : (H2.new (.cells L t_grid_Grid false 0 false)).next = H2.next + 1 := by simp
  generalize H2.new (.cells L t_grid_Grid false 0 false) = H3 at *
  obtain ⟨H', D', e', rep, dp, dpp, kk, ff⟩ := reset_s d (p := H2.next) (pp := H1.next) (past := Sl.nil) (pq := []) hr hc g3 (by rw [← hLL]; rfl) (by rw [← hLL]; rfl) (by rw [← hLL]; rfl) (by rw [← hLL]; rfl) (by rw [← hLL]; rfl) (by omega) (.inl ⟨rfl, rfl⟩) ⟨by simp, by simp⟩ Sl.at_nil bl_nil fun k e => absurd e Sl.at_nil
  rw [show X (d + 6) n_grid_Grid_reset [.pointer (some ⟨H2.next, 0, none⟩)] H3 = some (.tuple #[], H') from e']
  simp only [callK_s]
  have hf : ∀ k, D'.foot k → k = H2.next ∨ H3.next ≤ k := fun k e => by
    rcases ff k e with e | e | e | e
    · exact .inl e
    · exact absurd e Sl.at_nil
    · exact absurd e bl_nil
    · exact .inr e
  have hkS : ∀ k, (k = H2.next ∨ Sl.nil.at k ∨ bl [] k) → k = H2.next := fun k e => by
    rcases e with e | e | e
    · exact e
    · exact absurd e Sl.at_nil
    · exact absurd e bl_nil
  have kk3 := kk.1
  have hfoot : ∀ k, D'.foot k → H.next ≤ k := fun k e => by have := hf k e; omega
  refine ⟨H', D', by rw [show D'.p = H2.next from dp], rep, ?_, hfoot⟩
  exact ((k1.trans k2).trans k3).fresh (kk.mono (T := fun k => k = H2.next) fun k _ e => hkS k e) fun k e => by have e' : k = H2.next := e; omega
end Go.Proofs.YtkkhljcjjhcnhaaGreatDoor.dec

namespace Go.Proofs.YtkkhljcjjhcnhaaGreatDoor.dec
open Go Go.Cm

theorem eqA : eqC .str (.string (S [97])) (.string (S [97])) = some true := by kernel_rfl
theorem look_a {H : Heap} {r s : Nat} {b : Bool} (h : ∃ a c, H.get r = some (.map [(.string (S [97]), P0 s, a)] c)) : readD (.lookup .str (.pointer none) b) [.map (some r), .string (S [97])] H = some (lookV (P0 s) true b) := by
  obtain ⟨a, c, h⟩ := h
  simp only [readD, isKey, if_true, Heap.ents, h, mapFind, eqA]
theorem lookV_f (v : Value) : lookV v true false = v := rfl
theorem asM_s {r : Option Nat} {K : Option Nat → Res} : asM (.map r) K = K r := rfl
theorem ap_1 (b o : Nat) : ap ⟨b, o, none⟩ 1 = ⟨b, o + 1, none⟩ := rfl
theorem ap_0 (b o : Nat) : ap ⟨b, o, none⟩ 0 = ⟨b, o, none⟩ := rfl

end Go.Proofs.YtkkhljcjjhcnhaaGreatDoor.dec

namespace Go.Proofs.YtkkhljcjjhcnhaaGreatDoor.dec
open Go Go.Cm

attribute [local congr] optK_congr asI_congr asN_congr asB_congr asS_congr asP_congr asA_congr asSL_congr callK_congr castT_congr chk_congr

def leafC (n : Nat) : List Value := [.int .i64 (n : Int), .pointer none, .pointer none, .bool false, .int .i64 0]
theorem leaf_s (d : Nat) {H : Heap} {b n : Nat} (h : H.get b = some (.cells (leafC n) t_layout_node false 0 false)) : X (d + 1) n_layout_node_leaf [P0 b] H = some (.bool true, H) := by
  rw [layout_node_leaf_eq, (ld1_s h).trans (show _ = some (Value.pointer none) from rfl)]
  simp only [optK_s, asP_s, Option.isNone_none]
theorem box_s {t : TypeId} {x : List Value} {H : Heap} {K : Value → Heap → Res} (h : x.all one = true) : effK (.box t) [.agg ⟨x⟩] H K = K (P0 H.next) (H.new (.cells x t false 0 false)) := by
  simp only [effK]
  rw [show cellsL (.agg ⟨x⟩) = x from rfl, if_pos h]
theorem rd4 {H : Heap} {b : Nat} {x : List Value} {e : TypeId} {o st : Bool} {fz : Nat} (h : H.get b = some (.cells x e o fz st)) (hx : x.length = 4) : readD (.load 4 true) [P0 b] H = some (.agg ⟨x⟩) := by
  simp only [readD, if_true]
  rw [ldN_s h (by omega)]
  simp only [List.drop_zero, List.take_of_length_le (Nat.le_of_eq hx)]
def rectL (r c : Nat) : List Value := [.int .i64 0, .int .i64 0, .int .i64 (r : Int), .int .i64 (c : Int)]
theorem whole_one {H : Heap} {s : Sl} {cs : List Value} {e : TypeId} {sz : Nat} (h : Whole H s cs e sz) (hn : s.n = 1) : ∃ b, s = ⟨some ⟨b, 0, none⟩, 1, 1⟩ ∧ b < H.next ∧ ∃ o st, H.get b = some (.cells cs e o 0 st) := by
  rcases h with ⟨rfl, _⟩ | ⟨b, n, rfl, h1, h2, h3⟩
  · cases hn
  · cases (show n = 1 from hn); exact ⟨b, rfl, h2, h3⟩
theorem all_s (d r c : Nat) (H : Heap) : ∃ H', X (d + 1) n_layout_all [.int .i64 (r : Int), .int .i64 (c : Int)] H = some (.agg ⟨rectL r c⟩, H') ∧ Keep0 H H' := by
  rw [layout_all_eq]
  simp only [newK_s]
  have k1 : Keep0 H (H.new (.cells [.int .i64 0, .int .i64 0, .int .i64 0, .int .i64 0] t_api_Rect false 0 false)) := Keep.new _ _
  have g1 : (H.new (.cells [.int .i64 0, .int .i64 0, .int .i64 0, .int .i64 0] t_api_Rect false 0 false)).get H.next = some (.cells [.int .i64 0, .int .i64 0, .int .i64 0, .int .i64 0] t_api_Rect false 0 false) := by simp
  generalize H.new (.cells [.int .i64 0, .int .i64 0, .int .i64 0, .int .i64 0] t_api_Rect false 0 false) = H1 at *
  rw [if_neg (by omega), if_neg (by omega)]
  have es : Heap.stN H1 ⟨H.next, 0, none⟩ [.int .i64 0, .int .i64 0, .int .i64 (r : Int), .int .i64 (c : Int)] = some (H1.put H.next (.cells (rectL r c) t_api_Rect false 0 false)) := by
    simp only [Heap.stN, g1]; rfl
  rw [es]
  simp only [optK_s]
  have kp : Keep (fun k => k = H.next) H1 (H1.put H.next (.cells (rectL r c) t_api_Rect false 0 false)) := Keep.put _ _ _ rfl
  have gp : (H1.put H.next (.cells (rectL r c) t_api_Rect false 0 false)).get H.next = some (.cells (rectL r c) t_api_Rect false 0 false) := by simp
  generalize H1.put H.next (.cells (rectL r c) t_api_Rect false 0 false) = H2 at *
  have hr := rd4 gp rfl
  refine ⟨H2, ?_, k1.fresh kp fun k e => by have e' : k = H.next := e; omega⟩
  have g0 : Fr.get [(4, P0 H.next)] 4 = some (P0 H.next) := rfl
  simp only [retK, resL, g0, hr]

theorem Places1_s (d : Nat) {H : Heap} {nd o n : Nat} {x : List Value} (h : H.get nd = some (.cells (leafC n) t_layout_node false 0 false)) (hn : nd < H.next) (ho : H.get o = some (.cells [.slice none 0 0] t_S_api_Rect false 0 false)) (hlt : o < H.next) (hx : x.length = 4) (hx1 : x.all one = true)
    (hx4 : fillL [(0, 4)] [.agg ⟨x⟩] [.int .i64 0, .int .i64 0, .int .i64 0, .int .i64 0] = some x) :
    ∃ b H', X (d + 2) n_layout_Tree_Places_1 [P0 nd, .agg ⟨x⟩, P0 o] H = some (.tuple #[], H') ∧ H'.get o = some (.cells [.slice (some ⟨b, 0, none⟩) 1 1] t_S_api_Rect false 0 false) ∧ (∃ op st, H'.get b = some (.cells x t_api_Rect op 0 st)) ∧ H.next ≤ b ∧ b < H'.next ∧ Keep (fun k => k = o) H H' := by
  rw [layout_Tree_Places_1_eq, box_s hx1]
  have k1 : Keep0 H (H.new (.cells x t_api_Rect false 0 false)) := Keep.new _ _
  have g1 : (H.new (.cells x t_api_Rect false 0 false)).get H.next = some (.cells x t_api_Rect false 0 false) := by simp
  have n1 : (H.new (.cells x t_api_Rect false 0 false)).next = H.next + 1 := by simp
  generalize H.new (.cells x t_api_Rect false 0 false) = H1 at *
  rw [leaf_s d (k1.get hn h)]
  simp only [callK_s, asB_s]
  rw [if_pos trivial, (ld1_s (k1.get hlt ho)).trans (show _ = some (Value.slice none 0 0) from rfl)]
  simp only [optK_s, asSL_k2]
  rw [rd4 g1 hx]
  simp only [optK_s, asA_s, hx4, newK_s]
  obtain ⟨s', H2, e2, w2, k2, _, f2, n2⟩ := push_whole (H := H1) (s := Sl.nil) (cs := []) (e := t_api_Rect) (sz := 4) (bytes := 32) (new := x) (.inl ⟨rfl, rfl⟩) hx (by show (0 + 1) * 32 ≤ _; omega) (by omega) (by omega)
  rw [show appendK t_api_Rect 4 32 false (Sl.v ⟨none, 0, 0⟩) = appendK t_api_Rect 4 32 false Sl.nil.v from rfl, e2]
  simp only [asSL_k]
  obtain ⟨b, rfl, hb, op, st, gb⟩ := whole_one w2 (by rw [n2])
  have k12 : Keep0 H H2 := k1.fresh k2 fun k e => absurd e Sl.at_nil
  have go := k12.get hlt ho
  rw [(st1_s (v := .slice (some ⟨b, 0, none⟩) 1 1) go (by show 0 < 1; omega) (by omega)).trans (show _ = some (H2.put o (.cells [.slice (some ⟨b, 0, none⟩) 1 1] t_S_api_Rect false 0 false)) from rfl)]
  simp only [optK_s]
  have hbn : H.next ≤ b := by have := f2 b ⟨_, rfl, rfl⟩; omega
  have kp : Keep (fun k => k = o) H2 (H2.put o (.cells [.slice (some ⟨b, 0, none⟩) 1 1] t_S_api_Rect false 0 false)) := Keep.put _ _ _ rfl
  refine ⟨b, _, rfl, by simp, ⟨op, st, ?_⟩, hbn, hb, (k12.to (S := fun k => k = o)).trans kp fun _ _ e => e⟩
  exact (kp.2 b hb (by omega)).trans gb

theorem Panes1_s (d : Nat) {H : Heap} {nd o n : Nat} {x : List Value} (h : H.get nd = some (.cells (leafC n) t_layout_node false 0 false)) (hn : nd < H.next) (ho : H.get o = some (.cells [.slice none 0 0] t_S_int false 0 false)) (hlt : o < H.next) (hx1 : x.all one = true) :
    ∃ b H', X (d + 2) n_layout_Tree_Panes_1 [P0 nd, .agg ⟨x⟩, P0 o] H = some (.tuple #[], H') ∧ H'.get o = some (.cells [.slice (some ⟨b, 0, none⟩) 1 1] t_S_int false 0 false) ∧ (∃ op st, H'.get b = some (.cells [.int .i64 (n : Int)] t_int op 0 st)) ∧ H.next ≤ b ∧ b < H'.next ∧ Keep (fun k => k = o) H H' := by
  rw [layout_Tree_Panes_1_eq, box_s hx1]
  have k1 : Keep0 H (H.new (.cells x t_api_Rect false 0 false)) := Keep.new _ _
  generalize H.new (.cells x t_api_Rect false 0 false) = H1 at *
  rw [leaf_s d (k1.get hn h)]
  simp only [callK_s, asB_s]
  have go1 := k1.get hlt ho
  have ol := (ld1_s (off := 0) go1).trans (show _ = some (Value.slice none 0 0) from rfl)
  rw [if_pos trivial, ol]
  simp only [optK_s, asSL_k2]
  rw [(ld1_s (k1.get hn h)).trans (show _ = some (Value.int .i64 (n : Int)) from rfl)]
  simp only [optK_s, asI_s, newK_s]
  have k0 : Keep0 H1 (H1.new (.cells [.int .i64 (n : Int)] t_int false 0 false)) := Keep.new _ _
  obtain ⟨s', H2, e2, w2, k2, _, f2, n2⟩ := push_whole (H := H1) (s := Sl.nil) (cs := []) (e := t_int) (sz := 1) (bytes := 8) (new := [.int .i64 (n : Int)]) (.inl ⟨rfl, rfl⟩) rfl (by show (0 + 1) * 8 ≤ _; omega) (by omega) (by omega)
  rw [show appendK t_int 1 8 false (Sl.v ⟨none, 0, 0⟩) = appendK t_int 1 8 false Sl.nil.v from rfl, e2]
  simp only [asSL_k]
  obtain ⟨b, rfl, hb, op, st, gb⟩ := whole_one w2 (by rw [n2])
  have k12 : Keep0 H H2 := k1.fresh k2 fun k e => absurd e Sl.at_nil
  have go := k12.get hlt ho
  rw [(st1_s (v := .slice (some ⟨b, 0, none⟩) 1 1) go (by show 0 < 1; omega) (by omega)).trans (show _ = some (H2.put o (.cells [.slice (some ⟨b, 0, none⟩) 1 1] t_S_int false 0 false)) from rfl)]
  simp only [optK_s]
  have r1 : readD (.load 1 false) [P0 o] H1 = some (.slice none 0 0) := rd1' ol
  have r2 : readD (.load 1 false) [P0 o] (H1.new (.cells [.int .i64 (n : Int)] t_int false 0 false)) = some (.slice none 0 0) := rd1' ((ld1_s (k0.get (Nat.lt_of_lt_of_le hlt k1.1) go1)).trans (show _ = some (Value.slice none 0 0) from rfl))
  rw [show rdsOk _ _ = true from by
    simp only [rdsOk, Bool.and_true]
    rw [show 1 + 1 - 0 = 2 from rfl, rdOk_2, rdAt_s rfl r1 (same_sl _ _ _), rdAt_s rfl r2 (same_sl _ _ _)]; rfl]
  simp only [chk_s]
  have hbn : H.next ≤ b := by have := f2 b ⟨_, rfl, rfl⟩; have := k1.1; omega
  have kp : Keep (fun k => k = o) H2 (H2.put o (.cells [.slice (some ⟨b, 0, none⟩) 1 1] t_S_int false 0 false)) := Keep.put _ _ _ rfl
  refine ⟨b, _, rfl, by simp, ⟨op, st, ?_⟩, hbn, hb, (k12.to (S := fun k => k = o)).trans kp fun _ _ e => e⟩
  exact (kp.2 b hb (by omega)).trans gb

theorem walk_leaf (d : Nat) {H : Heap} {nd n f o : Nat} {x : List Value} (_h : H.get nd = some (.cells (leafC n) t_layout_node false 0 false)) (_hn : nd < H.next) (hx : x.length = 4) (hx1 : x.all one = true) {Q : Heap → Prop}
    (hf : ∀ H1, Keep0 H H1 → ∃ H2, X (d + 1) f [P0 nd, .agg ⟨x⟩, P0 o] H1 = some (.tuple #[], H2) ∧ H2.get nd = some (.cells (leafC n) t_layout_node false 0 false) ∧ Q H2) :
    ∃ H', X (d + 2) n_layout_node_walk [P0 nd, .agg ⟨x⟩, .func (.func f) #[] #[P0 o]] H = some (.tuple #[], H') ∧ Q H' := by
  rw [layout_node_walk_eq, box_s hx1]
  have k1 : Keep0 H (H.new (.cells x t_api_Rect false 0 false)) := Keep.new _ _
  have g1 : (H.new (.cells x t_api_Rect false 0 false)).get H.next = some (.cells x t_api_Rect false 0 false) := by simp
  generalize H.new (.cells x t_api_Rect false 0 false) = H1 at *
  rw [rd4 g1 hx]
  simp only [optK_s, asA_s, callvK_s]
  obtain ⟨H2, e2, g2, q2⟩ := hf H1 k1
  rw [show (#[] : Array Value).toList ++ [P0 nd, .agg ⟨x⟩] ++ (#[P0 o] : Array Value).toList = [P0 nd, .agg ⟨x⟩, P0 o] from rfl, e2]
  simp only [callK_s]
  rw [leaf_s d g2]
  simp only [callK_s, asB_s]
  rw [if_pos trivial]
  exact ⟨H2, rfl, q2⟩

theorem fill4 (r c : Nat) : fillL [(0, 4)] [.agg ⟨rectL r c⟩] [.int .i64 0, .int .i64 0, .int .i64 0, .int .i64 0] = some (rectL r c) := rfl
theorem Places_s (d r c : Nat) {H : Heap} {t nd n : Nat} (ht : H.get t = some (.cells [P0 nd] t_layout_Tree false 0 false)) (htl : t < H.next) (h : H.get nd = some (.cells (leafC n) t_layout_node false 0 false)) (hn : nd < H.next) :
    ∃ b H', X (d + 4) n_layout_Tree_Places [P0 t, .int .i64 (r : Int), .int .i64 (c : Int)] H = some (.slice (some ⟨b, 0, none⟩) 1 1, H') ∧ (∃ op st, H'.get b = some (.cells (rectL r c) t_api_Rect op 0 st)) ∧ H.next ≤ b ∧ b < H'.next ∧ Keep0 H H' := by
  rw [layout_Tree_Places_eq]
  simp only [newK_s]
  have k1 : Keep0 H (H.new (.cells [.slice none 0 0] t_S_api_Rect false 0 false)) := Keep.new _ _
  have g1 : (H.new (.cells [.slice none 0 0] t_S_api_Rect false 0 false)).get H.next = some (.cells [.slice none 0 0] t_S_api_Rect false 0 false) := by simp
  have n1 : (H.new (.cells [.slice none 0 0] t_S_api_Rect false 0 false)).next = H.next + 1 := by simp
  generalize H.new (.cells [.slice none 0 0] t_S_api_Rect false 0 false) = H1 at *
  have t1 := k1.get htl ht
  have tl1 := (ld1_s (off := 0) t1).trans (show _ = some (P0 nd) from rfl)
  rw [tl1]
  simp only [optK_s, P0, asP_s]
  obtain ⟨H2, e2, k2⟩ := all_s (d + 2) r c H1
  rw [e2]
  simp only [callK_s, asA_s]
  obtain ⟨H3, e3, b, g3, ⟨op, st, gb⟩, hb, hbl, k3⟩ := walk_leaf (d + 1) (H := H2) (nd := nd) (n := n) (f := n_layout_Tree_Places_1) (o := H.next) (x := rectL r c) (k2.get (by omega) (k1.get hn h)) (by have := k2.1; omega) rfl rfl
    (Q := fun H3 => ∃ b, H3.get H.next = some (.cells [.slice (some ⟨b, 0, none⟩) 1 1] t_S_api_Rect false 0 false) ∧ (∃ op st, H3.get b = some (.cells (rectL r c) t_api_Rect op 0 st)) ∧ H2.next ≤ b ∧ b < H3.next ∧ Keep (fun k => k = H.next) H2 H3) (fun H1' kk => by
      have hk2 := k2.1
      have hkk := kk.1
      obtain ⟨b, H3, e, a1, a2, a3, a5, a4⟩ := Places1_s d (H := H1') (nd := nd) (o := H.next) (n := n) (x := rectL r c) (kk.get (by omega) (k2.get (by omega) (k1.get hn h))) (by omega) (kk.get (by omega) (k2.get (by omega) g1)) (by omega) rfl rfl (fill4 r c)
      refine ⟨H3, e, (a4.2 nd (by omega) (by omega)).trans (kk.get (by omega) (k2.get (by omega) (k1.get hn h))), b, a1, a2, by omega, a5, (kk.to (S := fun k => k = H.next)).trans a4 fun _ _ e => e⟩)
  rw [show X (d + 3) n_layout_node_walk [.pointer (some ⟨nd, 0, none⟩), .agg ⟨rectL r c⟩, .func (.func n_layout_Tree_Places_1) #[] #[.pointer (some ⟨H.next, 0, none⟩)]] H2 = _ from e3]
  simp only [callK_s]
  have hk2 := k2.1
  have t2 := k2.get (by omega) t1
  have t3 := (k3.2 t (by omega) (by omega)).trans t2
  rw [show rdsOk _ _ = true from by
    simp only [rdsOk, Bool.and_true]
    rw [show 1 + 1 - 0 = 2 from rfl, rdOk_2, rdAt_s rfl (rd1' tl1) (same_ptr _), rdAt_s rfl (rd1' ((ld1_s t2).trans (show _ = some (P0 nd) from rfl))) (same_ptr _)]; rfl]
  simp only [chk_s]
  rw [(ld1_s g3).trans (show _ = some (Value.slice (some ⟨b, 0, none⟩) 1 1) from rfl)]
  simp only [optK_s, asSL_k2]
  exact ⟨b, H3, rfl, ⟨op, st, gb⟩, by omega, hbl, (k1.trans k2).fresh k3 fun k e => by omega⟩
theorem Panes_s (d : Nat) {H : Heap} {t nd n : Nat} (ht : H.get t = some (.cells [P0 nd] t_layout_Tree false 0 false)) (htl : t < H.next) (h : H.get nd = some (.cells (leafC n) t_layout_node false 0 false)) (hn : nd < H.next) :
    ∃ b H', X (d + 4) n_layout_Tree_Panes [P0 t] H = some (.slice (some ⟨b, 0, none⟩) 1 1, H') ∧ (∃ op st, H'.get b = some (.cells [.int .i64 (n : Int)] t_int op 0 st)) ∧ H.next ≤ b ∧ b < H'.next ∧ Keep0 H H' := by
  rw [layout_Tree_Panes_eq]
  simp only [newK_s]
  have k1 : Keep0 H (H.new (.cells [.slice none 0 0] t_S_int false 0 false)) := Keep.new _ _
  have g1 : (H.new (.cells [.slice none 0 0] t_S_int false 0 false)).get H.next = some (.cells [.slice none 0 0] t_S_int false 0 false) := by simp
  have n1 : (H.new (.cells [.slice none 0 0] t_S_int false 0 false)).next = H.next + 1 := by simp
  generalize H.new (.cells [.slice none 0 0] t_S_int false 0 false) = H1 at *
  have t1 := k1.get htl ht
  rw [(ld1_s t1).trans (show _ = some (P0 nd) from rfl)]
  simp only [optK_s, P0, asP_s]
  obtain ⟨H3, e3, b, g3, ⟨op, st, gb⟩, hb, hbl, k3⟩ := walk_leaf (d + 1) (H := H1) (nd := nd) (n := n) (f := n_layout_Tree_Panes_1) (o := H.next) (x := rectL 0 0) (k1.get hn h) (by omega) rfl rfl
    (Q := fun H3 => ∃ b, H3.get H.next = some (.cells [.slice (some ⟨b, 0, none⟩) 1 1] t_S_int false 0 false) ∧ (∃ op st, H3.get b = some (.cells [.int .i64 (n : Int)] t_int op 0 st)) ∧ H1.next ≤ b ∧ b < H3.next ∧ Keep (fun k => k = H.next) H1 H3) (fun H1' kk => by
      have hkk := kk.1
      obtain ⟨b, H3, e, a1, a2, a3, a5, a4⟩ := Panes1_s d (H := H1') (nd := nd) (o := H.next) (n := n) (x := rectL 0 0) (kk.get (by omega) (k1.get hn h)) (by omega) (kk.get (by omega) g1) (by omega) rfl
      refine ⟨H3, e, (a4.2 nd (by omega) (by omega)).trans (kk.get (by omega) (k1.get hn h)), b, a1, a2, by omega, a5, (kk.to (S := fun k => k = H.next)).trans a4 fun _ _ e => e⟩)
  rw [show X (d + 3) n_layout_node_walk [.pointer (some ⟨nd, 0, none⟩), .agg #[.int .i64 0, .int .i64 0, .int .i64 0, .int .i64 0], .func (.func n_layout_Tree_Panes_1) #[] #[.pointer (some ⟨H.next, 0, none⟩)]] H1 = _ from e3]
  simp only [callK_s]
  rw [(ld1_s g3).trans (show _ = some (Value.slice (some ⟨b, 0, none⟩) 1 1) from rfl)]
  simp only [optK_s, asSL_k2]
  exact ⟨b, H3, rfl, ⟨op, st, gb⟩, by omega, hbl, k1.fresh k3 fun k e => by omega⟩
end Go.Proofs.YtkkhljcjjhcnhaaGreatDoor.dec

namespace Go.Proofs.YtkkhljcjjhcnhaaGreatDoor.dec
open Go Go.Cm

attribute [local congr] optK_congr asI_congr asN_congr asB_congr asS_congr asP_congr asA_congr asSL_congr callK_congr castT_congr chk_congr

theorem store6 {H : Heap} {b : Nat} {l c : List Value} {e : TypeId} {K : Value → Heap → Res} (h : H.get b = some (.cells l e false 0 false)) (hl : l.length = 6) (hc : c.length = 6) (h1 : c.all one = true) : effK (.store 6) [P0 b, .agg ⟨c⟩] H K = K (.tuple #[]) (H.put b (.cells c e false 0 false)) := by
  have : Heap.stN H ⟨b, 0, none⟩ c = some (H.put b (.cells c e false 0 false)) := by
    simp only [Heap.stN, h]
    rw [if_pos ⟨by omega, Nat.le_refl _⟩]
    simp only [splice, List.take_zero, List.nil_append, Nat.zero_add]
    rw [List.drop_eq_nil_of_le (by omega), List.append_nil]
  simp only [effK]
  rw [if_neg (by omega), show cellsL (.agg ⟨c⟩) = c from rfl, if_pos ⟨hc, h1, by omega⟩, this]
  rfl

/-- fit leaves all as it was: the window's one pane is as great as the mux -/
theorem fit_s (d r c k : Nat) (hr : 1 ≤ r ∧ r ≤ 60) (hc : 1 ≤ c ∧ c ≤ 120) {H : Heap} {m pm p w t nd i a : Nat} {M : List Value} {q : Value} {es : List (Value × Value × Nat)} {clk : Nat} {D : GD} {g : G} {zm : Bool}
    (hm : H.get m = some (.cells M t_mux_Mux false 0 false)) (hml : m < H.next) (m0 : M[0]? = some (.int .i64 (r : Int))) (m1 : M[1]? = some (.int .i64 (c : Int))) (m3 : M[3]? = some (.map (some pm)))
    (hpm : H.get pm = some (.map es clk)) (hpml : pm < H.next) (hf : mapFind (.int .i64) (.int .i64 (k : Int)) es 0 = some (some (i, P0 p, a)))
    (hp : H.get p = some (.cells [P0 D.p, q] t_mux_pane false 0 false)) (hpl : p < H.next) (rep : Rep H D g) (wf : WF g) (gr : g.c.rows = r) (gc : g.c.cols = c)
    (hw : H.get w = some (.cells [P0 t, .int .i64 (k : Int), .bool zm] t_mux_window false 0 false)) (hwl : w < H.next)
    (ht : H.get t = some (.cells [P0 nd] t_layout_Tree false 0 false)) (htl : t < H.next) (hnd : H.get nd = some (.cells (leafC k) t_layout_node false 0 false)) (hndl : nd < H.next) :
    ∃ H', X (d + 5) n_mux_Mux_fit [P0 m, P0 w] H = some (.tuple #[], H') ∧ Keep0 H H' := by
  rw [mux_Mux_fit_eq, (ld1_s hw).trans (show _ = some (P0 t) from rfl)]
  simp only [optK_s, P0, asP_s]
  rw [(ld1_s hm).trans m0, (ld1_s hm).trans m1]
  simp only [optK_s, asI_s]
  obtain ⟨b1, H1, e1, ⟨op1, st1, g1⟩, l1, l1', k1⟩ := Places_s d r c ht htl hnd hndl
  rw [show X (d + 4) n_layout_Tree_Places [.pointer (some ⟨t, 0, none⟩), .int .i64 (r : Int), .int .i64 (c : Int)] H = _ from e1]
  simp only [callK_s, asSL_k2]
  have n1 := k1.1
  rw [(ld1_s (k1.get hwl hw)).trans (show _ = some (P0 t) from rfl)]
  simp only [optK_s, P0, asP_s]
  obtain ⟨b2, H2, e2, ⟨op2, st2, g2⟩, l2, l2', k2⟩ := Panes_s d (k1.get htl ht) (by omega) (k1.get hndl hnd) (by omega)
  rw [show X (d + 4) n_layout_Tree_Panes [.pointer (some ⟨t, 0, none⟩)] H1 = _ from e2]
  simp only [callK_s, asSL_k2]
  have n2 := k2.1
  have k12 := k1.trans k2
  have g12 := k2.get l1' g1
  obtain ⟨f, hf2⟩ : ∃ f, NN = f + 2 := ⟨NN - 2, by rw [NN_eq]⟩
  rw [hf2, mux_Mux_fit_p110_s, if_pos (by decide)]
  simp only [optK_s]
  rw [if_pos (by decide)]
  simp only [Int.toNat_zero, Nat.zero_mul, ap_0]
  rw [(ld1_s g2).trans (show _ = some (Value.int .i64 (k : Int)) from rfl)]
  simp only [optK_s, asI_s]
  rw [if_pos (by decide)]
  rw [show ap ⟨b1, 0, none⟩ 2 = ⟨b1, 2, none⟩ from rfl, (ld1_s g12).trans (show _ = some (Value.int .i64 (r : Int)) from rfl)]
  simp only [optK_s, asI_s]
  rw [if_pos (by decide)]
  rw [show ap ⟨b1, 0, none⟩ 3 = ⟨b1, 3, none⟩ from rfl, (ld1_s g12).trans (show _ = some (Value.int .i64 (c : Int)) from rfl)]
  simp only [optK_s, asI_s]
  have hw2 := k12.get hwl hw
  have hm2 := k12.get hml hm
  rw [(ld1_s hw2).trans (show _ = some (Value.bool zm) from rfl)]
  simp only [optK_s, asB_s]
  rw [if_neg (show ¬ (r : Int) < 1 by omega), if_neg (show ¬ (c : Int) < 1 by omega)]
  -- the pane's grid is so great
  have A : ∃ H', mux_Mux_fit_p11001100111 (d + 4) (f + 1) m w ⟨some ⟨b1, 0, none⟩, 1, 1⟩ (k : Int) (r : Int) (c : Int) ⟨some ⟨b2, 0, none⟩, 1, 1⟩ ((1 : Nat) : Int) 0 H2 = some (.tuple #[], H') ∧ Keep0 H H' := by
    rw [mux_Mux_fit_p11001100111_eq, (ld1_s hm2).trans m3]
    simp only [optK_s, asM_s]
    have hlk : readD (.lookup (.int .i64) (.pointer none) false) [.map (some pm), .int .i64 (k : Int)] H2 = some (P0 p) := by
      simp only [readD, isKey, decide_true, if_true, Heap.ents, k12.get hpml hpm, hf, lookV_f]
    rw [hlk]
    simp only [optK_s, P0, asP_s, nilP_s, ap_0]
    rw [(ld1_s (k12.get hpl hp)).trans (show _ = some (P0 D.p) from rfl)]
    simp only [optK_s, P0, asP_s]
    have rep2 := rep.new k12
    obtain ⟨y, p', H3, e3, _, _, _, _, _, _, k3⟩ := Screen_s (d + 1) rep2 wf
    rw [show X (d + 4) n_grid_Grid_Screen [.pointer (some ⟨D.p, 0, none⟩)] H2 = _ from e3]
    simp only [callK_s, asA_s, newK_s]
    have k4 : Keep0 H3 (H3.new (.cells [.int .i64 0, .int .i64 0, .slice none 0 0, .int .i64 0, .int .i64 0, .bool false] t_api_Screen false 0 false)) := Keep.new _ _
    have g4 : (H3.new (.cells [.int .i64 0, .int .i64 0, .slice none 0 0, .int .i64 0, .int .i64 0, .bool false] t_api_Screen false 0 false)).get H3.next = some (.cells [.int .i64 0, .int .i64 0, .slice none 0 0, .int .i64 0, .int .i64 0, .bool false] t_api_Screen false 0 false) := by simp
    generalize H3.new (.cells [.int .i64 0, .int .i64 0, .slice none 0 0, .int .i64 0, .int .i64 0, .bool false] t_api_Screen false 0 false) = H4 at *
    rw [show (.pointer (some ⟨H3.next, 0, none⟩) : Value) = P0 H3.next from rfl, store6 g4 rfl rfl rfl]
    have kp : Keep (fun k => k = H3.next) H4 (H4.put H3.next (.cells (scrL g.c y) t_api_Screen false 0 false)) := Keep.put _ _ _ rfl
    have gp : (H4.put H3.next (.cells (scrL g.c y) t_api_Screen false 0 false)).get H3.next = some (.cells (scrL g.c y) t_api_Screen false 0 false) := by simp
    generalize H4.put H3.next (.cells (scrL g.c y) t_api_Screen false 0 false) = H5 at *
    rw [(ld1_s gp).trans (show _ = some (Value.int .i64 (g.c.rows : Int)) from rfl)]
    simp only [optK_s, asI_s]
    rw [gr, if_neg (by simp), (ld1_s gp).trans (show _ = some (Value.int .i64 (g.c.cols : Int)) from rfl)]
    simp only [optK_s, asI_s]
    rw [gc, decide_eq_true rfl, mux_Mux_fit_p110011001110111_eq, if_neg (by simp), mux_Mux_fit_p1100111_eq, mux_Mux_fit_p110_s, if_neg (by decide)]
    have n3 := k3.1
    exact ⟨H5, rfl, ((k12.trans k3).trans k4).fresh kp fun k e => by have e' : k = H3.next := e; omega⟩
  by_cases hz : zm = true
  · subst hz
    rw [if_pos rfl, (ld1_s hw2).trans (show _ = some (Value.int .i64 (k : Int)) from rfl)]
    simp only [optK_s, asI_s]
    rw [show decide True = true from rfl, mux_Mux_fit_p110011001101_eq, if_pos rfl, (ld1_s hm2).trans m0, (ld1_s hm2).trans m1]
    simp only [optK_s, asI_s]
    exact A
  · rw [if_neg hz, mux_Mux_fit_p110011001101_eq, if_neg (by simp)]
    exact A

/-- a new pane -/
theorem make_s (d r c k : Nat) (hr : 1 ≤ r ∧ r ≤ 60) (hc : 1 ≤ c ∧ c ≤ 120) (hk : k ≤ 1000000) {H : Heap} {m sm pm : Nat} {bf : Value} {es : List (Value × Value × Nat)} {clk : Nat}
    (hm : H.get m = some (.cells [.int .i64 (r : Int), .int .i64 (c : Int), .map (some sm), .map (some pm), .int .i64 (k : Int), bf] t_mux_Mux false 0 false)) (hml : m < H.next)
    (hpm : H.get pm = some (.map es clk)) (hpml : pm < H.next) (hne : m ≠ pm) (hf : mapFind (.int .i64) (.int .i64 (k : Int)) es 0 = some none) :
    ∃ p D H', X (d + 8) n_mux_Mux_make [P0 m] H = some (.tuple #[], H') ∧ H'.get m = some (.cells [.int .i64 (r : Int), .int .i64 (c : Int), .map (some sm), .map (some pm), .int .i64 ((k + 1 : Nat) : Int), bf] t_mux_Mux false 0 false) ∧
      H'.get pm = some (.map (es ++ [(.int .i64 (k : Int), P0 p, clk)]) (clk + 1)) ∧ H'.get p = some (.cells [P0 D.p, Sl.nil.v] t_mux_pane false 0 false) ∧ H.next ≤ p ∧ p < H'.next ∧ Rep H' D (G.fresh r c []) ∧ (∀ k, D.foot k → H.next ≤ k ∧ k ≠ p) ∧ Keep (fun k => k = m ∨ k = pm) H H' := by
  rw [mux_Mux_make_eq, (ld1_s hm).trans (show _ = some (Value.int .i64 (r : Int)) from rfl)]
  simp only [optK_s, asI_s]
  rw [(ld1_s hm).trans (show _ = some (Value.int .i64 (c : Int)) from rfl)]
  simp only [optK_s, asI_s]
  obtain ⟨H1, D, e1, rep, k1, ff⟩ := New_s d H hr hc
  rw [e1]
  simp only [callK_s, castT_s, castL_c, castL_n, cast0, P0, asP_s, asI_s, optK_s, List.getElem?_cons_zero, List.getElem?_cons_succ]
  have n1 := k1.1
  have hm1 := k1.get hml hm
  have l3 := (ld1_s (off := 3) hm1).trans (show _ = some (Value.map (some pm)) from rfl)
  have l4 := (ld1_s (off := 4) hm1).trans (show _ = some (Value.int .i64 (k : Int)) from rfl)
  rw [l3]
  simp only [optK_s, asM_s]
  rw [l4]
  simp only [optK_s, asI_s, newK_s]
  have k2 : Keep0 H1 (H1.new (.cells [.pointer (some ⟨D.p, 0, none⟩), .slice none 0 0] t_mux_pane false 0 false)) := Keep.new _ _
  have g2 : (H1.new (.cells [.pointer (some ⟨D.p, 0, none⟩), .slice none 0 0] t_mux_pane false 0 false)).get H1.next = some (.cells [P0 D.p, Sl.nil.v] t_mux_pane false 0 false) := by simp
  have n2 : (H1.new (.cells [.pointer (some ⟨D.p, 0, none⟩), .slice none 0 0] t_mux_pane false 0 false)).next = H1.next + 1 := by simp
  generalize H1.new (.cells [.pointer (some ⟨D.p, 0, none⟩), .slice none 0 0] t_mux_pane false 0 false) = H2 at *
  have hm2 := k2.get (by omega) hm1
  have hpm2 := k2.get (by omega) (k1.get hpml hpm)
  have eu : ∀ K, effK (.mapE (.upd (.int .i64))) [.map (some pm), .int .i64 (k : Int), .pointer (some ⟨H1.next, 0, none⟩)] H2 K = K (.tuple #[]) (H2.put pm (.map (es ++ [(.int .i64 (k : Int), P0 H1.next, clk)]) (clk + 1))) := fun K => by
    simp only [effK, mapD, isKey, decide_true, if_true, Heap.ents, hpm2, hf, optK_s]
  rw [eu]
  have k3 : Keep (fun k => k = pm) H2 (H2.put pm (.map (es ++ [(.int .i64 (k : Int), P0 H1.next, clk)]) (clk + 1))) := Keep.put _ _ _ rfl
  have g3 : (H2.put pm (.map (es ++ [(.int .i64 (k : Int), P0 H1.next, clk)]) (clk + 1))).get pm = some (.map (es ++ [(.int .i64 (k : Int), P0 H1.next, clk)]) (clk + 1)) := by simp
  generalize H2.put pm (.map (es ++ [(.int .i64 (k : Int), P0 H1.next, clk)]) (clk + 1)) = H3 at *
  have n3 := k3.1
  have hm3 := (k3.2 m (by omega) hne).trans hm2
  have r3 : ∀ (Hx : Heap), Hx.get m = some (.cells [.int .i64 (r : Int), .int .i64 (c : Int), .map (some sm), .map (some pm), .int .i64 (k : Int), bf] t_mux_Mux false 0 false) → readD (.load 1 false) [.pointer (some ⟨m, 3, none⟩)] Hx = some (Value.map (some pm)) := fun Hx h => rd1' ((ld1_s h).trans rfl)
  have r4 : ∀ (Hx : Heap), Hx.get m = some (.cells [.int .i64 (r : Int), .int .i64 (c : Int), .map (some sm), .map (some pm), .int .i64 (k : Int), bf] t_mux_Mux false 0 false) → readD (.load 1 false) [.pointer (some ⟨m, 4, none⟩)] Hx = some (Value.int .i64 (k : Int)) := fun Hx h => rd1' ((ld1_s h).trans rfl)
  rw [show rdsOk _ _ = true from by
    simp only [rdsOk, Bool.and_true]
    rw [show 1 + 1 - 0 = 2 from rfl, rdOk_2, rdOk_2, rdAt_s rfl (r4 _ hm1) (same_int _ _), rdAt_s rfl (r4 _ hm2) (same_int _ _), rdAt_s rfl (r3 _ hm1) (by simp [same, same0]), rdAt_s rfl (r3 _ hm2) (by simp [same, same0])]; rfl]
  simp only [chk_s]
  rw [(ld1_s hm3).trans (show _ = some (Value.int .i64 (k : Int)) from rfl)]
  simp only [optK_s, asI_s]
  rw [wi (by omega), (st1_s (v := .int .i64 ((k + 1 : Nat) : Int)) hm3 (by show 4 < 6; omega) (by omega)).trans (show _ = some (H3.put m (.cells [.int .i64 (r : Int), .int .i64 (c : Int), .map (some sm), .map (some pm), .int .i64 ((k + 1 : Nat) : Int), bf] t_mux_Mux false 0 false)) from rfl)]
  simp only [optK_s]
  have k4 : Keep (fun k => k = m) H3 (H3.put m (.cells [.int .i64 (r : Int), .int .i64 (c : Int), .map (some sm), .map (some pm), .int .i64 ((k + 1 : Nat) : Int), bf] t_mux_Mux false 0 false)) := Keep.put _ _ _ rfl
  have g4 : (H3.put m (.cells [.int .i64 (r : Int), .int .i64 (c : Int), .map (some sm), .map (some pm), .int .i64 ((k + 1 : Nat) : Int), bf] t_mux_Mux false 0 false)).get m = some (.cells [.int .i64 (r : Int), .int .i64 (c : Int), .map (some sm), .map (some pm), .int .i64 ((k + 1 : Nat) : Int), bf] t_mux_Mux false 0 false) := by simp
  generalize H3.put m (.cells [.int .i64 (r : Int), .int .i64 (c : Int), .map (some sm), .map (some pm), .int .i64 ((k + 1 : Nat) : Int), bf] t_mux_Mux false 0 false) = H4 at *
  have n4 := k4.1
  have kk : Keep (fun k => k = m ∨ k = pm) H2 H4 := (k3.mono (T := fun k => k = m ∨ k = pm) fun _ _ e => .inr e).trans k4 fun _ _ e => .inl e
  have rep2 := rep.new k2
  refine ⟨H1.next, D, H4, rfl, g4, (k4.2 pm (by omega) (Ne.symm hne)).trans g3, (kk.2 H1.next (by omega) (by omega)).trans g2, by omega, by omega, rep2.keep kk fun j e e' => ?_, fun j e => ⟨ff j e, ?_⟩, ((k1.trans k2).to (S := fun k => k = m ∨ k = pm)).trans kk fun _ _ e => e⟩
  · have := ff j e; omega
  · have := rep.ltF e; omega
end Go.Proofs.YtkkhljcjjhcnhaaGreatDoor.dec

namespace Go.Proofs.YtkkhljcjjhcnhaaGreatDoor.dec
open Go Go.Cm

attribute [local congr] optK_congr asI_congr asN_congr asB_congr asS_congr asP_congr asA_congr asSL_congr callK_congr castT_congr chk_congr

theorem find_app {kd : Kd0} {k : Value} {e : Value × Value × Nat} : ∀ (es : List (Value × Value × Nat)) (i : Nat), mapFind kd k es i = some none → mapFind kd k (es ++ [e]) i = mapFind kd k [e] (i + es.length)
  | [], i, _ => rfl
  | x :: es, i, h => by
    simp only [mapFind, List.cons_append] at h ⊢
    split at h
    · cases h
    · rename_i e1
      rw [find_app es (i + 1) h]
      simp only [mapFind, List.length_cons]
      rw [show i + 1 + es.length = i + (es.length + 1) by omega]
    · cases h
theorem eqI (k : Int) : eqC (.int .i64) (.int .i64 k) (.int .i64 k) = some true := by simp [eqC]
theorem find_int {es : List (Value × Value × Nat)} {k : Int} {v : Value} {a : Nat} (h : mapFind (.int .i64) (.int .i64 k) es 0 = some none) : mapFind (.int .i64) (.int .i64 k) (es ++ [(.int .i64 k, v, a)]) 0 = some (some (es.length, v, a)) := by
  rw [find_app es 0 h]
  simp only [mapFind, eqI, Nat.zero_add]

theorem fresh_s (d r c k : Nat) (hr : 1 ≤ r ∧ r ≤ 60) (hc : 1 ≤ c ∧ c ≤ 120) (hk : k ≤ 1000000) {H : Heap} {m sm pm : Nat} {bf : Value} {es : List (Value × Value × Nat)} {clk : Nat}
    (hm : H.get m = some (.cells [.int .i64 (r : Int), .int .i64 (c : Int), .map (some sm), .map (some pm), .int .i64 (k : Int), bf] t_mux_Mux false 0 false)) (hml : m < H.next)
    (hpm : H.get pm = some (.map es clk)) (hpml : pm < H.next) (hne : m ≠ pm) (hf : mapFind (.int .i64) (.int .i64 (k : Int)) es 0 = some none) :
    ∃ w t nd p D H', X (d + 9) n_mux_Mux_fresh [P0 m] H = some (P0 w, H') ∧ H'.get m = some (.cells [.int .i64 (r : Int), .int .i64 (c : Int), .map (some sm), .map (some pm), .int .i64 ((k + 1 : Nat) : Int), bf] t_mux_Mux false 0 false) ∧
      H'.get pm = some (.map (es ++ [(.int .i64 (k : Int), P0 p, clk)]) (clk + 1)) ∧ H'.get p = some (.cells [P0 D.p, Sl.nil.v] t_mux_pane false 0 false) ∧
      H'.get w = some (.cells [P0 t, .int .i64 (k : Int), .bool false] t_mux_window false 0 false) ∧ H'.get t = some (.cells [P0 nd] t_layout_Tree false 0 false) ∧ H'.get nd = some (.cells (leafC k) t_layout_node false 0 false) ∧
      (H.next ≤ nd ∧ nd < t ∧ t < w ∧ w < p ∧ p < H'.next) ∧ Rep H' D (G.fresh r c []) ∧ (∀ k, D.foot k → w < k ∧ k ≠ p ∧ k < H'.next) ∧ Keep (fun k => k = m ∨ k = pm) H H' := by
  rw [mux_Mux_fresh_eq]
  have l4 : ∀ (Hx : Heap), Hx.get m = some (.cells [.int .i64 (r : Int), .int .i64 (c : Int), .map (some sm), .map (some pm), .int .i64 (k : Int), bf] t_mux_Mux false 0 false) → Hx.ld1 ⟨m, 4, none⟩ = some (Value.int .i64 (k : Int)) := fun Hx h => (ld1_s h).trans rfl
  rw [l4 _ hm]
  simp only [optK_s, asI_s]
  rw [layout_New_eq]
  simp only [newK_s]
  have k1 : Keep0 H (H.new (.cells [.int .i64 (k : Int), .pointer none, .pointer none, .bool false, .int .i64 0] t_layout_node false 0 false)) := Keep.new _ _
  have g1 : (H.new (.cells [.int .i64 (k : Int), .pointer none, .pointer none, .bool false, .int .i64 0] t_layout_node false 0 false)).get H.next = some (.cells (leafC k) t_layout_node false 0 false) := by simp [leafC]
  have n1 : (H.new (.cells [.int .i64 (k : Int), .pointer none, .pointer none, .bool false, .int .i64 0] t_layout_node false 0 false)).next = H.next + 1 := by simp
  generalize H.new (.cells [.int .i64 (k : Int), .pointer none, .pointer none, .bool false, .int .i64 0] t_layout_node false 0 false) = H1 at *
  have k2 : Keep0 H1 (H1.new (.cells [P0 H.next] t_layout_Tree false 0 false)) := Keep.new _ _
  have g2 : (H1.new (.cells [P0 H.next] t_layout_Tree false 0 false)).get H1.next = some (.cells [P0 H.next] t_layout_Tree false 0 false) := by simp
  have n2 : (H1.new (.cells [P0 H.next] t_layout_Tree false 0 false)).next = H1.next + 1 := by simp
  generalize H1.new (.cells [P0 H.next] t_layout_Tree false 0 false) = H2 at *
  simp only [callK_s, P0, asP_s]
  have hm2 := (k1.trans k2).get hml hm
  rw [l4 _ hm2]
  simp only [optK_s, asI_s]
  have k3 : Keep0 H2 (H2.new (.cells [.pointer (some ⟨H1.next, 0, none⟩), .int .i64 (k : Int), .bool false] t_mux_window false 0 false)) := Keep.new _ _
  have g3 : (H2.new (.cells [.pointer (some ⟨H1.next, 0, none⟩), .int .i64 (k : Int), .bool false] t_mux_window false 0 false)).get H2.next = some (.cells [P0 H1.next, .int .i64 (k : Int), .bool false] t_mux_window false 0 false) := by simp
  have n3 : (H2.new (.cells [.pointer (some ⟨H1.next, 0, none⟩), .int .i64 (k : Int), .bool false] t_mux_window false 0 false)).next = H2.next + 1 := by simp
  generalize H2.new (.cells [.pointer (some ⟨H1.next, 0, none⟩), .int .i64 (k : Int), .bool false] t_mux_window false 0 false) = H3 at *
  have k03 := (k1.trans k2).trans k3
  have hm3 := k03.get hml hm
  rw [show rdsOk _ _ = true from by
    simp only [rdsOk, Bool.and_true]
    rw [show 1 + 1 - 0 = 2 from rfl, rdOk_2, rdAt_s rfl (rd1' (l4 _ hm)) (same_int _ _), rdAt_s rfl (rd1' (l4 _ hm2)) (same_int _ _)]; rfl]
  simp only [chk_s]
  obtain ⟨p, D, H4, e4, a1, a2, a3, a4, a5, a6, a7, a8⟩ := make_s d r c k hr hc hk hm3 (by omega) (k03.get hpml hpm) (by omega) hne hf
  rw [show X (d + 8) n_mux_Mux_make [.pointer (some ⟨m, 0, none⟩)] H3 = _ from e4]
  simp only [callK_s]
  have n4 := a8.1
  have gw := (a8.2 H2.next (by omega) (by omega)).trans g3
  have gt := (a8.2 H1.next (by omega) (by omega)).trans (k3.get (by omega) g2)
  have gn := (a8.2 H.next (by omega) (by omega)).trans (k3.get (by omega) (k2.get (by omega) g1))
  obtain ⟨H5, e5, k5⟩ := fit_s (d + 3) r c k hr hc (M := [.int .i64 (r : Int), .int .i64 (c : Int), .map (some sm), .map (some pm), .int .i64 ((k + 1 : Nat) : Int), bf]) a1 (by omega) rfl rfl rfl a2 (by omega) (find_int hf) a3 a5 a6 (WF.fresh hr hc (by simp) (by simp)) rfl rfl gw (by omega) gt (by omega) gn (by omega)
  rw [show X (d + 8) n_mux_Mux_fit [.pointer (some ⟨m, 0, none⟩), .pointer (some ⟨H2.next, 0, none⟩)] H4 = _ from e5]
  simp only [callK_s]
  have n5 := k5.1
  refine ⟨H2.next, H1.next, H.next, p, D, H5, rfl, k5.get (by omega) a1, k5.get (by omega) a2, k5.get a5 a3, k5.get (by omega) gw, k5.get (by omega) gt, k5.get (by omega) gn, by omega, a6.new k5, fun j e => ?_, (k03.to (S := fun k => k = m ∨ k = pm)).trans (a8.trans k5.to fun _ _ e => e) fun _ _ e => e⟩
  have e1 := a7 j e
  have e2 := a6.ltF e
  exact ⟨by omega, e1.2, by omega⟩

theorem New5_s (d r c : Nat) (hr : 1 ≤ r ∧ r ≤ 60) (hc : 1 ≤ c ∧ c ≤ 120) (H : Heap) :
    ∃ m sm pm H', X (d + 8) n_mux_New [.int .i64 (r : Int), .int .i64 (c : Int)] H = some (.tuple ⟨[P0 m, .int .i64 0]⟩, H') ∧ H'.get m = some (.cells [.int .i64 (r : Int), .int .i64 (c : Int), .map (some sm), .map (some pm), .int .i64 0, .slice none 0 0] t_mux_Mux false 0 false) ∧
      H'.get sm = some (.map [] 0) ∧ H'.get pm = some (.map [] 0) ∧ H.next ≤ sm ∧ sm < pm ∧ pm < m ∧ m < H'.next ∧ Keep0 H H' := by
  rw [mux_New_eq]
  obtain ⟨H1, D, e1, _, k1, _⟩ := New_s d H hr hc
  rw [e1]
  simp only [callK_s, castT_s, castL_c, castL_n, cast0, P0, asP_s, asI_s, optK_s, List.getElem?_cons_zero, List.getElem?_cons_succ]
  rw [if_neg (by decide)]
  have emk : ∀ (Hx : Heap) (K : Value → Heap → Res), effK (.mapE .mk) [] Hx K = K (.map (some Hx.next)) (Hx.new (.map [] 0)) := fun _ _ => rfl
  rw [emk]
  simp only [asM_s]
  have k2 : Keep0 H1 (H1.new (.map [] 0)) := Keep.new _ _
  have g2 : (H1.new (.map [] 0)).get H1.next = some (.map [] 0) := by simp
  have n2 : (H1.new (.map [] 0)).next = H1.next + 1 := by simp
  generalize H1.new (.map [] 0) = H2 at *
  rw [emk]
  simp only [asM_s, newK_s]
  have k3 : Keep0 H2 (H2.new (.map [] 0)) := Keep.new _ _
  have g3 : (H2.new (.map [] 0)).get H2.next = some (.map [] 0) := by simp
  have n3 : (H2.new (.map [] 0)).next = H2.next + 1 := by simp
  generalize H2.new (.map [] 0) = H3 at *
  have n1 := k1.1
  have k4 : Keep0 H3 (H3.new (.cells [.int .i64 (r : Int), .int .i64 (c : Int), .map (some H1.next), .map (some H2.next), .int .i64 0, .slice none 0 0] t_mux_Mux false 0 false)) := Keep.new _ _
  exact ⟨H3.next, H1.next, H2.next, _, rfl, by simp, k4.get (by omega) (k3.get (by omega) g2), k4.get (by omega) g3, by omega, by omega, by omega, by simp, ((k1.trans k2).trans k3).trans k4⟩

theorem NewSession_s (d r c k : Nat) (hr : 1 ≤ r ∧ r ≤ 60) (hc : 1 ≤ c ∧ c ≤ 120) (hk : k ≤ 1000000) {nm : ByteArray} {H : Heap} {m sm pm : Nat} {bf : Value} {ss es : List (Value × Value × Nat)} {cls clk : Nat}
    (hR : X (d + 9) n_mux_Right [.string nm] H = some (.bool true, H))
    (hm : H.get m = some (.cells [.int .i64 (r : Int), .int .i64 (c : Int), .map (some sm), .map (some pm), .int .i64 (k : Int), bf] t_mux_Mux false 0 false)) (hml : m < H.next)
    (hpm : H.get pm = some (.map es clk)) (hpml : pm < H.next) (hsm : H.get sm = some (.map ss cls)) (hsml : sm < H.next) (hne : m ≠ pm) (hne2 : sm ≠ m) (hne3 : sm ≠ pm) (hf : mapFind (.int .i64) (.int .i64 (k : Int)) es 0 = some none)
    (hs : mapFind .str (.string nm) ss 0 = some none) (hl : ss.length < 8) :
    ∃ s wl w t nd p D H', X (d + 10) n_mux_Mux_NewSession [P0 m, .string nm] H = some (.int .i64 0, H') ∧ H'.get m = some (.cells [.int .i64 (r : Int), .int .i64 (c : Int), .map (some sm), .map (some pm), .int .i64 ((k + 1 : Nat) : Int), bf] t_mux_Mux false 0 false) ∧
      H'.get pm = some (.map (es ++ [(.int .i64 (k : Int), P0 p, clk)]) (clk + 1)) ∧ H'.get sm = some (.map (ss ++ [(.string nm, P0 s, cls)]) (cls + 1)) ∧ H'.get s = some (.cells [.slice (some ⟨wl, 0, none⟩) 1 1, .int .i64 0] t_mux_session false 0 false) ∧ H'.get wl = some (.cells [P0 w] t_P_mux_window false 0 false) ∧
      H'.get p = some (.cells [P0 D.p, Sl.nil.v] t_mux_pane false 0 false) ∧
      H'.get w = some (.cells [P0 t, .int .i64 (k : Int), .bool false] t_mux_window false 0 false) ∧ H'.get t = some (.cells [P0 nd] t_layout_Tree false 0 false) ∧ H'.get nd = some (.cells (leafC k) t_layout_node false 0 false) ∧
      (H.next ≤ nd ∧ nd < t ∧ t < w ∧ w < p ∧ p < wl ∧ wl < s ∧ s < H'.next) ∧ Rep H' D (G.fresh r c []) ∧ (∀ k, D.foot k → w < k ∧ k ≠ p ∧ k < wl) ∧ Keep (fun k => k = m ∨ k = pm ∨ k = sm) H H' := by
  have l2 : ∀ {Hx : Heap} {n : Value}, Hx.get m = some (.cells [.int .i64 (r : Int), .int .i64 (c : Int), .map (some sm), .map (some pm), n, bf] t_mux_Mux false 0 false) → Hx.ld1 ⟨m, 2, none⟩ = some (Value.map (some sm)) := fun h => (ld1_s h).trans rfl
  rw [mux_Mux_NewSession_eq, l2 hm]
  simp only [optK_s, asM_s]
  have hlk : readD (.lookup .str (.pointer none) true) [.map (some sm), .string nm] H = some (.tuple ⟨[.pointer none, .bool false]⟩) := by
    simp only [readD, isKey, if_true, Heap.ents, hsm, hs, lookV]
  rw [hlk]
  simp only [optK_s, castT_s, castL_c, castL_n, cast0, P0, asP_s, asB_s, List.getElem?_cons_zero, List.getElem?_cons_succ]
  rw [hR]
  simp only [callK_s, asB_s]
  rw [if_neg (by simp), if_neg (by simp)]
  simp only [l2 hm, optK_s, asM_s]
  rw [show readD .lenMap [.map (some sm)] H = some (.int .i64 (ss.length : Int)) by simp only [readD, Heap.ents, hsm]]
  simp only [optK_s, asI_s]
  rw [if_neg (by rw [decide_eq_true_eq]; omega)]
  obtain ⟨w, t, nd, p, D, H1, e1, b1, b2, b3, b4, b5, b6, b7, b8, b9, k1⟩ := fresh_s d r c k hr hc hk hm hml hpm hpml hne hf
  rw [show X (d + 9) n_mux_Mux_fresh [.pointer (some ⟨m, 0, none⟩)] H = _ from e1]
  simp only [callK_s, P0, asP_s, newK_s]
  have n1 := k1.1
  have k2 : Keep0 H1 (H1.new (.cells [.pointer (some ⟨w, 0, none⟩)] t_P_mux_window false 0 false)) := Keep.new _ _
  have g2 : (H1.new (.cells [.pointer (some ⟨w, 0, none⟩)] t_P_mux_window false 0 false)).get H1.next = some (.cells [P0 w] t_P_mux_window false 0 false) := by simp
  have n2 : (H1.new (.cells [.pointer (some ⟨w, 0, none⟩)] t_P_mux_window false 0 false)).next = H1.next + 1 := by simp
  generalize H1.new (.cells [.pointer (some ⟨w, 0, none⟩)] t_P_mux_window false 0 false) = H2 at *
  have k3 : Keep0 H2 (H2.new (.cells [.slice (some ⟨H1.next, 0, none⟩) 1 1, .int .i64 0] t_mux_session false 0 false)) := Keep.new _ _
  have g3 : (H2.new (.cells [.slice (some ⟨H1.next, 0, none⟩) 1 1, .int .i64 0] t_mux_session false 0 false)).get H2.next = some (.cells [.slice (some ⟨H1.next, 0, none⟩) 1 1, .int .i64 0] t_mux_session false 0 false) := by simp
  have n3 : (H2.new (.cells [.slice (some ⟨H1.next, 0, none⟩) 1 1, .int .i64 0] t_mux_session false 0 false)).next = H2.next + 1 := by simp
  generalize H2.new (.cells [.slice (some ⟨H1.next, 0, none⟩) 1 1, .int .i64 0] t_mux_session false 0 false) = H3 at *
  have k13 := k2.trans k3
  have hsm3 : H3.get sm = some (.map ss cls) := k13.get (by omega) ((k1.2 sm hsml (by omega)).trans hsm)
  have eu : ∀ K, effK (.mapE (.upd .str)) [.map (some sm), .string nm, .pointer (some ⟨H2.next, 0, none⟩)] H3 K = K (.tuple #[]) (H3.put sm (.map (ss ++ [(.string nm, P0 H2.next, cls)]) (cls + 1))) := fun K => by
    simp only [effK, mapD, isKey, if_true, Heap.ents, hsm3, hs, optK_s]
  rw [eu]
  have k4 : Keep (fun k => k = sm) H3 (H3.put sm (.map (ss ++ [(.string nm, P0 H2.next, cls)]) (cls + 1))) := Keep.put _ _ _ rfl
  have g4 : (H3.put sm (.map (ss ++ [(.string nm, P0 H2.next, cls)]) (cls + 1))).get sm = some (.map (ss ++ [(.string nm, P0 H2.next, cls)]) (cls + 1)) := by simp
  generalize H3.put sm (.map (ss ++ [(.string nm, P0 H2.next, cls)]) (cls + 1)) = H4 at *
  rw [show rdsOk _ _ = true from by
    simp only [rdsOk, Bool.and_true]
    rw [show 1 + 3 - 0 = 4 from rfl, rdOk_4, rdAt_s rfl (rd1' (l2 hm)) (by simp [same, same0]), rdAt_s rfl (rd1' (l2 b1)) (by simp [same, same0]), rdAt_s rfl (rd1' (l2 (k2.get (by omega) b1))) (by simp [same, same0]), rdAt_s rfl (rd1' (l2 (k13.get (by omega) b1))) (by simp [same, same0])]; rfl]
  simp only [chk_s]
  have n4 := k4.1
  have f : ∀ {j : Nat} {o : CObj}, j < H1.next → j ≠ sm → H1.get j = some o → H4.get j = some o := fun hj hne hg => (k4.2 _ (by omega) hne).trans (k13.get hj hg)
  refine ⟨H2.next, H1.next, w, t, nd, p, D, H4, rfl, f (by omega) (Ne.symm hne2) b1, f (by omega) (Ne.symm hne3) b2, g4, (k4.2 _ (by omega) (by omega)).trans g3, (k4.2 _ (by omega) (by omega)).trans (k3.get (by omega) g2), f (by omega) (by omega) b3, f (by omega) (by omega) b4, f (by omega) (by omega) b5, f (by omega) (by omega) b6, by omega,
    (b8.new k13).keep k4 fun j e e' => ?_, fun j e => ?_, (k1.mono (T := fun k => k = m ∨ k = pm ∨ k = sm) fun _ _ e => by rcases e with e | e; exact .inl e; exact .inr (.inl e)).trans ((k13.to (S := fun k => k = sm)).trans k4 fun _ _ e => e) fun _ _ e => .inr (.inr e)⟩
  · have := b9 j e; have e'' : j = sm := e'; omega
  · have := b9 j e; omega
end Go.Proofs.YtkkhljcjjhcnhaaGreatDoor.dec

namespace Go.Proofs.YtkkhljcjjhcnhaaGreatDoor.dec
open Go Go.Cm

attribute [local congr] optK_congr asI_congr asN_congr asB_congr asS_congr asP_congr asA_congr asSL_congr callK_congr castT_congr chk_congr

theorem small_s (d n : Nat) (hn : n < 100) (H : Heap) : ∃ s, X (d + 1) n_strconv_small [.int .i64 (n : Int)] H = some (.string s, H) := by
  rw [strconv_small_eq]
  by_cases h : n < 10
  · rw [if_pos (decide_eq_true (by omega)), w64 (by omega), if_pos ⟨by omega, by omega, Int.le_trans (b := 36) (by omega) (by decide +kernel)⟩]
    exact ⟨_, rfl⟩
  · rw [if_neg (by rw [decide_eq_true_eq]; omega), w64 (show -9223372036854775808 ≤ (n : Int) * 2 ∧ (n : Int) * 2 ≤ 9223372036854775807 by omega), w64 (by omega), if_pos ⟨by omega, by omega, Int.le_trans (b := 200) (by omega) (by decide +kernel)⟩]
    exact ⟨_, rfl⟩
theorem Itoa_s (d n : Nat) (hn : n < 100) (H : Heap) : ∃ s, X (d + 4) n_strconv_Itoa [.int .i64 (n : Int)] H = some (.string s, H) := by
  obtain ⟨s, e⟩ := small_s d n hn H
  refine ⟨s, ?_⟩
  rw [strconv_Itoa_eq, strconv_Itoax_eq, strconv_FormatInt_eq, if_pos (by decide), if_pos (decide_eq_true (by omega)), decide_eq_true (show (n : Int) < 100 by omega), strconv_FormatInt_p101001_eq, if_pos rfl, e]
  simp only [callK_s, asS_s]
theorem text_s (d : Nat) {n : Nat} (hn : n < 100) {H : Heap} {b : Nat} (h : H.get b = some (.cells (leafC n) t_layout_node false 0 false)) : ∃ s, X (d + 5) n_layout_node_text [P0 b] H = some (.string s, H) := by
  obtain ⟨s, e⟩ := Itoa_s d n hn H
  refine ⟨s, ?_⟩
  rw [layout_node_text_eq, leaf_s (d + 3) h]
  simp only [callK_s, asB_s]
  rw [if_pos trivial, (ld1_s h).trans (show _ = some (Value.int .i64 (n : Int)) from rfl)]
  simp only [optK_s, asI_s]
  rw [if_neg (by rw [decide_eq_true_eq]; omega), e]
  simp only [callK_s, asS_s]
theorem String_s (d : Nat) {n : Nat} (hn : n < 100) {H : Heap} {t b : Nat} (ht : H.get t = some (.cells [P0 b] t_layout_Tree false 0 false)) (h : H.get b = some (.cells (leafC n) t_layout_node false 0 false)) : ∃ s, X (d + 6) n_layout_Tree_String [P0 t] H = some (.string s, H) := by
  obtain ⟨s, e⟩ := text_s d hn h
  refine ⟨s, ?_⟩
  rw [layout_Tree_String_eq, (ld1_s ht).trans (show _ = some (P0 b) from rfl)]
  simp only [optK_s, P0, asP_s]
  rw [show X (d + 5) n_layout_node_text [.pointer (some ⟨b, 0, none⟩)] H = _ from e]
  simp only [callK_s, asS_s]

/-- a map all of whose keys are ints below k -/
def Below (es : List (Value × Value × Nat)) (k : Nat) : Prop := ∀ e ∈ es, ∃ i : Nat, i < k ∧ e.1 = .int .i64 (i : Int)
theorem find_below {es : List (Value × Value × Nat)} {k : Nat} (h : Below es k) (n : Int) : ∀ i, ∃ r, mapFind (.int .i64) (.int .i64 n) es i = some r := by
  induction es with
  | nil => intro i; exact ⟨none, rfl⟩
  | cons e es ih =>
    intro i
    obtain ⟨j, _, hj⟩ := h e (List.mem_cons_self)
    obtain ⟨r, hr⟩ := ih (fun x hx => h x (List.mem_cons_of_mem _ hx)) (i + 1)
    simp only [mapFind, hj, eqC]
    by_cases e0 : n = (j : Int)
    · subst e0; simp
    · simp [e0, hr]
theorem find_next {es : List (Value × Value × Nat)} {k : Nat} (h : Below es k) : ∀ i, mapFind (.int .i64) (.int .i64 (k : Int)) es i = some none := by
  induction es with
  | nil => intro i; rfl
  | cons e es ih =>
    intro i
    obtain ⟨j, hj1, hj⟩ := h e (List.mem_cons_self)
    have := ih (fun x hx => h x (List.mem_cons_of_mem _ hx)) (i + 1)
    simp only [mapFind, hj, eqC]
    have e0 : ¬ (k : Int) = (j : Int) := by omega
    simp [e0, this]

/-- a leaf window's pane is dropped -/
theorem drop_s (d : Nat) {H : Heap} {m pm w t nd id k : Nat} {M : List Value} {z1 z2 : Value} {es : List (Value × Value × Nat)} {clk : Nat} (hm : H.get m = some (.cells M t_mux_Mux false 0 false)) (hml : m < H.next) (m3 : M[3]? = some (.map (some pm)))
    (hpm : H.get pm = some (.map es clk)) (hpml : pm < H.next) (hb : Below es k) (hw : H.get w = some (.cells [P0 t, z1, z2] t_mux_window false 0 false)) (ht : H.get t = some (.cells [P0 nd] t_layout_Tree false 0 false)) (htl : t < H.next)
    (hnd : H.get nd = some (.cells (leafC id) t_layout_node false 0 false)) (hndl : nd < H.next) :
    ∃ es' H', X (d + 5) n_mux_Mux_drop [P0 m, P0 w] H = some (.tuple #[], H') ∧ H'.get pm = some (.map es' clk) ∧ Below es' k ∧ Keep (fun k => k = pm) H H' := by
  rw [mux_Mux_drop_eq, (ld1_s hw).trans (show _ = some (P0 t) from rfl)]
  simp only [optK_s, P0, asP_s]
  obtain ⟨b, H1, e1, ⟨op, st, g1⟩, _, _, k1⟩ := Panes_s d ht htl hnd hndl
  rw [show X (d + 4) n_layout_Tree_Panes [.pointer (some ⟨t, 0, none⟩)] H = _ from e1]
  simp only [callK_s, asSL_k2]
  obtain ⟨f, hf⟩ : ∃ f, NN = f + 2 := ⟨NN - 2, by rw [NN_eq]⟩
  rw [hf, mux_Mux_drop_p10_s, if_pos (by decide)]
  simp only [optK_s]
  rw [if_pos (by decide)]
  simp only [Int.toNat_zero, Nat.zero_mul, ap_0]
  rw [(ld1_s g1).trans (show _ = some (Value.int .i64 (id : Int)) from rfl)]
  simp only [optK_s, asI_s]
  rw [(ld1_s (k1.get hml hm)).trans m3]
  simp only [optK_s, asM_s]
  have hpm1 := k1.get hpml hpm
  obtain ⟨es', hes, hb'⟩ : ∃ es', (∀ K, effK (.mapE (.del (.int .i64))) [.map (some pm), .int .i64 (id : Int)] H1 K = K (.tuple #[]) (H1.put pm (.map es' clk))) ∧ Below es' k := by
    obtain ⟨r, hr⟩ := find_below hb (id : Int) 0
    cases r with
    | none => exact ⟨es, fun K => by simp only [effK, mapD, isKey, decide_true, if_true, Heap.ents, hpm1, hr, optK_s], hb⟩
    | some r =>
      obtain ⟨i, v, s⟩ := r
      exact ⟨es.eraseIdx i, fun K => by simp only [effK, mapD, isKey, decide_true, if_true, Heap.ents, hpm1, hr, optK_s], fun e he => hb e (List.mem_of_mem_eraseIdx he)⟩
  rw [hes]
  rw [show IntKind.wrap .i64 (0 + 1) = 1 from rfl, mux_Mux_drop_p10_s, if_neg (by decide)]
  exact ⟨es', _, rfl, by simp, hb', (k1.to (S := fun k => k = pm)).trans (Keep.put (S := fun k => k = pm) _ _ _ rfl) fun _ _ e => e⟩
end Go.Proofs.YtkkhljcjjhcnhaaGreatDoor.dec

namespace Go.Proofs.YtkkhljcjjhcnhaaGreatDoor.dec
open Go Go.Cm

theorem sEq_S (a b : W) : sEq (S a) (S b) = decide (a = b) := by
  by_cases h : a = b
  · subst h; simp [sEq]
  · rw [decide_eq_false h]
    show (a == b) = false
    simpa using h
end Go.Proofs.YtkkhljcjjhcnhaaGreatDoor.dec

namespace Go.Proofs.YtkkhljcjjhcnhaaGreatDoor.dec
open Go Go.Cm

attribute [local congr] optK_congr asI_congr asN_congr asB_congr asS_congr asP_congr asA_congr asSL_congr callK_congr castT_congr chk_congr

theorem Right_c (d : Nat) (c : UInt8) (h : 97 ≤ c.toNat ∧ c.toNat ≤ 122) (H : Heap) : X (d + 1) n_mux_Right [.string (S [c])] H = some (.bool true, H) := by
  obtain ⟨f, hf⟩ : ∃ f, NN = f + 2 := ⟨NN - 2, by rw [NN_eq]⟩
  have hs : slen (S [c]) = 1 := rfl
  have hb : bt (S [c]) (0 : Int).toNat = (c.toNat : Int) := rfl
  rw [mux_Right_eq, hf, mux_Right_p1010_s, hs, hb, if_pos (by decide), if_pos (by decide), if_neg (by rw [decide_eq_true_eq]; omega), if_neg (by rw [decide_eq_true_eq]; omega), mux_Right_p1010010011_eq, if_neg (by simp), show IntKind.wrap .i64 (0 + 1) = 1 from rfl, mux_Right_p1010_s, hs, if_neg (by decide)]
  have he : sEq (S [c]) (S []) = false := by rw [sEq_S]; exact decide_eq_false (by simp)
  rw [he, if_pos (by decide)]
  rfl

/-- a session of one window of one pane -/
def Ses (H : Heap) (k s : Nat) : Prop := ∃ wl w t nd id, id < k ∧ H.get s = some (.cells [.slice (some ⟨wl, 0, none⟩) 1 1, .int .i64 0] t_mux_session false 0 false) ∧ H.get wl = some (.cells [P0 w] t_P_mux_window false 0 false) ∧ H.get w = some (.cells [P0 t, .int .i64 (id : Int), .bool false] t_mux_window false 0 false) ∧
  H.get t = some (.cells [P0 nd] t_layout_Tree false 0 false) ∧ H.get nd = some (.cells (leafC id) t_layout_node false 0 false) ∧ s < H.next ∧ wl < H.next ∧ w < H.next ∧ t < H.next ∧ nd < H.next
theorem Ses.keep {S : Nat → Prop} {H H' : Heap} {k k' s : Nat} (h : Ses H k s) (hk : Keep S H H') (hkk : k ≤ k') (hS : ∀ j, S j → (∃ M, H.get j = some (.cells M t_mux_Mux false 0 false)) ∨ (∃ es c, H.get j = some (.map es c))) : Ses H' k' s := by
  obtain ⟨wl, w, t, nd, id, h0, h1, h2, h3, h4, h5, l1, l2, l3, l4, l5⟩ := h
  have hn := hk.1
  have f : ∀ {j : Nat} {c : List Value} {e : TypeId}, e ≠ t_mux_Mux → j < H.next → H.get j = some (.cells c e false 0 false) → H'.get j = some (.cells c e false 0 false) := fun {j c e} he hj hg => (hk.2 j hj fun hs => by
    rcases hS j hs with ⟨M, hM⟩ | ⟨es, cl, hM⟩
    · rw [hg] at hM; simp only [Option.some.injEq, CObj.cells.injEq] at hM; exact he hM.2.1
    · rw [hg] at hM; simp at hM).trans hg
  exact ⟨wl, w, t, nd, id, by omega, f (by decide) l1 h1, f (by decide) l2 h2, f (by decide) l3 h3, f (by decide) l4 h4, f (by decide) l5 h5, by omega, by omega, by omega, by omega, by omega⟩

/-- the law's mux: its sessions' names, its next pane -/
structure NS (H : Heap) (m sm pm : Nat) (k : Nat) (ns : List W) : Prop where
  gm : H.get m = some (.cells [.int .i64 ((5 : Nat) : Int), .int .i64 ((9 : Nat) : Int), .map (some sm), .map (some pm), .int .i64 (k : Int), .slice none 0 0] t_mux_Mux false 0 false)
  gp : ∃ es c, H.get pm = some (.map es c) ∧ Below es k
  gs : ∃ es c, H.get sm = some (.map es c) ∧ es.map (·.1) = ns.map (fun n => Value.string (S n)) ∧ (es.map (·.2.2)).Nodup ∧ (∀ e ∈ es, e.2.2 < c) ∧ ∀ e ∈ es, ∃ s, e.2.1 = P0 s ∧ Ses H k s
  nd : ns.Nodup
  lt : m < H.next ∧ sm < H.next ∧ pm < H.next
  ne : m ≠ pm ∧ sm ≠ m ∧ sm ≠ pm
theorem NS.keep0 {H H' : Heap} {m sm pm k : Nat} {ns : List W} (h : NS H m sm pm k ns) (hk : Keep0 H H') : NS H' m sm pm k ns := by
  obtain ⟨a1, ⟨es, c, a2, a2'⟩, ⟨es2, c2, a3, a4, a5, a6, a7⟩, a8, a9, a10⟩ := h
  have hn := hk.1
  exact ⟨hk.get a9.1 a1, ⟨es, c, hk.get a9.2.2 a2, a2'⟩, ⟨es2, c2, hk.get a9.2.1 a3, a4, a5, a6, fun e he => by
    obtain ⟨s, h1, h2⟩ := a7 e he
    exact ⟨s, h1, h2.keep hk (Nat.le_refl _) fun _ e => e.elim⟩⟩, a8, by omega, a10⟩
end Go.Proofs.YtkkhljcjjhcnhaaGreatDoor.dec

namespace Go.Proofs.YtkkhljcjjhcnhaaGreatDoor.dec
open Go Go.Cm

attribute [local congr] optK_congr asI_congr asN_congr asB_congr asS_congr asP_congr asA_congr asSL_congr callK_congr castT_congr chk_congr

end Go.Proofs.YtkkhljcjjhcnhaaGreatDoor.dec

namespace Go.Proofs.YtkkhljcjjhcnhaaGreatDoor.dec
open Go Go.Cm

attribute [local congr] optK_congr asI_congr asN_congr asB_congr asS_congr asP_congr asA_congr asSL_congr callK_congr castT_congr chk_congr

theorem map_erase {α β : Type} (f : α → β) : ∀ (l : List α) (j : Nat), (l.eraseIdx j).map f = (l.map f).eraseIdx j
  | [], _ => rfl
  | _ :: _, 0 => rfl
  | x :: l, j + 1 => by simp [map_erase f l j]
end Go.Proofs.YtkkhljcjjhcnhaaGreatDoor.dec

namespace Go.Proofs.YtkkhljcjjhcnhaaGreatDoor.dec
open Go Go.Cm

attribute [local congr] optK_congr asI_congr asN_congr asB_congr asS_congr asP_congr asA_congr asSL_congr callK_congr castT_congr chk_congr

end Go.Proofs.YtkkhljcjjhcnhaaGreatDoor.dec

namespace Go.Proofs.YtkkhljcjjhcnhaaGreatDoor.dec
open Go Go.Cm

attribute [local congr] optK_congr asI_congr asN_congr asB_congr asS_congr asP_congr asA_congr asSL_congr callK_congr castT_congr chk_congr

theorem ap0 (a : Nat) (o : Nat) : ap ⟨a, 0, none⟩ o = ⟨a, o, none⟩ := by simp [ap]

end Go.Proofs.YtkkhljcjjhcnhaaGreatDoor.dec

namespace Go.Proofs.YtkkhljcjjhcnhaaGreatDoor.dec
open Go Go.Cm

attribute [local congr] optK_congr asI_congr asN_congr asB_congr asS_congr asP_congr asA_congr asSL_congr callK_congr castT_congr chk_congr

/-- what is told: three cells a session, its name first -/
def TB (L : List W) (cs : List Value) : Prop := cs.length = 3 * L.length ∧ ∀ (i : Nat) n, L[i]? = some n → cs[3 * i]? = some (.string (S n))
theorem TB.nil : TB [] [] := ⟨rfl, fun i n h => by simp at h⟩
theorem TB.snoc {L : List W} {cs : List Value} (h : TB L cs) (n : W) (a b : Value) : TB (L ++ [n]) (cs ++ [.string (S n), a, b]) := by
  refine ⟨by simp [h.1]; omega, fun i x hx => ?_⟩
  by_cases hi : i < L.length
  · rw [List.getElem?_append_left hi] at hx
    rw [List.getElem?_append_left (by have := h.1; omega)]
    exact h.2 i x hx
  · have hi2 : i < (L ++ [n]).length := (List.getElem?_eq_some_iff.1 hx).1
    simp at hi2
    have e : i = L.length := by omega
    subst e
    rw [List.getElem?_append_right (Nat.le_refl _), Nat.sub_self] at hx
    rw [List.getElem?_append_right (by have := h.1; omega), h.1, Nat.sub_self]
    simp only [List.getElem?_cons_zero, Option.some.injEq] at hx ⊢
    rw [hx]

theorem keys_p (d : Nat) (v : Value) (H : Heap) : X (d + 1) n_maps_Keys_map_string_P_mux_session_string_P_mux_session [v] H = keysP 61 68 [v] H := by kernel_rfl
theorem sorted_p (d : Nat) (v : Value) (H : Heap) : X (d + 1) n_slices_Sorted_string [v] H = sortedP 61 9 [v] H := by kernel_rfl
theorem mapM_str {es : List (Value × Value × Nat)} : ∀ {ns : List W}, es.map (·.1) = ns.map (fun n => Value.string (S n)) → es.mapM (fun e => strV e.1) = some ns := by
  induction es with
  | nil => intro ns h; have : ns = [] := by simpa using h.symm
           subst this; rfl
  | cons e es ih =>
    intro ns h
    cases ns with
    | nil => simp at h
    | cons n ns =>
      simp only [List.map_cons, List.cons.injEq] at h
      rw [List.mapM_cons, h.1, ih h.2]
      rfl
theorem keysL_NS {es : List (Value × Value × Nat)} {clk : Nat} {ns : List W} (h1 : es.map (·.1) = ns.map (fun n => Value.string (S n))) (h2 : (es.map (·.2.2)).Nodup) (h3 : ∀ e ∈ es, e.2.2 < clk) (h4 : ns.Nodup) (h5 : ns.length ≤ 100) (h6 : ∀ n ∈ ns, n.length ≤ 100) : keysL es clk = some ns := by
  have hl : es.length = ns.length := by have := congrArg List.length h1; simpa using this
  unfold keysL
  rw [mapM_str h1]
  simp only
  rw [if_pos ⟨h4, h2, h3, by omega, fun k hk => by have := h6 k hk; omega⟩]

end Go.Proofs.YtkkhljcjjhcnhaaGreatDoor.dec

namespace Go.Proofs.YtkkhljcjjhcnhaaGreatDoor.dec
open Go Go.Cm

attribute [local congr] optK_congr asI_congr asN_congr asB_congr asS_congr asP_congr asA_congr asSL_congr callK_congr castT_congr chk_congr

/-- a window of one pane -/
def WinL (H : Heap) (k : Nat) (x : Nat × Nat) : Prop := ∃ t nd, x.2 < k ∧ H.get x.1 = some (.cells [P0 t, .int .i64 (x.2 : Int), .bool false] t_mux_window false 0 false) ∧ H.get t = some (.cells [P0 nd] t_layout_Tree false 0 false) ∧ H.get nd = some (.cells (leafC x.2) t_layout_node false 0 false) ∧ x.1 < H.next ∧ t < H.next ∧ nd < H.next
def wpL (ws : List (Nat × Nat)) : List Value := ws.map fun x => P0 x.1
theorem WinL.keep {S : Nat → Prop} {H H' : Heap} {k k' : Nat} {x : Nat × Nat} (h : WinL H k x) (hk : Keep S H H') (hkk : k ≤ k')
    (hS : ∀ j c e o st, S j → H.get j = some (.cells c e o 0 st) → e ≠ t_mux_window ∧ e ≠ t_layout_Tree ∧ e ≠ t_layout_node) : WinL H' k' x := by
  obtain ⟨t, nd, h0, h1, h2, h3, l1, l2, l3⟩ := h
  have hn := hk.1
  have f : ∀ {j : Nat} {c : List Value} {e : TypeId}, (e = t_mux_window ∨ e = t_layout_Tree ∨ e = t_layout_node) → j < H.next → H.get j = some (.cells c e false 0 false) → H'.get j = some (.cells c e false 0 false) := fun {j c e} he hj hg => (hk.2 j hj fun hs => by
    obtain ⟨a1, a2, a3⟩ := hS j _ _ _ _ hs hg
    rcases he with he | he | he
    · exact a1 he
    · exact a2 he
    · exact a3 he).trans hg
  exact ⟨t, nd, by omega, f (.inl rfl) l1 h1, f (.inr (.inl rfl)) l2 h2, f (.inr (.inr rfl)) l3 h3, by omega, by omega, by omega⟩

/-- the windows' slice: what is in it, and what lies behind -/
def WS (H : Heap) (b n cap : Nat) (cs : List Value) : Prop := b < H.next ∧ n = cs.length ∧ ∃ Z op st, H.get b = some (.cells (cs ++ Z) t_P_mux_window op 0 st) ∧ cap = cs.length + Z.length
theorem WS.keep {S : Nat → Prop} {H H' : Heap} {b n cap : Nat} {cs : List Value} (h : WS H b n cap cs) (hk : Keep S H H') (hs : ¬ S b) : WS H' b n cap cs := by
  obtain ⟨h1, h2, Z, op, st, h3, h4⟩ := h
  exact ⟨Nat.lt_of_lt_of_le h1 hk.1, h2, Z, op, st, (hk.2 b h1 hs).trans h3, h4⟩

theorem push_win {H : Heap} {b n cap p : Nat} {cs : List Value} {v : Value} (h : WS H b n cap cs) (h0 : 0 < n) (hn : n ≤ 1000) (hp : H.get p = some (.cells [v] t_P_mux_window false 0 false)) :
    ∃ b' cap' H', (∀ K, appendK t_P_mux_window 1 8 false (.slice (some ⟨b, 0, none⟩) n cap) (.slice (some ⟨p, 0, none⟩) 1 1) H K = K (.slice (some ⟨b', 0, none⟩) (n + 1) cap') H') ∧ WS H' b' (n + 1) cap' (cs ++ [v]) ∧ Keep (fun j => j = b) H H' ∧ (b' = b ∨ H.next ≤ b') := by
  obtain ⟨h1, h2, Z, op, st, h3, h4⟩ := h
  have e1 : srcN false (.slice (some ⟨p, 0, none⟩) 1 1) = some 1 := rfl
  have e2 : srcCells H 1 1 (.slice (some ⟨p, 0, none⟩) 1 1) = some [v] := by
    simp only [srcCells]
    rw [if_neg (by omega), ldN_s hp (by simp)]
    rfl
  by_cases hc : n + 1 ≤ cap
  · obtain ⟨z, Z', rfl⟩ : ∃ z Z', Z = z :: Z' := by
      cases Z with
      | nil => simp at h4; omega
      | cons z Z' => exact ⟨z, Z', rfl⟩
    have es : Heap.stN H (ap ⟨b, 0, none⟩ (n * 1)) [v] = some (H.put b (.cells ((cs ++ [v]) ++ Z') t_P_mux_window op 0 st)) := by
      simp only [Heap.stN, ap, Nat.zero_add, Nat.mul_one, h3]
      rw [if_pos ⟨by simp; omega, by omega⟩]
      congr 3
      unfold splice
      rw [h2, List.take_left, List.drop_append, List.drop_eq_nil_of_le (by simp)]
      simp
    refine ⟨b, cap, H.put b (.cells ((cs ++ [v]) ++ Z') t_P_mux_window op 0 st), fun K => ?_, ⟨by simpa using h1, by simp; omega, Z', op, st, by simp, by simp at h4 ⊢; omega⟩, Keep.put _ _ _ rfl, .inl rfl⟩
    simp only [appendK, asSl, e1, e2, optK]
    rw [if_pos hc, if_neg (by omega), if_neg (by omega), es]
  · have hZ : Z = [] := List.eq_nil_of_length_eq_zero (by omega)
    subst hZ
    rw [List.append_nil] at h3
    have hlen : cap = n := by simp at h4; omega
    have ht : List.take (n * 1) (List.drop 0 cs) = cs := by rw [List.drop_zero, List.take_of_length_le (by omega)]
    by_cases ho : op = true
    · subst ho
      have kk : Keep (fun j => j = b) H ((H.kill b).new (.cells (cs ++ [v]) t_P_mux_window true 0 st)) := by
        refine ⟨by simp, fun j hj hs => ?_⟩
        rw [Heap.get_new_ne _ _ (by simp; omega), Heap.get_kill_ne _ hs]
      refine ⟨H.next, n + 1, (H.kill b).new (.cells (cs ++ [v]) t_P_mux_window true 0 st), fun K => ?_, ⟨by simp, by simp; omega, [], true, st, by simpa using Heap.get_new_same (H.kill b) (.cells (cs ++ [v]) t_P_mux_window true 0 st), by simp; omega⟩, kk, .inr (Nat.le_refl _)⟩
      simp only [appendK, asSl, e1, e2, optK, h3]
      rw [if_neg hc, if_pos ⟨by omega, by omega, by omega⟩, if_pos (by omega), ht]
      have hx : exact 1 cs.length 0 cap true = false := by
        unfold exact
        simp; omega
      rw [hx]
      simp
    · have ho : op = false := by simpa using ho
      subst ho
      refine ⟨H.next, n + 1, H.new (.cells (cs ++ [v]) t_P_mux_window true 0 false), fun K => ?_, ⟨by simp, by simp; omega, [], true, false, by simp, by simp; omega⟩, Keep.new _ _, .inr (Nat.le_refl _)⟩
      simp only [appendK, asSl, e1, e2, optK, h3]
      rw [if_neg hc, if_pos ⟨by omega, by omega, by omega⟩, if_pos (by omega), ht]
      have hx : exact 1 cs.length 0 cap false = true := by unfold exact; simp
      rw [hx]
      simp

/-- one window is taken out -/
theorem Delete_w (d : Nat) {H : Heap} {b n cap i : Nat} {cs : List Value} (h : WS H b n cap cs) (hi : i < n) (hn : n ≤ 1000) :
    ∃ H', X (d + 1) n_slices_Delete_S_P_mux_window_P_mux_window [.slice (some ⟨b, 0, none⟩) n cap, .int .i64 (i : Int), .int .i64 ((i + 1 : Nat) : Int)] H = some (.slice (some ⟨b, 0, none⟩) (n - 1) cap, H') ∧ WS H' b (n - 1) cap (cs.eraseIdx i) ∧ Keep (fun j => j = b) H H' := by
  obtain ⟨h1, h2, Z, op, st, h3, h4⟩ := h
  have hop : H.opnOk b t_P_mux_window = true := by simp [Heap.opnOk, h3]
  rw [show (.slice (some ⟨b, 0, none⟩) n cap : Value) = Sl.v ⟨some ⟨b, 0, none⟩, n, cap⟩ from rfl, slices_Delete_S_P_mux_window_P_mux_window_eq]
  have r1 : readD (.subSl t_P_mux_window 1 true true true) [Sl.v ⟨some ⟨b, 0, none⟩, n, cap⟩, .int .i64 (i : Int), .int .i64 ((i + 1 : Nat) : Int), .int .i64 ((⟨some ⟨b, 0, none⟩, n, cap⟩ : Sl).n : Int)] H = some (.slice (some (if i = 0 then ⟨b, 0, none⟩ else ap ⟨b, 0, none⟩ (i * 1))) (i + 1 - i) (n - i)) := by
    simp only [readD, asSl, bnds, asN_s]
    rw [if_pos (by omega)]
    simp only [Int.toNat_natCast, Bool.or_true, Bool.true_or, chk]
  rw [r1]
  simp only [optK_s, asSL_k2]
  rw [if_neg (by rw [decide_eq_true_eq]; omega)]
  have r2 : readD (.subSl t_P_mux_window 1 false true false) [Sl.v ⟨some ⟨b, 0, none⟩, n, cap⟩, .int .i64 (i : Int)] H = some (.slice (some ⟨b, 0, none⟩) i cap) := by
    simp only [readD, asSl, bnds, asN_s]
    rw [if_pos (by omega)]
    simp [chk]
  rw [r2]
  simp only [optK_s, asSL_k2]
  have r3 : readD (.subSl t_P_mux_window 1 true false false) [Sl.v ⟨some ⟨b, 0, none⟩, n, cap⟩, .int .i64 ((i + 1 : Nat) : Int)] H = some (.slice (some ⟨b, i + 1, none⟩) (n - (i + 1)) (cap - (i + 1))) := by
    simp only [readD, asSl, bnds, asN_s]
    rw [if_pos (by omega)]
    simp only [Int.toNat_natCast, hop, Bool.or_true, chk]
    rw [if_neg (by omega)]
    simp [ap]
  rw [r3]
  simp only [optK_s, asSL_k2]
  -- the list, taken apart
  obtain ⟨A, x, B, hcs, hA⟩ : ∃ A x B, cs = A ++ x :: B ∧ A.length = i := ⟨cs.take i, cs[i], cs.drop (i + 1), by rw [List.getElem_cons_drop, List.take_append_drop], by simp; omega⟩
  have hB : B.length = n - (i + 1) := by subst hcs; simp at h2; omega
  have her : cs.eraseIdx i = A ++ B := by
    subst hcs
    rw [List.eraseIdx_append_of_length_le (by omega), hA, Nat.sub_self]
    rfl
  have hsrc : srcCells H 1 (n - (i + 1)) (.slice (some ⟨b, i + 1, none⟩) (n - (i + 1)) (cap - (i + 1))) = some B := by
    simp only [srcCells]
    by_cases hz : n - (i + 1) = 0
    · rw [if_pos hz, List.eq_nil_of_length_eq_zero (hB.trans hz)]
    · rw [if_neg hz, ldN_s h3 (by simp; omega)]
      subst hcs
      rw [show A ++ x :: B ++ Z = (A ++ [x]) ++ (B ++ Z) by simp, List.drop_left' (by simp; omega), List.take_append_of_le_length (by omega), List.take_of_length_le (by omega)]
  obtain ⟨H1, e1, R, g1, hR, k1⟩ : ∃ H1, (∀ K, appendK t_P_mux_window 1 8 false (.slice (some ⟨b, 0, none⟩) i cap) (.slice (some ⟨b, i + 1, none⟩) (n - (i + 1)) (cap - (i + 1))) H K = K (.slice (some ⟨b, 0, none⟩) (n - 1) cap) H1) ∧
      ∃ R, H1.get b = some (.cells ((A ++ B) ++ R) t_P_mux_window op 0 st) ∧ R.length = 1 + Z.length ∧ Keep (fun j => j = b) H H1 := by
    by_cases hz : n - (i + 1) = 0
    · have hBn : B = [] := List.eq_nil_of_length_eq_zero (hB.trans hz)
      subst hBn
      refine ⟨H, fun K => ?_, x :: Z, by rw [h3, hcs]; simp, by simp; omega, Keep.refl _⟩
      simp only [appendK, asSl, srcN, hsrc, optK]
      rw [if_pos (by omega), if_pos hz, show i = n - 1 by omega]
    · have es : Heap.stN H (ap ⟨b, 0, none⟩ (i * 1)) B = some (H.put b (.cells ((A ++ B) ++ (x :: (B ++ Z)).drop B.length) t_P_mux_window op 0 st)) := by
        simp only [Heap.stN, ap, Nat.zero_add, Nat.mul_one, h3]
        rw [if_pos ⟨by simp; omega, by omega⟩]
        congr 3
        unfold splice
        subst hcs
        rw [show A ++ x :: B ++ Z = A ++ (x :: (B ++ Z)) by simp, List.take_left' hA, List.drop_append, List.drop_eq_nil_of_le (by omega), hA, Nat.add_sub_cancel_left, List.nil_append, List.append_assoc]
      refine ⟨_, fun K => ?_, (x :: (B ++ Z)).drop B.length, Heap.get_put_same _ _ _, by simp; omega, Keep.put _ _ _ rfl⟩
      simp only [appendK, asSl, srcN, hsrc, optK]
      rw [if_pos (by omega), if_neg hz, if_neg (by omega), es]
      simp only
      rw [show i + (n - (i + 1)) = n - 1 by omega]
  rw [show appendK t_P_mux_window 1 8 false (Sl.v ⟨some ⟨b, 0, none⟩, i, cap⟩) (Sl.v ⟨some ⟨b, i + 1, none⟩, n - (i + 1), cap - (i + 1)⟩) H = _ from funext fun K => e1 K]
  simp only [asSL_k2]
  have hop1 : H1.opnOk b t_P_mux_window = true := by simp [Heap.opnOk, g1]
  have r4 : readD (.subSl t_P_mux_window 1 true true false) [Sl.v ⟨some ⟨b, 0, none⟩, n - 1, cap⟩, .int .i64 ((n - 1 : Nat) : Int), .int .i64 (n : Int)] H1 = some (.slice (some ⟨b, n - 1, none⟩) 1 (cap - (n - 1))) := by
    simp only [readD, asSl, bnds, asN_s]
    rw [if_pos (by omega)]
    simp only [Int.toNat_natCast, hop1, Bool.or_true, chk]
    rw [show n - (n - 1) = 1 by omega]
    congr 3
    by_cases hz : n - 1 = 0
    · rw [if_pos hz, hz]
    · rw [if_neg hz]; simp [ap]
  rw [r4]
  simp only [optK_s, asSL_k2]
  obtain ⟨r, R', rfl⟩ : ∃ r R', R = r :: R' := by
    cases R with
    | nil => rw [List.length_nil] at hR; omega
    | cons r R' => exact ⟨r, R', rfl⟩
  have hAB : (A ++ B).length = n - 1 := by simp; omega
  have es : Heap.stN H1 ⟨b, n - 1, none⟩ (rep [.pointer none] 1) = some (H1.put b (.cells ((A ++ B) ++ (.pointer none :: R')) t_P_mux_window op 0 st)) := by
    show Heap.stN H1 ⟨b, n - 1, none⟩ [.pointer none] = _
    simp only [Heap.stN, g1]
    rw [if_pos ⟨by simp only [List.length_append, List.length_cons, List.length_nil] at hAB ⊢; omega, by omega⟩]
    congr 3
    unfold splice
    rw [List.take_left' hAB, List.drop_append, List.drop_eq_nil_of_le (by simp; omega), show n - 1 + ([.pointer none] : List Value).length - (A ++ B).length = 1 by rw [hAB, List.length_singleton]; omega]
    simp
  have ec : ∀ K, effK (.clearSl 1 [.pointer none]) [Sl.v ⟨some ⟨b, n - 1, none⟩, 1, cap - (n - 1)⟩] H1 K = K (.tuple #[]) (H1.put b (.cells ((A ++ B) ++ (.pointer none :: R')) t_P_mux_window op 0 st)) := fun K => by
    simp only [effK, asSl]
    rw [if_neg (by omega), if_pos (show [Value.pointer none].length = 1 from rfl), es]
    rfl
  rw [ec]
  refine ⟨_, rfl, ⟨by have := k1.1; simp; omega, by rw [her]; omega, .pointer none :: R', op, st, by rw [her]; simp, by rw [her]; simp at hR h4 ⊢; subst hcs; simp at h4; omega⟩, k1.trans (Keep.put (S := fun j => j = b) _ _ _ rfl) fun _ _ e => e⟩
end Go.Proofs.YtkkhljcjjhcnhaaGreatDoor.dec

namespace Go.Proofs.YtkkhljcjjhcnhaaGreatDoor.dec
open Go Go.Cm

attribute [local congr] optK_congr asI_congr asN_congr asB_congr asS_congr asP_congr asA_congr asSL_congr callK_congr castT_congr chk_congr

/-- one session, named a, of these windows -/
structure SW (H : Heap) (N m sm pm k s : Nat) (ws : List (Nat × Nat)) (cur : Nat) : Prop where
  gm : H.get m = some (.cells [.int .i64 ((5 : Nat) : Int), .int .i64 ((9 : Nat) : Int), .map (some sm), .map (some pm), .int .i64 (k : Int), .slice none 0 0] t_mux_Mux false 0 false)
  gp : ∃ es c, H.get pm = some (.map es c) ∧ Below es k
  gs : ∃ a c, H.get sm = some (.map [(.string (S [97]), P0 s, a)] c) ∧ a < c
  g : ∃ b cap, N ≤ b ∧ H.get s = some (.cells [.slice (some ⟨b, 0, none⟩) ws.length cap, .int .i64 (cur : Int)] t_mux_session false 0 false) ∧ WS H b ws.length cap (wpL ws)
  ww : ∀ x ∈ ws, WinL H k x
  lt : m < H.next ∧ sm < H.next ∧ pm < H.next ∧ s < H.next
  ne : m ≠ pm ∧ sm ≠ m ∧ sm ≠ pm
  lo : N ≤ m ∧ N ≤ sm ∧ N ≤ pm ∧ N ≤ s
  cu : cur < ws.length
  le : ws.length ≤ 8
theorem SW.keep0 {H H' : Heap} {N m sm pm k s cur : Nat} {ws : List (Nat × Nat)} (h : SW H N m sm pm k s ws cur) (hk : Keep0 H H') : SW H' N m sm pm k s ws cur := by
  obtain ⟨a1, ⟨es, c, a2, a2'⟩, ⟨x, c2, a3, a4⟩, ⟨b, cap, aN, a5, a6⟩, a7, a8, a9, aL, a10, a11⟩ := h
  have hn := hk.1
  exact ⟨hk.get a8.1 a1, ⟨es, c, hk.get a8.2.2.1 a2, a2'⟩, ⟨x, c2, hk.get a8.2.1 a3, a4⟩, ⟨b, cap, aN, hk.get a8.2.2.2 a5, a6.keep hk id⟩, fun x hx => (a7 x hx).keep hk (Nat.le_refl _) fun _ _ _ _ _ e => e.elim, by omega, a9, aL, a10, a11⟩

section
variable {H : Heap} {N m sm pm k s cur : Nat} {ws : List (Nat × Nat)}

theorem SW.look (h : SW H N m sm pm k s ws cur) : Heap.ld1 H ⟨m, 2, none⟩ = some (.map (some sm)) ∧ readD (.lookup .str (.pointer none) true) [.map (some sm), .string (S [97])] H = some (.tuple ⟨[P0 s, .bool true]⟩) := by
  obtain ⟨a, c, g, _⟩ := h.gs
  exact ⟨(ld1_s h.gm).trans rfl, (look_a ⟨a, c, g⟩).trans rfl⟩
theorem wp_len (ws : List (Nat × Nat)) : (wpL ws).length = ws.length := by simp [wpL]

theorem NewWindow_w (d : Nat) (hk : k ≤ 1000) (h : SW H N m sm pm k s ws cur) :
    (8 ≤ ws.length ∧ X (d + 10) n_mux_Mux_NewWindow [P0 m, .string (S [97])] H = some (.int .i64 2, H)) ∨
    (ws.length < 8 ∧ ∃ w H', X (d + 10) n_mux_Mux_NewWindow [P0 m, .string (S [97])] H = some (.int .i64 0, H') ∧ SW H' N m sm pm (k + 1) s (ws ++ [(w, k)]) ws.length ∧ Keep (fun j => j = m ∨ j = pm ∨ j = s ∨ N ≤ j ∧ ∃ c o st, H.get j = some (.cells c t_P_mux_window o 0 st)) H H') := by
  have lk := h.look
  obtain ⟨b, cap, hNb, gs, hw⟩ := h.g
  have lo := h.lo
  rw [mux_Mux_NewWindow_eq, lk.1]
  simp only [optK_s, asM_s]
  rw [lk.2]
  simp only [optK_s, castT_s, castL_c, castL_n, cast0, P0, asP_s, asB_s, List.getElem?_cons_zero, List.getElem?_cons_succ]
  rw [if_neg (show ¬ (!true) = true by simp)]
  simp only [nilP_s, ap_0, ap_1]
  have s0 : ∀ {Hx : Heap} {n c : Nat} {b : Nat} {z : Value}, Hx.get s = some (.cells [.slice (some ⟨b, 0, none⟩) n c, z] t_mux_session false 0 false) → Heap.ld1 Hx ⟨s, 0, none⟩ = some (.slice (some ⟨b, 0, none⟩) n c) := fun g => (ld1_s g).trans rfl
  rw [s0 gs]
  simp only [optK_s, asSL_k2]
  by_cases hl : ws.length < 8
  · refine .inr ⟨hl, ?_⟩
    rw [if_neg (by rw [decide_eq_true_eq]; omega)]
    obtain ⟨es, clk, gp, hbel⟩ := h.gp
    obtain ⟨w, t, nd, p, D, H1, e1, b1, b2, b3, b4, b5, b6, b7, b8, b9, k1⟩ := fresh_s d 5 9 k (by omega) (by omega) (by omega) h.gm h.lt.1 gp h.lt.2.2.1 h.ne.1 (find_next hbel 0)
    rw [show X (d + 9) n_mux_Mux_fresh [.pointer (some ⟨m, 0, none⟩)] H = _ from e1]
    simp only [callK_s, P0, asP_s, newK_s]
    have n1 := k1.1
    have hsm : s ≠ m := fun e => by subst e; rw [h.gm] at gs; simp only [Option.some.injEq, CObj.cells.injEq] at gs; exact absurd gs.2.1 (by decide)
    have hsp : s ≠ pm := fun e => by subst e; rw [gp] at gs; simp at gs
    have hbm : b ≠ m := fun e => by obtain ⟨_, _, Z, op, st, g, _⟩ := hw; subst e; rw [h.gm] at g; simp only [Option.some.injEq, CObj.cells.injEq] at g; exact absurd g.2.1 (by decide)
    have hbp : b ≠ pm := fun e => by obtain ⟨_, _, Z, op, st, g, _⟩ := hw; subst e; rw [gp] at g; simp at g
    have hbs : b ≠ s := fun e => by obtain ⟨_, _, Z, op, st, g, _⟩ := hw; subst e; rw [gs] at g; simp only [Option.some.injEq, CObj.cells.injEq] at g; exact absurd g.2.1 (by decide)
    have hssm : s ≠ sm := fun e => by subst e; obtain ⟨_, _, g, _⟩ := h.gs; rw [g] at gs; simp at gs
    have hbsm : b ≠ sm := fun e => by obtain ⟨_, _, Z, op, st, g, _⟩ := hw; obtain ⟨_, _, g', _⟩ := h.gs; subst e; rw [g'] at g; simp at g
    have gs1 := (k1.2 s h.lt.2.2.2 (by omega)).trans gs
    have k2 : Keep0 H1 (H1.new (.cells [.pointer (some ⟨w, 0, none⟩)] t_P_mux_window false 0 false)) := Keep.new _ _
    have g2 : (H1.new (.cells [.pointer (some ⟨w, 0, none⟩)] t_P_mux_window false 0 false)).get H1.next = some (.cells [P0 w] t_P_mux_window false 0 false) := by simp
    have n2 : (H1.new (.cells [.pointer (some ⟨w, 0, none⟩)] t_P_mux_window false 0 false)).next = H1.next + 1 := by simp
    generalize H1.new (.cells [.pointer (some ⟨w, 0, none⟩)] t_P_mux_window false 0 false) = H2 at *
    have ls := h.lt.2.2.2
    have gs2 := k2.get (by omega) gs1
    have hw1 : WS H1 b ws.length cap (wpL ws) := hw.keep k1 (by omega)
    have hw2 : WS H2 b ws.length cap (wpL ws) := hw1.keep k2 id
    have hcu := h.cu
    obtain ⟨b', cap', H3, e3, w3, k3, f3⟩ := push_win hw2 (by omega) (by omega) g2
    rw [show appendK t_P_mux_window 1 8 false (Sl.v ⟨some ⟨b, 0, none⟩, ws.length, cap⟩) = appendK t_P_mux_window 1 8 false (.slice (some ⟨b, 0, none⟩) ws.length cap) from rfl, e3]
    simp only [asSL_k2]
    have n3 := k3.1
    have gs3 := (k3.2 s (by omega) (Ne.symm hbs)).trans gs2
    rw [(st1_s (v := .slice (some ⟨b', 0, none⟩) (ws.length + 1) cap') gs3 (by show 0 < 2; omega) (by omega)).trans (show _ = some (H3.put s (.cells [.slice (some ⟨b', 0, none⟩) (ws.length + 1) cap', .int .i64 (cur : Int)] t_mux_session false 0 false)) from rfl)]
    simp only [optK_s]
    rw [show rdsOk _ _ = true from by
      simp only [rdsOk, Bool.and_true]
      rw [show 1 + 2 - 0 = 3 from rfl, rdOk_3, rdAt_s rfl (rd1' (s0 gs)) (same_sl _ _ _), rdAt_s rfl (rd1' (s0 gs1)) (same_sl _ _ _), rdAt_s rfl (rd1' (s0 gs2)) (same_sl _ _ _)]; rfl]
    simp only [chk_s]
    have k4 : Keep (fun j => j = s) H3 (H3.put s (.cells [.slice (some ⟨b', 0, none⟩) (ws.length + 1) cap', .int .i64 (cur : Int)] t_mux_session false 0 false)) := Keep.put _ _ _ rfl
    have gs4 : (H3.put s (.cells [.slice (some ⟨b', 0, none⟩) (ws.length + 1) cap', .int .i64 (cur : Int)] t_mux_session false 0 false)).get s = some (.cells [.slice (some ⟨b', 0, none⟩) (ws.length + 1) cap', .int .i64 (cur : Int)] t_mux_session false 0 false) := by simp
    generalize H3.put s (.cells [.slice (some ⟨b', 0, none⟩) (ws.length + 1) cap', .int .i64 (cur : Int)] t_mux_session false 0 false) = H4 at *
    rw [s0 gs4]
    simp only [optK_s, asSL_k2]
    rw [show IntKind.wrap .i64 (((ws.length + 1 : Nat) : Int) - 1) = ((ws.length : Nat) : Int) by rw [w64 (by omega)]; omega]
    rw [(st1_s (v := .int .i64 ((ws.length : Nat) : Int)) gs4 (by show 1 < 2; omega) (by omega)).trans (show _ = some (H4.put s (.cells [.slice (some ⟨b', 0, none⟩) (ws.length + 1) cap', .int .i64 ((ws.length : Nat) : Int)] t_mux_session false 0 false)) from rfl)]
    simp only [optK_s]
    have k5 : Keep (fun j => j = s) H4 (H4.put s (.cells [.slice (some ⟨b', 0, none⟩) (ws.length + 1) cap', .int .i64 ((ws.length : Nat) : Int)] t_mux_session false 0 false)) := Keep.put _ _ _ rfl
    have gs5 : (H4.put s (.cells [.slice (some ⟨b', 0, none⟩) (ws.length + 1) cap', .int .i64 ((ws.length : Nat) : Int)] t_mux_session false 0 false)).get s = some (.cells [.slice (some ⟨b', 0, none⟩) (ws.length + 1) cap', .int .i64 ((ws.length : Nat) : Int)] t_mux_session false 0 false) := by simp
    generalize H4.put s (.cells [.slice (some ⟨b', 0, none⟩) (ws.length + 1) cap', .int .i64 ((ws.length : Nat) : Int)] t_mux_session false 0 false) = H5 at *
    have n4 := k4.1
    have n5 := k5.1
    have k35 : Keep (fun j => j = b ∨ j = s) H2 H5 := (k3.mono (T := fun j => j = b ∨ j = s) fun _ _ e => .inl e).trans (k4.trans k5 fun _ _ e => e) fun _ _ e => .inr e
    have k25 : Keep (fun j => j = b ∨ j = s) H1 H5 := (k2.to (S := fun j => j = b ∨ j = s)).trans k35 fun _ _ e => e
    have hb'lt := w3.1
    have kk : Keep (fun j => j = m ∨ j = pm ∨ j = s ∨ N ≤ j ∧ ∃ c o st, H.get j = some (.cells c t_P_mux_window o 0 st)) H H5 :=
      (k1.mono (T := fun j => j = m ∨ j = pm ∨ j = s ∨ N ≤ j ∧ ∃ c o st, H.get j = some (.cells c t_P_mux_window o 0 st)) fun _ _ e => by rcases e with e | e; exact .inl e; exact .inr (.inl e)).trans k25 fun j hj e => by
        rcases e with e | e
        · obtain ⟨_, _, Z, op, st, g, _⟩ := hw
          subst e
          exact .inr (.inr (.inr ⟨hNb, _, _, _, g⟩))
        · exact .inr (.inr (.inl e))
    have lt := h.lt
    obtain ⟨ga, gc, gsm, hac⟩ := h.gs
    refine ⟨w, H5, rfl, ⟨(k25.2 m (by omega) (by omega)).trans b1, ⟨_, _, (k25.2 pm (by omega) (by omega)).trans b2, fun x hx => ?_⟩, ⟨ga, gc, ?_, hac⟩, ⟨b', cap', by omega, by simpa using gs5, ?_⟩, fun x hx => ?_, by omega, h.ne, lo, by simp, by simp; omega⟩, kk⟩
    · rcases List.mem_append.1 hx with hx | hx
      · obtain ⟨i, h1, h2⟩ := hbel x hx
        exact ⟨i, by omega, h2⟩
      · rw [List.mem_singleton.1 hx]
        exact ⟨k, by omega, rfl⟩
    · exact (k25.2 sm (by omega) (by omega)).trans ((k1.2 sm (by omega) (by have := h.ne; omega)).trans gsm)
    · have := (w3.keep (k4.trans k5 fun _ _ e => e) (by
        rcases f3 with e | e
        · rw [e]; exact hbs
        · show ¬ b' = s; omega))
      rw [show wpL (ws ++ [(w, k)]) = wpL ws ++ [P0 w] by simp [wpL], show (ws ++ [(w, k)]).length = ws.length + 1 by simp]
      exact this
    · have keepW : ∀ {x : Nat × Nat}, WinL H1 (k + 1) x → WinL H5 (k + 1) x := fun hx => hx.keep k25 (Nat.le_refl _) fun j c e o st hj hg => by
        rcases hj with rfl | rfl
        · obtain ⟨_, _, Z, op, st, g, _⟩ := hw1
          rw [g] at hg
          simp only [Option.some.injEq, CObj.cells.injEq] at hg
          obtain ⟨_, rfl, _⟩ := hg
          decide
        · rw [gs1] at hg
          simp only [Option.some.injEq, CObj.cells.injEq] at hg
          obtain ⟨_, rfl, _⟩ := hg
          decide
      rcases List.mem_append.1 hx with hx | hx
      · exact keepW ((h.ww x hx).keep k1 (by omega) fun j c e o st hj hg => by
          rcases hj with rfl | rfl
          · rw [h.gm] at hg
            simp only [Option.some.injEq, CObj.cells.injEq] at hg
            obtain ⟨_, rfl, _⟩ := hg
            decide
          · rw [gp] at hg; simp at hg)
      · rw [List.mem_singleton.1 hx]
        exact keepW ⟨t, nd, by show k < k + 1; omega, b4, b5, b6, by show w < H1.next; omega, by omega, by omega⟩
  · refine .inl ⟨by omega, ?_⟩
    rw [if_pos (decide_eq_true (by omega))]

theorem SelectWindow_w (d : Nat) (h : SW H N m sm pm k s ws cur) (j : Nat) (hj : j ≤ 1000) :
    (ws.length ≤ j ∧ X (d + 1) n_mux_Mux_SelectWindow [P0 m, .string (S [97]), .int .i64 (j : Int)] H = some (.int .i64 3, H)) ∨
    (j < ws.length ∧ ∃ H', X (d + 1) n_mux_Mux_SelectWindow [P0 m, .string (S [97]), .int .i64 (j : Int)] H = some (.int .i64 0, H') ∧ SW H' N m sm pm k s ws j ∧ Keep (fun i => i = s) H H') := by
  have lk := h.look
  obtain ⟨b, cap, hNb, gs, hw⟩ := h.g
  have lo := h.lo
  rw [mux_Mux_SelectWindow_eq, lk.1]
  simp only [optK_s, asM_s]
  rw [lk.2]
  simp only [optK_s, castT_s, castL_c, castL_n, cast0, P0, asP_s, asB_s, List.getElem?_cons_zero, List.getElem?_cons_succ]
  rw [if_neg (show ¬ (!true) = true by simp), if_neg (by rw [decide_eq_true_eq]; omega)]
  simp only [nilP_s, ap_0]
  rw [(ld1_s gs).trans (show _ = some (Value.slice (some ⟨b, 0, none⟩) ws.length cap) from rfl)]
  simp only [optK_s, asSL_k2]
  rw [mux_Mux_SelectWindow_p1100111_eq]
  by_cases hl : j < ws.length
  · refine .inr ⟨hl, ?_⟩
    rw [if_neg (by rw [decide_eq_true_eq]; omega)]
    simp only [nilP_s, ap_1]
    rw [(st1_s (v := .int .i64 (j : Int)) gs (by show 1 < 2; omega) (by omega)).trans (show _ = some (H.put s (.cells [.slice (some ⟨b, 0, none⟩) ws.length cap, .int .i64 (j : Int)] t_mux_session false 0 false)) from rfl)]
    simp only [optK_s]
    have k1 : Keep (fun i => i = s) H (H.put s (.cells [.slice (some ⟨b, 0, none⟩) ws.length cap, .int .i64 (j : Int)] t_mux_session false 0 false)) := Keep.put _ _ _ rfl
    have g1 : (H.put s (.cells [.slice (some ⟨b, 0, none⟩) ws.length cap, .int .i64 (j : Int)] t_mux_session false 0 false)).get s = some (.cells [.slice (some ⟨b, 0, none⟩) ws.length cap, .int .i64 (j : Int)] t_mux_session false 0 false) := by simp
    generalize H.put s (.cells [.slice (some ⟨b, 0, none⟩) ws.length cap, .int .i64 (j : Int)] t_mux_session false 0 false) = H1 at *
    have n1 := k1.1
    have lt := h.lt
    obtain ⟨es, clk, gp, hbel⟩ := h.gp
    obtain ⟨ga, gc, gsm, hac⟩ := h.gs
    have o : ∀ {i : Nat} {c : CObj}, i < H.next → H.get i = some c → c ≠ .cells [.slice (some ⟨b, 0, none⟩) ws.length cap, .int .i64 (cur : Int)] t_mux_session false 0 false → H1.get i = some c := fun hi hg hne => (k1.2 _ hi fun e => by
      have e' : _ = s := e
      subst e'
      rw [gs] at hg
      exact hne (Option.some.inj hg).symm).trans hg
    refine ⟨H1, rfl, ⟨o lt.1 h.gm (by simp), ⟨es, clk, o lt.2.2.1 gp (by simp), hbel⟩, ⟨ga, gc, o lt.2.1 gsm (by simp), hac⟩, ⟨b, cap, hNb, g1, hw.keep k1 fun e => ?_⟩, fun x hx => (h.ww x hx).keep k1 (Nat.le_refl _) fun i c e o st hi hg => ?_, by omega, h.ne, lo, hl, h.le⟩, k1⟩
    · obtain ⟨_, _, Z, op, st, g, _⟩ := hw
      have e' : b = s := e
      subst e'
      rw [gs] at g
      simp only [Option.some.injEq, CObj.cells.injEq] at g
      exact absurd g.2.1 (by decide)
    · have hi' : i = s := hi
      subst hi'
      rw [gs] at hg
      simp only [Option.some.injEq, CObj.cells.injEq] at hg
      obtain ⟨_, rfl, _⟩ := hg
      decide
  · refine .inl ⟨by omega, ?_⟩
    rw [if_pos (decide_eq_true (by omega))]
end
end Go.Proofs.YtkkhljcjjhcnhaaGreatDoor.dec

namespace Go.Proofs.YtkkhljcjjhcnhaaGreatDoor.dec
open Go Go.Cm

attribute [local congr] optK_congr asI_congr asN_congr asB_congr asS_congr asP_congr asA_congr asSL_congr callK_congr castT_congr chk_congr

/-- no session is left -/
structure EW (H : Heap) (m sm : Nat) : Prop where
  gm : ∃ a b c d e, H.get m = some (.cells [a, b, .map (some sm), c, d, e] t_mux_Mux false 0 false)
  gs : ∃ c, H.get sm = some (.map [] c)
  lt : m < H.next ∧ sm < H.next
theorem EW.keep0 {H H' : Heap} {m sm : Nat} (h : EW H m sm) (hk : Keep0 H H') : EW H' m sm := by
  obtain ⟨⟨a, b, c, d, e, g⟩, ⟨f, g'⟩, l⟩ := h
  have := hk.1
  exact ⟨⟨a, b, c, d, e, hk.get l.1 g⟩, ⟨f, hk.get l.2 g'⟩, by omega⟩
theorem KillWindow_e (d : Nat) {H : Heap} {m sm : Nat} (h : EW H m sm) : X (d + 1) n_mux_Mux_KillWindow [P0 m, .string (S [97])] H = some (.int .i64 14, H) := by
  obtain ⟨⟨a, b, c, e, f, g⟩, ⟨z, g'⟩, l⟩ := h
  rw [mux_Mux_KillWindow_eq, (ld1_s g).trans (show _ = some (Value.map (some sm)) from rfl)]
  simp only [optK_s, asM_s]
  rw [show readD (.lookup .str (.pointer none) true) [.map (some sm), .string (S [97])] H = some (.tuple ⟨[.pointer none, .bool false]⟩) by simp only [readD, isKey, if_true, Heap.ents, g', mapFind, lookV]]
  simp only [optK_s, castT_s, castL_c, castL_n, cast0, asP_s, asB_s, List.getElem?_cons_zero, List.getElem?_cons_succ]
  rw [if_pos (show (!false) = true by simp)]
theorem Sessions_e (d : Nat) {H : Heap} {m sm : Nat} (h : EW H m sm) : ∃ H', X (d + 2) n_mux_Mux_Sessions [P0 m] H = some (.slice none 0 0, H') ∧ Keep0 H H' := by
  obtain ⟨⟨a, b, c, e, f, g⟩, ⟨z, g'⟩, l⟩ := h
  rw [mux_Mux_Sessions_eq, (ld1_s g).trans (show _ = some (Value.map (some sm)) from rfl)]
  simp only [optK_s, asM_s]
  rw [keys_p]
  simp only [keysP, callK_s]
  have k1 : Keep0 H (H.new (.cells [.map (some sm)] 68 false 0 false)) := Keep.new _ _
  have g1 : (H.new (.cells [.map (some sm)] 68 false 0 false)).get H.next = some (.cells [.map (some sm)] 68 false 0 false) := by simp
  generalize H.new (.cells [.map (some sm)] 68 false 0 false) = H1 at *
  rw [sorted_p]
  have hk : keysL [] z = some [] := keysL_NS (ns := []) rfl (by simp) (by simp) (by simp) (by simp) (by simp)
  have hs : sortedP 61 9 [.func (.func 61) #[] #[.pointer (some ⟨H.next, 0, none⟩)]] H1 = some (.slice none 0 0, H1) := by
    simp only [sortedP, g1, k1.get l.2 g', hk]
    simp
  rw [hs]
  simp only [callK_s, asSL_k2]
  obtain ⟨f, hfu⟩ : ∃ f, NN = f + 1 := ⟨NN - 1, by rw [NN_eq]⟩
  rw [hfu, mux_Mux_Sessions_p11010_s, if_neg (by decide)]
  exact ⟨H1, rfl, k1⟩

section
variable {H : Heap} {N m sm pm k s cur : Nat} {ws : List (Nat × Nat)}

/-- the other blocks -/
theorem SW.apart (h : SW H N m sm pm k s ws cur) {b cap : Nat} (gs : H.get s = some (.cells [.slice (some ⟨b, 0, none⟩) ws.length cap, .int .i64 (cur : Int)] t_mux_session false 0 false)) (hw : WS H b ws.length cap (wpL ws)) :
    s ≠ m ∧ s ≠ pm ∧ s ≠ sm ∧ b ≠ m ∧ b ≠ pm ∧ b ≠ sm ∧ b ≠ s := by
  obtain ⟨es, clk, gp, _⟩ := h.gp
  obtain ⟨_, _, gsm, _⟩ := h.gs
  obtain ⟨_, _, Z, op, st, g, _⟩ := hw
  have gm := h.gm
  refine ⟨fun e => ?_, fun e => ?_, fun e => ?_, fun e => ?_, fun e => ?_, fun e => ?_, fun e => ?_⟩ <;> subst e
  · rw [gm] at gs; simp only [Option.some.injEq, CObj.cells.injEq] at gs; exact absurd gs.2.1 (by decide)
  · rw [gp] at gs; simp at gs
  · rw [gsm] at gs; simp at gs
  · rw [gm] at g; simp only [Option.some.injEq, CObj.cells.injEq] at g; exact absurd g.2.1 (by decide)
  · rw [gp] at g; simp at g
  · rw [gsm] at g; simp at g
  · rw [gs] at g; simp only [Option.some.injEq, CObj.cells.injEq] at g; exact absurd g.2.1 (by decide)

theorem KillSession_w (d : Nat) (h : SW H N m sm pm k s ws cur) (h1 : ws.length = 1) :
    ∃ H', X (d + 6) n_mux_Mux_KillSession [P0 m, .string (S [97])] H = some (.int .i64 0, H') ∧ EW H' m sm ∧ Keep (fun j => j = sm ∨ j = pm) H H' := by
  have lk := h.look
  obtain ⟨b, cap, hNb, gs, hw⟩ := h.g
  obtain ⟨a1, a2, a3, a4, a5, a6, a7⟩ := h.apart gs hw
  obtain ⟨x, rfl⟩ : ∃ x, ws = [x] := by
    match ws, h1 with
    | [x], _ => exact ⟨x, rfl⟩
  rw [mux_Mux_KillSession_eq, lk.1]
  simp only [optK_s, asM_s]
  rw [lk.2]
  simp only [optK_s, castT_s, castL_c, castL_n, cast0, P0, asP_s, asB_s, List.getElem?_cons_zero, List.getElem?_cons_succ]
  rw [if_neg (show ¬ (!true) = true by simp)]
  simp only [nilP_s, ap_0]
  rw [(ld1_s gs).trans (show _ = some (Value.slice (some ⟨b, 0, none⟩) 1 cap) from rfl)]
  simp only [optK_s, asSL_k2]
  obtain ⟨f, hfu⟩ : ∃ f, NN = f + 2 := ⟨NN - 2, by rw [NN_eq]⟩
  rw [hfu, mux_Mux_KillSession_p111010_s, if_pos (by decide)]
  simp only [optK_s]
  rw [if_pos (by decide)]
  simp only [Int.toNat_zero, Nat.zero_mul, ap_0]
  obtain ⟨hb1, hb2, Z, op, st, gb, hb4⟩ := hw
  rw [(ld1_s gb).trans (show _ = some (P0 x.1) from rfl)]
  simp only [optK_s, P0, asP_s]
  obtain ⟨t, nd, c0, c1, c2, c3, l1, l2, l3⟩ := h.ww x (List.mem_singleton.2 rfl)
  obtain ⟨es, clk, gp, hbel⟩ := h.gp
  obtain ⟨ga, gc, gsm, hac⟩ := h.gs
  have lt := h.lt
  have ne := h.ne
  obtain ⟨es', H1, e1, g1, b1, k1⟩ := drop_s d (k := k) h.gm lt.1 rfl gp lt.2.2.1 hbel c1 c2 l2 c3 l3
  rw [show X (d + 5) n_mux_Mux_drop [.pointer (some ⟨m, 0, none⟩), .pointer (some ⟨x.1, 0, none⟩)] H = _ from e1]
  simp only [callK_s]
  rw [show IntKind.wrap .i64 (0 + 1) = 1 from rfl, mux_Mux_KillSession_p111010_s, if_neg (by decide)]
  have gm1 := (k1.2 m lt.1 ne.1).trans h.gm
  have gsm1 := (k1.2 sm lt.2.1 ne.2.2).trans gsm
  rw [(ld1_s gm1).trans (show _ = some (Value.map (some sm)) from rfl)]
  simp only [optK_s, asM_s]
  have ed : ∀ K, effK (.mapE (.del .str)) [.map (some sm), .string (S [97])] H1 K = K (.tuple #[]) (H1.put sm (.map [] gc)) := fun K => by
    simp only [effK, mapD, isKey, if_true, Heap.ents, gsm1, mapFind, eqA, optK_s]
    rfl
  rw [ed]
  have k2 : Keep (fun j => j = sm) H1 (H1.put sm (.map [] gc)) := Keep.put _ _ _ rfl
  have n1 := k1.1
  refine ⟨_, rfl, ⟨⟨_, _, _, _, _, (k2.2 m (by omega) (Ne.symm ne.2.1)).trans gm1⟩, ⟨gc, by simp⟩, by simp; omega⟩, (k1.mono (T := fun j => j = sm ∨ j = pm) fun _ _ e => .inr e).trans k2 fun _ _ e => .inl e⟩

theorem KillWindow_1 (d : Nat) (h : SW H N m sm pm k s ws cur) (h1 : ws.length = 1) :
    ∃ H', X (d + 7) n_mux_Mux_KillWindow [P0 m, .string (S [97])] H = some (.int .i64 0, H') ∧ EW H' m sm ∧ Keep (fun j => j = sm ∨ j = pm) H H' := by
  have lk := h.look
  obtain ⟨b, cap, hNb, gs, hw⟩ := h.g
  rw [mux_Mux_KillWindow_eq, lk.1]
  simp only [optK_s, asM_s]
  rw [lk.2]
  simp only [optK_s, castT_s, castL_c, castL_n, cast0, P0, asP_s, asB_s, List.getElem?_cons_zero, List.getElem?_cons_succ]
  rw [if_neg (show ¬ (!true) = true by simp)]
  simp only [nilP_s, ap_0]
  rw [(ld1_s gs).trans (show _ = some (Value.slice (some ⟨b, 0, none⟩) ws.length cap) from rfl)]
  simp only [optK_s, asSL_k2]
  rw [if_pos (decide_eq_true (by omega))]
  obtain ⟨H', e, ew, kk⟩ := KillSession_w d h h1
  rw [show X (d + 6) n_mux_Mux_KillSession [.pointer (some ⟨m, 0, none⟩), .string (S [97])] H = _ from e]
  simp only [callK_s, asI_s]
  exact ⟨H', rfl, ew, kk⟩

theorem KillWindow_w (d : Nat) (h : SW H N m sm pm k s ws cur) (h1 : 2 ≤ ws.length) :
    ∃ H', X (d + 7) n_mux_Mux_KillWindow [P0 m, .string (S [97])] H = some (.int .i64 0, H') ∧ SW H' N m sm pm k s (ws.eraseIdx cur) (min cur (ws.length - 2)) ∧ Keep (fun j => j = pm ∨ j = s ∨ N ≤ j ∧ ∃ c o st, H.get j = some (.cells c t_P_mux_window o 0 st)) H H' := by
  have lk := h.look
  obtain ⟨b, cap, hNb, gs, hw⟩ := h.g
  obtain ⟨a1, a2, a3, a4, a5, a6, a7⟩ := h.apart gs hw
  rw [mux_Mux_KillWindow_eq, lk.1]
  simp only [optK_s, asM_s]
  rw [lk.2]
  simp only [optK_s, castT_s, castL_c, castL_n, cast0, P0, asP_s, asB_s, List.getElem?_cons_zero, List.getElem?_cons_succ]
  rw [if_neg (show ¬ (!true) = true by simp)]
  simp only [nilP_s, ap_0, ap_1]
  have s0 : ∀ {Hx : Heap} {n c b : Nat} {z : Value}, Hx.get s = some (.cells [.slice (some ⟨b, 0, none⟩) n c, z] t_mux_session false 0 false) → Heap.ld1 Hx ⟨s, 0, none⟩ = some (.slice (some ⟨b, 0, none⟩) n c) := fun g => (ld1_s g).trans rfl
  have s1 : ∀ {Hx : Heap} {y z : Value}, Hx.get s = some (.cells [y, z] t_mux_session false 0 false) → Heap.ld1 Hx ⟨s, 1, none⟩ = some z := fun g => (ld1_s g).trans rfl
  rw [s0 gs]
  simp only [optK_s, asSL_k2]
  rw [if_neg (by rw [decide_eq_true_eq]; omega), s1 gs]
  simp only [optK_s, asI_s]
  have hcu := h.cu
  have hle := h.le
  rw [if_pos (show (0 : Int) ≤ (cur : Int) ∧ (cur : Int) < (ws.length : Int) by omega), Int.toNat_natCast, Nat.mul_one, show ap ⟨b, 0, none⟩ cur = ⟨b, cur, none⟩ by simp [ap]]
  have hwl : (wpL ws)[cur]? = some (P0 (ws[cur]).1) := by simp [wpL, hcu]
  have gb0 : Heap.ld1 H ⟨b, cur, none⟩ = some (P0 (ws[cur]).1) := by
    obtain ⟨hb1, hb2, Z, op, st, gb, hb4⟩ := hw
    rw [ld1_s gb, List.getElem?_append_left (by rw [wp_len]; omega), hwl]
  rw [gb0]
  simp only [optK_s, P0, asP_s]
  obtain ⟨t, nd, c0, c1, c2, c3, l1, l2, l3⟩ := h.ww ws[cur] (List.getElem_mem hcu)
  obtain ⟨es, clk, gp, hbel⟩ := h.gp
  obtain ⟨ga, gc, gsm, hac⟩ := h.gs
  have lt := h.lt
  have ne := h.ne
  obtain ⟨es', H1, e1, g1, b1, k1⟩ := drop_s (d + 1) (k := k) h.gm lt.1 rfl gp lt.2.2.1 hbel c1 c2 l2 c3 l3
  rw [show X (d + 6) n_mux_Mux_drop [.pointer (some ⟨m, 0, none⟩), .pointer (some ⟨(ws[cur]).1, 0, none⟩)] H = _ from e1]
  simp only [callK_s]
  have n1 := k1.1
  have gs1 := (k1.2 s lt.2.2.2 a2).trans gs
  rw [s0 gs1]
  simp only [optK_s, asSL_k2]
  rw [s1 gs1]
  simp only [optK_s, asI_s]
  rw [wi (by omega)]
  have hw1 := hw.keep k1 a5
  obtain ⟨H2, e2, w2, k2⟩ := Delete_w (d + 5) hw1 hcu (by omega)
  rw [show (Sl.v ⟨some ⟨b, 0, none⟩, ws.length, cap⟩) = .slice (some ⟨b, 0, none⟩) ws.length cap from rfl, e2]
  simp only [callK_s, asSL_k2]
  have n2 := k2.1
  have gs2 := (k2.2 s (by omega) (Ne.symm a7)).trans gs1
  rw [(st1_s (v := .slice (some ⟨b, 0, none⟩) (ws.length - 1) cap) gs2 (by show 0 < 2; omega) (by omega)).trans (show _ = some (H2.put s (.cells [.slice (some ⟨b, 0, none⟩) (ws.length - 1) cap, .int .i64 (cur : Int)] t_mux_session false 0 false)) from rfl)]
  simp only [optK_s]
  have k3 : Keep (fun j => j = s) H2 (H2.put s (.cells [.slice (some ⟨b, 0, none⟩) (ws.length - 1) cap, .int .i64 (cur : Int)] t_mux_session false 0 false)) := Keep.put _ _ _ rfl
  have gs3 : (H2.put s (.cells [.slice (some ⟨b, 0, none⟩) (ws.length - 1) cap, .int .i64 (cur : Int)] t_mux_session false 0 false)).get s = some (.cells [.slice (some ⟨b, 0, none⟩) (ws.length - 1) cap, .int .i64 (cur : Int)] t_mux_session false 0 false) := by simp
  generalize H2.put s (.cells [.slice (some ⟨b, 0, none⟩) (ws.length - 1) cap, .int .i64 (cur : Int)] t_mux_session false 0 false) = H3 at *
  rw [s1 gs3]
  simp only [optK_s, asI_s]
  rw [s0 gs3]
  simp only [optK_s, asSL_k2]
  have hmin : (if IntKind.wrap .i64 (((ws.length - 1 : Nat) : Int) - 1) < (cur : Int) then IntKind.wrap .i64 (((ws.length - 1 : Nat) : Int) - 1) else (cur : Int)) = ((min cur (ws.length - 2) : Nat) : Int) := by
    rw [w64 (by omega)]
    split <;> omega
  rw [hmin]
  rw [(st1_s (v := .int .i64 ((min cur (ws.length - 2) : Nat) : Int)) gs3 (by show 1 < 2; omega) (by omega)).trans (show _ = some (H3.put s (.cells [.slice (some ⟨b, 0, none⟩) (ws.length - 1) cap, .int .i64 ((min cur (ws.length - 2) : Nat) : Int)] t_mux_session false 0 false)) from rfl)]
  simp only [optK_s]
  have k4 : Keep (fun j => j = s) H3 (H3.put s (.cells [.slice (some ⟨b, 0, none⟩) (ws.length - 1) cap, .int .i64 ((min cur (ws.length - 2) : Nat) : Int)] t_mux_session false 0 false)) := Keep.put _ _ _ rfl
  have gs4 : (H3.put s (.cells [.slice (some ⟨b, 0, none⟩) (ws.length - 1) cap, .int .i64 ((min cur (ws.length - 2) : Nat) : Int)] t_mux_session false 0 false)).get s = some (.cells [.slice (some ⟨b, 0, none⟩) (ws.length - 1) cap, .int .i64 ((min cur (ws.length - 2) : Nat) : Int)] t_mux_session false 0 false) := by simp
  generalize H3.put s (.cells [.slice (some ⟨b, 0, none⟩) (ws.length - 1) cap, .int .i64 ((min cur (ws.length - 2) : Nat) : Int)] t_mux_session false 0 false) = H4 at *
  have n3 := k3.1
  have n4 := k4.1
  have k34 : Keep (fun j => j = s) H2 H4 := k3.trans k4 fun _ _ e => e
  have k24 : Keep (fun j => j = b ∨ j = s) H1 H4 := (k2.mono (T := fun j => j = b ∨ j = s) fun _ _ e => .inl e).trans k34 fun _ _ e => .inr e
  have k04 : Keep (fun j => j = pm ∨ j = b ∨ j = s) H H4 := (k1.mono (T := fun j => j = pm ∨ j = b ∨ j = s) fun _ _ e => .inl e).trans k24 fun _ _ e => .inr e
  have hel : (ws.eraseIdx cur).length = ws.length - 1 := List.length_eraseIdx_of_lt hcu
  refine ⟨H4, rfl, ⟨(k04.2 m lt.1 (by have := ne.1; omega)).trans h.gm, ⟨es', clk, (k24.2 pm (by omega) (by omega)).trans g1, b1⟩, ⟨ga, gc, (k04.2 sm lt.2.1 (by have := ne.2.2; omega)).trans gsm, hac⟩, ⟨b, cap, hNb, by rw [hel]; exact gs4, ?_⟩, fun x hx => ?_, by omega, ne, h.lo, by omega, by omega⟩, k04.mono fun j _ e => ?_⟩
  · have := w2.keep k34 a7
    rw [hel, show wpL (ws.eraseIdx cur) = (wpL ws).eraseIdx cur by unfold wpL; rw [map_erase]]
    exact this
  · refine (h.ww x (List.mem_of_mem_eraseIdx hx)).keep k04 (Nat.le_refl _) fun j c e o st hj hg => ?_
    rcases hj with rfl | rfl | rfl
    · rw [gp] at hg; simp at hg
    · obtain ⟨_, _, Z, op, st, g, _⟩ := hw
      rw [g] at hg
      simp only [Option.some.injEq, CObj.cells.injEq] at hg
      obtain ⟨_, rfl, _⟩ := hg
      decide
    · rw [gs] at hg
      simp only [Option.some.injEq, CObj.cells.injEq] at hg
      obtain ⟨_, rfl, _⟩ := hg
      decide
  · rcases e with e | e | e
    · exact .inl e
    · obtain ⟨_, _, Z, op, st, g, _⟩ := hw
      subst e
      exact .inr (.inr ⟨hNb, _, _, _, g⟩)
    · exact .inr (.inl e)
end
end Go.Proofs.YtkkhljcjjhcnhaaGreatDoor.dec

namespace Go.Proofs.YtkkhljcjjhcnhaaGreatDoor.dec
open Go Go.Cm

attribute [local congr] optK_congr asI_congr asN_congr asB_congr asS_congr asP_congr asA_congr asSL_congr callK_congr castT_congr chk_congr

/-- windows as they are told: four cells each, the active pane second -/
def TW (ws : List (Nat × Nat)) (cs : List Value) : Prop := cs.length = 4 * ws.length ∧ ∀ (i : Nat) x, ws[i]? = some x → cs[4 * i + 1]? = some (.int .i64 (x.2 : Int))
theorem TW.nil : TW [] [] := ⟨rfl, fun i n h => by simp at h⟩
theorem TW.snoc {L : List (Nat × Nat)} {cs : List Value} (h : TW L cs) (n : Nat × Nat) (a b c : Value) : TW (L ++ [n]) (cs ++ [a, .int .i64 (n.2 : Int), b, c]) := by
  refine ⟨by simp [h.1]; omega, fun i x hx => ?_⟩
  by_cases hi : i < L.length
  · rw [List.getElem?_append_left hi] at hx
    rw [List.getElem?_append_left (by have := h.1; omega)]
    exact h.2 i x hx
  · have hi2 : i < (L ++ [n]).length := (List.getElem?_eq_some_iff.1 hx).1
    simp at hi2
    have e : i = L.length := by omega
    subst e
    rw [List.getElem?_append_right (Nat.le_refl _), Nat.sub_self] at hx
    rw [List.getElem?_append_right (by have := h.1; omega), h.1, Nat.add_sub_cancel_left]
    simp only [List.getElem?_cons_zero, Option.some.injEq, List.getElem?_cons_succ] at hx ⊢
    rw [hx]

theorem wins_loop (d m0 : Nat) {H0 : Heap} {N m sm pm k s cur : Nat} {ws : List (Nat × Nat)} (h : SW H0 N m sm pm k s ws cur) (hk : k ≤ 99) {b cap : Nat} (hw : WS H0 b ws.length cap (wpL ws)) {p7 : Nat} (hp : H0.next ≤ p7) {x15 : Sl} {x16 : Int} {n : W} :
    ∀ (m1 j : Nat) {H : Heap} {xs : Sl} {tw : List Value}, ws.length - j < m1 → j ≤ ws.length → Keep0 H0 H → p7 < H.next → H.get p7 = some (.cells [.string (S n), .int .i64 (cur : Int), xs.v] t_mux_Session false 0 false) → Whole H xs tw t_mux_Window 4 → (∀ i, xs.at i → H0.next ≤ i ∧ i ≠ p7) → TW (ws.take j) tw →
    ∃ y xs' tw' H', mux_Mux_Sessions_p1101001100111010 (d + 6) m0 m1 m Sl.nil p7 x15 x16 0 ⟨some ⟨b, 0, none⟩, ws.length, cap⟩ (ws.length : Int) (j : Int) H = mux_Mux_Sessions_p11010 (d + 6) m0 m y x15 x16 1 H' ∧ Whole H' y [.string (S n), .int .i64 (cur : Int), Sl.v xs'] t_mux_Session 3 ∧ Whole H' xs' tw' t_mux_Window 4 ∧ TW ws tw' ∧ Keep0 H0 H' := fun m1 => by
  have hle := h.le
  induction m1 with
  | zero => intro j H xs tw hm; omega
  | succ m1 ih =>
    intro j H xs tw hm hj k0 lp gp7 wx nx ht
    rw [mux_Mux_Sessions_p1101001100111010_s]
    have n0 := k0.1
    by_cases c : j < ws.length
    · rw [if_pos (decide_eq_true (by omega))]
      simp only [optK_s]
      rw [if_pos (show (0 : Int) ≤ (j : Int) ∧ (j : Int) < ((ws.length : Nat) : Int) by omega), Int.toNat_natCast, Nat.mul_one, show ap ⟨b, 0, none⟩ j = ⟨b, j, none⟩ by simp [ap]]
      have hwl : (wpL ws)[j]? = some (P0 (ws[j]).1) := by simp [wpL, c]
      obtain ⟨t, nd, c0, h3, h4, h5, q3, q4, q5⟩ := h.ww ws[j] (List.getElem_mem c)
      obtain ⟨_, _, Z, op, st, gb, _⟩ := hw.keep k0 id
      rw [(ld1_s gb).trans (show _ = some (P0 (ws[j]).1) by rw [List.getElem?_append_left (by rw [wp_len]; omega), hwl])]
      simp only [optK_s, P0, asP_s]
      generalize hwe : (ws[j]).1 = w at *
      generalize hid : (ws[j]).2 = id at *
      have r2 := (ld1_s (off := 2) gp7).trans (show _ = some xs.v from rfl)
      rw [r2]
      simp only [optK_s, asSL_k, nilP_s, ap_0, ap0]
      have hw1 := k0.get q3 h3
      rw [(ld1_s hw1).trans (show _ = some (P0 t) from rfl)]
      simp only [optK_s, P0, asP_s]
      obtain ⟨bp, H2, e2, _, _, _, k2⟩ := Panes_s (d + 2) (k0.get q4 h4) (by omega) (k0.get q5 h5) (by omega)
      rw [show X (d + 6) n_layout_Tree_Panes [.pointer (some ⟨t, 0, none⟩)] H = _ from e2]
      simp only [callK_s, asSL_k2]
      have k12 := k0.trans k2
      have hw2 := k12.get q3 h3
      rw [(ld1_s hw2).trans (show _ = some (Value.int .i64 (id : Int)) from rfl)]
      simp only [optK_s, asI_s]
      rw [(ld1_s hw2).trans (show _ = some (Value.bool false) from rfl)]
      simp only [optK_s, asB_s]
      rw [(ld1_s hw2).trans (show _ = some (P0 t) from rfl)]
      simp only [optK_s, P0, asP_s]
      obtain ⟨str, e3⟩ := String_s d (n := id) (by omega) (k12.get q4 h4) (k12.get q5 h5)
      rw [show X (d + 6) n_layout_Tree_String [.pointer (some ⟨t, 0, none⟩)] H2 = _ from e3]
      simp only [callK_s, asS_s, newK_s]
      have n2 := k2.1
      have hp72 := k2.get lp gp7
      have hxl := wx.len
      have htl := ht.1
      rw [List.length_take, Nat.min_eq_left hj] at htl
      obtain ⟨xs2, H3, e4, w4, k4, k4', f4, c4⟩ := push_whole (H := H2) (s := xs) (cs := tw) (e := t_mux_Window) (sz := 4) (bytes := 56) (new := [.slice (some ⟨bp, 0, none⟩) 1 1, .int .i64 (id : Int), .bool false, .string str]) (wx.keep k2 fun _ _ e => e) rfl (by omega) (by omega) (by omega)
      have kn : Keep0 H2 (H2.new (.cells [.slice (some ⟨bp, 0, none⟩) 1 1, .int .i64 (id : Int), .bool false, .string str] t_mux_Window false 0 false)) := Keep.new _ _
      rw [show (.cells [Sl.v ⟨some ⟨bp, 0, none⟩, 1, 1⟩, .int .i64 (id : Int), .bool false, .string str] t_mux_Window false 0 false : CObj) = .cells [.slice (some ⟨bp, 0, none⟩) 1 1, .int .i64 (id : Int), .bool false, .string str] t_mux_Window false 0 false from rfl, e4]
      simp only [asSL_k]
      have n3 := k4.1
      have k03 : Keep0 H0 H3 := k12.fresh k4 fun i e => (nx i e).1
      have hp73 := (k4.2 p7 (by omega) fun e => (nx p7 e).2 rfl).trans hp72
      rw [(st1_s (v := xs2.v) hp73 (by show 2 < 3; omega) (by omega)).trans (show _ = some (H3.put p7 (.cells [.string (S n), .int .i64 (cur : Int), xs2.v] t_mux_Session false 0 false)) from rfl)]
      simp only [optK_s]
      have kp : Keep (fun i => i = p7) H3 (H3.put p7 (.cells [.string (S n), .int .i64 (cur : Int), xs2.v] t_mux_Session false 0 false)) := Keep.put _ _ _ rfl
      have gp : (H3.put p7 (.cells [.string (S n), .int .i64 (cur : Int), xs2.v] t_mux_Session false 0 false)).get p7 = some (.cells [.string (S n), .int .i64 (cur : Int), xs2.v] t_mux_Session false 0 false) := by simp
      have n4 : (H3.put p7 (.cells [.string (S n), .int .i64 (cur : Int), xs2.v] t_mux_Session false 0 false)).next = H3.next := rfl
      generalize H3.put p7 (.cells [.string (S n), .int .i64 (cur : Int), xs2.v] t_mux_Session false 0 false) = H4 at *
      have hwn := kn.get (by omega) hw2
      have hpn := kn.get (by omega) hp72
      have t0 : ∀ Hx : Heap, Hx.get w = some (.cells [P0 t, .int .i64 (id : Int), .bool false] t_mux_window false 0 false) → readD (.load 1 false) [.pointer (some ⟨w, 0, none⟩)] Hx = some (P0 t) := fun Hx hh => rd1' ((ld1_s hh).trans rfl)
      have t1 : ∀ Hx : Heap, Hx.get w = some (.cells [P0 t, .int .i64 (id : Int), .bool false] t_mux_window false 0 false) → readD (.load 1 false) [.pointer (some ⟨w, 1, none⟩)] Hx = some (.int .i64 (id : Int)) := fun Hx hh => rd1' ((ld1_s hh).trans rfl)
      have t2 : ∀ Hx : Heap, Hx.get w = some (.cells [P0 t, .int .i64 (id : Int), .bool false] t_mux_window false 0 false) → readD (.load 1 false) [.pointer (some ⟨w, 2, none⟩)] Hx = some (.bool false) := fun Hx hh => rd1' ((ld1_s hh).trans rfl)
      have t3 : ∀ Hx : Heap, Hx.get p7 = some (.cells [.string (S n), .int .i64 (cur : Int), xs.v] t_mux_Session false 0 false) → readD (.load 1 false) [.pointer (some ⟨p7, 2, none⟩)] Hx = some xs.v := fun Hx hh => rd1' ((ld1_s hh).trans rfl)
      rw [show rdsOk _ _ = true from by
        simp only [rdsOk, Bool.and_true]
        rw [show 1 + 1 - 0 = 2 from rfl, show 1 + 2 - 0 = 3 from rfl, show 1 + 3 - 0 = 4 from rfl, rdOk_2, rdOk_3, rdOk_3, rdOk_4, rdAt_s rfl (t0 _ hw1) (same_ptr _), rdAt_s rfl (t0 _ hw2) (same_ptr _), rdAt_s rfl (t2 _ hw1) (same_bool _), rdAt_s rfl (t2 _ hw2) (same_bool _), rdAt_s rfl (t2 _ hw2) (same_bool _), rdAt_s rfl (t1 _ hw1) (same_int _ _), rdAt_s rfl (t1 _ hw2) (same_int _ _), rdAt_s rfl (t1 _ hw2) (same_int _ _), rdAt_s rfl (t3 _ gp7) (same_sl _ _ _), rdAt_s rfl (t3 _ hp72) (same_sl _ _ _), rdAt_s rfl (t3 _ hp72) (same_sl _ _ _), rdAt_s rfl (t3 _ hpn) (same_sl _ _ _)]; rfl]
      simp only [chk_s]
      rw [wi (by omega)]
      have nx2 : ∀ i, xs2.at i → H0.next ≤ i ∧ i ≠ p7 := fun i e => by have := f4 i e; omega
      refine ih (j + 1) (by omega) (by omega) (k03.fresh kp fun i e => by have e' : i = p7 := e; omega) (by omega) gp (w4.keep kp fun i e e' => (nx2 i e).2 e') nx2 ?_
      rw [List.take_succ_eq_append_getElem c]
      have := ht.snoc ws[j] (.slice (some ⟨bp, 0, none⟩) 1 1) (.bool false) (.string str)
      rw [hid] at this
      exact this
    · rw [if_neg (by rw [decide_eq_true_eq]; omega)]
      have e : j = ws.length := by omega
      subst e
      rw [List.take_length] at ht
      rw [show ldA H ⟨p7, 0, none⟩ 3 = some (.agg ⟨[.string (S n), .int .i64 (cur : Int), xs.v]⟩) by unfold ldA; rw [ldN_s gp7 (by show 0 + 3 ≤ 3; omega)]; rfl]
      simp only [optK_s, asA_s]
      rw [show fillL [(0, 3)] [.agg ⟨[.string (S n), .int .i64 (cur : Int), xs.v]⟩] [.string (S []), .int .i64 0, .slice none 0 0] = some [.string (S n), .int .i64 (cur : Int), xs.v] from rfl]
      simp only [optK_s, newK_s]
      obtain ⟨y, H5, e5, w5, k5, _, f5, c5⟩ := push_whole (H := H) (s := Sl.nil) (cs := []) (e := t_mux_Session) (sz := 3) (bytes := 48) (new := [.string (S n), .int .i64 (cur : Int), xs.v]) (.inl ⟨rfl, rfl⟩) rfl (by show (0 + 1) * 48 ≤ _; omega) (by omega) (by omega)
      rw [e5]
      simp only [asSL_k]
      rw [show IntKind.wrap .i64 (0 + 1) = 1 from rfl]
      exact ⟨y, xs, tw, H5, rfl, w5, wx.keep k5 fun _ _ e => absurd e Sl.at_nil, ht, k0.fresh k5 fun i e => absurd e Sl.at_nil⟩

theorem Sessions_w (d : Nat) {H : Heap} {N m sm pm k s cur : Nat} {ws : List (Nat × Nat)} (hk : k ≤ 99) (h : SW H N m sm pm k s ws cur) :
    ∃ y xs tw H', X (d + 7) n_mux_Mux_Sessions [P0 m] H = some (Sl.v y, H') ∧ Whole H' y [.string (S [97]), .int .i64 (cur : Int), Sl.v xs] t_mux_Session 3 ∧ Whole H' xs tw t_mux_Window 4 ∧ TW ws tw ∧ Keep0 H H' := by
  have h0 := h
  obtain ⟨ga, gc, gsm, hac⟩ := h.gs
  obtain ⟨b, cap, _, gs, hw⟩ := h.g
  have lt := h.lt
  rw [mux_Mux_Sessions_eq, (ld1_s h.gm).trans (show _ = some (Value.map (some sm)) from rfl)]
  simp only [optK_s, asM_s]
  rw [keys_p]
  simp only [keysP, callK_s]
  have k1 : Keep0 H (H.new (.cells [.map (some sm)] 68 false 0 false)) := Keep.new _ _
  have g1 : (H.new (.cells [.map (some sm)] 68 false 0 false)).get H.next = some (.cells [.map (some sm)] 68 false 0 false) := by simp
  have n1 : (H.new (.cells [.map (some sm)] 68 false 0 false)).next = H.next + 1 := by simp
  generalize H.new (.cells [.map (some sm)] 68 false 0 false) = H1 at *
  rw [sorted_p]
  have hkl : keysL [(.string (S [97]), P0 s, ga)] gc = some [[97]] := keysL_NS (ns := [[97]]) rfl (by simp) (by simpa using hac) (by simp) (by simp) (by simp)
  have hs : sortedP 61 9 [.func (.func 61) #[] #[.pointer (some ⟨H.next, 0, none⟩)]] H1 = some (.slice (some ⟨H1.next, 0, none⟩) 1 1, H1.new (.cells [.string (S [97])] 9 true 0 false)) := by
    simp only [sortedP, g1, k1.get lt.2.1 gsm, hkl]
    simp [sortS, insS]
  rw [hs]
  simp only [callK_s, asSL_k2]
  have k2 : Keep0 H1 (H1.new (.cells [.string (S [97])] 9 true 0 false)) := Keep.new _ _
  have g2 : (H1.new (.cells [.string (S [97])] 9 true 0 false)).get H1.next = some (.cells [.string (S [97])] 9 true 0 false) := by simp
  have n2 : (H1.new (.cells [.string (S [97])] 9 true 0 false)).next = H1.next + 1 := by simp
  generalize H1.new (.cells [.string (S [97])] 9 true 0 false) = H2 at *
  have k02 := k1.trans k2
  obtain ⟨f, hfu⟩ : ∃ f, NN = f + 2 := ⟨NN - 2, by rw [NN_eq]⟩
  rw [show mux_Mux_Sessions_p11010 (d + 6) NN = mux_Mux_Sessions_p11010 (d + 6) (f + 1 + 1) by rw [hfu], mux_Mux_Sessions_p11010_s, if_pos (by decide)]
  simp only [optK_s]
  rw [if_pos (by decide), show ap ⟨H1.next, 0, none⟩ ((0 : Int).toNat * 1) = ⟨H1.next, 0, none⟩ from rfl, (ld1_s g2).trans (show _ = some (Value.string (S [97])) from rfl)]
  simp only [optK_s, asS_s]
  rw [(ld1_s (k02.get lt.1 h.gm)).trans (show _ = some (Value.map (some sm)) from rfl)]
  simp only [optK_s, asM_s]
  rw [(look_a ⟨ga, gc, k02.get lt.2.1 gsm⟩).trans (show _ = some (P0 s) from rfl)]
  simp only [optK_s, P0, asP_s, nilP_s, ap_0, ap_1]
  have gs2 := k02.get lt.2.2.2 gs
  rw [(ld1_s gs2).trans (show _ = some (Value.int .i64 (cur : Int)) from rfl)]
  simp only [optK_s, asI_s, newK_s]
  have k3 : Keep0 H2 (H2.new (.cells [.string (S []), .int .i64 0, .slice none 0 0] t_mux_Session false 0 false)) := Keep.new _ _
  have g3 : (H2.new (.cells [.string (S []), .int .i64 0, .slice none 0 0] t_mux_Session false 0 false)).get H2.next = some (.cells [.string (S []), .int .i64 0, .slice none 0 0] t_mux_Session false 0 false) := by simp
  have n3 : (H2.new (.cells [.string (S []), .int .i64 0, .slice none 0 0] t_mux_Session false 0 false)).next = H2.next + 1 := by simp
  generalize H2.new (.cells [.string (S []), .int .i64 0, .slice none 0 0] t_mux_Session false 0 false) = H3 at *
  rw [show Heap.stN H3 ⟨H2.next, 0, none⟩ [.string (S [97]), .int .i64 (cur : Int), .slice none 0 0] = some (H3.put H2.next (.cells [.string (S [97]), .int .i64 (cur : Int), .slice none 0 0] t_mux_Session false 0 false)) by simp only [Heap.stN, g3]; rfl]
  simp only [optK_s]
  have k4 : Keep (fun j => j = H2.next) H3 (H3.put H2.next (.cells [.string (S [97]), .int .i64 (cur : Int), .slice none 0 0] t_mux_Session false 0 false)) := Keep.put _ _ _ rfl
  have g4 : (H3.put H2.next (.cells [.string (S [97]), .int .i64 (cur : Int), .slice none 0 0] t_mux_Session false 0 false)).get H2.next = some (.cells [.string (S [97]), .int .i64 (cur : Int), Sl.nil.v] t_mux_Session false 0 false) := by simp
  have n4 : (H3.put H2.next (.cells [.string (S [97]), .int .i64 (cur : Int), .slice none 0 0] t_mux_Session false 0 false)).next = H3.next := rfl
  generalize H3.put H2.next (.cells [.string (S [97]), .int .i64 (cur : Int), .slice none 0 0] t_mux_Session false 0 false) = H4 at *
  have k04 : Keep0 H H4 := (k02.trans k3).fresh k4 fun j e => by have e' : j = H2.next := e; omega
  rw [(ld1_s (k04.get lt.2.2.2 gs)).trans (show _ = some (Value.slice (some ⟨b, 0, none⟩) ws.length cap) from rfl)]
  simp only [optK_s, asSL_k2]
  have hle := h.le
  obtain ⟨y, xs, tw, H5, e5, w5, w6, t5, k5⟩ := wins_loop d (f + 1) h0 hk hw (p7 := H2.next) (by omega) (x15 := ⟨some ⟨H1.next, 0, none⟩, 1, 1⟩) (x16 := 1) (n := [97]) NN 0 (NN_big _ (by omega)) (by omega) k04 (by omega) g4 (.inl ⟨rfl, rfl⟩) (fun i e => absurd e Sl.at_nil) TW.nil
  rw [show ((0 : Nat) : Int) = 0 from rfl] at e5
  rw [show ((1 : Nat) : Int) = 1 from rfl, e5, mux_Mux_Sessions_p11010_s, if_neg (by decide)]
  exact ⟨y, xs, tw, H5, rfl, w5, w6, t5, k5⟩
end Go.Proofs.YtkkhljcjjhcnhaaGreatDoor.dec

namespace Go.Proofs.YtkkhljcjjhcnhaaGreatDoor.dec
open Go Go.Cm

attribute [local congr] optK_congr asI_congr asN_congr asB_congr asS_congr asP_congr asA_congr asSL_congr callK_congr castT_congr chk_congr

theorem Pick_w (d : Nat) (n : Int) (m : Nat) (H : Heap) (hm : 0 < m) (hm2 : m ≤ 1048576) : ∃ r : Nat, X (d + 1) n_hand_Pick [.int .i64 n, .int .i64 (m : Int)] H = some (.int .i64 (r : Int), H) ∧ r < m := by
  rw [hand_Pick_eq, if_neg (by omega)]
  have h1 := Int.tmod_lt_of_pos n (show (0 : Int) < (m : Int) by omega)
  have h2 : -(m : Int) < Int.tmod n m := by
    have := Int.lt_tmod_of_pos n (show (0 : Int) < (m : Int) by omega)
    omega
  simp only [decide_eq_true_eq]
  by_cases h : Int.tmod n m < 0
  · rw [if_pos h, w64 (by omega)]
    exact ⟨(Int.tmod n m + m).toNat, by rw [Int.toNat_of_nonneg (by omega)], by omega⟩
  · rw [if_neg h]
    exact ⟨(Int.tmod n m).toNat, by rw [Int.toNat_of_nonneg (by omega)], by omega⟩
def ArgW (N : Nat) (H : Heap) (x : Sl) (L : List Int) : Prop := x.n = L.length ∧ ∀ (i : Nat) n, L[i]? = some n → ∃ b, b < N ∧ x.a = some ⟨b, 0, none⟩ ∧ H.ld1 ⟨b, i, none⟩ = some (.int .i64 n)
theorem ldw_keep {S : Nat → Prop} {H H' : Heap} (hk : Keep S H H') {N b i : Nat} (hN : N ≤ H.next) (hb : b < N) (hs : ∀ k, S k → N ≤ k) : H'.ld1 ⟨b, i, none⟩ = H.ld1 ⟨b, i, none⟩ := by
  unfold Heap.ld1
  rw [hk.2 b (by omega) fun e => by have := hs b e; omega]

def idL (ws : List (Nat × Nat)) : List Value := ws.map fun x => .int .i64 (x.2 : Int)
theorem id_len (ws : List (Nat × Nat)) : (idL ws).length = ws.length := by simp [idL]
theorem ints_at {H : Heap} {x : Sl} {cs : List Value} (h : Whole H x cs t_int 1) {j : Nat} (hj : x.at j) : ∃ o st, H.get j = some (.cells cs t_int o 0 st) := by
  obtain ⟨a, ha, rfl⟩ := hj
  rcases h with ⟨rfl, _⟩ | ⟨b, n, rfl, _, _, o, st, h⟩
  · cases ha
  · cases ha; exact ⟨o, st, h⟩

structure IL (H0 H : Heap) (m sm pm k s : Nat) (ws : List (Nat × Nat)) (cur : Nat) (x : Sl) : Prop where
  st : SW H H0.next m sm pm k s ws cur
  ids : Whole H x (idL ws) t_int 1
  il : ∀ j, x.at j → H0.next ≤ j
  kp : Keep (fun j => H0.next ≤ j) H0 H
theorem IL.n {H0 H : Heap} {m sm pm k s : Nat} {ws : List (Nat × Nat)} {cur : Nat} {x : Sl} (h : IL H0 H m sm pm k s ws cur x) : x.n = ws.length := by
  have := h.ids.len.1
  rw [id_len] at this
  omega

section
variable {H0 : Heap} {x0 : Sl} {L : List Int} {m sm pm s : Nat}

def GoW (H0 : Heap) (x0 : Sl) (m sm pm s e f i : Nat) : Prop := ∀ {H : Heap} {k : Nat} {ws : List (Nat × Nat)} {cur : Nat} {x : Sl}, k ≤ i + 1 → IL H0 H m sm pm k s ws cur x → ∃ H', law23_MuxWindows_p111111010 (e + 10) f x0 (some ⟨m, 0, none⟩) x (k : Int) (cur : Int) (i : Int) H = some (.bool true, H')

theorem told_w (e f : Nat) {i : Nat} (hi : i < 40) (go : GoW H0 x0 m sm pm s e f (i + 1)) {H : Heap} {k : Nat} (hk : k ≤ i + 2) {ws : List (Nat × Nat)} {cur : Nat} {x : Sl} (h : IL H0 H m sm pm k s ws cur x) {y xs : Sl} {tw : List Value} (hy : Whole H y [.string (S [97]), .int .i64 (cur : Int), Sl.v xs] t_mux_Session 3) (hx : Whole H xs tw t_mux_Window 4) (ht : TW ws tw) :
    ∀ (m1 j : Nat), ws.length - j < m1 → j ≤ ws.length → ∃ H', law23_MuxWindows_p11111101001001101110 (e + 10) f m1 x0 (some ⟨m, 0, none⟩) x (k : Int) (cur : Int) (i : Int) y (j : Int) H = some (.bool true, H') := fun m1 => by
  have hle := h.st.le
  have hxn := h.n
  induction m1 with
  | zero => intro j hj; omega
  | succ m1 ih =>
    intro j hj hj2
    rw [law23_MuxWindows_p11111101001001101110_s]
    by_cases c : j < ws.length
    · rw [if_pos (decide_eq_true (by omega))]
      have hyn : y.n = 1 := by have := hy.len.1; simp at this; omega
      obtain ⟨yb, hyb, hyl, o, st, gy⟩ := whole_one hy hyn
      rw [hyb]
      simp only [optK_s]
      rw [if_pos (show (0 : Int) ≤ (0 : Int) ∧ (0 : Int) < ((1 : Nat) : Int) by omega), show ap (ap ⟨yb, 0, none⟩ 0) 2 = ⟨yb, 2, none⟩ from rfl, (ld1_s gy).trans (show _ = some (Sl.v xs) from rfl)]
      simp only [optK_s, asSL_k]
      have hxl := hx.len.1
      have htl := ht.1
      have htw := ht.2 j ws[j] (List.getElem?_eq_getElem c)
      have hxa : ∃ bx, xs.a = some ⟨bx, 0, none⟩ ∧ ∃ o st, H.get bx = some (.cells tw t_mux_Window o 0 st) := by
        rcases hx with ⟨rfl, rfl⟩ | ⟨bx, n, rfl, _, _, o, st, g⟩
        · simp at htw
        · exact ⟨bx, rfl, o, st, g⟩
      obtain ⟨bx, ea, ox, stx, gx⟩ := hxa
      rw [ea]
      simp only [optK_s]
      rw [if_pos (show (0 : Int) ≤ (j : Int) ∧ (j : Int) < (xs.n : Int) by omega), Int.toNat_natCast, show ap (ap ⟨bx, 0, none⟩ (j * 4)) 1 = ⟨bx, 4 * j + 1, none⟩ by simp only [ap, Addr.mk.injEq, and_true, true_and]; omega, (ld1_s gx).trans htw]
      simp only [optK_s, asI_s]
      have hid : (idL ws)[j]? = some (.int .i64 ((ws[j]).2 : Int)) := by simp [idL, c]
      have hxi : ∃ bi, x.a = some ⟨bi, 0, none⟩ ∧ ∃ o st, H.get bi = some (.cells (idL ws) t_int o 0 st) := by
        rcases h.ids with ⟨hx1, hx2⟩ | ⟨bi, n, hx1, _, _, o, st, g⟩
        · rw [hx2] at hid; simp at hid
        · exact ⟨bi, by rw [hx1], o, st, g⟩
      obtain ⟨bi, ei, oi, sti, gi⟩ := hxi
      rw [ei]
      simp only [optK_s]
      rw [if_pos (show (0 : Int) ≤ (j : Int) ∧ (j : Int) < (x.n : Int) by omega), Nat.mul_one, show ap ⟨bi, 0, none⟩ j = ⟨bi, j, none⟩ by simp [ap], (ld1_s gi).trans hid]
      simp only [optK_s, asI_s]
      rw [if_neg (show ¬ (!decide True) = true by simp), wi (by omega), ← hyb]
      exact ih (j + 1) (by omega) (by omega)
    · rw [if_neg (by rw [decide_eq_true_eq]; omega), wi (by omega)]
      exact go hk h

theorem after_w (e f : Nat) {i : Nat} (hi : i < 40) (go : GoW H0 x0 m sm pm s e f (i + 1)) {H : Heap} {k : Nat} (hk : k ≤ i + 2) {ws : List (Nat × Nat)} {cur : Nat} {x : Sl} (h : IL H0 H m sm pm k s ws cur x) :
    ∃ H', law23_MuxWindows_p111111010010011 (e + 10) f x0 (some ⟨m, 0, none⟩) x (k : Int) (cur : Int) (i : Int) H = some (.bool true, H') := by
  rw [law23_MuxWindows_p111111010010011_eq]
  have hle := h.st.le
  have hxn := h.n
  obtain ⟨y, xs, tw, H1, e1, w1, w2, t1, k1⟩ := Sessions_w (e + 3) (k := k) (by omega) h.st
  rw [show X (e + 10) n_mux_Mux_Sessions [.pointer (some ⟨m, 0, none⟩)] H = _ from e1]
  simp only [callK_s, asSL_k]
  have hyn : y.n = 1 := by have := w1.len.1; simp at this; omega
  obtain ⟨yb, hyb, hyl, o, st, gy⟩ := whole_one w1 hyn
  have h1 : IL H0 H1 m sm pm k s ws cur x := ⟨h.st.keep0 k1, h.ids.keep k1 fun _ _ e => e, h.il, h.kp.trans k1 fun _ _ e => e.elim⟩
  have hxl := w2.len.1
  have htl := t1.1
  subst hyb
  rw [if_neg (show ¬ (!decide (((1 : Nat) : Int) = 1)) = true by simp)]
  simp only [optK_s]
  rw [if_pos (show (0 : Int) ≤ (0 : Int) ∧ (0 : Int) < ((1 : Nat) : Int) by omega), show ap (ap ⟨yb, 0, none⟩ 0) 1 = ⟨yb, 1, none⟩ from rfl, (ld1_s gy).trans (show _ = some (Value.int .i64 (cur : Int)) from rfl)]
  simp only [optK_s, asI_s]
  rw [if_neg (show ¬ (!decide True) = true by simp), show ap (ap ⟨yb, 0, none⟩ 0) 2 = ⟨yb, 2, none⟩ from rfl, (ld1_s gy).trans (show _ = some (Sl.v xs) from rfl)]
  simp only [optK_s, asSL_k]
  rw [if_pos (show (0 : Int) ≤ (0 : Int) ∧ (0 : Int) < ((1 : Nat) : Int) by omega), decide_eq_true (show (xs.n : Int) = (x.n : Int) by omega), law23_MuxWindows_p1111110100100110101_eq, if_neg (show ¬ (!true) = true by simp)]
  exact told_w e f hi go hk h1 w1 w2 t1 NN 0 (NN_big _ (by omega)) (by omega)

theorem kill_ids {H : Heap} {ws : List (Nat × Nat)} {cur : Nat} {x : Sl} (h : Whole H x (idL ws) t_int 1) (hc : cur < ws.length) (hl : 2 ≤ ws.length) (hle : ws.length ≤ 8) {K : Sl → Heap → Res} :
    ∃ z H', (newK H (.cells [] t_int false 0 false) fun p33 H34 =>
            optK (readD (.subSl t_int 1 false true false) [x.v, .int .i64 (cur : Int)] H34) fun v35 =>
            asSL v35 fun l36 =>
            appendK t_int 1 8 false (.slice (some ⟨p33, 0, none⟩) 0 0) l36.v H34 fun v37 H38 =>
            asSL v37 fun l39 =>
            optK (readD (.subSl t_int 1 true false false) [x.v, .int .i64 ((cur + 1 : Nat) : Int)] H38) fun v40 =>
            asSL v40 fun l41 =>
            appendK t_int 1 8 false l39.v l41.v H38 fun v42 H43 =>
            asSL v42 fun l44 =>
            chk (rdsOk [H, H34, H38, H43] [⟨.subSl t_int 1 true false false, [x.v, .int .i64 ((cur + 1 : Nat) : Int)], v40, 0, 2⟩, ⟨.subSl t_int 1 false true false, [x.v, .int .i64 (cur : Int)], v35, 0, 1⟩]) (K l44 H43)) = K z H' ∧ Whole H' z (idL (ws.eraseIdx cur)) t_int 1 ∧ Keep0 H H' ∧ (∀ j, z.at j → H.next ≤ j) := by
  obtain ⟨b, hxe, hb, o, st, gb⟩ : ∃ b, x = ⟨some ⟨b, 0, none⟩, ws.length, ws.length⟩ ∧ b < H.next ∧ ∃ o st, H.get b = some (.cells (idL ws) t_int o 0 st) := by
    rcases h with ⟨_, h2⟩ | ⟨b, n, h1, h2, h3, h4⟩
    · have := congrArg List.length h2
      rw [id_len, List.length_nil] at this
      omega
    · rw [id_len] at h2
      refine ⟨b, ?_, h3, h4⟩
      rw [h1]
      have hn : n = ws.length := by omega
      rw [hn]
  subst hxe
  have whole : ∀ {Hx : Heap}, Keep0 H Hx → Whole Hx ⟨some ⟨b, 0, none⟩, ws.length, ws.length⟩ (idL ws) t_int 1 := fun kx => h.keep kx fun _ _ e => e
  have rl : ∀ {Hx : Heap}, Keep0 H Hx → readD (.subSl t_int 1 true false false) [Sl.v ⟨some ⟨b, 0, none⟩, ws.length, ws.length⟩, .int .i64 ((cur + 1 : Nat) : Int)] Hx = some (subS ⟨some ⟨b, 0, none⟩, ws.length, ws.length⟩ (cur + 1) ws.length 1).v := fun kx => (whole kx).vw.s_l (by show cur + 1 ≤ ws.length; omega)
  have rh : ∀ {Hx : Heap}, Keep0 H Hx → readD (.subSl t_int 1 false true false) [Sl.v ⟨some ⟨b, 0, none⟩, ws.length, ws.length⟩, .int .i64 (cur : Int)] Hx = some (subS ⟨some ⟨b, 0, none⟩, ws.length, ws.length⟩ 0 cur 1).v := fun kx => (whole kx).vw.s_h (by show cur ≤ ws.length; omega)
  simp only [newK_s]
  have k1 : Keep0 H (H.new (.cells [] t_int false 0 false)) := Keep.new _ _
  have g1 : (H.new (.cells [] t_int false 0 false)).get H.next = some (.cells [] t_int false 0 false) := by simp
  have n1 : (H.new (.cells [] t_int false 0 false)).next = H.next + 1 := by simp
  generalize H.new (.cells [] t_int false 0 false) = H1 at *
  rw [rh k1]
  simp only [optK_s, asSL_k]
  have v1 := (whole k1).vw.sub (l := 0) (h := cur) (by omega) (by show cur ≤ ws.length; omega)
  have w1 : Whole H1 ⟨some ⟨H.next, 0, none⟩, 0, 0⟩ [] t_int 1 := .inr ⟨H.next, 0, rfl, rfl, by omega, false, false, g1⟩
  obtain ⟨z1, H2, e2, w2, k2, f2, c2, _⟩ := append_whole (bytes := 8) (str := false) (x := (subS ⟨some ⟨b, 0, none⟩, ws.length, ws.length⟩ 0 cur 1).v) (n := cur) (new := (idL ws).take cur) w1 (by show some (cur - 0) = _; rw [Nat.sub_zero]) (by
    have := v1.src (n := cur) (by show cur ≤ cur - 0; omega)
    rw [this]
    simp [List.take_take]) (by rw [List.length_take, id_len]; omega) (by show (0 + cur) * 8 ≤ _; omega) (by omega) (by omega)
  rw [show appendK t_int 1 8 false (.slice (some ⟨H.next, 0, none⟩) 0 0) = appendK t_int 1 8 false (Sl.v ⟨some ⟨H.next, 0, none⟩, 0, 0⟩) from rfl, e2]
  simp only [asSL_k]
  have n2 := k2.1
  have k02 : Keep0 H H2 := k1.fresh k2 fun j e => by obtain ⟨a, ha, rfl⟩ := e; cases ha; exact Nat.le_refl _
  rw [rl k02]
  simp only [optK_s, asSL_k]
  have v2 := (whole k02).vw.sub (l := cur + 1) (h := ws.length) (by omega) (by show ws.length ≤ ws.length; omega)
  obtain ⟨z2, H3, e3, w3, k3, f3, c3, _⟩ := append_whole (bytes := 8) (str := false) (x := (subS ⟨some ⟨b, 0, none⟩, ws.length, ws.length⟩ (cur + 1) ws.length 1).v) (n := ws.length - (cur + 1)) (new := (idL ws).drop (cur + 1)) w2 rfl (by
    have := v2.src (n := ws.length - (cur + 1)) (Nat.le_refl _)
    rw [this]
    congr 1
    rw [Nat.mul_one, Nat.mul_one, List.take_take, Nat.min_self, List.take_of_length_le (by rw [List.length_drop, id_len]; omega)]) (by rw [List.length_drop, id_len]; omega) (by rw [c2]; show (0 + cur + _) * 8 ≤ _; omega) (by omega) (by omega)
  rw [e3]
  simp only [asSL_k]
  have z1n : ∀ j, z1.at j → H.next ≤ j := fun j e => by
    rcases f2 j e with e | e
    · obtain ⟨a, ha, rfl⟩ := e; cases ha; exact Nat.le_refl _
    · omega
  have k03 : Keep0 H H3 := k02.fresh k3 fun j e => z1n j e
  rw [show rdsOk _ _ = true from by
    simp only [rdsOk, Bool.and_true]
    rw [show 1 + 1 - 0 = 2 from rfl, show 1 + 2 - 0 = 3 from rfl]
    rw [rdOk_2, rdOk_3, rdAt_s rfl (rl (Keep.refl _)) (same_sl _ _ _), rdAt_s rfl (rl k1) (same_sl _ _ _), rdAt_s rfl (rl k02) (same_sl _ _ _), rdAt_s rfl (rh (Keep.refl _)) (same_sl _ _ _), rdAt_s rfl (rh k1) (same_sl _ _ _)]; rfl]
  simp only [chk_s]
  refine ⟨z2, H3, rfl, ?_, k03, fun j e => ?_⟩
  · rw [show idL (ws.eraseIdx cur) = [] ++ (idL ws).take cur ++ (idL ws).drop (cur + 1) by
      unfold idL
      rw [List.nil_append, ← List.eraseIdx_eq_take_drop_succ, map_erase]]
    exact w3
  · rcases f3 j e with e | e
    · exact z1n j e
    · have := k02.1; omega
end
end Go.Proofs.YtkkhljcjjhcnhaaGreatDoor.dec

namespace Go.Proofs.YtkkhljcjjhcnhaaGreatDoor.dec
open Go Go.Cm

attribute [local congr] optK_congr asI_congr asN_congr asB_congr asS_congr asP_congr asA_congr asSL_congr callK_congr castT_congr chk_congr

section
variable {H0 : Heap} {x0 : Sl} {L : List Int} {m sm pm s : Nat}

theorem IL.keepx {S : Nat → Prop} {H H' : Heap} {k cur : Nat} {ws : List (Nat × Nat)} {x : Sl} (h : IL H0 H m sm pm k s ws cur x) (hk : Keep S H H') (hS : ∀ j, S j → j = m ∨ j = pm ∨ j = s ∨ (H0.next ≤ j ∧ ∃ c o st, H.get j = some (.cells c t_P_mux_window o 0 st))) :
    Whole H' x (idL ws) t_int 1 ∧ Keep (fun j => H0.next ≤ j) H0 H' := by
  have lo := h.st.lo
  refine ⟨h.ids.keep hk fun j hj e => ?_, h.kp.trans hk fun j _ e => ?_⟩
  · obtain ⟨o, st, g⟩ := ints_at h.ids hj
    obtain ⟨b, cap, _, gs, _⟩ := h.st.g
    obtain ⟨es, c, gp, _⟩ := h.st.gp
    rcases hS j e with rfl | rfl | rfl | ⟨_, c, o', st', g'⟩
    · rw [h.st.gm] at g; simp only [Option.some.injEq, CObj.cells.injEq] at g; exact absurd g.2.1 (by decide)
    · rw [gp] at g; simp at g
    · rw [gs] at g; simp only [Option.some.injEq, CObj.cells.injEq] at g; exact absurd g.2.1 (by decide)
    · rw [g'] at g; simp only [Option.some.injEq, CObj.cells.injEq] at g; exact absurd g.2.1 (by decide)
  · rcases hS j e with rfl | rfl | rfl | ⟨h1, _⟩
    · exact lo.1
    · exact lo.2.2.1
    · exact lo.2.2.2
    · exact h1

theorem win_loop (e : Nat) (hx : ArgW H0.next H0 x0 L) : ∀ (f i : Nat), 41 - i < f → i ≤ 40 → GoW H0 x0 m sm pm s e f i := fun f => by
  induction f with
  | zero => intro i hf; omega
  | succ f ih =>
    intro i hf hi H k ws cur x hk h
    rw [law23_MuxWindows_p111111010_s]
    have last : ∃ H', law23_MuxWindows_p111111010001 (e + 10) f x0 (some ⟨m, 0, none⟩) x (k : Int) (cur : Int) (i : Int) false H = some (.bool true, H') := by
      rw [law23_MuxWindows_p111111010001_eq, if_neg (by simp)]
      exact ⟨H, rfl⟩
    have hxn := hx.1
    have hn := h.n
    have hcu := h.st.cu
    have hle := h.st.le
    by_cases c1 : i < L.length
    · rw [if_pos (decide_eq_true (by omega))]
      by_cases c2 : i < 40
      · rw [decide_eq_true (show (i : Int) < 40 by omega), law23_MuxWindows_p111111010001_eq, if_pos rfl]
        obtain ⟨b, hbN, ea, el⟩ := hx.2 i L[i] (List.getElem?_eq_getElem c1)
        have el' : Heap.ld1 H ⟨b, i, none⟩ = some (.int .i64 L[i]) := (ldw_keep h.kp (Nat.le_refl _) hbN (fun _ e => e)).trans el
        have hix : (0 : Int) ≤ (i : Int) ∧ (i : Int) < (x0.n : Int) := by omega
        rw [ea]
        simp only [optK_s, if_pos hix, Int.toNat_natCast, Nat.mul_one]
        rw [show ap ⟨b, 0, none⟩ i = ⟨b, i, none⟩ by simp [ap], el']
        simp only [optK_s, asI_s]
        obtain ⟨p1, e1, l1⟩ := Pick_w (e + 9) (IntKind.wrap .i64 (Int.tdiv L[i] 3)) 10 H (by omega) (by omega)
        rw [show X (e + 10) n_hand_Pick [.int .i64 (IntKind.wrap .i64 (Int.tdiv L[i] 3)), .int .i64 10] H = _ from e1]
        simp only [callK_s, asI_s]
        rw [el']
        simp only [optK_s, asI_s]
        obtain ⟨p3, e3, l3⟩ := Pick_w (e + 9) L[i] 3 H (by omega) (by omega)
        rw [show X (e + 10) n_hand_Pick [.int .i64 L[i], .int .i64 3] H = _ from e3]
        simp only [callK_s, asI_s]
        have go : GoW H0 x0 m sm pm s e f (i + 1) := fun {H k ws cur x} hk h => ih (i + 1) (by omega) (by omega) hk h
        by_cases z0 : (p3 : Int) = 0
        · rw [if_pos (decide_eq_true z0)]
          rcases NewWindow_w e (by omega) h.st with ⟨m1, e4⟩ | ⟨m1, w, H1, e4, s1, k1⟩
          · rw [show X (e + 10) n_mux_Mux_NewWindow [.pointer (some ⟨m, 0, none⟩), .string (S [97])] H = _ from e4]
            simp only [callK_s, asI_s]
            rw [decide_eq_true (show (8 : Int) ≤ (x.n : Int) by omega), if_neg (by simp), if_neg (by simp)]
            exact after_w e f c2 go (by omega) h
          · rw [show X (e + 10) n_mux_Mux_NewWindow [.pointer (some ⟨m, 0, none⟩), .string (S [97])] H = _ from e4]
            simp only [callK_s, asI_s]
            rw [decide_eq_false (show ¬ (8 : Int) ≤ (x.n : Int) by omega), if_neg (by simp), if_pos (by simp)]
            obtain ⟨w2, k2⟩ := h.keepx k1 fun j e => e
            have n1 := k1.1
            have n0 := h.kp.1
            simp only [newK_s]
            obtain ⟨z, H2, e5, w5, k5, _, f5, c5⟩ := push_whole (H := H1) (s := x) (cs := idL ws) (e := t_int) (sz := 1) (bytes := 8) (new := [.int .i64 (k : Int)]) w2 rfl (by omega) (by omega) (by omega)
            rw [e5]
            simp only [asSL_k]
            rw [wi (by omega), show IntKind.wrap .i64 ((z.n : Int) - 1) = ((ws.length : Nat) : Int) by rw [w64 (by omega)]; omega]
            have il : ∀ j, x.at j → H0.next ≤ j := h.il
            have xt : ∀ j c e o st, x.at j → H1.get j = some (.cells c e o 0 st) → e = t_int := fun j c e o st hj hg => by
              obtain ⟨o', st', g⟩ := ints_at w2 hj
              rw [g] at hg
              simp only [Option.some.injEq, CObj.cells.injEq] at hg
              exact hg.2.1.symm
            have s2 : SW H2 H0.next m sm pm (k + 1) s (ws ++ [(w, k)]) ws.length := by
              obtain ⟨a1, ⟨es, c, a2, a2'⟩, ⟨q, c3, a3, a4⟩, ⟨b', cap, aN, a5, a6⟩, a7, a8, a9, aL, a10, a11⟩ := s1
              have hn5 := k5.1
              have nx : ∀ {j : Nat} {c : List Value} {e : TypeId}, e ≠ t_int → H1.get j = some (.cells c e false 0 false) → ¬ x.at j := fun he hg hat => he (xt _ _ _ _ _ hat hg)
              have nm : ∀ {j : Nat} {es : List (Value × Value × Nat)} {c : Nat}, H1.get j = some (.map es c) → ¬ x.at j := fun hg hat => by
                obtain ⟨o', st', g⟩ := ints_at w2 hat
                rw [g] at hg; simp at hg
              refine ⟨(k5.2 m a8.1 (nx (by decide) a1)).trans a1, ⟨es, c, (k5.2 pm a8.2.2.1 (nm a2)).trans a2, a2'⟩, ⟨q, c3, (k5.2 sm a8.2.1 (nm a3)).trans a3, a4⟩, ⟨b', cap, aN, (k5.2 s a8.2.2.2 (nx (by decide) a5)).trans a5, a6.keep k5 fun e => ?_⟩, fun y hy => (a7 y hy).keep k5 (Nat.le_refl _) fun j c e o st hj hg => ?_, by omega, a9, aL, a10, a11⟩
              · obtain ⟨_, _, Z, op, st, g, _⟩ := a6
                exact absurd (xt _ _ _ _ _ e g) (by decide)
              · rw [xt _ _ _ _ _ hj hg]
                decide
            refine after_w e f c2 go (by omega) (x := z) ⟨s2, ?_, fun j e => by have := f5 j e; omega, k2.trans k5 fun j _ e => il j e⟩
            rw [show idL (ws ++ [(w, k)]) = idL ws ++ [.int .i64 (k : Int)] by simp [idL]]
            exact w5
        · rw [if_neg (by rw [decide_eq_true_eq]; exact z0)]
          by_cases z1 : (p3 : Int) = 1
          · rw [if_pos (decide_eq_true z1)]
            rcases SelectWindow_w (e + 9) h.st p1 (by omega) with ⟨m1, e4⟩ | ⟨m1, H1, e4, s1, k1⟩
            · rw [show X (e + 10) n_mux_Mux_SelectWindow [.pointer (some ⟨m, 0, none⟩), .string (S [97]), .int .i64 (p1 : Int)] H = _ from e4]
              simp only [callK_s, asI_s]
              rw [decide_eq_false (show ¬ (p1 : Int) < (x.n : Int) by omega), if_neg (by simp), if_neg (by simp)]
              exact after_w e f c2 go (by omega) h
            · rw [show X (e + 10) n_mux_Mux_SelectWindow [.pointer (some ⟨m, 0, none⟩), .string (S [97]), .int .i64 (p1 : Int)] H = _ from e4]
              simp only [callK_s, asI_s]
              rw [decide_eq_true (show (p1 : Int) < (x.n : Int) by omega), if_neg (by simp), if_pos (by simp)]
              obtain ⟨w2, k2⟩ := h.keepx k1 fun j e => .inr (.inr (.inl e))
              exact after_w e f c2 go (by omega) ⟨s1, w2, h.il, k2⟩
          · rw [if_neg (by rw [decide_eq_true_eq]; exact z1)]
            by_cases o1 : ws.length = 1
            · obtain ⟨H1, e4, w1, k1⟩ := KillWindow_1 (e + 3) h.st o1
              rw [show X (e + 10) n_mux_Mux_KillWindow [.pointer (some ⟨m, 0, none⟩), .string (S [97])] H = _ from e4]
              simp only [callK_s, asI_s]
              rw [if_neg (by simp), if_pos (decide_eq_true (by omega))]
              obtain ⟨H2, e5, k2⟩ := Sessions_e (e + 8) w1
              rw [show X (e + 10) n_mux_Mux_Sessions [.pointer (some ⟨m, 0, none⟩)] H1 = _ from e5]
              simp only [callK_s, asSL_k2]
              rw [if_pos (show decide (((0 : Nat) : Int) = 0) = true by simp)]
              have e6 := KillWindow_e (e + 9) (w1.keep0 k2)
              rw [show X (e + 10) n_mux_Mux_KillWindow [.pointer (some ⟨m, 0, none⟩), .string (S [97])] H2 = _ from e6]
              simp only [callK_s, asI_s]
              exact ⟨H2, rfl⟩
            · obtain ⟨H1, e4, s1, k1⟩ := KillWindow_w (e + 3) h.st (by omega)
              rw [show X (e + 10) n_mux_Mux_KillWindow [.pointer (some ⟨m, 0, none⟩), .string (S [97])] H = _ from e4]
              simp only [callK_s, asI_s]
              rw [if_neg (by simp), if_neg (by rw [decide_eq_true_eq]; omega)]
              obtain ⟨w2, k2⟩ := h.keepx k1 fun j e => by
                rcases e with e | e | e
                · exact .inr (.inl e)
                · exact .inr (.inr (.inl e))
                · exact .inr (.inr (.inr e))
              have n1 := k1.1
              have n0 := h.kp.1
              rw [wi (by omega)]
              obtain ⟨z, H2, e5, w5, k5, f5⟩ := kill_ids w2 hcu (by omega) hle (K := fun l44 H43 => law23_MuxWindows_p111111010010011 (e + 10) f x0 (some ⟨m, 0, none⟩) l44 (k : Int) (if (IntKind.wrap .i64 ((l44.n : Int) - 1)) < (cur : Int) then (IntKind.wrap .i64 ((l44.n : Int) - 1)) else (cur : Int)) (i : Int) H43)
              rw [e5]
              have hel : (ws.eraseIdx cur).length = ws.length - 1 := List.length_eraseIdx_of_lt hcu
              have hz := w5.len.1
              rw [id_len, hel] at hz
              have hmin : (if IntKind.wrap .i64 ((z.n : Int) - 1) < (cur : Int) then IntKind.wrap .i64 ((z.n : Int) - 1) else (cur : Int)) = ((min cur (ws.length - 2) : Nat) : Int) := by
                rw [w64 (by omega)]
                split <;> omega
              rw [hmin]
              exact after_w e f c2 go (by omega) ⟨s1.keep0 k5, w5, fun j e => by have := f5 j e; omega, k2.trans k5 fun _ _ e => e.elim⟩
      · rw [decide_eq_false (show ¬ (i : Int) < 40 by omega)]
        exact last
    · rw [if_neg (by rw [decide_eq_true_eq]; omega)]
      exact last
end

theorem known_w (d : Nat) (H : Heap) : X (d + 1) n_law23_known [] H = some (.bool true, H) := by kernel_rfl
theorem MuxWindows_s (e : Nat) {H : Heap} {x0 : Sl} {L : List Int} (hx : ArgW H.next H x0 L) : ∃ H', X (e + 11) n_law23_MuxWindows [x0.v] H = some (.bool true, H') := by
  rw [law23_MuxWindows_eq]
  obtain ⟨m, sm, pm, H1, e1, a1, a2, a3, b1, b2, b3, b4, k1⟩ := New5_s (e + 2) 5 9 (by omega) (by omega) H
  rw [show X (e + 10) n_mux_New [.int .i64 5, .int .i64 9] H = _ from e1]
  simp only [callK_s, castT_s, castL_c, castL_n, cast0, P0, asP_s, asI_s, optK_s, List.getElem?_cons_zero, List.getElem?_cons_succ]
  rw [known_w]
  simp only [callK_s, asB_s]
  rw [if_neg (by simp), if_neg (by simp), if_neg (show ¬ (some (⟨m, 0, none⟩ : Addr)).isNone = true by simp)]
  have n1 := k1.1
  obtain ⟨s, wl, w, t, nd, p, D, H2, e2, c1, c2, c3, c4, c5, c6, c7, c8, c9, o, rep, ff, kk⟩ := NewSession_s e 5 9 0 (by omega) (by omega) (by omega) (nm := S [97]) (H := H1) (m := m) (sm := sm) (pm := pm) (bf := .slice none 0 0) (ss := []) (es := []) (cls := 0) (clk := 0) (Right_c (e + 8) 97 (by decide) H1) a1 (by omega) a3 (by omega) a2 (by omega) (by omega) (by omega) (by omega) rfl rfl (by simp)
  rw [show X (e + 10) n_mux_Mux_NewSession [.pointer (some ⟨m, 0, none⟩), .string (S [97])] H1 = _ from e2]
  simp only [callK_s, asI_s]
  rw [show (!decide True) = false from rfl, law23_MuxWindows_p1101_eq, if_neg (by simp)]
  simp only [newK_s]
  have n2 := kk.1
  have k3 : Keep0 H2 (H2.new (.cells [.int .i64 0] t_int false 0 false)) := Keep.new _ _
  have g3 : (H2.new (.cells [.int .i64 0] t_int false 0 false)).get H2.next = some (.cells [.int .i64 0] t_int false 0 false) := by simp
  have n3 : (H2.new (.cells [.int .i64 0] t_int false 0 false)).next = H2.next + 1 := by simp
  generalize H2.new (.cells [.int .i64 0] t_int false 0 false) = H3 at *
  have st2 : SW H2 H.next m sm pm 1 s [(w, 0)] 0 := ⟨c1, ⟨_, _, c2, fun x hx => ⟨0, by omega, by have := List.mem_singleton.1 hx; rw [this]⟩⟩, ⟨_, _, c3, by omega⟩, ⟨wl, 1, by omega, c4, by omega, rfl, [], false, false, c5, rfl⟩, fun x hx => by
    rw [List.mem_singleton.1 hx]
    exact ⟨t, nd, by show 0 < 1; omega, c7, c8, c9, by show w < H2.next; omega, by omega, by omega⟩, by omega, by omega, by omega, by simp, by simp⟩
  have k02 : Keep (fun j => H.next ≤ j) H H2 := (k1.to (S := fun j => H.next ≤ j)).trans kk fun j _ e => by omega
  have := win_loop (H0 := H) (m := m) (sm := sm) (pm := pm) (s := s) e hx NN 0 (NN_big _ (by omega)) (by omega) (H := H3) (k := 1) (ws := [(w, 0)]) (cur := 0) (x := ⟨some ⟨H2.next, 0, none⟩, 1, 1⟩) (by omega) ⟨st2.keep0 k3, .inr ⟨H2.next, 1, rfl, rfl, by omega, false, false, g3⟩, fun j e => by obtain ⟨a, ha, rfl⟩ := e; cases ha; show H.next ≤ H2.next; omega, k02.trans k3 fun _ _ e => e.elim⟩
  exact this
end Go.Proofs.YtkkhljcjjhcnhaaGreatDoor.dec
