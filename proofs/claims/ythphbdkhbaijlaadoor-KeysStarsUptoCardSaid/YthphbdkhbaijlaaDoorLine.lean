/-
  keys: which names a pattern matches. No program in sight.
  And: keys.Match: what it computes. The reference's Match: what it computes. KeysMatch: what the call computes. keys: what the laws' frames share. KeysStars: what the call computes.
-/
import Derived.WalkKit
import Derived.Test.YthphbdkhbaijlaaDoorDec
import Derived.IntWalk
import Derived.Test.YthphbdkhbaijlaaDoorRows
import Derived.Test.YthphbdkhbaijlaaDoorCmG
import Derived.ChangeMaps5
import Derived.ChangeSlices
namespace Go.Proofs.YthphbdkhbaijlaaDoor.dec

abbrev W := List UInt8

/-- the names that a pattern matches: 42 any text, 63 any byte -/
inductive M : W → W → Prop
  | nil : M [] []
  | one {p s : W} {c x : UInt8} (h : c.toNat ≠ 42) (h' : c.toNat = 63 ∨ c = x) : M p s → M (c :: p) (x :: s)
  | skip {p s : W} {c : UInt8} (h : c.toNat = 42) : M p s → M (c :: p) s
  | take {p s : W} {c x : UInt8} (h : c.toNat = 42) : M (c :: p) s → M (c :: p) (x :: s)

theorem M_nil {s : W} : M [] s ↔ s = [] := by
  constructor
  · intro h; cases h; rfl
  · rintro rfl; exact .nil
theorem M_one {c : UInt8} {p s : W} (hc : c.toNat ≠ 42) : M (c :: p) s ↔ ∃ x t, s = x :: t ∧ (c.toNat = 63 ∨ c = x) ∧ M p t := by
  constructor
  · intro h
    cases h with
    | one _ h' h => exact ⟨_, _, rfl, h', h⟩
    | skip h => exact absurd h hc
    | take h => exact absurd h hc
  · rintro ⟨x, t, rfl, h', h⟩; exact .one hc h' h
theorem M_star {c : UInt8} {p : W} (hc : c.toNat = 42) : ∀ {s : W}, M (c :: p) s ↔ ∃ j, M p (s.drop j) := by
  intro s
  constructor
  · intro h
    generalize hq : c :: p = q at h
    induction h with
    | nil => cases hq
    | one h => cases hq; exact absurd hc h
    | skip _ h => cases hq; exact ⟨0, h⟩
    | take _ _ ih => obtain ⟨j, h⟩ := ih hq; exact ⟨j + 1, h⟩
  · rintro ⟨j, h⟩
    induction s generalizing j with
    | nil => rw [List.drop_nil] at h; exact .skip hc h
    | cons x s ih =>
      cases j with
      | zero => exact .skip hc h
      | succ j => exact .take hc (ih j h)

theorem M_app : ∀ {p q s : W}, M (p ++ q) s ↔ ∃ s1 s2, s = s1 ++ s2 ∧ M p s1 ∧ M q s2 := by
  intro p
  induction p with
  | nil =>
    intro q s
    constructor
    · intro h; exact ⟨[], s, rfl, .nil, h⟩
    · rintro ⟨s1, s2, rfl, h1, h2⟩
      rw [M_nil] at h1
      subst h1
      exact h2
  | cons c p ih =>
    intro q s
    rw [List.cons_append]
    by_cases hc : c.toNat = 42
    · rw [M_star hc]
      constructor
      · rintro ⟨j, h⟩
        obtain ⟨s1, s2, e, h1, h2⟩ := ih.1 h
        refine ⟨s.take j ++ s1, s2, by rw [List.append_assoc, ← e, List.take_append_drop], (M_star hc).2 ⟨(s.take j).length, ?_⟩, h2⟩
        rw [List.drop_left]
        exact h1
      · rintro ⟨s1, s2, rfl, h1, h2⟩
        obtain ⟨j, h⟩ := (M_star hc).1 h1
        by_cases hj : j ≤ s1.length
        · exact ⟨j, ih.2 ⟨s1.drop j, s2, by rw [List.drop_append_of_le_length hj], h, h2⟩⟩
        · rw [List.drop_eq_nil_of_le (by omega)] at h
          exact ⟨s1.length, ih.2 ⟨[], s2, by rw [List.drop_left]; rfl, h, h2⟩⟩
    · rw [M_one hc]
      constructor
      · rintro ⟨x, t, rfl, h', h⟩
        obtain ⟨s1, s2, rfl, h1, h2⟩ := ih.1 h
        exact ⟨x :: s1, s2, rfl, .one hc h' h1, h2⟩
      · rintro ⟨s1, s2, rfl, h1, h2⟩
        obtain ⟨x, t, rfl, h', h⟩ := (M_one hc).1 h1
        exact ⟨x, t ++ s2, rfl, h', ih.2 ⟨t, s2, rfl, h, h2⟩⟩

/-- a piece without a star takes as many bytes as it has -/
theorem M_len : ∀ {p s : W}, (∀ c ∈ p, c.toNat ≠ 42) → M p s → s.length = p.length := by
  intro p
  induction p with
  | nil => intro s _ h; rw [M_nil] at h; simp [h]
  | cons c p ih =>
    intro s hp h
    obtain ⟨x, t, rfl, _, h⟩ := (M_one (hp c (by simp))).1 h
    simp [ih (fun c hc => hp c (by simp [hc])) h]

/-- the end of a name -/
theorem M_end {p : W} : M p [] ↔ ∀ c ∈ p, c.toNat = 42 := by
  induction p with
  | nil => simp [M_nil]
  | cons c p ih =>
    by_cases hc : c.toNat = 42
    · rw [M_star hc]
      simp only [List.drop_nil, exists_const, ih, List.mem_cons, forall_eq_or_imp, hc, true_and]
    · constructor
      · intro h
        obtain ⟨x, t, e, _⟩ := (M_one hc).1 h
        cases e
      · intro h; exact absurd (h c (by simp)) hc

/-! ### row by row -/
theorem snoc_cases (t : W) : t = [] ∨ ∃ t' x, t = t' ++ [x] := by
  rcases List.eq_nil_or_concat t with h | ⟨t', x, h⟩
  · exact .inl h
  · exact .inr ⟨t', x, by simpa using h⟩
theorem D_star {p t : W} {c : UInt8} (hc : c.toNat = 42) : M (p ++ [c]) t ↔ M p t ∨ ∃ t' x, t = t' ++ [x] ∧ M (p ++ [c]) t' := by
  have hs : ∀ s, M [c] s := fun s => (M_star hc).2 ⟨s.length, by rw [List.drop_length]; exact .nil⟩
  constructor
  · intro h
    obtain ⟨s1, s2, rfl, h1, h2⟩ := M_app.1 h
    rcases snoc_cases s2 with rfl | ⟨s2, x, rfl⟩
    · left; simpa using h1
    · right; exact ⟨s1 ++ s2, x, by simp, M_app.2 ⟨s1, s2, rfl, h1, hs _⟩⟩
  · rintro (h | ⟨t', x, rfl, h⟩)
    · exact M_app.2 ⟨t, [], by simp, h, hs _⟩
    · obtain ⟨s1, s2, rfl, h1, h2⟩ := M_app.1 h
      exact M_app.2 ⟨s1, s2 ++ [x], by simp, h1, hs _⟩
theorem D_one {p t : W} {c : UInt8} (hc : c.toNat ≠ 42) : M (p ++ [c]) t ↔ ∃ t' x, t = t' ++ [x] ∧ (c.toNat = 63 ∨ c = x) ∧ M p t' := by
  constructor
  · intro h
    obtain ⟨s1, s2, rfl, h1, h2⟩ := M_app.1 h
    obtain ⟨x, t, rfl, h', h⟩ := (M_one hc).1 h2
    rw [M_nil] at h
    subst h
    exact ⟨s1, x, rfl, h', h1⟩
  · rintro ⟨t', x, rfl, h', h⟩
    exact M_app.2 ⟨t', [x], rfl, h, .one hc h' .nil⟩

/-! ### with one star to come back to -/
/-- where the reader stands -/
def GInv (pat name : W) (p n : Nat) (st : Option Nat) (back : Nat) : Prop := p ≤ pat.length ∧ n ≤ name.length ∧ back ≤ n ∧ match st with
  | none => back = 0 ∧ (M pat name ↔ M (pat.drop p) (name.drop n))
  | some k => k < p ∧ ∃ seg s0 : W, pat.drop (k + 1) = seg ++ pat.drop p ∧ name.drop back = s0 ++ name.drop n ∧ (∀ c ∈ seg, c.toNat ≠ 42) ∧ M seg s0 ∧ (M pat name ↔ ∃ j, M (pat.drop (k + 1)) ((name.drop back).drop j))

theorem GInv.start (pat name : W) : GInv pat name 0 0 none 0 := ⟨Nat.zero_le _, Nat.zero_le _, Nat.le_refl _, rfl, Iff.rfl⟩

/-- a piece without a star, and what is behind it -/
theorem seg_iff {seg s0 q t : W} (hs : ∀ c ∈ seg, c.toNat ≠ 42) (h : M seg s0) : M (seg ++ q) (s0 ++ t) ↔ M q t := by
  constructor
  · intro g
    obtain ⟨s1, s2, e, h1, h2⟩ := M_app.1 g
    have hl := (M_len hs h).trans (M_len hs h1).symm
    obtain ⟨_, rfl⟩ := List.append_inj e hl
    exact h2
  · intro g; exact M_app.2 ⟨s0, t, rfl, h, g⟩

theorem GInv.star {pat name : W} {p n back : Nat} {st : Option Nat} {c : UInt8} (h : GInv pat name p n st back) (hp : pat[p]? = some c) (hc : c.toNat = 42) : GInv pat name (p + 1) n (some p) n := by
  have hlt := (List.getElem?_eq_some_iff.1 hp).1
  have hd : pat.drop p = c :: pat.drop (p + 1) := by
    rw [List.drop_eq_getElem_cons hlt, (List.getElem?_eq_some_iff.1 hp).2]
  obtain ⟨h1, h2, h3, h4⟩ := h
  refine ⟨by omega, h2, Nat.le_refl _, by omega, [], [], rfl, rfl, by simp, .nil, ?_⟩
  cases st with
  | none =>
    rw [h4.2, hd, M_star hc]
  | some k =>
    obtain ⟨_, seg, s0, e1, e2, e3, e4, e5⟩ := h4
    have hl := M_len e3 e4
    rw [e5, e1, e2, hd]
    constructor
    · rintro ⟨j, g⟩
      obtain ⟨s1, s2, e, g1, g2⟩ := M_app.1 g
      obtain ⟨j', g3⟩ := (M_star hc).1 g2
      have hl1 := M_len e3 g1
      refine ⟨j + j', ?_⟩
      have : s2 = (name.drop n).drop j := by
        have e' := congrArg (List.drop s1.length) e
        rw [List.drop_left, List.drop_drop] at e'
        rw [← e', hl1, ← hl, Nat.add_comm, ← List.drop_drop, List.drop_left]
      rw [this, List.drop_drop] at g3
      exact g3
    · rintro ⟨j, g⟩
      exact ⟨0, M_app.2 ⟨s0, name.drop n, rfl, e4, (M_star hc).2 ⟨j, g⟩⟩⟩

theorem GInv.step {pat name : W} {p n back : Nat} {st : Option Nat} {c x : UInt8} (h : GInv pat name p n st back) (hp : pat[p]? = some c) (hn : name[n]? = some x) (hc : c.toNat ≠ 42) (hx : c.toNat = 63 ∨ c = x) : GInv pat name (p + 1) (n + 1) st back := by
  have hlt := (List.getElem?_eq_some_iff.1 hp).1
  have hd : pat.drop p = c :: pat.drop (p + 1) := by
    rw [List.drop_eq_getElem_cons hlt, (List.getElem?_eq_some_iff.1 hp).2]
  have hlt' := (List.getElem?_eq_some_iff.1 hn).1
  have hd' : name.drop n = x :: name.drop (n + 1) := by
    rw [List.drop_eq_getElem_cons hlt', (List.getElem?_eq_some_iff.1 hn).2]
  obtain ⟨h1, h2, h3, h4⟩ := h
  refine ⟨by omega, by omega, by omega, ?_⟩
  cases st with
  | none =>
    refine ⟨h4.1, h4.2.trans ?_⟩
    rw [hd, hd', M_one hc]
    constructor
    · rintro ⟨y, t, e, _, g⟩; cases e; exact g
    · intro g; exact ⟨x, _, rfl, hx, g⟩
  | some k =>
    obtain ⟨hk, seg, s0, e1, e2, e3, e4, e5⟩ := h4
    refine ⟨by omega, seg ++ [c], s0 ++ [x], by rw [e1, hd]; simp, by rw [e2, hd']; simp, fun y hy => ?_, M_app.2 ⟨s0, [x], rfl, e4, .one hc hx .nil⟩, e5⟩
    rcases List.mem_append.1 hy with hy | hy
    · exact e3 y hy
    · simp only [List.mem_singleton] at hy; subst hy; exact hc

/-- it goes on no more here -/
def Stuck (pat name : W) (p n : Nat) : Prop := ¬ M (pat.drop p) (name.drop n)
theorem stuck_end {pat name : W} {p n : Nat} (hp : pat.length ≤ p) (hn : n < name.length) : Stuck pat name p n := by
  unfold Stuck
  rw [List.drop_eq_nil_of_le hp, M_nil]
  intro e
  have := List.drop_eq_nil_iff.1 e
  omega
theorem stuck_byte {pat name : W} {p n : Nat} {c x : UInt8} (hp : pat[p]? = some c) (hn : name[n]? = some x) (hc : c.toNat ≠ 42) (hx : ¬ (c.toNat = 63 ∨ c = x)) : Stuck pat name p n := by
  have hlt := (List.getElem?_eq_some_iff.1 hp).1
  have hd : pat.drop p = c :: pat.drop (p + 1) := by
    rw [List.drop_eq_getElem_cons hlt, (List.getElem?_eq_some_iff.1 hp).2]
  have hlt' := (List.getElem?_eq_some_iff.1 hn).1
  have hd' : name.drop n = x :: name.drop (n + 1) := by
    rw [List.drop_eq_getElem_cons hlt', (List.getElem?_eq_some_iff.1 hn).2]
  unfold Stuck
  rw [hd, hd', M_one hc]
  rintro ⟨y, t, e, g, _⟩
  cases e
  exact hx g

theorem GInv.back {pat name : W} {p n back k : Nat} (h : GInv pat name p n (some k) back) (hn : n < name.length) (hs : Stuck pat name p n) : GInv pat name (k + 1) (back + 1) (some k) (back + 1) := by
  obtain ⟨h1, h2, h3, hk, seg, s0, e1, e2, e3, e4, e5⟩ := h
  refine ⟨by omega, by omega, Nat.le_refl _, by omega, [], [], rfl, rfl, by simp, .nil, ?_⟩
  rw [e5]
  constructor
  · rintro ⟨j, g⟩
    cases j with
    | zero =>
      rw [List.drop_zero, e1, e2] at g
      exact absurd ((seg_iff e3 e4).1 g) hs
    | succ j =>
      refine ⟨j, ?_⟩
      rw [List.drop_drop] at g ⊢
      rw [show back + 1 + j = back + (j + 1) by omega]
      exact g
  · rintro ⟨j, g⟩
    refine ⟨j + 1, ?_⟩
    rw [List.drop_drop] at g ⊢
    rw [show back + (j + 1) = back + 1 + j by omega]
    exact g

theorem GInv.no {pat name : W} {p n back : Nat} (h : GInv pat name p n none back) (hs : Stuck pat name p n) : ¬ M pat name := fun g => hs (h.2.2.2.2.1 g)

theorem GInv.done {pat name : W} {p n back : Nat} {st : Option Nat} (h : GInv pat name p n st back) (hn : n = name.length) : M pat name ↔ ∀ c ∈ pat.drop p, c.toNat = 42 := by
  subst hn
  obtain ⟨h1, h2, h3, h4⟩ := h
  rw [← M_end]
  cases st with
  | none => rw [h4.2, List.drop_length]
  | some k =>
    obtain ⟨hk, seg, s0, e1, e2, e3, e4, e5⟩ := h4
    rw [e5, e1, e2, List.drop_length, List.append_nil]
    constructor
    · rintro ⟨j, g⟩
      obtain ⟨s1, s2, e, g1, g2⟩ := M_app.1 g
      have hl := M_len e3 e4
      have hl1 := M_len e3 g1
      have e' := congrArg List.length e
      simp only [List.length_drop, List.length_append] at e'
      have : s2 = [] := List.eq_nil_of_length_eq_zero (by omega)
      rw [this] at g2
      exact g2
    · intro g
      exact ⟨0, M_app.2 ⟨s0, [], by simp, e4, g⟩⟩
end Go.Proofs.YthphbdkhbaijlaaDoor.dec

namespace Go.Proofs.YthphbdkhbaijlaaDoor.dec
open Go Go.Cm

attribute [local congr] optK_congr asI_congr asN_congr asB_congr asS_congr asP_congr asA_congr asSL_congr callK_congr castT_congr chk_congr

theorem w64 {n : Int} (h : -9223372036854775808 ≤ n ∧ n ≤ 9223372036854775807) : IntKind.i64.wrap n = n := IntWalk.i64_in n h
theorem NN_big (n : Nat) (h : n ≤ 3000000000000) : n < NN := by rw [NN_eq]; omega
theorem known_s (d : Nat) (H : Heap) : X (d + 1) n_law17_known [] H = some (.bool true, H) := by kernel_rfl

theorem Pick_s (d : Nat) (n m : Int) (H : Heap) (hm : 0 < m) (hm2 : m ≤ 1048576) : ∃ r : Int, X (d + 1) n_hand_Pick [.int .i64 n, .int .i64 m] H = some (.int .i64 r, H) ∧ 0 ≤ r ∧ r < m := by
  rw [hand_Pick_eq, if_neg (by omega)]
  have h1 := Int.tmod_lt_of_pos n hm
  have h2 : -m < Int.tmod n m := by
    have := Int.lt_tmod_of_pos n hm
    omega
  simp only [decide_eq_true_eq]
  by_cases h : Int.tmod n m < 0
  · rw [if_pos h, w64 (by omega)]
    exact ⟨_, rfl, by omega, by omega⟩
  · rw [if_neg h]
    exact ⟨_, rfl, by omega, h1⟩

theorem bt_42 {c : UInt8} : (c.toNat : Int) = 42 ↔ c.toNat = 42 := by omega

theorem trimL (d : Nat) (H : Heap) : ∀ (m : Nat) (w : W), w.length < m → ∃ r : W, strings_trimLeftByte_p100 d m (S w) 42 H = some (.string (S r), H) ∧ (r = [] ↔ ∀ c ∈ w, c.toNat = 42) := by
  intro m
  induction m with
  | zero => intro w h; omega
  | succ m ih =>
    intro w hw
    rw [strings_trimLeftByte_p100_s, slenS]
    simp only [decide_eq_true_eq]
    cases w with
    | nil =>
      rw [if_neg (show ¬ (0 : Int) < (([] : W).length : Int) by simp), strings_trimLeftByte_p100001_eq, if_neg (by simp)]
      exact ⟨[], rfl, by simp⟩
    | cons c w =>
      simp only [List.length_cons] at hw ⊢
      rw [if_pos (show (0 : Int) < ((w.length + 1 : Nat) : Int) by omega), if_pos (by omega), btS (l := c :: w) (i := 0) (c := c) rfl, strings_trimLeftByte_p100001_eq]
      simp only [decide_eq_true_eq, bt_42]
      by_cases hc : c.toNat = 42
      · rw [if_pos hc, slenS, if_pos (by simp only [List.length_cons]; omega), sSubS]
        have e : ((c :: w).take (c :: w).length).drop 1 = w := by rw [List.take_length]; rfl
        rw [e]
        obtain ⟨r, h1, h2⟩ := ih w (by omega)
        exact ⟨r, h1, by simp [h2, hc]⟩
      · rw [if_neg hc]
        exact ⟨c :: w, rfl, by simp [hc]⟩

theorem trimR (d : Nat) (H : Heap) : ∀ (m : Nat) (w : W), w.length < m → w.length ≤ 1048576 → ∃ r : W, strings_trimRightByte_p100 d m (S w) 42 H = some (.string (S r), H) ∧ ((∀ c ∈ r, c.toNat = 42) ↔ ∀ c ∈ w, c.toNat = 42) ∧ r.length ≤ w.length := by
  intro m
  induction m with
  | zero => intro w h; omega
  | succ m ih =>
    intro w hw hb
    rw [strings_trimRightByte_p100_s, slenS]
    simp only [decide_eq_true_eq]
    rcases snoc_cases w with rfl | ⟨w, c, rfl⟩
    · rw [if_neg (show ¬ (0 : Int) < (([] : W).length : Int) by simp), strings_trimRightByte_p100001_eq, if_neg (by simp)]
      exact ⟨[], rfl, by simp, by simp⟩
    · simp only [List.length_append, List.length_cons, List.length_nil] at hw hb ⊢
      have e1 : (((w.length + (0 + 1) : Nat) : Int) - 1) = (w.length : Int) := by omega
      rw [e1, w64 (by omega), if_pos (show (0 : Int) < ((w.length + (0 + 1) : Nat) : Int) by omega), if_pos (by omega), Int.toNat_natCast, btS (l := w ++ [c]) (i := w.length) (c := c) (by simp), strings_trimRightByte_p100001_eq]
      simp only [decide_eq_true_eq, bt_42]
      by_cases hc : c.toNat = 42
      · rw [if_pos hc, slenS]
        simp only [List.length_append, List.length_cons, List.length_nil]
        rw [e1, w64 (by omega), if_pos (by omega), Int.toNat_natCast, sSubS]
        have e : ((w ++ [c]).take w.length).drop 0 = w := by simp
        rw [e]
        obtain ⟨r, h1, h2, h3⟩ := ih w (by omega) (by omega)
        refine ⟨r, h1, h2.trans ?_, by omega⟩
        simp only [List.mem_append, List.mem_singleton]
        constructor
        · rintro h x (hx | rfl)
          · exact h x hx
          · exact hc
        · intro h x hx; exact h x (.inl hx)
      · rw [if_neg hc]
        exact ⟨w ++ [c], rfl, Iff.rfl, by simp⟩

theorem Trim_s (d : Nat) (w : W) (H : Heap) (hw : w.length ≤ 1048576) : ∃ r : W, X (d + 2) n_strings_Trim [.string (S w), .string (S [42])] H = some (.string (S r), H) ∧ (r = [] ↔ ∀ c ∈ w, c.toNat = 42) := by
  rw [strings_Trim_eq, sEqS, sEqS]
  by_cases h0 : w = []
  · subst h0
    rw [if_pos (by rfl), strings_Trim_p101_eq, if_pos rfl]
    exact ⟨[], rfl, by simp⟩
  · rw [if_neg (by simpa using h0), show (([42] : List UInt8) == []) = false from rfl, strings_Trim_p101_eq, if_neg (by simp), if_pos (by rfl), if_pos (by decide), strings_Trim_p1101_eq]
    rw [show bt (S [42]) 0 = 42 from rfl, if_pos (by rfl), if_pos (by decide), strings_trimRightByte_eq]
    obtain ⟨r, h1, h2, h3⟩ := trimR d H NN w (NN_big _ (by omega)) hw
    rw [h1]
    simp only [callK_s, asS_s]
    rw [if_pos (by decide), strings_trimLeftByte_eq]
    obtain ⟨r', g1, g2⟩ := trimL d H NN r (NN_big _ (by omega))
    rw [g1]
    exact ⟨r', rfl, g2.trans h2⟩

/-- the star to come back to, as the program has it -/
def stI : Option Nat → Int
  | none => -1
  | some k => (k : Int)

theorem match_loop (d : Nat) (pat name : W) (hp : pat.length ≤ 1048576) (hn : name.length ≤ 1048576) (H : Heap) : ∀ (m p n back : Nat) (st : Option Nat), GInv pat name p n st back →
    (name.length - back) * (name.length + pat.length + 1) + (name.length - n) + (pat.length - p) < m →
    ∃ b : Bool, keys_Match_p11100 (d + 2) m (S pat) (S name) (p : Int) (n : Int) (stI st) (back : Int) H = some (.bool b, H) ∧ (b = true ↔ M pat name) := by
  intro m
  induction m with
  | zero => intro p n back st _ h; omega
  | succ m ih =>
    intro p n back st hg hm
    have hg1 := hg.1
    have hg2 := hg.2.1
    have hg3 := hg.2.2.1
    rw [keys_Match_p11100_s, slenS, slenS]
    simp only [decide_eq_true_eq]
    by_cases h1 : n < name.length
    · rw [if_pos (by omega)]
      have hx : name[n]? = some name[n] := List.getElem?_eq_getElem h1
      generalize hxx : name[n] = x at hx
      -- nothing fits here
      have stuck : Stuck pat name p n → ∃ b : Bool, keys_Match_p1110001001011 (d + 2) m (S pat) (S name) (p : Int) (n : Int) (stI st) (back : Int) false H = some (.bool b, H) ∧ (b = true ↔ M pat name) := by
        intro hs
        rw [keys_Match_p1110001001011_eq, if_neg (by simp)]
        simp only [decide_eq_true_eq]
        cases st with
        | none =>
          rw [if_neg (show ¬ (0 : Int) ≤ stI none by simp [stI])]
          exact ⟨false, rfl, by simp [hg.no hs]⟩
        | some k =>
          rw [if_pos (show (0 : Int) ≤ stI (some k) by simp [stI])]
          have hb := hg.back h1 hs
          have hb1 := hb.1
          show ∃ b : Bool, keys_Match_p11100 (d + 2) m (S pat) (S name) (IntKind.wrap .i64 ((k : Int) + 1)) (IntKind.wrap .i64 ((back : Int) + 1)) (stI (some k)) (IntKind.wrap .i64 ((back : Int) + 1)) H = some (.bool b, H) ∧ (b = true ↔ M pat name)
          rw [w64 (by omega), w64 (by omega), show ((k : Int) + 1) = ((k + 1 : Nat) : Int) by omega, show ((back : Int) + 1) = ((back + 1 : Nat) : Int) by omega]
          refine ih (k + 1) (back + 1) (back + 1) (some k) hb ?_
          have e : (name.length - back) = (name.length - (back + 1)) + 1 := by omega
          rw [e, Nat.succ_mul] at hm
          omega
      by_cases h2 : p < pat.length
      · have hc : pat[p]? = some pat[p] := List.getElem?_eq_getElem h2
        generalize hcc : pat[p] = c at hc
        rw [if_pos (by omega), if_pos (by omega), Int.toNat_natCast, btS hc, keys_Match_p1110001001_eq]
        simp only [decide_eq_true_eq, bt_42]
        by_cases h3 : c.toNat = 42
        · rw [if_pos h3, w64 (by omega), show ((p : Int) + 1) = ((p + 1 : Nat) : Int) by omega]
          refine ih (p + 1) n n (some p) (hg.star hc h3) ?_
          have := Nat.mul_le_mul_right (name.length + pat.length + 1) (show name.length - n ≤ name.length - back by omega)
          omega
        · rw [if_neg h3, slenS, slenS, if_pos (by omega), if_pos (by omega), Int.toNat_natCast, Int.toNat_natCast, btS hc, btS hx]
          have step : (c.toNat = 63 ∨ c = x) → ∃ b : Bool, keys_Match_p1110001001011 (d + 2) m (S pat) (S name) (p : Int) (n : Int) (stI st) (back : Int) true H = some (.bool b, H) ∧ (b = true ↔ M pat name) := by
            intro hh
            rw [keys_Match_p1110001001011_eq, if_pos rfl, w64 (by omega), w64 (by omega), show ((p : Int) + 1) = ((p + 1 : Nat) : Int) by omega, show ((n : Int) + 1) = ((n + 1 : Nat) : Int) by omega]
            exact ih (p + 1) (n + 1) back st (hg.step hc hx h3 hh) (by omega)
          by_cases h4 : c.toNat = 63
          · rw [if_pos (show ((c.toNat : Int) = 63) by omega)]
            exact step (.inl h4)
          · rw [if_neg (show ¬ ((c.toNat : Int) = 63) by omega), if_pos (by omega), if_pos (by omega)]
            by_cases h5 : c = x
            · rw [show decide ((c.toNat : Int) = (x.toNat : Int)) = true from decide_eq_true (by rw [h5])]
              exact step (.inr h5)
            · rw [show decide ((c.toNat : Int) = (x.toNat : Int)) = false from decide_eq_false (fun e => h5 (UInt8.toNat_inj.1 (by omega)))]
              exact stuck (stuck_byte hc hx h3 (by simp [h4, h5]))
      · rw [if_neg (by omega), keys_Match_p1110001001_eq, if_neg (by simp), slenS]
        simp only [decide_eq_true_eq]
        rw [if_neg (by omega)]
        exact stuck (stuck_end (by omega) h1)
    · rw [if_neg (by omega), if_pos (by omega), Int.toNat_natCast, sSubS]
      have e : (pat.take pat.length).drop p = pat.drop p := by rw [List.take_length]
      rw [e]
      obtain ⟨r, t1, t2⟩ := Trim_s d (pat.drop p) H (by simp; omega)
      rw [t1]
      simp only [callK_s, asS_s, sEqS]
      refine ⟨_, rfl, ?_⟩
      rw [hg.done (by omega), ← t2]
      cases r <;> simp

theorem Match_s (d : Nat) (pat name : W) (hp : pat.length ≤ 1048576) (hn : name.length ≤ 1048576) (H : Heap) : ∃ b : Bool, X (d + 3) n_keys_Match [.string (S pat), .string (S name)] H = some (.bool b, H) ∧ (b = true ↔ M pat name) := by
  rw [keys_Match_eq]
  refine match_loop d pat name hp hn H NN 0 0 0 none (GInv.start _ _) (NN_big _ ?_)
  have : (name.length - 0) * (name.length + pat.length + 1) ≤ 1048576 * (1048576 + 1048576 + 1) := Nat.mul_le_mul (by omega) (by omega)
  omega
end Go.Proofs.YthphbdkhbaijlaaDoor.dec

namespace Go.Proofs.YthphbdkhbaijlaaDoor.dec
open Go Go.Cm

attribute [local congr] optK_congr asI_congr asN_congr asB_congr asS_congr asP_congr asA_congr asSL_congr callK_congr castT_congr chk_congr

def bools (l : List Bool) : List Value := l.map .bool
/-- a row of bools that owns its block -/
def Row (H : Heap) (b : Nat) (l : List Bool) : Prop := b < H.next ∧ ∃ o st, H.get b = some (.cells (bools l) t_bool o 0 st)
def rowS (b n : Nat) : Sl := ⟨some ⟨b, 0, none⟩, n, n⟩

theorem Row.ld {H : Heap} {b : Nat} {l : List Bool} (h : Row H b l) {k : Nat} {x : Bool} (hk : l[k]? = some x) : H.ld1 ⟨b, k, none⟩ = some (.bool x) := by
  obtain ⟨_, o, st, h⟩ := h
  rw [ld1_s h]
  simp [bools, hk]
theorem Row.st {H : Heap} {b : Nat} {l : List Bool} (h : Row H b l) (k : Nat) (hk : k < l.length) (x : Bool) : ∃ H', H.st1 ⟨b, k, none⟩ (.bool x) = some H' ∧ Row H' b (l.set k x) ∧ Keep (· = b) H H' := by
  obtain ⟨h1, o, st, h⟩ := h
  refine ⟨_, st1_s h (by simpa [bools] using hk) (by omega), ⟨by simpa using h1, o, st, ?_⟩, Keep.put _ _ _ rfl⟩
  simp [bools, List.map_set]
theorem Row.keep {S : Nat → Prop} {H H' : Heap} {b : Nat} {l : List Bool} (h : Row H b l) (hk : Keep S H H') (hS : ¬ S b) : Row H' b l := by
  obtain ⟨h1, o, st, h⟩ := h
  exact ⟨Nat.lt_of_lt_of_le h1 hk.1, o, st, by rw [hk.2 b h1 hS]; exact h⟩

theorem rep_false (n : Nat) : rep [.bool false] n = bools (List.replicate n false) := by
  induction n with
  | zero => rfl
  | succ n ih => rw [rep, ih]; rfl
theorem mkSl_s (H : Heap) (n : Nat) (hn : n ≤ 1048577) (K : Value → Heap → Res) : effK (.mkSl t_bool 1 1 [.bool false]) [.int .i64 (n : Int), .int .i64 (n : Int)] H K = K (rowS H.next n).v (H.new (.cells (bools (List.replicate n false)) t_bool false 0 false)) := by
  simp only [effK, asN_s]
  rw [if_pos (by omega), Int.toNat_natCast, rep_false]
  rfl

/-- a row says which beginnings of the name fit -/
def Says (p name : W) (l : List Bool) : Prop := l.length = name.length + 1 ∧ ∀ k x, l[k]? = some x → (x = true ↔ M p (name.take k))

theorem take_snoc {name : W} {k : Nat} {x : UInt8} (h : name[k]? = some x) : name.take (k + 1) = name.take k ++ [x] := by
  rw [List.take_add_one, h]; rfl
theorem snoc_inj {t t' : W} {x x' : UInt8} (h : t ++ [x] = t' ++ [x']) : t = t' ∧ x = x' := by
  have := List.append_inj' h rfl
  simpa using this

/-- half a row -/
def Half (p name : W) (l : List Bool) (k : Nat) : Prop := l.length = name.length + 1 ∧ (∀ j x, j < k → l[j]? = some x → (x = true ↔ M p (name.take j))) ∧ ∀ j x, k ≤ j → l[j]? = some x → x = false
theorem Half.step {p name : W} {l : List Bool} {k : Nat} {b : Bool} (h : Half p name l k) (hk : k < l.length) (hb : b = true ↔ M p (name.take k)) : Half p name (l.set k b) (k + 1) := by
  obtain ⟨h1, h2, h3⟩ := h
  refine ⟨by simpa using h1, fun j x hj hx => ?_, fun j x hj hx => ?_⟩
  · rw [List.getElem?_set] at hx
    by_cases e : k = j
    · subst e
      rw [if_pos rfl, if_pos hk] at hx
      cases hx
      exact hb
    · rw [if_neg e] at hx
      exact h2 j x (by omega) hx
  · rw [List.getElem?_set, if_neg (by omega)] at hx
    exact h3 j x (by omega) hx
theorem Half.same {p name : W} {l : List Bool} {k : Nat} (h : Half p name l k) (hk : k < l.length) (hb : ¬ M p (name.take k)) : Half p name l (k + 1) := by
  obtain ⟨h1, h2, h3⟩ := h
  refine ⟨h1, fun j x hj hx => ?_, fun j x hj hx => h3 j x (by omega) hx⟩
  by_cases e : j = k
  · subst e
    rw [h3 j x (Nat.le_refl _) hx]
    simp [hb]
  · exact h2 j x (by omega) hx

theorem inner_loop (d m0 : Nat) (pat name : W) (hp : pat.length ≤ 1048576) (hn : name.length ≤ 1048576) (i : Nat) (c : UInt8) (hc : pat[i]? = some c) (b5 b7 : Nat) (hne : b5 ≠ b7) (l5 : List Bool) (h5 : Says (pat.take i) name l5) :
    ∀ (m k : Nat) (l7 : List Bool) (H : Heap), k ≤ name.length + 1 → name.length + 1 - k < m → Half (pat.take (i + 1)) name l7 k → Row H b5 l5 → Row H b7 l7 →
      ∃ l7' H', ref15_Match_p11101001001010 d m0 m (S pat) (S name) (rowS b5 (name.length + 1)) (i : Int) (rowS b7 (name.length + 1)) (k : Int) H = ref15_Match_p111010 d m0 (S pat) (S name) (rowS b7 (name.length + 1)) ((i + 1 : Nat) : Int) H' ∧ Says (pat.take (i + 1)) name l7' ∧ Row H' b7 l7' ∧ Keep (· = b7) H H' := by
  intro m
  have hi := (List.getElem?_eq_some_iff.1 hc).1
  have ep : pat.take (i + 1) = pat.take i ++ [c] := take_snoc hc
  induction m with
  | zero => intro k l7 H h1 h2; omega
  | succ m ih =>
    intro k l7 H hk hm hh r5 r7
    have hl7 := hh.1
    have hl5 := h5.1
    rw [ref15_Match_p11101001001010_s, slenS, slenS]
    simp only [decide_eq_true_eq]
    by_cases hkn : k ≤ name.length
    · rw [if_pos (by omega), if_pos (by omega), Int.toNat_natCast, btS hc]
      have hx5 : l5[k]? = some l5[k] := List.getElem?_eq_getElem (by have := h5.1; omega)
      have s5 := h5.2 k _ hx5
      -- a byte of the row is written
      have put : ∀ b : Bool, (b = true ↔ M (pat.take (i + 1)) (name.take k)) → ∃ l7' H', (optK (rowS b7 (name.length + 1)).a fun a4 => if 0 ≤ (k : Int) ∧ (k : Int) < ((rowS b7 (name.length + 1)).n : Int) then optK (Heap.st1 H (ap a4 (k * 1)) (.bool b)) fun H5 => ref15_Match_p11101001001010011 d m0 m (S pat) (S name) (rowS b5 (name.length + 1)) (i : Int) (rowS b7 (name.length + 1)) (k : Int) H5 else none) = ref15_Match_p111010 d m0 (S pat) (S name) (rowS b7 (name.length + 1)) ((i + 1 : Nat) : Int) H' ∧ Says (pat.take (i + 1)) name l7' ∧ Row H' b7 l7' ∧ Keep (· = b7) H H' := by
        intro b hb
        obtain ⟨H1, e1, e2, e3⟩ := r7.st k (by omega) b
        simp only [rowS, optK_s, ap, Nat.zero_add, Nat.mul_one, Int.toNat_natCast]
        rw [if_pos (by omega), e1]
        simp only [optK_s]
        rw [ref15_Match_p11101001001010011_eq, w64 (by omega), show ((k : Int) + 1) = ((k + 1 : Nat) : Int) by omega]
        obtain ⟨l7', H', g1, g2, g3, g4⟩ := ih (k + 1) (l7.set k b) H1 (by omega) (by omega) (hh.step (by omega) hb) (r5.keep e3 hne) e2
        exact ⟨l7', H', g1, g2, g3, e3.trans g4 fun _ _ h => h⟩
      by_cases h42 : c.toNat = 42
      · rw [if_pos (show (c.toNat : Int) = 42 by omega)]
        simp only [rowS, optK_s, ap, Nat.zero_add, Nat.mul_one, Int.toNat_natCast]
        rw [if_pos (by omega), r5.ld hx5]
        simp only [optK_s, asB_s]
        have hD : M (pat.take (i + 1)) (name.take k) ↔ M (pat.take i) (name.take k) ∨ ∃ t' x, name.take k = t' ++ [x] ∧ M (pat.take (i + 1)) t' := by rw [ep]; exact D_star h42
        by_cases hb : l5[k] = true
        · rw [if_pos hb]
          have := put true (by simp only [true_iff]; exact hD.2 (.inl (s5.1 hb)))
          simpa only [rowS, optK_s, ap, Nat.zero_add, Nat.mul_one, Int.toNat_natCast] using this
        · rw [if_neg hb]
          have hno : ¬ M (pat.take i) (name.take k) := fun g => hb (s5.2 g)
          by_cases hk0 : 0 < k
          · obtain ⟨j, rfl⟩ : ∃ j, k = j + 1 := ⟨k - 1, by omega⟩
            have hx : name[j]? = some name[j] := List.getElem?_eq_getElem (by omega)
            rw [if_pos (by omega), show (((j + 1 : Nat) : Int) - 1) = (j : Int) by omega, w64 (by omega), if_pos (by omega), Int.toNat_natCast]
            have hx7 : l7[j]? = some l7[j] := List.getElem?_eq_getElem (by omega)
            rw [r7.ld hx7]
            simp only [optK_s, asB_s]
            have s7 := hh.2.1 j _ (by omega) hx7
            have := put l7[j] (by
              rw [s7, hD, take_snoc hx]
              constructor
              · intro g; exact .inr ⟨_, _, rfl, g⟩
              · rintro (g | ⟨t', y, e, g⟩)
                · rw [take_snoc hx] at hno; exact absurd g hno
                · obtain ⟨rfl, _⟩ := snoc_inj e; exact g)
            simpa only [rowS, optK_s, ap, Nat.zero_add, Nat.mul_one, Int.toNat_natCast] using this
          · have e0 : k = 0 := by omega
            subst e0
            rw [if_neg (by omega)]
            have := put false (by
              simp only [Bool.false_eq_true, false_iff]
              rw [hD]
              rintro (g | ⟨t', y, e, g⟩)
              · exact hno g
              · simp at e)
            simpa only [rowS, optK_s, ap, Nat.zero_add, Nat.mul_one, Int.toNat_natCast] using this
      · rw [if_neg (show ¬ (c.toNat : Int) = 42 by omega)]
        have hD : M (pat.take (i + 1)) (name.take k) ↔ ∃ t' x, name.take k = t' ++ [x] ∧ (c.toNat = 63 ∨ c = x) ∧ M (pat.take i) t' := by rw [ep]; exact D_one h42
        by_cases hk0 : 0 < k
        · obtain ⟨j, rfl⟩ : ∃ j, k = j + 1 := ⟨k - 1, by omega⟩
          have hx : name[j]? = some name[j] := List.getElem?_eq_getElem (by omega)
          generalize hxx : name[j] = x at hx
          have hD2 : M (pat.take (i + 1)) (name.take (j + 1)) ↔ (c.toNat = 63 ∨ c = x) ∧ M (pat.take i) (name.take j) := by
            rw [hD, take_snoc hx]
            constructor
            · rintro ⟨t', y, e, g⟩
              obtain ⟨rfl, rfl⟩ := snoc_inj e
              exact g
            · intro g; exact ⟨_, _, rfl, g⟩
          have hx4 : l5[j]? = some l5[j] := List.getElem?_eq_getElem (by have := h5.1; omega)
          have s4 := h5.2 j _ hx4
          rw [if_pos (by omega)]
          simp only [rowS, optK_s, ap, Nat.zero_add, Nat.mul_one, Int.toNat_natCast]
          rw [show (((j + 1 : Nat) : Int) - 1) = (j : Int) by omega, w64 (by omega), if_pos (by omega), Int.toNat_natCast, r5.ld hx4]
          simp only [optK_s, asB_s]
          by_cases hb : l5[j] = true
          · rw [if_pos hb, if_pos (by omega)]
            try simp only [Int.toNat_natCast]
            by_cases h63 : c.toNat = 63
            · rw [if_pos (show (c.toNat : Int) = 63 by omega)]
              have := put true (by simp only [true_iff]; exact hD2.2 ⟨.inl h63, s4.1 hb⟩)
              simpa only [rowS, optK_s, ap, Nat.zero_add, Nat.mul_one, Int.toNat_natCast] using this
            · rw [if_neg (show ¬ (c.toNat : Int) = 63 by omega), if_pos (by omega), if_pos (by omega), btS hx]
              have := put (decide ((c.toNat : Int) = (x.toNat : Int))) (by
                rw [decide_eq_true_eq, hD2]
                constructor
                · intro e; exact ⟨.inr (UInt8.toNat_inj.1 (by omega)), s4.1 hb⟩
                · rintro ⟨g | rfl, _⟩
                  · exact absurd g h63
                  · rfl)
              simpa only [rowS, optK_s, ap, Nat.zero_add, Nat.mul_one, Int.toNat_natCast] using this
          · rw [if_neg hb]
            have := put false (by
              simp only [Bool.false_eq_true, false_iff]
              rw [hD2]
              rintro ⟨_, g⟩
              exact hb (s4.2 g))
            simpa only [rowS, optK_s, ap, Nat.zero_add, Nat.mul_one, Int.toNat_natCast] using this
        · have e0 : k = 0 := by omega
          subst e0
          rw [if_neg (by omega), ref15_Match_p11101001001010011_eq, w64 (by omega), show (((0 : Nat) : Int) + 1) = ((0 + 1 : Nat) : Int) by omega]
          exact ih (0 + 1) l7 H (by omega) (by omega) (hh.same (by omega) (by
            rw [hD]
            rintro ⟨t', y, e, _⟩
            simp at e)) r5 r7
    · rw [if_neg (by omega), w64 (by omega), show ((i : Int) + 1) = ((i + 1 : Nat) : Int) by omega]
      refine ⟨l7, H, rfl, ⟨hl7, fun j x hx => hh.2.1 j x ?_ hx⟩, r7, Keep.refl _⟩
      have := (List.getElem?_eq_some_iff.1 hx).1
      omega

theorem outer_loop (d B : Nat) (pat name : W) (hp : pat.length ≤ 1048576) (hn : name.length ≤ 1048576) : ∀ (m i : Nat) (b5 : Nat) (l5 : List Bool) (H : Heap), i ≤ pat.length → pat.length - i < m → Says (pat.take i) name l5 → Row H b5 l5 → B ≤ b5 →
    ∃ b H', ref15_Match_p111010 d m (S pat) (S name) (rowS b5 (name.length + 1)) (i : Int) H = some (.bool b, H') ∧ (b = true ↔ M pat name) ∧ Keep (fun k => B ≤ k) H H' := by
  intro m
  induction m with
  | zero => intro i b5 l5 H h1 h2; omega
  | succ m ih =>
    intro i b5 l5 H hi hm h5 r5 hB
    have hl5 := h5.1
    rw [ref15_Match_p111010_s, slenS, slenS]
    simp only [decide_eq_true_eq]
    by_cases h : i < pat.length
    · rw [if_pos (by omega), w64 (by omega), show ((name.length : Int) + 1) = ((name.length + 1 : Nat) : Int) by omega, mkSl_s _ _ (by omega)]
      simp only [Sl.v, asSL_s]
      have hc : pat[i]? = some pat[i] := List.getElem?_eq_getElem h
      have k7 : Keep (fun _ => False) H (H.new (.cells (bools (List.replicate (name.length + 1) false)) t_bool false 0 false)) := Keep.new _ _
      have r7 : Row (H.new (.cells (bools (List.replicate (name.length + 1) false)) t_bool false 0 false)) H.next (List.replicate (name.length + 1) false) := ⟨by simp, false, false, by simp⟩
      have hlt := r5.1
      obtain ⟨l7', H', g1, g2, g3, g4⟩ := inner_loop d m pat name hp hn i _ hc b5 H.next (by omega) l5 h5 NN 0 _ _ (by omega) (NN_big _ (by omega)) ⟨by simp, fun j x hj => absurd hj (Nat.not_lt_zero _), fun j x _ hx => by
        rw [List.getElem?_replicate] at hx
        split at hx <;> simp_all⟩ (r5.keep k7 id) r7
      have g1' := g1
      rw [show ((0 : Nat) : Int) = 0 from rfl] at g1'
      rw [show (⟨(rowS H.next (name.length + 1)).a, (rowS H.next (name.length + 1)).n, (rowS H.next (name.length + 1)).c⟩ : Sl) = rowS H.next (name.length + 1) from rfl, g1']
      obtain ⟨b, H2, f1, f2, f3⟩ := ih (i + 1) H.next l7' H' (by omega) (by omega) g2 g3 (by omega)
      exact ⟨b, H2, f1, f2, ((k7.mono fun _ _ h => h.elim).trans g4 fun k _ e => by show B ≤ k; omega).trans f3 fun _ _ h => h⟩
    · rw [if_neg (by omega)]
      simp only [rowS, optK_s, ap, Nat.zero_add, Nat.mul_one, Int.toNat_natCast]
      have hx : l5[name.length]? = some l5[name.length] := List.getElem?_eq_getElem (by have := h5.1; omega)
      rw [if_pos (by omega), r5.ld hx]
      simp only [optK_s, asB_s]
      refine ⟨_, H, rfl, ?_, Keep.refl _⟩
      have := h5.2 _ _ hx
      rwa [List.take_of_length_le (by omega), List.take_of_length_le (by omega)] at this

theorem RMatch_s (d : Nat) (pat name : W) (hp : pat.length ≤ 1048576) (hn : name.length ≤ 1048576) (H : Heap) : ∃ b H', X (d + 1) n_ref15_Match [.string (S pat), .string (S name)] H = some (.bool b, H') ∧ (b = true ↔ M pat name) ∧ Keep (fun _ => False) H H' := by
  rw [ref15_Match_eq, slenS, w64 (by omega), show ((name.length : Int) + 1) = ((name.length + 1 : Nat) : Int) by omega, mkSl_s _ _ (by omega)]
  simp only [Sl.v, asSL_s]
  have k7 : Keep (fun _ => False) H (H.new (.cells (bools (List.replicate (name.length + 1) false)) t_bool false 0 false)) := Keep.new _ _
  have r7 : Row (H.new (.cells (bools (List.replicate (name.length + 1) false)) t_bool false 0 false)) H.next (List.replicate (name.length + 1) false) := ⟨by simp, false, false, by simp⟩
  obtain ⟨H1, e1, e2, e3⟩ := r7.st 0 (by simp) true
  simp only [rowS, optK_s, ap, Nat.zero_add]
  rw [if_pos (by omega), e1]
  simp only [optK_s]
  obtain ⟨b, H', f1, f2, f3⟩ := outer_loop d H.next pat name hp hn NN 0 H.next ((List.replicate (name.length + 1) false).set 0 true) H1 (by omega) (NN_big _ (by omega)) ⟨by simp, fun k x hx => by
    rw [List.take_zero, M_nil]
    rw [List.getElem?_set] at hx
    by_cases e : 0 = k
    · subst e
      simp at hx
      subst hx
      simp
    · rw [if_neg e, List.getElem?_replicate] at hx
      split at hx
      · cases hx
        simp only [Bool.false_eq_true, false_iff]
        intro h
        have := congrArg List.length h
        simp at this
        rcases this with h | h
        · omega
        · subst h; simp at *; omega
      · cases hx⟩ e2 (Nat.le_refl _)
  rw [show (⟨some ⟨H.next, 0, none⟩, name.length + 1, name.length + 1⟩ : Sl) = rowS H.next (name.length + 1) from rfl, show (0 : Int) = ((0 : Nat) : Int) from rfl, f1]
  exact ⟨b, H', rfl, f2, ((k7.mono (T := fun k => H.next ≤ k) fun _ _ h => h.elim).trans e3 fun k _ e => by show H.next ≤ k; omega).trans f3 (fun _ _ h => h) |>.mono fun k hk h => by omega⟩
end Go.Proofs.YthphbdkhbaijlaaDoor.dec

namespace Go.Proofs.YthphbdkhbaijlaaDoor.dec
open Go Go.Cm

attribute [local congr] optK_congr asI_congr asN_congr asB_congr asS_congr asP_congr asA_congr asSL_congr callK_congr castT_congr chk_congr

/-- an argument that is a slice of numbers -/
def Ints (H : Heap) (x : Sl) (l : List Int) : Prop := x.n ≤ l.length ∧ ∀ (i : Nat) n, i < x.n → l[i]? = some n → ∃ b o, x.a = some ⟨b, o, none⟩ ∧ H.ld1 ⟨b, o + i, none⟩ = some (.int .i64 n)

theorem partL_pick {lit : List Value} {r : Int} {m : Nat} (h0 : 0 ≤ r) (h : r < (m : Int)) (hl : lit.length = m) (hv : ∀ v ∈ lit, ∃ u : W, v = .string (S u) ∧ u.length ≤ 1) : ∃ u : W, partL lit (r.toNat * 1) 1 false = some (.string (S u)) ∧ u.length ≤ 1 := by
  have hr : r.toNat < lit.length := by omega
  obtain ⟨u, hu, hu2⟩ := hv _ (List.getElem_mem hr)
  exact ⟨u, by simp [partL, List.getElem?_eq_getElem hr, hu], hu2⟩

theorem S_lst_eq (s : ByteArray) : S (lst s) = s := rfl

theorem match_body (d : Nat) (p s : W) (hp : p.length ≤ 1048576) (hs : s.length ≤ 1048576) (H : Heap) : ∃ H', law17_KeysMatch_p11 (d + 3) (S p) (S s) H = some (.bool true, H') := by
  rw [law17_KeysMatch_p11_eq, known_s]
  simp only [callK_s, asB_s, if_true]
  obtain ⟨b, e, h⟩ := Match_s d p s hp hs H
  rw [e]
  simp only [callK_s, asB_s]
  obtain ⟨b', H', e', h', _⟩ := RMatch_s (d + 2) p s hp hs H
  rw [e']
  simp only [callK_s, asB_s]
  refine ⟨H', ?_⟩
  have : b = b' := by
    cases b <;> cases b' <;> simp_all
  rw [this, beq_self_eq_true]

theorem name_loop (d : Nat) (H : Heap) (x : Sl) (l : List Int) (hx : Ints H x l) (p : W) (hp : p.length ≤ 1048576) : ∀ (m i : Nat) (w : W), i ≤ x.n → x.n - i < m → w.length ≤ i → i ≤ 14 →
    ∃ H', law17_KeysMatch_p101011110 (d + 3) m x (S p) (S w) (i : Int) H = some (.bool true, H') := by
  intro m
  have hle := hx.1
  induction m with
  | zero => intro i w h1 h2; omega
  | succ m ih =>
    intro i w h1 h2 hw h14
    rw [law17_KeysMatch_p101011110_s]
    simp only [decide_eq_true_eq]
    have stop : ∃ H', law17_KeysMatch_p101011110001 (d + 3) m x (S p) (S w) (i : Int) false H = some (.bool true, H') := by
      rw [law17_KeysMatch_p101011110001_eq, if_neg (by simp)]
      exact match_body d p w hp (by omega) H
    by_cases hi : i < x.n
    · rw [if_pos (by omega)]
      by_cases h12 : i < 14
      · rw [show decide ((i : Int) < 14) = true from decide_eq_true (by omega), law17_KeysMatch_p101011110001_eq, if_pos rfl]
        have hc : l[i]? = some l[i] := List.getElem?_eq_getElem (by omega)
        obtain ⟨b, o, e1, e2⟩ := hx.2 i _ hi hc
        obtain ⟨r, p1, p2, p3⟩ := Pick_s (d + 2) l[i] 2 H (by omega) (by omega)
        simp only [e1, optK_s, ap, Int.toNat_natCast, Nat.mul_one, e2, asI_s, p1, callK_s]
        rw [if_pos (by omega), if_pos (by omega)]
        obtain ⟨u, hu, hu2⟩ := partL_pick (lit := [.string (S [97]), .string (S [98])]) (m := 2) p2 p3 rfl (by
          intro v hv
          simp only [List.mem_cons, List.not_mem_nil, or_false] at hv
          rcases hv with rfl | rfl <;> exact ⟨_, rfl, by decide⟩)
        simp only [Nat.mul_one] at hu
        simp only [hu, optK_s, asS_s, slenS, sCatS]
        rw [if_pos (by omega), w64 (by omega), show ((i : Int) + 1) = ((i + 1 : Nat) : Int) by omega]
        exact ih (i + 1) (w ++ u) (by omega) (by omega) (by simp; omega) (by omega)
      · rw [show decide ((i : Int) < 14) = false from decide_eq_false (by omega)]
        exact stop
    · rw [if_neg (by omega)]
      exact stop

theorem pat_loop (d : Nat) (H : Heap) (x x1 : Sl) (l l1 : List Int) (hx : Ints H x l) (hx1 : Ints H x1 l1) (hl1 : x1.n ≤ 1048576) : ∀ (m i : Nat) (w : W), i ≤ x.n → x.n - i < m → w.length ≤ i → i ≤ 12 →
    ∃ H', law17_KeysMatch_p101011010 (d + 3) m x x1 (S w) (S []) (i : Int) H = some (.bool true, H') := by
  intro m
  have hle := hx.1
  induction m with
  | zero => intro i w h1 h2; omega
  | succ m ih =>
    intro i w h1 h2 hw h14
    rw [law17_KeysMatch_p101011010_s]
    simp only [decide_eq_true_eq]
    have stop : ∃ H', law17_KeysMatch_p101011010001 (d + 3) m x x1 (S w) (S []) (i : Int) false H = some (.bool true, H') := by
      rw [law17_KeysMatch_p101011010001_eq, if_neg (by simp)]
      exact name_loop d H x1 l1 hx1 w (by omega) NN 0 [] (by omega) (NN_big _ (by omega)) (by simp) (by omega)
    by_cases hi : i < x.n
    · rw [if_pos (by omega)]
      by_cases h12 : i < 12
      · rw [show decide ((i : Int) < 12) = true from decide_eq_true (by omega), law17_KeysMatch_p101011010001_eq, if_pos rfl]
        have hc : l[i]? = some l[i] := List.getElem?_eq_getElem (by omega)
        obtain ⟨b, o, e1, e2⟩ := hx.2 i _ hi hc
        obtain ⟨r, p1, p2, p3⟩ := Pick_s (d + 2) l[i] 5 H (by omega) (by omega)
        simp only [e1, optK_s, ap, Int.toNat_natCast, Nat.mul_one, e2, asI_s, p1, callK_s]
        rw [if_pos (by omega), if_pos (by omega)]
        obtain ⟨u, hu, hu2⟩ := partL_pick (lit := [.string (S [97]), .string (S [98]), .string (S [42]), .string (S [63]), .string (S [42])]) (m := 5) p2 p3 rfl (by
          intro v hv
          simp only [List.mem_cons, List.not_mem_nil, or_false] at hv
          rcases hv with rfl | rfl | rfl | rfl | rfl <;> exact ⟨_, rfl, by decide⟩)
        simp only [Nat.mul_one] at hu
        simp only [hu, optK_s, asS_s, slenS, sCatS]
        rw [if_pos (by omega), w64 (by omega), show ((i : Int) + 1) = ((i + 1 : Nat) : Int) by omega]
        exact ih (i + 1) (w ++ u) (by omega) (by omega) (by simp; omega) (by omega)
      · rw [show decide ((i : Int) < 12) = false from decide_eq_false (by omega)]
        exact stop
    · rw [if_neg (by omega)]
      exact stop

theorem KeysMatch_s (d : Nat) (x0 x1 : Sl) (l0 l1 : List Int) (s2 s3 : ByteArray) (odd : Bool) (H : Heap) (h0 : Ints H x0 l0) (h1 : Ints H x1 l1) (b0 : x0.n ≤ 1048576) (b1 : x1.n ≤ 1048576) (h2 : (lst s2).length ≤ 1048576) (h3 : (lst s3).length ≤ 1048576) :
    ∃ H', X (d + 4) n_law17_KeysMatch [x0.v, x1.v, .string s2, .string s3, .bool odd] H = some (.bool true, H') := by
  rw [law17_KeysMatch_eq]
  cases odd with
  | true =>
    rw [if_neg (by simp)]
    exact match_body d (lst s2) (lst s3) h2 h3 H
  | false =>
    rw [if_pos (by simp)]
    exact pat_loop d H x0 x1 l0 l1 h0 h1 b1 NN 0 [] (by omega) (NN_big _ (by omega)) (by simp) (by omega)
end Go.Proofs.YthphbdkhbaijlaaDoor.dec

namespace Go.Proofs.YthphbdkhbaijlaaDoor.frame
open Go Go.Cm Go.ChangeShapes Go.WideShapes Go.ChangeAt Go.RowKit

theorem own : ownKnob Tryd.prog.godebug = none := by kernel_rfl
theorem mixed : Tryd.prog.follows .mixedOrders = true := Tryd.checked.mixed

theorem one_le {H : Type} (d : DataW H) : 1 ≤ Rows.uptoBulk d := by
  cases d with
  | lit l => cases l <;> simp [Rows.uptoBulk]
  | _ => simp [Rows.uptoBulk]
theorem length_le {H : Type} (l : List (DataW H)) : l.length ≤ Rows.uptoBulkAll l := by
  induction l with
  | nil => simp [Rows.uptoBulkAll]
  | cons x r ih => have := one_le x; simp only [Rows.uptoBulkAll, List.length_cons]; omega
theorem all_le {H : Type} {d : DataW H} {l : List (DataW H)} (h : d ∈ l) : Rows.uptoBulk d ≤ Rows.uptoBulkAll l := by
  induction l with
  | nil => cases h
  | cons x r ih =>
    simp only [Rows.uptoBulkAll]
    rcases List.mem_cons.1 h with rfl | h
    · omega
    · have := ih h; omega
theorem string_le {H : Type} (s : ByteArray) : (lst s).length + 1 ≤ Rows.uptoBulk (.lit (.string s.data.toList) : DataW H) := by
  simp only [Rows.uptoBulk]
  have : lst s = s.data.toList := rfl
  rw [this]; omega

theorem known_ev : (match callD ⟨autoFn [] Tryd.prog, fun _ => none⟩ 1000 50 13 [] (heap0 0 fun _ => none) with
  | some (.bool b, _) => b
  | _ => false) = true := by kernel_rfl
theorem known : ∃ H1, callD ⟨autoFn [] Tryd.prog, fun _ => none⟩ 1000 50 13 [] (heap0 0 fun _ => none) = some (.bool true, H1) := by
  have h := known_ev
  split at h
  · rename_i b H1 e
    subst h
    exact ⟨H1, e⟩
  · cases h

theorem prog_ok_at {ng : Nat} (hg : 2 ≤ ng) (n0 : Nat) (w : World) : ProgOK Tryd.prog (startG ng n0 w) [0, 1] dec.C := by
  have hgl : ∀ g ∈ [0, 1], g < (startG ng n0 w).ng := fun g h => by
    show g < ng
    simp only [List.mem_cons, List.not_mem_nil, or_false] at h
    omega
  refine ⟨hgl, fun _ _ h => autoC_ok h, fun f p h => ?_, fun _ hc _ => draw_ok mixed hgl hc⟩
  unfold dec.C at h
  simp only at h
  split at h
  · rename_i e
    subst e
    simp only [Option.some.injEq] at h
    subst h
    obtain ⟨H1, hev⟩ := known
    have hk := sure_ok (w0 := startG ng n0 w) mixed hev
    intro g vs vs' H v H' μ w' hc
    by_cases e : g = 13
    · subst e
      refine hk 13 vs vs' H v H' μ w' ?_
      simpa using hc
    · exact absurd hc (by simp [e])
  · cases h

/-- a slice whose elements take one cell: its cells -/
theorem ints_of {H : Type} {ws : List Win} {cs : List Value} {d : DataW H} (h : DR Tryd.prog ws 22 cs d) : ∃ (x : Sl) (l : List Int), cs = [x.v] ∧ dec.Ints (heapW ws) x l ∧ x.n ≤ Rows.uptoBulk d := by
  obtain ⟨x, es, rest, rfl, h1, _, h3, h4⟩ := h.slice_inv Tryd.underlying22
  have hc : Tryd.prog.cellsOf 3 = 1 := by kernel_rfl
  rw [hc] at h4
  have each : ∀ i, i < es.length → ∃ (n : Int) (b : Nat), x.a = some ⟨b, 0, none⟩ ∧ (heapW ws).ld1 ⟨b, i, none⟩ = some (.int .i64 n) := by
    intro i hi
    obtain ⟨b, y, q1, q2, q3, q4⟩ := h4 i _ (List.getElem?_eq_getElem hi)
    obtain ⟨n, g1, _⟩ := q4.int_inv Tryd.underlying3
    refine ⟨n, b, q1, ?_⟩
    rw [ld1_s (heapW_get q2)]
    rw [Nat.mul_one] at g1
    have : ((y.cells.drop i).take 1)[0]? = some (.int .i64 n) := by rw [g1]; rfl
    simpa using this
  refine ⟨x, (List.range es.length).map fun i => if hi : i < es.length then (each i hi).choose else 0, rfl, ⟨by simp; omega, fun i n hi hn => ?_⟩, ?_⟩
  · have hlt := (List.getElem?_eq_some_iff.1 hn).1
    simp only [List.length_map, List.length_range] at hlt
    rw [List.getElem?_map, List.getElem?_range hlt] at hn
    simp only [Option.map_some, Option.some.injEq, dif_pos hlt] at hn
    subst hn
    obtain ⟨b, q1, q2⟩ := (each i hlt).choose_spec
    exact ⟨b, 0, q1, by rw [Nat.zero_add]; exact q2⟩
  · rcases h3 with ⟨rfl, rfl⟩ | rfl
    · simp only [List.length_nil] at h1; omega
    · have := length_le es
      simp only [Rows.uptoBulk]; omega
end Go.Proofs.YthphbdkhbaijlaaDoor.frame

namespace Go.Proofs.YthphbdkhbaijlaaDoor.dec
open Go Go.Cm

attribute [local congr] optK_congr asI_congr asN_congr asB_congr asS_congr asP_congr asA_congr asSL_congr callK_congr castT_congr chk_congr

/-- text without stars and question marks -/
def Plain (w : W) : Prop := ∀ c ∈ w, c.toNat ≠ 42 ∧ c.toNat ≠ 63
theorem plain_iff : ∀ {p s : W}, Plain p → (M p s ↔ p = s) := by
  intro p
  induction p with
  | nil => intro s _; rw [M_nil]; exact eq_comm
  | cons c p ih =>
    intro s hp
    have hc := hp c (by simp)
    rw [M_one hc.1]
    have ih' : ∀ t, M p t ↔ p = t := fun t => ih fun x hx => hp x (by simp [hx])
    constructor
    · rintro ⟨x, t, rfl, h | rfl, g⟩
      · exact absurd h hc.2
      · rw [(ih' t).1 g]
    · rintro rfl
      exact ⟨c, p, rfl, .inr rfl, (ih' p).2 rfl⟩
theorem M_all (s : W) : M [42] s := (M_star (by decide)).2 ⟨s.length, by rw [List.drop_length]; exact .nil⟩
theorem Plain.self {p : W} (h : Plain p) : M p p := (plain_iff h).2 rfl

theorem st1 {a b : W} (ha : Plain a) : M (a ++ [42]) (a ++ b) := M_app.2 ⟨a, b, rfl, ha.self, M_all b⟩
theorem st2 {a b : W} (hb : Plain b) : M ([42] ++ b) (a ++ b) := M_app.2 ⟨a, b, rfl, M_all a, hb.self⟩
theorem st3 {a b : W} (ha : Plain a) (hb : Plain b) : M (a ++ [42] ++ b) (a ++ b) := M_app.2 ⟨a, b, rfl, by have := st1 (b := []) ha; simpa using this, hb.self⟩
theorem st4 {a : W} (ha : Plain a) : ¬ M (a ++ [63]) a := by
  intro h
  obtain ⟨s1, s2, e, h1, h2⟩ := M_app.1 h
  rw [plain_iff ha] at h1
  subst h1
  have : s2 = [] := by simpa using e
  subst this
  obtain ⟨x, t, e, _⟩ := (M_one (by decide)).1 h2
  cases e
theorem st5 {a b : W} (ha : Plain a) : M (a ++ [63, 42]) (a ++ b) ↔ b ≠ [] := by
  constructor
  · rintro h rfl
    obtain ⟨s1, s2, e, h1, h2⟩ := M_app.1 h
    rw [plain_iff ha] at h1
    subst h1
    have : s2 = [] := by simpa using e
    subst this
    obtain ⟨x, t, e, _⟩ := (M_one (by decide)).1 h2
    cases e
  · intro hb
    cases b with
    | nil => exact absurd rfl hb
    | cons x b => exact M_app.2 ⟨a, x :: b, rfl, ha.self, .one (by decide) (.inl rfl) (M_all b)⟩

/-- a call of Match, as it is known -/
theorem Match_true (d : Nat) (p s : W) (hp : p.length ≤ 1048576) (hs : s.length ≤ 1048576) (H : Heap) (h : M p s) : X (d + 3) n_keys_Match [.string (S p), .string (S s)] H = some (.bool true, H) := by
  obtain ⟨b, e, g⟩ := Match_s d p s hp hs H
  rw [e, g.2 h]
theorem Match_false (d : Nat) (p s : W) (hp : p.length ≤ 1048576) (hs : s.length ≤ 1048576) (H : Heap) (h : ¬ M p s) : X (d + 3) n_keys_Match [.string (S p), .string (S s)] H = some (.bool false, H) := by
  obtain ⟨b, e, g⟩ := Match_s d p s hp hs H
  rw [e]
  cases b with
  | false => rfl
  | true => exact absurd (g.1 rfl) h

theorem stars_body (d m : Nat) (x : Sl) (i : Int) (a b : W) (ha : Plain a) (hb : Plain b) (la : a.length ≤ 20) (lb : b.length ≤ 20) (H : Heap) : law17_KeysStars_p1111010001 (d + 3) m x (S a) (S b) i false H = some (.bool true, H) := by
  rw [law17_KeysStars_p1111010001_eq, if_neg (by simp), known_s]
  simp only [callK_s, asB_s, if_true]
  rw [Match_true d [42] a (by simp) (by omega) H (M_all a)]
  simp only [callK_s, asB_s, if_true]
  rw [Match_true d a a (by omega) (by omega) H ha.self]
  simp only [callK_s, asB_s, if_true, slenS, sCatS, List.length_append, List.length_cons, List.length_nil]
  rw [if_pos (by omega), if_pos (by omega), Match_true d (a ++ [42]) (a ++ b) (by simp; omega) (by simp; omega) H (st1 ha)]
  simp only [callK_s, asB_s, if_true]
  rw [if_pos (by omega), if_pos (by omega), Match_true d ([42] ++ b) (a ++ b) (by simp; omega) (by simp; omega) H (st2 hb)]
  simp only [callK_s, asB_s, if_true, slenS, sCatS, List.length_append, List.length_cons, List.length_nil]
  rw [if_pos (by omega), if_pos (by omega), if_pos (by omega), Match_true d (a ++ [42] ++ b) (a ++ b) (by simp; omega) (by simp; omega) H (st3 ha hb)]
  simp only [callK_s, asB_s, if_true]
  obtain ⟨q, e, g⟩ := Match_s d a b (by omega) (by omega) H
  rw [e]
  simp only [callK_s, asB_s, sEqS]
  have hq : (q == (a == b)) = true := by
    rw [plain_iff ha] at g
    by_cases hab : a = b
    · have := g.2 hab
      subst this
      simp [hab]
    · cases q with
      | true => exact absurd (g.1 rfl) hab
      | false => simp [hab]
  rw [if_pos hq, if_pos (by omega), Match_false d (a ++ [63]) a (by simp; omega) (by omega) H (st4 ha)]
  simp only [callK_s, asB_s, Bool.not_false, if_true]
  rw [if_pos (by omega), if_pos (by omega)]
  obtain ⟨q, e, g⟩ := Match_s d (a ++ [63, 42]) (a ++ b) (by simp; omega) (by simp; omega) H
  rw [e]
  simp only [callK_s, asB_s]
  rw [st5 ha] at g
  cases b with
  | nil =>
    cases q with
    | true => exact absurd rfl (g.1 rfl)
    | false => rfl
  | cons x b =>
    have := g.2 (by simp)
    subst this
    rfl

theorem partL_plain {lit : List Value} {r : Int} {m : Nat} (h0 : 0 ≤ r) (h : r < (m : Int)) (hl : lit.length = m) (hv : ∀ v ∈ lit, ∃ u : W, v = .string (S u) ∧ u.length ≤ 1 ∧ Plain u) : ∃ u : W, partL lit (r.toNat * 1) 1 false = some (.string (S u)) ∧ u.length ≤ 1 ∧ Plain u := by
  have hr : r.toNat < lit.length := by omega
  obtain ⟨u, hu, hu2⟩ := hv _ (List.getElem_mem hr)
  exact ⟨u, by simp [partL, List.getElem?_eq_getElem hr, hu], hu2⟩
theorem abc (r : Int) (h0 : 0 ≤ r) (h : r < 3) : ∃ u : W, partL [.string (S [97]), .string (S [98]), .string (S [45])] (r.toNat * 1) 1 false = some (.string (S u)) ∧ u.length ≤ 1 ∧ Plain u :=
  partL_plain (m := 3) h0 h rfl (by
    intro v hv
    simp only [List.mem_cons, List.not_mem_nil, or_false] at hv
    rcases hv with rfl | rfl | rfl <;> exact ⟨_, rfl, by decide, fun c hc => by simp only [List.mem_singleton] at hc; subst hc; decide⟩)

theorem Plain.app {a b : W} (ha : Plain a) (hb : Plain b) : Plain (a ++ b) := fun c hc => by
  rcases List.mem_append.1 hc with h | h
  · exact ha c h
  · exact hb c h

theorem stars_loop2 (d : Nat) (H : Heap) (x : Sl) (l : List Int) (hx : Ints H x l) (a : W) (ha : Plain a) (la : a.length ≤ 20) : ∀ (m i : Nat) (w : W), i ≤ x.n → x.n - i < m → w.length ≤ i → i ≤ 20 → Plain w →
    law17_KeysStars_p1111010 (d + 3) m x (S a) (S w) (i : Int) H = some (.bool true, H) := by
  intro m
  have hle := hx.1
  induction m with
  | zero => intro i w h1 h2; omega
  | succ m ih =>
    intro i w h1 h2 hw h14 hpw
    rw [law17_KeysStars_p1111010_s]
    simp only [decide_eq_true_eq]
    have stop : law17_KeysStars_p1111010001 (d + 3) m x (S a) (S w) (i : Int) false H = some (.bool true, H) := stars_body d m x i a w ha hpw la (by omega) H
    by_cases hi : i < x.n
    · rw [if_pos (by omega)]
      by_cases h12 : i < 20
      · rw [show decide ((i : Int) < 20) = true from decide_eq_true (by omega), law17_KeysStars_p1111010001_eq, if_pos rfl]
        have hc : l[i]? = some l[i] := List.getElem?_eq_getElem (by omega)
        obtain ⟨b, o, e1, e2⟩ := hx.2 i _ hi hc
        obtain ⟨r, p1, p2, p3⟩ := Pick_s (d + 2) l[i] 3 H (by omega) (by omega)
        simp only [e1, optK_s, ap, Int.toNat_natCast, Nat.mul_one, e2, asI_s, p1, callK_s]
        rw [if_pos (by omega), if_pos (by omega)]
        obtain ⟨u, hu, hu2, hu3⟩ := abc r p2 p3
        simp only [Nat.mul_one] at hu
        simp only [hu, optK_s, asS_s, slenS, sCatS]
        rw [if_pos (by omega), w64 (by omega), show ((i : Int) + 1) = ((i + 1 : Nat) : Int) by omega]
        exact ih (i + 1) (w ++ u) (by omega) (by omega) (by simp; omega) (by omega) (hpw.app hu3)
      · rw [show decide ((i : Int) < 20) = false from decide_eq_false (by omega)]
        exact stop
    · rw [if_neg (by omega)]
      exact stop

theorem stars_loop1 (d : Nat) (H : Heap) (x x1 : Sl) (l l1 : List Int) (hx : Ints H x l) (hx1 : Ints H x1 l1) (hl1 : x1.n ≤ 1048576) : ∀ (m i : Nat) (w : W), i ≤ x.n → x.n - i < m → w.length ≤ i → i ≤ 20 → Plain w →
    law17_KeysStars_p111010 (d + 3) m x x1 (S w) (S []) (i : Int) H = some (.bool true, H) := by
  intro m
  have hle := hx.1
  induction m with
  | zero => intro i w h1 h2; omega
  | succ m ih =>
    intro i w h1 h2 hw h14 hpw
    rw [law17_KeysStars_p111010_s]
    simp only [decide_eq_true_eq]
    have stop : law17_KeysStars_p111010001 (d + 3) m x x1 (S w) (S []) (i : Int) false H = some (.bool true, H) := by
      rw [law17_KeysStars_p111010001_eq, if_neg (by simp)]
      exact stars_loop2 d H x1 l1 hx1 w hpw (by omega) NN 0 [] (by omega) (NN_big _ (by omega)) (by simp) (by omega) (fun c hc => by cases hc)
    by_cases hi : i < x.n
    · rw [if_pos (by omega)]
      by_cases h12 : i < 20
      · rw [show decide ((i : Int) < 20) = true from decide_eq_true (by omega), law17_KeysStars_p111010001_eq, if_pos rfl]
        have hc : l[i]? = some l[i] := List.getElem?_eq_getElem (by omega)
        obtain ⟨b, o, e1, e2⟩ := hx.2 i _ hi hc
        obtain ⟨r, p1, p2, p3⟩ := Pick_s (d + 2) l[i] 3 H (by omega) (by omega)
        simp only [e1, optK_s, ap, Int.toNat_natCast, Nat.mul_one, e2, asI_s, p1, callK_s]
        rw [if_pos (by omega), if_pos (by omega)]
        obtain ⟨u, hu, hu2, hu3⟩ := abc r p2 p3
        simp only [Nat.mul_one] at hu
        simp only [hu, optK_s, asS_s, slenS, sCatS]
        rw [if_pos (by omega), w64 (by omega), show ((i : Int) + 1) = ((i + 1 : Nat) : Int) by omega]
        exact ih (i + 1) (w ++ u) (by omega) (by omega) (by simp; omega) (by omega) (hpw.app hu3)
      · rw [show decide ((i : Int) < 20) = false from decide_eq_false (by omega)]
        exact stop
    · rw [if_neg (by omega)]
      exact stop

theorem KeysStars_s (d : Nat) (x0 x1 : Sl) (l0 l1 : List Int) (H : Heap) (h0 : Ints H x0 l0) (h1 : Ints H x1 l1) (b0 : x0.n ≤ 1048576) (b1 : x1.n ≤ 1048576) :
    ∃ H', X (d + 4) n_law17_KeysStars [x0.v, x1.v] H = some (.bool true, H') := by
  rw [law17_KeysStars_eq]
  exact ⟨H, stars_loop1 d H x0 x1 l0 l1 h0 h1 b1 NN 0 [] (by omega) (NN_big _ (by omega)) (by simp) (by omega) (fun c hc => by cases hc)⟩
end Go.Proofs.YthphbdkhbaijlaaDoor.dec
