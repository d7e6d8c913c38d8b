/-
  keys: which names a pattern matches. No program in sight.
  And: keys.Match: what it computes. The reference's Match: what it computes. KeysMatch: what the call computes. keys: what the laws' frames share. keys: a key's cells; Secret. keys: the law's list of keys. keys: Find and Allows, of both; KeysAllows. keys: arguments that are raw keys; the law's tables. strings.Builder: what its methods compute. keys.Right; KeysFinds. keys: which keys may be: what the program's and the reference's Right compute. keys: the text of keys: what the program's and the reference's Print compute. keys: what a text of keys is, in plain words; splitting. keys: what the program's Parse computes.
-/
import Derived.WalkKit
import Derived.Test.YthphbdkhbaijlaaDoorDec
import Derived.IntWalk
import Derived.Test.YthphbdkhbaijlaaDoorRows
import Derived.Test.YthphbdkhbaijlaaDoorCmH
import Derived.Shelf.Vars
import Derived.Test.YthphbdkhbaijlaaDoorShelf
import Derived.ChangeMaps5
import Derived.ChangeSlices
namespace Go.Proofs.YthphbdkhbaijlaaDoor.dec

abbrev W := List UInt8

/-- the names that a pattern matches: 42 any text, 63 any byte -/
inductive M : W → W → Prop
  | nil : M [] []
  | one {p s : W} {c x : UInt8} (h : c.toNat ≠ 42) (h' : c.toNat = 63 ∨ c = x) : M p s → M (c :: p) (x :: s)
  | skip {p s : W} {c : UInt8} (h : c.toNat = 42) : M p s → M (c :: p) s
  | take {p s : W} {c x : UInt8} (h : c.toNat = 42) : M (c :: p) s → M (c :: p) (x :: s)

theorem M_nil {s : W} : M [] s ↔ s = [] := by
  constructor
  · intro h; cases h; rfl
  · rintro rfl; exact .nil
theorem M_one {c : UInt8} {p s : W} (hc : c.toNat ≠ 42) : M (c :: p) s ↔ ∃ x t, s = x :: t ∧ (c.toNat = 63 ∨ c = x) ∧ M p t := by
  constructor
  · intro h
    cases h with
    | one _ h' h => exact ⟨_, _, rfl, h', h⟩
    | skip h => exact absurd h hc
    | take h => exact absurd h hc
  · rintro ⟨x, t, rfl, h', h⟩; exact .one hc h' h
theorem M_star {c : UInt8} {p : W} (hc : c.toNat = 42) : ∀ {s : W}, M (c :: p) s ↔ ∃ j, M p (s.drop j) := by
  intro s
  constructor
  · intro h
    generalize hq : c :: p = q at h
    induction h with
    | nil => cases hq
    | one h => cases hq; exact absurd hc h
    | skip _ h => cases hq; exact ⟨0, h⟩
    | take _ _ ih => obtain ⟨j, h⟩ := ih hq; exact ⟨j + 1, h⟩
  · rintro ⟨j, h⟩
    induction s generalizing j with
    | nil => rw [List.drop_nil] at h; exact .skip hc h
    | cons x s ih =>
      cases j with
      | zero => exact .skip hc h
      | succ j => exact .take hc (ih j h)

theorem M_app : ∀ {p q s : W}, M (p ++ q) s ↔ ∃ s1 s2, s = s1 ++ s2 ∧ M p s1 ∧ M q s2 := by
  intro p
  induction p with
  | nil =>
    intro q s
    constructor
    · intro h; exact ⟨[], s, rfl, .nil, h⟩
    · rintro ⟨s1, s2, rfl, h1, h2⟩
      rw [M_nil] at h1
      subst h1
      exact h2
  | cons c p ih =>
    intro q s
    rw [List.cons_append]
    by_cases hc : c.toNat = 42
    · rw [M_star hc]
      constructor
      · rintro ⟨j, h⟩
        obtain ⟨s1, s2, e, h1, h2⟩ := ih.1 h
        refine ⟨s.take j ++ s1, s2, by rw [List.append_assoc, ← e, List.take_append_drop], (M_star hc).2 ⟨(s.take j).length, ?_⟩, h2⟩
        rw [List.drop_left]
        exact h1
      · rintro ⟨s1, s2, rfl, h1, h2⟩
        obtain ⟨j, h⟩ := (M_star hc).1 h1
        by_cases hj : j ≤ s1.length
        · exact ⟨j, ih.2 ⟨s1.drop j, s2, by rw [List.drop_append_of_le_length hj], h, h2⟩⟩
        · rw [List.drop_eq_nil_of_le (by omega)] at h
          exact ⟨s1.length, ih.2 ⟨[], s2, by rw [List.drop_left]; rfl, h, h2⟩⟩
    · rw [M_one hc]
      constructor
      · rintro ⟨x, t, rfl, h', h⟩
        obtain ⟨s1, s2, rfl, h1, h2⟩ := ih.1 h
        exact ⟨x :: s1, s2, rfl, .one hc h' h1, h2⟩
      · rintro ⟨s1, s2, rfl, h1, h2⟩
        obtain ⟨x, t, rfl, h', h⟩ := (M_one hc).1 h1
        exact ⟨x, t ++ s2, rfl, h', ih.2 ⟨t, s2, rfl, h, h2⟩⟩

/-- a piece without a star takes as many bytes as it has -/
theorem M_len : ∀ {p s : W}, (∀ c ∈ p, c.toNat ≠ 42) → M p s → s.length = p.length := by
  intro p
  induction p with
  | nil => intro s _ h; rw [M_nil] at h; simp [h]
  | cons c p ih =>
    intro s hp h
    obtain ⟨x, t, rfl, _, h⟩ := (M_one (hp c (by simp))).1 h
    simp [ih (fun c hc => hp c (by simp [hc])) h]

/-- the end of a name -/
theorem M_end {p : W} : M p [] ↔ ∀ c ∈ p, c.toNat = 42 := by
  induction p with
  | nil => simp [M_nil]
  | cons c p ih =>
    by_cases hc : c.toNat = 42
    · rw [M_star hc]
      simp only [List.drop_nil, exists_const, ih, List.mem_cons, forall_eq_or_imp, hc, true_and]
    · constructor
      · intro h
        obtain ⟨x, t, e, _⟩ := (M_one hc).1 h
        cases e
      · intro h; exact absurd (h c (by simp)) hc

/-! ### row by row -/
theorem snoc_cases (t : W) : t = [] ∨ ∃ t' x, t = t' ++ [x] := by
  rcases List.eq_nil_or_concat t with h | ⟨t', x, h⟩
  · exact .inl h
  · exact .inr ⟨t', x, by simpa using h⟩
theorem D_star {p t : W} {c : UInt8} (hc : c.toNat = 42) : M (p ++ [c]) t ↔ M p t ∨ ∃ t' x, t = t' ++ [x] ∧ M (p ++ [c]) t' := by
  have hs : ∀ s, M [c] s := fun s => (M_star hc).2 ⟨s.length, by rw [List.drop_length]; exact .nil⟩
  constructor
  · intro h
    obtain ⟨s1, s2, rfl, h1, h2⟩ := M_app.1 h
    rcases snoc_cases s2 with rfl | ⟨s2, x, rfl⟩
    · left; simpa using h1
    · right; exact ⟨s1 ++ s2, x, by simp, M_app.2 ⟨s1, s2, rfl, h1, hs _⟩⟩
  · rintro (h | ⟨t', x, rfl, h⟩)
    · exact M_app.2 ⟨t, [], by simp, h, hs _⟩
    · obtain ⟨s1, s2, rfl, h1, h2⟩ := M_app.1 h
      exact M_app.2 ⟨s1, s2 ++ [x], by simp, h1, hs _⟩
theorem D_one {p t : W} {c : UInt8} (hc : c.toNat ≠ 42) : M (p ++ [c]) t ↔ ∃ t' x, t = t' ++ [x] ∧ (c.toNat = 63 ∨ c = x) ∧ M p t' := by
  constructor
  · intro h
    obtain ⟨s1, s2, rfl, h1, h2⟩ := M_app.1 h
    obtain ⟨x, t, rfl, h', h⟩ := (M_one hc).1 h2
    rw [M_nil] at h
    subst h
    exact ⟨s1, x, rfl, h', h1⟩
  · rintro ⟨t', x, rfl, h', h⟩
    exact M_app.2 ⟨t', [x], rfl, h, .one hc h' .nil⟩

/-! ### with one star to come back to -/
/-- where the reader stands -/
def GInv (pat name : W) (p n : Nat) (st : Option Nat) (back : Nat) : Prop := p ≤ pat.length ∧ n ≤ name.length ∧ back ≤ n ∧ match st with
  | none => back = 0 ∧ (M pat name ↔ M (pat.drop p) (name.drop n))
  | some k => k < p ∧ ∃ seg s0 : W, pat.drop (k + 1) = seg ++ pat.drop p ∧ name.drop back = s0 ++ name.drop n ∧ (∀ c ∈ seg, c.toNat ≠ 42) ∧ M seg s0 ∧ (M pat name ↔ ∃ j, M (pat.drop (k + 1)) ((name.drop back).drop j))

theorem GInv.start (pat name : W) : GInv pat name 0 0 none 0 := ⟨Nat.zero_le _, Nat.zero_le _, Nat.le_refl _, rfl, Iff.rfl⟩

/-- a piece without a star, and what is behind it -/
theorem seg_iff {seg s0 q t : W} (hs : ∀ c ∈ seg, c.toNat ≠ 42) (h : M seg s0) : M (seg ++ q) (s0 ++ t) ↔ M q t := by
  constructor
  · intro g
    obtain ⟨s1, s2, e, h1, h2⟩ := M_app.1 g
    have hl := (M_len hs h).trans (M_len hs h1).symm
    obtain ⟨_, rfl⟩ := List.append_inj e hl
    exact h2
  · intro g; exact M_app.2 ⟨s0, t, rfl, h, g⟩

theorem GInv.star {pat name : W} {p n back : Nat} {st : Option Nat} {c : UInt8} (h : GInv pat name p n st back) (hp : pat[p]? = some c) (hc : c.toNat = 42) : GInv pat name (p + 1) n (some p) n := by
  have hlt := (List.getElem?_eq_some_iff.1 hp).1
  have hd : pat.drop p = c :: pat.drop (p + 1) := by
    rw [List.drop_eq_getElem_cons hlt, (List.getElem?_eq_some_iff.1 hp).2]
  obtain ⟨h1, h2, h3, h4⟩ := h
  refine ⟨by omega, h2, Nat.le_refl _, by omega, [], [], rfl, rfl, by simp, .nil, ?_⟩
  cases st with
  | none =>
    rw [h4.2, hd, M_star hc]
  | some k =>
    obtain ⟨_, seg, s0, e1, e2, e3, e4, e5⟩ := h4
    have hl := M_len e3 e4
    rw [e5, e1, e2, hd]
    constructor
    · rintro ⟨j, g⟩
      obtain ⟨s1, s2, e, g1, g2⟩ := M_app.1 g
      obtain ⟨j', g3⟩ := (M_star hc).1 g2
      have hl1 := M_len e3 g1
      refine ⟨j + j', ?_⟩
      have : s2 = (name.drop n).drop j := by
        have e' := congrArg (List.drop s1.length) e
        rw [List.drop_left, List.drop_drop] at e'
        rw [← e', hl1, ← hl, Nat.add_comm, ← List.drop_drop, List.drop_left]
      rw [this, List.drop_drop] at g3
      exact g3
    · rintro ⟨j, g⟩
      exact ⟨0, M_app.2 ⟨s0, name.drop n, rfl, e4, (M_star hc).2 ⟨j, g⟩⟩⟩

theorem GInv.step {pat name : W} {p n back : Nat} {st : Option Nat} {c x : UInt8} (h : GInv pat name p n st back) (hp : pat[p]? = some c) (hn : name[n]? = some x) (hc : c.toNat ≠ 42) (hx : c.toNat = 63 ∨ c = x) : GInv pat name (p + 1) (n + 1) st back := by
  have hlt := (List.getElem?_eq_some_iff.1 hp).1
  have hd : pat.drop p = c :: pat.drop (p + 1) := by
    rw [List.drop_eq_getElem_cons hlt, (List.getElem?_eq_some_iff.1 hp).2]
  have hlt' := (List.getElem?_eq_some_iff.1 hn).1
  have hd' : name.drop n = x :: name.drop (n + 1) := by
    rw [List.drop_eq_getElem_cons hlt', (List.getElem?_eq_some_iff.1 hn).2]
  obtain ⟨h1, h2, h3, h4⟩ := h
  refine ⟨by omega, by omega, by omega, ?_⟩
  cases st with
  | none =>
    refine ⟨h4.1, h4.2.trans ?_⟩
    rw [hd, hd', M_one hc]
    constructor
    · rintro ⟨y, t, e, _, g⟩; cases e; exact g
    · intro g; exact ⟨x, _, rfl, hx, g⟩
  | some k =>
    obtain ⟨hk, seg, s0, e1, e2, e3, e4, e5⟩ := h4
    refine ⟨by omega, seg ++ [c], s0 ++ [x], by rw [e1, hd]; simp, by rw [e2, hd']; simp, fun y hy => ?_, M_app.2 ⟨s0, [x], rfl, e4, .one hc hx .nil⟩, e5⟩
    rcases List.mem_append.1 hy with hy | hy
    · exact e3 y hy
    · simp only [List.mem_singleton] at hy; subst hy; exact hc

/-- it goes on no more here -/
def Stuck (pat name : W) (p n : Nat) : Prop := ¬ M (pat.drop p) (name.drop n)
theorem stuck_end {pat name : W} {p n : Nat} (hp : pat.length ≤ p) (hn : n < name.length) : Stuck pat name p n := by
  unfold Stuck
  rw [List.drop_eq_nil_of_le hp, M_nil]
  intro e
  have := List.drop_eq_nil_iff.1 e
  omega
theorem stuck_byte {pat name : W} {p n : Nat} {c x : UInt8} (hp : pat[p]? = some c) (hn : name[n]? = some x) (hc : c.toNat ≠ 42) (hx : ¬ (c.toNat = 63 ∨ c = x)) : Stuck pat name p n := by
  have hlt := (List.getElem?_eq_some_iff.1 hp).1
  have hd : pat.drop p = c :: pat.drop (p + 1) := by
    rw [List.drop_eq_getElem_cons hlt, (List.getElem?_eq_some_iff.1 hp).2]
  have hlt' := (List.getElem?_eq_some_iff.1 hn).1
  have hd' : name.drop n = x :: name.drop (n + 1) := by
    rw [List.drop_eq_getElem_cons hlt', (List.getElem?_eq_some_iff.1 hn).2]
  unfold Stuck
  rw [hd, hd', M_one hc]
  rintro ⟨y, t, e, g, _⟩
  cases e
  exact hx g

theorem GInv.back {pat name : W} {p n back k : Nat} (h : GInv pat name p n (some k) back) (hn : n < name.length) (hs : Stuck pat name p n) : GInv pat name (k + 1) (back + 1) (some k) (back + 1) := by
  obtain ⟨h1, h2, h3, hk, seg, s0, e1, e2, e3, e4, e5⟩ := h
  refine ⟨by omega, by omega, Nat.le_refl _, by omega, [], [], rfl, rfl, by simp, .nil, ?_⟩
  rw [e5]
  constructor
  · rintro ⟨j, g⟩
    cases j with
    | zero =>
      rw [List.drop_zero, e1, e2] at g
      exact absurd ((seg_iff e3 e4).1 g) hs
    | succ j =>
      refine ⟨j, ?_⟩
      rw [List.drop_drop] at g ⊢
      rw [show back + 1 + j = back + (j + 1) by omega]
      exact g
  · rintro ⟨j, g⟩
    refine ⟨j + 1, ?_⟩
    rw [List.drop_drop] at g ⊢
    rw [show back + (j + 1) = back + 1 + j by omega]
    exact g

theorem GInv.no {pat name : W} {p n back : Nat} (h : GInv pat name p n none back) (hs : Stuck pat name p n) : ¬ M pat name := fun g => hs (h.2.2.2.2.1 g)

theorem GInv.done {pat name : W} {p n back : Nat} {st : Option Nat} (h : GInv pat name p n st back) (hn : n = name.length) : M pat name ↔ ∀ c ∈ pat.drop p, c.toNat = 42 := by
  subst hn
  obtain ⟨h1, h2, h3, h4⟩ := h
  rw [← M_end]
  cases st with
  | none => rw [h4.2, List.drop_length]
  | some k =>
    obtain ⟨hk, seg, s0, e1, e2, e3, e4, e5⟩ := h4
    rw [e5, e1, e2, List.drop_length, List.append_nil]
    constructor
    · rintro ⟨j, g⟩
      obtain ⟨s1, s2, e, g1, g2⟩ := M_app.1 g
      have hl := M_len e3 e4
      have hl1 := M_len e3 g1
      have e' := congrArg List.length e
      simp only [List.length_drop, List.length_append] at e'
      have : s2 = [] := List.eq_nil_of_length_eq_zero (by omega)
      rw [this] at g2
      exact g2
    · intro g
      exact ⟨0, M_app.2 ⟨s0, [], by simp, e4, g⟩⟩
end Go.Proofs.YthphbdkhbaijlaaDoor.dec

namespace Go.Proofs.YthphbdkhbaijlaaDoor.dec
open Go Go.Cm

attribute [local congr] optK_congr asI_congr asN_congr asB_congr asS_congr asP_congr asA_congr asSL_congr callK_congr castT_congr chk_congr

theorem w64 {n : Int} (h : -9223372036854775808 ≤ n ∧ n ≤ 9223372036854775807) : IntKind.i64.wrap n = n := IntWalk.i64_in n h
theorem NN_big (n : Nat) (h : n ≤ 3000000000000) : n < NN := by rw [NN_eq]; omega
theorem known_s (d : Nat) (H : Heap) : X (d + 1) n_law17_known [] H = some (.bool true, H) := by kernel_rfl

theorem Pick_s (d : Nat) (n m : Int) (H : Heap) (hm : 0 < m) (hm2 : m ≤ 1048576) : ∃ r : Int, X (d + 1) n_hand_Pick [.int .i64 n, .int .i64 m] H = some (.int .i64 r, H) ∧ 0 ≤ r ∧ r < m := by
  rw [hand_Pick_eq, if_neg (by omega)]
  have h1 := Int.tmod_lt_of_pos n hm
  have h2 : -m < Int.tmod n m := by
    have := Int.lt_tmod_of_pos n hm
    omega
  simp only [decide_eq_true_eq]
  by_cases h : Int.tmod n m < 0
  · rw [if_pos h, w64 (by omega)]
    exact ⟨_, rfl, by omega, by omega⟩
  · rw [if_neg h]
    exact ⟨_, rfl, by omega, h1⟩

theorem bt_42 {c : UInt8} : (c.toNat : Int) = 42 ↔ c.toNat = 42 := by omega

theorem trimL (d : Nat) (H : Heap) : ∀ (m : Nat) (w : W), w.length < m → ∃ r : W, strings_trimLeftByte_p100 d m (S w) 42 H = some (.string (S r), H) ∧ (r = [] ↔ ∀ c ∈ w, c.toNat = 42) := by
  intro m
  induction m with
  | zero => intro w h; omega
  | succ m ih =>
    intro w hw
    rw [strings_trimLeftByte_p100_s, slenS]
    simp only [decide_eq_true_eq]
    cases w with
    | nil =>
      rw [if_neg (show ¬ (0 : Int) < (([] : W).length : Int) by simp), strings_trimLeftByte_p100001_eq, if_neg (by simp)]
      exact ⟨[], rfl, by simp⟩
    | cons c w =>
      simp only [List.length_cons] at hw ⊢
      rw [if_pos (show (0 : Int) < ((w.length + 1 : Nat) : Int) by omega), if_pos (by omega), btS (l := c :: w) (i := 0) (c := c) rfl, strings_trimLeftByte_p100001_eq]
      simp only [decide_eq_true_eq, bt_42]
      by_cases hc : c.toNat = 42
      · rw [if_pos hc, slenS, if_pos (by simp only [List.length_cons]; omega), sSubS]
        have e : ((c :: w).take (c :: w).length).drop 1 = w := by rw [List.take_length]; rfl
        rw [e]
        obtain ⟨r, h1, h2⟩ := ih w (by omega)
        exact ⟨r, h1, by simp [h2, hc]⟩
      · rw [if_neg hc]
        exact ⟨c :: w, rfl, by simp [hc]⟩

theorem trimR (d : Nat) (H : Heap) : ∀ (m : Nat) (w : W), w.length < m → w.length ≤ 1048576 → ∃ r : W, strings_trimRightByte_p100 d m (S w) 42 H = some (.string (S r), H) ∧ ((∀ c ∈ r, c.toNat = 42) ↔ ∀ c ∈ w, c.toNat = 42) ∧ r.length ≤ w.length := by
  intro m
  induction m with
  | zero => intro w h; omega
  | succ m ih =>
    intro w hw hb
    rw [strings_trimRightByte_p100_s, slenS]
    simp only [decide_eq_true_eq]
    rcases snoc_cases w with rfl | ⟨w, c, rfl⟩
    · rw [if_neg (show ¬ (0 : Int) < (([] : W).length : Int) by simp), strings_trimRightByte_p100001_eq, if_neg (by simp)]
      exact ⟨[], rfl, by simp, by simp⟩
    · simp only [List.length_append, List.length_cons, List.length_nil] at hw hb ⊢
      have e1 : (((w.length + (0 + 1) : Nat) : Int) - 1) = (w.length : Int) := by omega
      rw [e1, w64 (by omega), if_pos (show (0 : Int) < ((w.length + (0 + 1) : Nat) : Int) by omega), if_pos (by omega), Int.toNat_natCast, btS (l := w ++ [c]) (i := w.length) (c := c) (by simp), strings_trimRightByte_p100001_eq]
      simp only [decide_eq_true_eq, bt_42]
      by_cases hc : c.toNat = 42
      · rw [if_pos hc, slenS]
        simp only [List.length_append, List.length_cons, List.length_nil]
        rw [e1, w64 (by omega), if_pos (by omega), Int.toNat_natCast, sSubS]
        have e : ((w ++ [c]).take w.length).drop 0 = w := by simp
        rw [e]
        obtain ⟨r, h1, h2, h3⟩ := ih w (by omega) (by omega)
        refine ⟨r, h1, h2.trans ?_, by omega⟩
        simp only [List.mem_append, List.mem_singleton]
        constructor
        · rintro h x (hx | rfl)
          · exact h x hx
          · exact hc
        · intro h x hx; exact h x (.inl hx)
      · rw [if_neg hc]
        exact ⟨w ++ [c], rfl, Iff.rfl, by simp⟩

theorem Trim_s (d : Nat) (w : W) (H : Heap) (hw : w.length ≤ 1048576) : ∃ r : W, X (d + 2) n_strings_Trim [.string (S w), .string (S [42])] H = some (.string (S r), H) ∧ (r = [] ↔ ∀ c ∈ w, c.toNat = 42) := by
  rw [strings_Trim_eq, sEqS, sEqS]
  by_cases h0 : w = []
  · subst h0
    rw [if_pos (by rfl), strings_Trim_p101_eq, if_pos rfl]
    exact ⟨[], rfl, by simp⟩
  · rw [if_neg (by simpa using h0), show (([42] : List UInt8) == []) = false from rfl, strings_Trim_p101_eq, if_neg (by simp), if_pos (by rfl), if_pos (by decide), strings_Trim_p1101_eq]
    rw [show bt (S [42]) 0 = 42 from rfl, if_pos (by rfl), if_pos (by decide), strings_trimRightByte_eq]
    obtain ⟨r, h1, h2, h3⟩ := trimR d H NN w (NN_big _ (by omega)) hw
    rw [h1]
    simp only [callK_s, asS_s]
    rw [if_pos (by decide), strings_trimLeftByte_eq]
    obtain ⟨r', g1, g2⟩ := trimL d H NN r (NN_big _ (by omega))
    rw [g1]
    exact ⟨r', rfl, g2.trans h2⟩

/-- the star to come back to, as the program has it -/
def stI : Option Nat → Int
  | none => -1
  | some k => (k : Int)

theorem match_loop (d : Nat) (pat name : W) (hp : pat.length ≤ 1048576) (hn : name.length ≤ 1048576) (H : Heap) : ∀ (m p n back : Nat) (st : Option Nat), GInv pat name p n st back →
    (name.length - back) * (name.length + pat.length + 1) + (name.length - n) + (pat.length - p) < m →
    ∃ b : Bool, keys_Match_p11100 (d + 2) m (S pat) (S name) (p : Int) (n : Int) (stI st) (back : Int) H = some (.bool b, H) ∧ (b = true ↔ M pat name) := by
  intro m
  induction m with
  | zero => intro p n back st _ h; omega
  | succ m ih =>
    intro p n back st hg hm
    have hg1 := hg.1
    have hg2 := hg.2.1
    have hg3 := hg.2.2.1
    rw [keys_Match_p11100_s, slenS, slenS]
    simp only [decide_eq_true_eq]
    by_cases h1 : n < name.length
    · rw [if_pos (by omega)]
      have hx : name[n]? = some name[n] := List.getElem?_eq_getElem h1
      generalize hxx : name[n] = x at hx
      -- nothing fits here
      have stuck : Stuck pat name p n → ∃ b : Bool, keys_Match_p1110001001011 (d + 2) m (S pat) (S name) (p : Int) (n : Int) (stI st) (back : Int) false H = some (.bool b, H) ∧ (b = true ↔ M pat name) := by
        intro hs
        rw [keys_Match_p1110001001011_eq, if_neg (by simp)]
        simp only [decide_eq_true_eq]
        cases st with
        | none =>
          rw [if_neg (show ¬ (0 : Int) ≤ stI none by simp [stI])]
          exact ⟨false, rfl, by simp [hg.no hs]⟩
        | some k =>
          rw [if_pos (show (0 : Int) ≤ stI (some k) by simp [stI])]
          have hb := hg.back h1 hs
          have hb1 := hb.1
          show ∃ b : Bool, keys_Match_p11100 (d + 2) m (S pat) (S name) (IntKind.wrap .i64 ((k : Int) + 1)) (IntKind.wrap .i64 ((back : Int) + 1)) (stI (some k)) (IntKind.wrap .i64 ((back : Int) + 1)) H = some (.bool b, H) ∧ (b = true ↔ M pat name)
          rw [w64 (by omega), w64 (by omega), show ((k : Int) + 1) = ((k + 1 : Nat) : Int) by omega, show ((back : Int) + 1) = ((back + 1 : Nat) : Int) by omega]
          refine ih (k + 1) (back + 1) (back + 1) (some k) hb ?_
          have e : (name.length - back) = (name.length - (back + 1)) + 1 := by omega
          rw [e, Nat.succ_mul] at hm
          omega
      by_cases h2 : p < pat.length
      · have hc : pat[p]? = some pat[p] := List.getElem?_eq_getElem h2
        generalize hcc : pat[p] = c at hc
        rw [if_pos (by omega), if_pos (by omega), Int.toNat_natCast, btS hc, keys_Match_p1110001001_eq]
        simp only [decide_eq_true_eq, bt_42]
        by_cases h3 : c.toNat = 42
        · rw [if_pos h3, w64 (by omega), show ((p : Int) + 1) = ((p + 1 : Nat) : Int) by omega]
          refine ih (p + 1) n n (some p) (hg.star hc h3) ?_
          have := Nat.mul_le_mul_right (name.length + pat.length + 1) (show name.length - n ≤ name.length - back by omega)
          omega
        · rw [if_neg h3, slenS, slenS, if_pos (by omega), if_pos (by omega), Int.toNat_natCast, Int.toNat_natCast, btS hc, btS hx]
          have step : (c.toNat = 63 ∨ c = x) → ∃ b : Bool, keys_Match_p1110001001011 (d + 2) m (S pat) (S name) (p : Int) (n : Int) (stI st) (back : Int) true H = some (.bool b, H) ∧ (b = true ↔ M pat name) := by
            intro hh
            rw [keys_Match_p1110001001011_eq, if_pos rfl, w64 (by omega), w64 (by omega), show ((p : Int) + 1) = ((p + 1 : Nat) : Int) by omega, show ((n : Int) + 1) = ((n + 1 : Nat) : Int) by omega]
            exact ih (p + 1) (n + 1) back st (hg.step hc hx h3 hh) (by omega)
          by_cases h4 : c.toNat = 63
          · rw [if_pos (show ((c.toNat : Int) = 63) by omega)]
            exact step (.inl h4)
          · rw [if_neg (show ¬ ((c.toNat : Int) = 63) by omega), if_pos (by omega), if_pos (by omega)]
            by_cases h5 : c = x
            · rw [show decide ((c.toNat : Int) = (x.toNat : Int)) = true from decide_eq_true (by rw [h5])]
              exact step (.inr h5)
            · rw [show decide ((c.toNat : Int) = (x.toNat : Int)) = false from decide_eq_false (fun e => h5 (UInt8.toNat_inj.1 (by omega)))]
              exact stuck (stuck_byte hc hx h3 (by simp [h4, h5]))
      · rw [if_neg (by omega), keys_Match_p1110001001_eq, if_neg (by simp), slenS]
        simp only [decide_eq_true_eq]
        rw [if_neg (by omega)]
        exact stuck (stuck_end (by omega) h1)
    · rw [if_neg (by omega), if_pos (by omega), Int.toNat_natCast, sSubS]
      have e : (pat.take pat.length).drop p = pat.drop p := by rw [List.take_length]
      rw [e]
      obtain ⟨r, t1, t2⟩ := Trim_s d (pat.drop p) H (by simp; omega)
      rw [t1]
      simp only [callK_s, asS_s, sEqS]
      refine ⟨_, rfl, ?_⟩
      rw [hg.done (by omega), ← t2]
      cases r <;> simp

theorem Match_s (d : Nat) (pat name : W) (hp : pat.length ≤ 1048576) (hn : name.length ≤ 1048576) (H : Heap) : ∃ b : Bool, X (d + 3) n_keys_Match [.string (S pat), .string (S name)] H = some (.bool b, H) ∧ (b = true ↔ M pat name) := by
  rw [keys_Match_eq]
  refine match_loop d pat name hp hn H NN 0 0 0 none (GInv.start _ _) (NN_big _ ?_)
  have : (name.length - 0) * (name.length + pat.length + 1) ≤ 1048576 * (1048576 + 1048576 + 1) := Nat.mul_le_mul (by omega) (by omega)
  omega
end Go.Proofs.YthphbdkhbaijlaaDoor.dec

namespace Go.Proofs.YthphbdkhbaijlaaDoor.dec
open Go Go.Cm

attribute [local congr] optK_congr asI_congr asN_congr asB_congr asS_congr asP_congr asA_congr asSL_congr callK_congr castT_congr chk_congr

def bools (l : List Bool) : List Value := l.map .bool
/-- a row of bools that owns its block -/
def Row (H : Heap) (b : Nat) (l : List Bool) : Prop := b < H.next ∧ ∃ o st, H.get b = some (.cells (bools l) t_bool o 0 st)
def rowS (b n : Nat) : Sl := ⟨some ⟨b, 0, none⟩, n, n⟩

theorem Row.ld {H : Heap} {b : Nat} {l : List Bool} (h : Row H b l) {k : Nat} {x : Bool} (hk : l[k]? = some x) : H.ld1 ⟨b, k, none⟩ = some (.bool x) := by
  obtain ⟨_, o, st, h⟩ := h
  rw [ld1_s h]
  simp [bools, hk]
theorem Row.st {H : Heap} {b : Nat} {l : List Bool} (h : Row H b l) (k : Nat) (hk : k < l.length) (x : Bool) : ∃ H', H.st1 ⟨b, k, none⟩ (.bool x) = some H' ∧ Row H' b (l.set k x) ∧ Keep (· = b) H H' := by
  obtain ⟨h1, o, st, h⟩ := h
  refine ⟨_, st1_s h (by simpa [bools] using hk) (by omega), ⟨by simpa using h1, o, st, ?_⟩, Keep.put _ _ _ rfl⟩
  simp [bools, List.map_set]
theorem Row.keep {S : Nat → Prop} {H H' : Heap} {b : Nat} {l : List Bool} (h : Row H b l) (hk : Keep S H H') (hS : ¬ S b) : Row H' b l := by
  obtain ⟨h1, o, st, h⟩ := h
  exact ⟨Nat.lt_of_lt_of_le h1 hk.1, o, st, by rw [hk.2 b h1 hS]; exact h⟩

theorem rep_false (n : Nat) : rep [.bool false] n = bools (List.replicate n false) := by
  induction n with
  | zero => rfl
  | succ n ih => rw [rep, ih]; rfl
theorem mkSl_s (H : Heap) (n : Nat) (hn : n ≤ 1048577) (K : Value → Heap → Res) : effK (.mkSl t_bool 1 1 [.bool false]) [.int .i64 (n : Int), .int .i64 (n : Int)] H K = K (rowS H.next n).v (H.new (.cells (bools (List.replicate n false)) t_bool false 0 false)) := by
  simp only [effK, asN_s]
  rw [if_pos (by omega), Int.toNat_natCast, rep_false]
  rfl

/-- a row says which beginnings of the name fit -/
def Says (p name : W) (l : List Bool) : Prop := l.length = name.length + 1 ∧ ∀ k x, l[k]? = some x → (x = true ↔ M p (name.take k))

theorem take_snoc {name : W} {k : Nat} {x : UInt8} (h : name[k]? = some x) : name.take (k + 1) = name.take k ++ [x] := by
  rw [List.take_add_one, h]; rfl
theorem snoc_inj {t t' : W} {x x' : UInt8} (h : t ++ [x] = t' ++ [x']) : t = t' ∧ x = x' := by
  have := List.append_inj' h rfl
  simpa using this

/-- half a row -/
def Half (p name : W) (l : List Bool) (k : Nat) : Prop := l.length = name.length + 1 ∧ (∀ j x, j < k → l[j]? = some x → (x = true ↔ M p (name.take j))) ∧ ∀ j x, k ≤ j → l[j]? = some x → x = false
theorem Half.step {p name : W} {l : List Bool} {k : Nat} {b : Bool} (h : Half p name l k) (hk : k < l.length) (hb : b = true ↔ M p (name.take k)) : Half p name (l.set k b) (k + 1) := by
  obtain ⟨h1, h2, h3⟩ := h
  refine ⟨by simpa using h1, fun j x hj hx => ?_, fun j x hj hx => ?_⟩
  · rw [List.getElem?_set] at hx
    by_cases e : k = j
    · subst e
      rw [if_pos rfl, if_pos hk] at hx
      cases hx
      exact hb
    · rw [if_neg e] at hx
      exact h2 j x (by omega) hx
  · rw [List.getElem?_set, if_neg (by omega)] at hx
    exact h3 j x (by omega) hx
theorem Half.same {p name : W} {l : List Bool} {k : Nat} (h : Half p name l k) (hk : k < l.length) (hb : ¬ M p (name.take k)) : Half p name l (k + 1) := by
  obtain ⟨h1, h2, h3⟩ := h
  refine ⟨h1, fun j x hj hx => ?_, fun j x hj hx => h3 j x (by omega) hx⟩
  by_cases e : j = k
  · subst e
    rw [h3 j x (Nat.le_refl _) hx]
    simp [hb]
  · exact h2 j x (by omega) hx

theorem inner_loop (d m0 : Nat) (pat name : W) (hp : pat.length ≤ 1048576) (hn : name.length ≤ 1048576) (i : Nat) (c : UInt8) (hc : pat[i]? = some c) (b5 b7 : Nat) (hne : b5 ≠ b7) (l5 : List Bool) (h5 : Says (pat.take i) name l5) :
    ∀ (m k : Nat) (l7 : List Bool) (H : Heap), k ≤ name.length + 1 → name.length + 1 - k < m → Half (pat.take (i + 1)) name l7 k → Row H b5 l5 → Row H b7 l7 →
      ∃ l7' H', ref15_Match_p11101001001010 d m0 m (S pat) (S name) (rowS b5 (name.length + 1)) (i : Int) (rowS b7 (name.length + 1)) (k : Int) H = ref15_Match_p111010 d m0 (S pat) (S name) (rowS b7 (name.length + 1)) ((i + 1 : Nat) : Int) H' ∧ Says (pat.take (i + 1)) name l7' ∧ Row H' b7 l7' ∧ Keep (· = b7) H H' := by
  intro m
  have hi := (List.getElem?_eq_some_iff.1 hc).1
  have ep : pat.take (i + 1) = pat.take i ++ [c] := take_snoc hc
  induction m with
  | zero => intro k l7 H h1 h2; omega
  | succ m ih =>
    intro k l7 H hk hm hh r5 r7
    have hl7 := hh.1
    have hl5 := h5.1
    rw [ref15_Match_p11101001001010_s, slenS, slenS]
    simp only [decide_eq_true_eq]
    by_cases hkn : k ≤ name.length
    · rw [if_pos (by omega), if_pos (by omega), Int.toNat_natCast, btS hc]
      have hx5 : l5[k]? = some l5[k] := List.getElem?_eq_getElem (by have := h5.1; omega)
      have s5 := h5.2 k _ hx5
      -- a byte of the row is written
      have put : ∀ b : Bool, (b = true ↔ M (pat.take (i + 1)) (name.take k)) → ∃ l7' H', (optK (rowS b7 (name.length + 1)).a fun a4 => if 0 ≤ (k : Int) ∧ (k : Int) < ((rowS b7 (name.length + 1)).n : Int) then optK (Heap.st1 H (ap a4 (k * 1)) (.bool b)) fun H5 => ref15_Match_p11101001001010011 d m0 m (S pat) (S name) (rowS b5 (name.length + 1)) (i : Int) (rowS b7 (name.length + 1)) (k : Int) H5 else none) = ref15_Match_p111010 d m0 (S pat) (S name) (rowS b7 (name.length + 1)) ((i + 1 : Nat) : Int) H' ∧ Says (pat.take (i + 1)) name l7' ∧ Row H' b7 l7' ∧ Keep (· = b7) H H' := by
        intro b hb
        obtain ⟨H1, e1, e2, e3⟩ := r7.st k (by omega) b
        simp only [rowS, optK_s, ap, Nat.zero_add, Nat.mul_one, Int.toNat_natCast]
        rw [if_pos (by omega), e1]
        simp only [optK_s]
        rw [ref15_Match_p11101001001010011_eq, w64 (by omega), show ((k : Int) + 1) = ((k + 1 : Nat) : Int) by omega]
        obtain ⟨l7', H', g1, g2, g3, g4⟩ := ih (k + 1) (l7.set k b) H1 (by omega) (by omega) (hh.step (by omega) hb) (r5.keep e3 hne) e2
        exact ⟨l7', H', g1, g2, g3, e3.trans g4 fun _ _ h => h⟩
      by_cases h42 : c.toNat = 42
      · rw [if_pos (show (c.toNat : Int) = 42 by omega)]
        simp only [rowS, optK_s, ap, Nat.zero_add, Nat.mul_one, Int.toNat_natCast]
        rw [if_pos (by omega), r5.ld hx5]
        simp only [optK_s, asB_s]
        have hD : M (pat.take (i + 1)) (name.take k) ↔ M (pat.take i) (name.take k) ∨ ∃ t' x, name.take k = t' ++ [x] ∧ M (pat.take (i + 1)) t' := by rw [ep]; exact D_star h42
        by_cases hb : l5[k] = true
        · rw [if_pos hb]
          have := put true (by simp only [true_iff]; exact hD.2 (.inl (s5.1 hb)))
          simpa only [rowS, optK_s, ap, Nat.zero_add, Nat.mul_one, Int.toNat_natCast] using this
        · rw [if_neg hb]
          have hno : ¬ M (pat.take i) (name.take k) := fun g => hb (s5.2 g)
          by_cases hk0 : 0 < k
          · obtain ⟨j, rfl⟩ : ∃ j, k = j + 1 := ⟨k - 1, by omega⟩
            have hx : name[j]? = some name[j] := List.getElem?_eq_getElem (by omega)
            rw [if_pos (by omega), show (((j + 1 : Nat) : Int) - 1) = (j : Int) by omega, w64 (by omega), if_pos (by omega), Int.toNat_natCast]
            have hx7 : l7[j]? = some l7[j] := List.getElem?_eq_getElem (by omega)
            rw [r7.ld hx7]
            simp only [optK_s, asB_s]
            have s7 := hh.2.1 j _ (by omega) hx7
            have := put l7[j] (by
              rw [s7, hD, take_snoc hx]
              constructor
              · intro g; exact .inr ⟨_, _, rfl, g⟩
              · rintro (g | ⟨t', y, e, g⟩)
                · rw [take_snoc hx] at hno; exact absurd g hno
                · obtain ⟨rfl, _⟩ := snoc_inj e; exact g)
            simpa only [rowS, optK_s, ap, Nat.zero_add, Nat.mul_one, Int.toNat_natCast] using this
          · have e0 : k = 0 := by omega
            subst e0
            rw [if_neg (by omega)]
            have := put false (by
              simp only [Bool.false_eq_true, false_iff]
              rw [hD]
              rintro (g | ⟨t', y, e, g⟩)
              · exact hno g
              · simp at e)
            simpa only [rowS, optK_s, ap, Nat.zero_add, Nat.mul_one, Int.toNat_natCast] using this
      · rw [if_neg (show ¬ (c.toNat : Int) = 42 by omega)]
        have hD : M (pat.take (i + 1)) (name.take k) ↔ ∃ t' x, name.take k = t' ++ [x] ∧ (c.toNat = 63 ∨ c = x) ∧ M (pat.take i) t' := by rw [ep]; exact D_one h42
        by_cases hk0 : 0 < k
        · obtain ⟨j, rfl⟩ : ∃ j, k = j + 1 := ⟨k - 1, by omega⟩
          have hx : name[j]? = some name[j] := List.getElem?_eq_getElem (by omega)
          generalize hxx : name[j] = x at hx
          have hD2 : M (pat.take (i + 1)) (name.take (j + 1)) ↔ (c.toNat = 63 ∨ c = x) ∧ M (pat.take i) (name.take j) := by
            rw [hD, take_snoc hx]
            constructor
            · rintro ⟨t', y, e, g⟩
              obtain ⟨rfl, rfl⟩ := snoc_inj e
              exact g
            · intro g; exact ⟨_, _, rfl, g⟩
          have hx4 : l5[j]? = some l5[j] := List.getElem?_eq_getElem (by have := h5.1; omega)
          have s4 := h5.2 j _ hx4
          rw [if_pos (by omega)]
          simp only [rowS, optK_s, ap, Nat.zero_add, Nat.mul_one, Int.toNat_natCast]
          rw [show (((j + 1 : Nat) : Int) - 1) = (j : Int) by omega, w64 (by omega), if_pos (by omega), Int.toNat_natCast, r5.ld hx4]
          simp only [optK_s, asB_s]
          by_cases hb : l5[j] = true
          · rw [if_pos hb, if_pos (by omega)]
            try simp only [Int.toNat_natCast]
            by_cases h63 : c.toNat = 63
            · rw [if_pos (show (c.toNat : Int) = 63 by omega)]
              have := put true (by simp only [true_iff]; exact hD2.2 ⟨.inl h63, s4.1 hb⟩)
              simpa only [rowS, optK_s, ap, Nat.zero_add, Nat.mul_one, Int.toNat_natCast] using this
            · rw [if_neg (show ¬ (c.toNat : Int) = 63 by omega), if_pos (by omega), if_pos (by omega), btS hx]
              have := put (decide ((c.toNat : Int) = (x.toNat : Int))) (by
                rw [decide_eq_true_eq, hD2]
                constructor
                · intro e; exact ⟨.inr (UInt8.toNat_inj.1 (by omega)), s4.1 hb⟩
                · rintro ⟨g | rfl, _⟩
                  · exact absurd g h63
                  · rfl)
              simpa only [rowS, optK_s, ap, Nat.zero_add, Nat.mul_one, Int.toNat_natCast] using this
          · rw [if_neg hb]
            have := put false (by
              simp only [Bool.false_eq_true, false_iff]
              rw [hD2]
              rintro ⟨_, g⟩
              exact hb (s4.2 g))
            simpa only [rowS, optK_s, ap, Nat.zero_add, Nat.mul_one, Int.toNat_natCast] using this
        · have e0 : k = 0 := by omega
          subst e0
          rw [if_neg (by omega), ref15_Match_p11101001001010011_eq, w64 (by omega), show (((0 : Nat) : Int) + 1) = ((0 + 1 : Nat) : Int) by omega]
          exact ih (0 + 1) l7 H (by omega) (by omega) (hh.same (by omega) (by
            rw [hD]
            rintro ⟨t', y, e, _⟩
            simp at e)) r5 r7
    · rw [if_neg (by omega), w64 (by omega), show ((i : Int) + 1) = ((i + 1 : Nat) : Int) by omega]
      refine ⟨l7, H, rfl, ⟨hl7, fun j x hx => hh.2.1 j x ?_ hx⟩, r7, Keep.refl _⟩
      have := (List.getElem?_eq_some_iff.1 hx).1
      omega

theorem outer_loop (d B : Nat) (pat name : W) (hp : pat.length ≤ 1048576) (hn : name.length ≤ 1048576) : ∀ (m i : Nat) (b5 : Nat) (l5 : List Bool) (H : Heap), i ≤ pat.length → pat.length - i < m → Says (pat.take i) name l5 → Row H b5 l5 → B ≤ b5 →
    ∃ b H', ref15_Match_p111010 d m (S pat) (S name) (rowS b5 (name.length + 1)) (i : Int) H = some (.bool b, H') ∧ (b = true ↔ M pat name) ∧ Keep (fun k => B ≤ k) H H' := by
  intro m
  induction m with
  | zero => intro i b5 l5 H h1 h2; omega
  | succ m ih =>
    intro i b5 l5 H hi hm h5 r5 hB
    have hl5 := h5.1
    rw [ref15_Match_p111010_s, slenS, slenS]
    simp only [decide_eq_true_eq]
    by_cases h : i < pat.length
    · rw [if_pos (by omega), w64 (by omega), show ((name.length : Int) + 1) = ((name.length + 1 : Nat) : Int) by omega, mkSl_s _ _ (by omega)]
      simp only [Sl.v, asSL_s]
      have hc : pat[i]? = some pat[i] := List.getElem?_eq_getElem h
      have k7 : Keep (fun _ => False) H (H.new (.cells (bools (List.replicate (name.length + 1) false)) t_bool false 0 false)) := Keep.new _ _
      have r7 : Row (H.new (.cells (bools (List.replicate (name.length + 1) false)) t_bool false 0 false)) H.next (List.replicate (name.length + 1) false) := ⟨by simp, false, false, by simp⟩
      have hlt := r5.1
      obtain ⟨l7', H', g1, g2, g3, g4⟩ := inner_loop d m pat name hp hn i _ hc b5 H.next (by omega) l5 h5 NN 0 _ _ (by omega) (NN_big _ (by omega)) ⟨by simp, fun j x hj => absurd hj (Nat.not_lt_zero _), fun j x _ hx => by
        rw [List.getElem?_replicate] at hx
        split at hx <;> simp_all⟩ (r5.keep k7 id) r7
      have g1' := g1
      rw [show ((0 : Nat) : Int) = 0 from rfl] at g1'
      rw [show (⟨(rowS H.next (name.length + 1)).a, (rowS H.next (name.length + 1)).n, (rowS H.next (name.length + 1)).c⟩ : Sl) = rowS H.next (name.length + 1) from rfl, g1']
      obtain ⟨b, H2, f1, f2, f3⟩ := ih (i + 1) H.next l7' H' (by omega) (by omega) g2 g3 (by omega)
      exact ⟨b, H2, f1, f2, ((k7.mono fun _ _ h => h.elim).trans g4 fun k _ e => by show B ≤ k; omega).trans f3 fun _ _ h => h⟩
    · rw [if_neg (by omega)]
      simp only [rowS, optK_s, ap, Nat.zero_add, Nat.mul_one, Int.toNat_natCast]
      have hx : l5[name.length]? = some l5[name.length] := List.getElem?_eq_getElem (by have := h5.1; omega)
      rw [if_pos (by omega), r5.ld hx]
      simp only [optK_s, asB_s]
      refine ⟨_, H, rfl, ?_, Keep.refl _⟩
      have := h5.2 _ _ hx
      rwa [List.take_of_length_le (by omega), List.take_of_length_le (by omega)] at this

theorem RMatch_s (d : Nat) (pat name : W) (hp : pat.length ≤ 1048576) (hn : name.length ≤ 1048576) (H : Heap) : ∃ b H', X (d + 1) n_ref15_Match [.string (S pat), .string (S name)] H = some (.bool b, H') ∧ (b = true ↔ M pat name) ∧ Keep (fun _ => False) H H' := by
  rw [ref15_Match_eq, slenS, w64 (by omega), show ((name.length : Int) + 1) = ((name.length + 1 : Nat) : Int) by omega, mkSl_s _ _ (by omega)]
  simp only [Sl.v, asSL_s]
  have k7 : Keep (fun _ => False) H (H.new (.cells (bools (List.replicate (name.length + 1) false)) t_bool false 0 false)) := Keep.new _ _
  have r7 : Row (H.new (.cells (bools (List.replicate (name.length + 1) false)) t_bool false 0 false)) H.next (List.replicate (name.length + 1) false) := ⟨by simp, false, false, by simp⟩
  obtain ⟨H1, e1, e2, e3⟩ := r7.st 0 (by simp) true
  simp only [rowS, optK_s, ap, Nat.zero_add]
  rw [if_pos (by omega), e1]
  simp only [optK_s]
  obtain ⟨b, H', f1, f2, f3⟩ := outer_loop d H.next pat name hp hn NN 0 H.next ((List.replicate (name.length + 1) false).set 0 true) H1 (by omega) (NN_big _ (by omega)) ⟨by simp, fun k x hx => by
    rw [List.take_zero, M_nil]
    rw [List.getElem?_set] at hx
    by_cases e : 0 = k
    · subst e
      simp at hx
      subst hx
      simp
    · rw [if_neg e, List.getElem?_replicate] at hx
      split at hx
      · cases hx
        simp only [Bool.false_eq_true, false_iff]
        intro h
        have := congrArg List.length h
        simp at this
        rcases this with h | h
        · omega
        · subst h; simp at *; omega
      · cases hx⟩ e2 (Nat.le_refl _)
  rw [show (⟨some ⟨H.next, 0, none⟩, name.length + 1, name.length + 1⟩ : Sl) = rowS H.next (name.length + 1) from rfl, show (0 : Int) = ((0 : Nat) : Int) from rfl, f1]
  exact ⟨b, H', rfl, f2, ((k7.mono (T := fun k => H.next ≤ k) fun _ _ h => h.elim).trans e3 fun k _ e => by show H.next ≤ k; omega).trans f3 (fun _ _ h => h) |>.mono fun k hk h => by omega⟩
end Go.Proofs.YthphbdkhbaijlaaDoor.dec

namespace Go.Proofs.YthphbdkhbaijlaaDoor.dec
open Go Go.Cm

attribute [local congr] optK_congr asI_congr asN_congr asB_congr asS_congr asP_congr asA_congr asSL_congr callK_congr castT_congr chk_congr

/-- an argument that is a slice of numbers -/
def Ints (H : Heap) (x : Sl) (l : List Int) : Prop := x.n ≤ l.length ∧ ∀ (i : Nat) n, i < x.n → l[i]? = some n → ∃ b o, x.a = some ⟨b, o, none⟩ ∧ H.ld1 ⟨b, o + i, none⟩ = some (.int .i64 n)

theorem partL_pick {lit : List Value} {r : Int} {m : Nat} (h0 : 0 ≤ r) (h : r < (m : Int)) (hl : lit.length = m) (hv : ∀ v ∈ lit, ∃ u : W, v = .string (S u) ∧ u.length ≤ 1) : ∃ u : W, partL lit (r.toNat * 1) 1 false = some (.string (S u)) ∧ u.length ≤ 1 := by
  have hr : r.toNat < lit.length := by omega
  obtain ⟨u, hu, hu2⟩ := hv _ (List.getElem_mem hr)
  exact ⟨u, by simp [partL, List.getElem?_eq_getElem hr, hu], hu2⟩

theorem S_lst_eq (s : ByteArray) : S (lst s) = s := rfl

theorem match_body (d : Nat) (p s : W) (hp : p.length ≤ 1048576) (hs : s.length ≤ 1048576) (H : Heap) : ∃ H', law17_KeysMatch_p11 (d + 3) (S p) (S s) H = some (.bool true, H') := by
  rw [law17_KeysMatch_p11_eq, known_s]
  simp only [callK_s, asB_s, if_true]
  obtain ⟨b, e, h⟩ := Match_s d p s hp hs H
  rw [e]
  simp only [callK_s, asB_s]
  obtain ⟨b', H', e', h', _⟩ := RMatch_s (d + 2) p s hp hs H
  rw [e']
  simp only [callK_s, asB_s]
  refine ⟨H', ?_⟩
  have : b = b' := by
    cases b <;> cases b' <;> simp_all
  rw [this, beq_self_eq_true]

theorem name_loop (d : Nat) (H : Heap) (x : Sl) (l : List Int) (hx : Ints H x l) (p : W) (hp : p.length ≤ 1048576) : ∀ (m i : Nat) (w : W), i ≤ x.n → x.n - i < m → w.length ≤ i → i ≤ 14 →
    ∃ H', law17_KeysMatch_p101011110 (d + 3) m x (S p) (S w) (i : Int) H = some (.bool true, H') := by
  intro m
  have hle := hx.1
  induction m with
  | zero => intro i w h1 h2; omega
  | succ m ih =>
    intro i w h1 h2 hw h14
    rw [law17_KeysMatch_p101011110_s]
    simp only [decide_eq_true_eq]
    have stop : ∃ H', law17_KeysMatch_p101011110001 (d + 3) m x (S p) (S w) (i : Int) false H = some (.bool true, H') := by
      rw [law17_KeysMatch_p101011110001_eq, if_neg (by simp)]
      exact match_body d p w hp (by omega) H
    by_cases hi : i < x.n
    · rw [if_pos (by omega)]
      by_cases h12 : i < 14
      · rw [show decide ((i : Int) < 14) = true from decide_eq_true (by omega), law17_KeysMatch_p101011110001_eq, if_pos rfl]
        have hc : l[i]? = some l[i] := List.getElem?_eq_getElem (by omega)
        obtain ⟨b, o, e1, e2⟩ := hx.2 i _ hi hc
        obtain ⟨r, p1, p2, p3⟩ := Pick_s (d + 2) l[i] 2 H (by omega) (by omega)
        simp only [e1, optK_s, ap, Int.toNat_natCast, Nat.mul_one, e2, asI_s, p1, callK_s]
        rw [if_pos (by omega), if_pos (by omega)]
        obtain ⟨u, hu, hu2⟩ := partL_pick (lit := [.string (S [97]), .string (S [98])]) (m := 2) p2 p3 rfl (by
          intro v hv
          simp only [List.mem_cons, List.not_mem_nil, or_false] at hv
          rcases hv with rfl | rfl <;> exact ⟨_, rfl, by decide⟩)
        simp only [Nat.mul_one] at hu
        simp only [hu, optK_s, asS_s, slenS, sCatS]
        rw [if_pos (by omega), w64 (by omega), show ((i : Int) + 1) = ((i + 1 : Nat) : Int) by omega]
        exact ih (i + 1) (w ++ u) (by omega) (by omega) (by simp; omega) (by omega)
      · rw [show decide ((i : Int) < 14) = false from decide_eq_false (by omega)]
        exact stop
    · rw [if_neg (by omega)]
      exact stop

theorem pat_loop (d : Nat) (H : Heap) (x x1 : Sl) (l l1 : List Int) (hx : Ints H x l) (hx1 : Ints H x1 l1) (hl1 : x1.n ≤ 1048576) : ∀ (m i : Nat) (w : W), i ≤ x.n → x.n - i < m → w.length ≤ i → i ≤ 12 →
    ∃ H', law17_KeysMatch_p101011010 (d + 3) m x x1 (S w) (S []) (i : Int) H = some (.bool true, H') := by
  intro m
  have hle := hx.1
  induction m with
  | zero => intro i w h1 h2; omega
  | succ m ih =>
    intro i w h1 h2 hw h14
    rw [law17_KeysMatch_p101011010_s]
    simp only [decide_eq_true_eq]
    have stop : ∃ H', law17_KeysMatch_p101011010001 (d + 3) m x x1 (S w) (S []) (i : Int) false H = some (.bool true, H') := by
      rw [law17_KeysMatch_p101011010001_eq, if_neg (by simp)]
      exact name_loop d H x1 l1 hx1 w (by omega) NN 0 [] (by omega) (NN_big _ (by omega)) (by simp) (by omega)
    by_cases hi : i < x.n
    · rw [if_pos (by omega)]
      by_cases h12 : i < 12
      · rw [show decide ((i : Int) < 12) = true from decide_eq_true (by omega), law17_KeysMatch_p101011010001_eq, if_pos rfl]
        have hc : l[i]? = some l[i] := List.getElem?_eq_getElem (by omega)
        obtain ⟨b, o, e1, e2⟩ := hx.2 i _ hi hc
        obtain ⟨r, p1, p2, p3⟩ := Pick_s (d + 2) l[i] 5 H (by omega) (by omega)
        simp only [e1, optK_s, ap, Int.toNat_natCast, Nat.mul_one, e2, asI_s, p1, callK_s]
        rw [if_pos (by omega), if_pos (by omega)]
        obtain ⟨u, hu, hu2⟩ := partL_pick (lit := [.string (S [97]), .string (S [98]), .string (S [42]), .string (S [63]), .string (S [42])]) (m := 5) p2 p3 rfl (by
          intro v hv
          simp only [List.mem_cons, List.not_mem_nil, or_false] at hv
          rcases hv with rfl | rfl | rfl | rfl | rfl <;> exact ⟨_, rfl, by decide⟩)
        simp only [Nat.mul_one] at hu
        simp only [hu, optK_s, asS_s, slenS, sCatS]
        rw [if_pos (by omega), w64 (by omega), show ((i : Int) + 1) = ((i + 1 : Nat) : Int) by omega]
        exact ih (i + 1) (w ++ u) (by omega) (by omega) (by simp; omega) (by omega)
      · rw [show decide ((i : Int) < 12) = false from decide_eq_false (by omega)]
        exact stop
    · rw [if_neg (by omega)]
      exact stop

theorem KeysMatch_s (d : Nat) (x0 x1 : Sl) (l0 l1 : List Int) (s2 s3 : ByteArray) (odd : Bool) (H : Heap) (h0 : Ints H x0 l0) (h1 : Ints H x1 l1) (b0 : x0.n ≤ 1048576) (b1 : x1.n ≤ 1048576) (h2 : (lst s2).length ≤ 1048576) (h3 : (lst s3).length ≤ 1048576) :
    ∃ H', X (d + 4) n_law17_KeysMatch [x0.v, x1.v, .string s2, .string s3, .bool odd] H = some (.bool true, H') := by
  rw [law17_KeysMatch_eq]
  cases odd with
  | true =>
    rw [if_neg (by simp)]
    exact match_body d (lst s2) (lst s3) h2 h3 H
  | false =>
    rw [if_pos (by simp)]
    exact pat_loop d H x0 x1 l0 l1 h0 h1 b1 NN 0 [] (by omega) (NN_big _ (by omega)) (by simp) (by omega)
end Go.Proofs.YthphbdkhbaijlaaDoor.dec

namespace Go.Proofs.YthphbdkhbaijlaaDoor.frame
open Go Go.Cm Go.ChangeShapes Go.WideShapes Go.ChangeAt Go.RowKit

theorem own : ownKnob Tryd.prog.godebug = none := by kernel_rfl
theorem mixed : Tryd.prog.follows .mixedOrders = true := Tryd.checked.mixed

theorem one_le {H : Type} (d : DataW H) : 1 ≤ Rows.uptoBulk d := by
  cases d with
  | lit l => cases l <;> simp [Rows.uptoBulk]
  | _ => simp [Rows.uptoBulk]
theorem length_le {H : Type} (l : List (DataW H)) : l.length ≤ Rows.uptoBulkAll l := by
  induction l with
  | nil => simp [Rows.uptoBulkAll]
  | cons x r ih => have := one_le x; simp only [Rows.uptoBulkAll, List.length_cons]; omega
theorem all_le {H : Type} {d : DataW H} {l : List (DataW H)} (h : d ∈ l) : Rows.uptoBulk d ≤ Rows.uptoBulkAll l := by
  induction l with
  | nil => cases h
  | cons x r ih =>
    simp only [Rows.uptoBulkAll]
    rcases List.mem_cons.1 h with rfl | h
    · omega
    · have := ih h; omega
theorem string_le {H : Type} (s : ByteArray) : (lst s).length + 1 ≤ Rows.uptoBulk (.lit (.string s.data.toList) : DataW H) := by
  simp only [Rows.uptoBulk]
  have : lst s = s.data.toList := rfl
  rw [this]; omega

theorem known_ev : (match callD ⟨autoFn [] Tryd.prog, fun _ => none⟩ 1000 50 13 [] (heap0 0 fun _ => none) with
  | some (.bool b, _) => b
  | _ => false) = true := by kernel_rfl
theorem known : ∃ H1, callD ⟨autoFn [] Tryd.prog, fun _ => none⟩ 1000 50 13 [] (heap0 0 fun _ => none) = some (.bool true, H1) := by
  have h := known_ev
  split at h
  · rename_i b H1 e
    subst h
    exact ⟨H1, e⟩
  · cases h

theorem enters60 : ∀ args w, (callFunc 60 args).run Tryd.prog w = .ok (.enter 60 args) w := enters_of Tryd.func60 (by kernel_rfl) rfl

theorem enters37 : ∀ args w, (callFunc 37 args).run Tryd.prog w = .ok (.enter 37 args) w := enters_of Tryd.func37 (by kernel_rfl) rfl

theorem prog_ok_at {ng : Nat} (hg : 2 ≤ ng) (n0 : Nat) {w : World} (hsh : w.ShapedOpen Tryd.prog) : ProgOK Tryd.prog (startG ng n0 w) [0, 1] dec.C := by
  have hgl : ∀ g ∈ [0, 1], g < (startG ng n0 w).ng := fun g h => by
    show g < ng
    simp only [List.mem_cons, List.not_mem_nil, or_false] at h
    omega
  refine ⟨hgl, fun _ _ h => autoC_ok h, fun f p h => ?_, fun _ hc _ => draw_ok mixed hgl hc⟩
  unfold dec.C at h
  simp only at h
  split at h
  · rename_i e
    subst e
    simp only [Option.some.injEq] at h
    subst h
    obtain ⟨H1, hev⟩ := known
    have hk := sure_ok (w0 := startG ng n0 w) mixed hev
    intro g vs vs' H v H' μ w' hc
    by_cases e : g = 13
    · subst e
      refine hk 13 vs vs' H v H' μ w' ?_
      simpa using hc
    · exact absurd hc (by simp [e])
  · split at h
    · rename_i e
      subst e
      simp only [Option.some.injEq] at h
      subst h
      have hk := idx_ok (w0 := startG ng n0 w) enters60 (g := idxB) Tryd.strings_IndexByte
      intro g vs vs' H v H' μ w' hc
      by_cases e : g = 60
      · subst e
        refine hk 60 vs vs' H v H' μ w' ?_
        simpa using hc
      · exact absurd hc (by simp [e])
    · split at h
      · rename_i e
        subst e
        simp only [Option.some.injEq] at h
        subst h
        have hk := same_ok (P := Tryd.prog) (w0 := startG ng n0 w) (f := 61) Tryd.func61 (by kernel_rfl) (by kernel_rfl) (by kernel_rfl) (by kernel_rfl)
        intro g vs vs' H v H' μ w' hc
        by_cases e : g = 61
        · subst e
          refine hk 61 vs vs' H v H' μ w' ?_
          simpa using hc
        · exact absurd hc (by simp [e])
      · split at h
        · rename_i e
          subst e
          simp only [Option.some.injEq] at h
          subst h
          obtain ⟨m, hm⟩ := cell_of_shapedOpen_int (g := 4) (k := .i64) hsh (of_decide_eq_true (by kernel_rfl)) (zero := #[.int .i64 0]) (t := 3) (by kernel_rfl) rfl (by kernel_rfl) (by kernel_rfl) (by kernel_rfl)
          have hk := split_ok (P := Tryd.prog) (w0 := startG ng n0 w) (f := 37) (t := 9) (g := 4) (W := w) rfl hm enters37 (fun s sep m w hs hm h1 => Tryd.strings_Split s sep m w hs hm h1)
          intro g vs vs' H v H' μ w' hc
          by_cases e : g = 37
          · subst e
            refine hk 37 vs vs' H v H' μ w' ?_
            simpa using hc
          · exact absurd hc (by simp [e])
        · cases h

/-- a slice whose elements take one cell: its cells -/
theorem ints_of {H : Type} {ws : List Win} {cs : List Value} {d : DataW H} (h : DR Tryd.prog ws 22 cs d) : ∃ (x : Sl) (l : List Int), cs = [x.v] ∧ dec.Ints (heapW ws) x l ∧ x.n ≤ Rows.uptoBulk d := by
  obtain ⟨x, es, rest, rfl, h1, _, h3, h4⟩ := h.slice_inv Tryd.underlying22
  have hc : Tryd.prog.cellsOf 3 = 1 := by kernel_rfl
  rw [hc] at h4
  have each : ∀ i, i < es.length → ∃ (n : Int) (b : Nat), x.a = some ⟨b, 0, none⟩ ∧ (heapW ws).ld1 ⟨b, i, none⟩ = some (.int .i64 n) := by
    intro i hi
    obtain ⟨b, y, q1, q2, q3, q4⟩ := h4 i _ (List.getElem?_eq_getElem hi)
    obtain ⟨n, g1, _⟩ := q4.int_inv Tryd.underlying3
    refine ⟨n, b, q1, ?_⟩
    rw [ld1_s (heapW_get q2)]
    rw [Nat.mul_one] at g1
    have : ((y.cells.drop i).take 1)[0]? = some (.int .i64 n) := by rw [g1]; rfl
    simpa using this
  refine ⟨x, (List.range es.length).map fun i => if hi : i < es.length then (each i hi).choose else 0, rfl, ⟨by simp; omega, fun i n hi hn => ?_⟩, ?_⟩
  · have hlt := (List.getElem?_eq_some_iff.1 hn).1
    simp only [List.length_map, List.length_range] at hlt
    rw [List.getElem?_map, List.getElem?_range hlt] at hn
    simp only [Option.map_some, Option.some.injEq, dif_pos hlt] at hn
    subst hn
    obtain ⟨b, q1, q2⟩ := (each i hlt).choose_spec
    exact ⟨b, 0, q1, by rw [Nat.zero_add]; exact q2⟩
  · rcases h3 with ⟨rfl, rfl⟩ | rfl
    · simp only [List.length_nil] at h1; omega
    · have := length_le es
      simp only [Rows.uptoBulk]; omega
end Go.Proofs.YthphbdkhbaijlaaDoor.frame

namespace Go.Proofs.YthphbdkhbaijlaaDoor.dec
open Go Go.Cm

attribute [local congr] optK_congr asI_congr asN_congr asB_congr asS_congr asP_congr asA_congr asSL_congr callK_congr castT_congr chk_congr

def pubL (p : List Int) : List Value := p.map fun n => .int .u8 n
structure Ky where
  nm : W
  pub : List Int
  rights : Int
  pat : W
def keyL (k : Ky) : List Value := .string (S k.nm) :: (pubL k.pub ++ [.int .i64 k.rights, .string (S k.pat)])
/-- a key of the right form -/
def U8L (l : List Int) : Prop := ∀ n ∈ l, 0 ≤ n ∧ n < 256
def KOK (k : Ky) : Prop := k.pub.length = 32 ∧ k.nm.length ≤ 1048576 ∧ k.pat.length ≤ 1048576 ∧ U8L k.pub
theorem U8L.set {l : List Int} (h : U8L l) (i : Nat) {n : Int} (hn : 0 ≤ n ∧ n < 256) : U8L (l.set i n) := fun m hm => by
  rcases List.mem_or_eq_of_mem_set hm with h' | rfl
  · exact h m h'
  · exact hn
theorem U8L.zero (n : Nat) : U8L (List.replicate n 0) := fun m hm => by
  rw [List.eq_of_mem_replicate hm]; omega
theorem wrap8 (n : Int) : 0 ≤ IntKind.u8.wrap n ∧ IntKind.u8.wrap n < 256 := by
  simp only [IntKind.wrap, IntKind.bits, IntKind.signed]
  simp
  omega
def k0 : Ky := ⟨[], List.replicate 32 0, 0, []⟩

theorem keyL_len {k : Ky} (h : k.pub.length = 32) : (keyL k).length = 35 := by simp [keyL, pubL, h]
theorem pubL_len (p : List Int) : (pubL p).length = p.length := by simp [pubL]
theorem pubL_one (p : List Int) : (pubL p).all one = true := by simp [pubL, one]
theorem keyL_one (k : Ky) : (keyL k).all one = true := by simp [keyL, pubL, one]

theorem k0_eq : keyL k0 = [.string (S []), .int .u8 0, .int .u8 0, .int .u8 0, .int .u8 0, .int .u8 0, .int .u8 0, .int .u8 0, .int .u8 0, .int .u8 0, .int .u8 0, .int .u8 0, .int .u8 0, .int .u8 0, .int .u8 0, .int .u8 0, .int .u8 0, .int .u8 0, .int .u8 0, .int .u8 0, .int .u8 0, .int .u8 0, .int .u8 0, .int .u8 0, .int .u8 0, .int .u8 0, .int .u8 0, .int .u8 0, .int .u8 0, .int .u8 0, .int .u8 0, .int .u8 0, .int .u8 0, .int .i64 0, .string (S [])] := rfl
theorem p0_eq : pubL (List.replicate 32 0) = [.int .u8 0, .int .u8 0, .int .u8 0, .int .u8 0, .int .u8 0, .int .u8 0, .int .u8 0, .int .u8 0, .int .u8 0, .int .u8 0, .int .u8 0, .int .u8 0, .int .u8 0, .int .u8 0, .int .u8 0, .int .u8 0, .int .u8 0, .int .u8 0, .int .u8 0, .int .u8 0, .int .u8 0, .int .u8 0, .int .u8 0, .int .u8 0, .int .u8 0, .int .u8 0, .int .u8 0, .int .u8 0, .int .u8 0, .int .u8 0, .int .u8 0, .int .u8 0] := rfl

theorem splice_all {c vs : List Value} (h : c.length = vs.length) : splice c 0 vs = vs := by
  unfold splice
  rw [List.take_zero, List.nil_append, Nat.zero_add, List.drop_eq_nil_of_le (by omega), List.append_nil]

theorem storeN {H : Heap} {p n : Nat} {c cs : List Value} {e : TypeId} (h : H.get p = some (.cells c e false 0 false)) (hc : c.length = n) (hs : cs.length = n) (h1 : cs.all one = true) (hn : 1 < n) (K : Value → Heap → Res) : effK (.store n) [P0 p, .agg ⟨cs⟩] H K = K (.tuple #[]) (H.put p (.cells cs e false 0 false)) := by
  have hst : H.stN ⟨p, 0, none⟩ cs = some (H.put p (.cells cs e false 0 false)) := by
    simp only [Heap.stN, h]
    rw [if_pos (show 0 + cs.length ≤ c.length ∧ 0 ≤ 0 by omega), splice_all (by omega)]
  simp only [effK, P0]
  rw [if_neg (by omega), if_pos ⟨hs, h1, by omega⟩, show H.stN ⟨p, 0, none⟩ (cellsL (.agg ⟨cs⟩)) = _ from hst]
  rfl
theorem ldAll {H : Heap} {p n : Nat} {c : List Value} {e : TypeId} (h : H.get p = some (.cells c e false 0 false)) (hc : c.length = n) : Cm.ldA H ⟨p, 0, none⟩ n = some (.agg ⟨c⟩) := by
  unfold Cm.ldA
  rw [ldN_s h (by omega), List.drop_zero, List.take_of_length_le (by omega)]
theorem loadAll {H : Heap} {p n : Nat} {c : List Value} {e : TypeId} (h : H.get p = some (.cells c e false 0 false)) (hc : c.length = n) : readD (.load n true) [P0 p] H = some (.agg ⟨c⟩) := by
  have : H.ldN ⟨p, 0, none⟩ n = some c := by rw [ldN_s h (by omega), List.drop_zero, List.take_of_length_le (by omega)]
  simp [readD, P0, this]

theorem pubL_set (p : List Int) (i : Nat) (n : Int) : (pubL p).set i (.int .u8 n) = pubL (p.set i n) := by simp [pubL, List.map_set]

theorem secret_loop (d p2 p3 : Nat) (hne : p2 ≠ p3) (B : Nat) (hB : B ≤ p2 ∧ B ≤ p3) : ∀ (m i : Nat) (x : Int) (p : List Int) (H : Heap), i ≤ 32 → 32 - i < m → p.length = 32 → U8L p → H.get p3 = some (.cells (pubL p) t_32_uint8 false 0 false) → H.get p2 = some (.cells (pubL (List.replicate 32 0)) t_32_uint8 false 0 false) →
    ∃ q H', hand_Secret_p111010 d m p2 p3 x (i : Int) H = some (.agg ⟨pubL q⟩, H') ∧ (q.length = 32 ∧ U8L q) ∧ Keep (fun k => B ≤ k) H H' := by
  intro m
  induction m with
  | zero => intro i x p H h1 h2; omega
  | succ m ih =>
    intro i x p H hi hm hp hu h3 h2
    rw [hand_Secret_p111010_s]
    simp only [decide_eq_true_eq]
    by_cases h : i < 32
    · rw [if_pos (by omega), if_pos (by omega), Int.toNat_natCast, Nat.mul_one, Nat.zero_add]
      have hv8 := wrap8 (Int.fdiv (IntKind.u64.wrap (IntKind.u64.wrap (x * 6364136223846793005) + 1442695040888963407)) 1099511627776)
      generalize IntKind.u8.wrap (Int.fdiv (IntKind.u64.wrap (IntKind.u64.wrap (x * 6364136223846793005) + 1442695040888963407)) 1099511627776) = v at hv8 ⊢
      rw [st1_s h3 (by rw [pubL_len]; omega) (by omega)]
      simp only [optK_s]
      rw [pubL_set, w64 (by omega), show ((i : Int) + 1) = ((i + 1 : Nat) : Int) by omega]
      obtain ⟨q, H', e, k1, k2⟩ := ih (i + 1) (IntKind.u64.wrap (IntKind.u64.wrap (x * 6364136223846793005) + 1442695040888963407)) (p.set i v) (H.put p3 (.cells (pubL (p.set i v)) t_32_uint8 false 0 false)) (by omega) (by omega) (by simpa using hp) (hu.set i hv8) (by simp) (by rw [Heap.get_put_ne _ _ hne]; exact h2)
      exact ⟨q, H', e, k1, (Keep.put (S := fun k => B ≤ k) H p3 _ hB.2).trans k2 fun _ _ h => h⟩
    · rw [if_neg (by omega), ldAll h3 (by rw [pubL_len]; exact hp)]
      simp only [optK_s, asA_s]
      rw [storeN (n := 32) h2 (by rw [pubL_len]; simp) (by rw [pubL_len]; exact hp) (pubL_one p) (by omega)]
      have g : (H.put p2 (.cells (pubL p) t_32_uint8 false 0 false)).get p2 = some (.cells (pubL p) t_32_uint8 false 0 false) := by simp
      have hr : readD (.load 32 true) [P0 p2] (H.put p2 (.cells (pubL p) t_32_uint8 false 0 false)) = some (.agg ⟨pubL p⟩) := loadAll g (by rw [pubL_len]; exact hp)
      have hg : Fr.get [(2, P0 p2)] 2 = some (P0 p2) := rfl
      simp only [retK, resL, hg, hr]
      exact ⟨p, _, rfl, ⟨hp, hu⟩, Keep.put _ _ _ hB.1⟩

theorem Secret_s (d : Nat) (n : Int) (H : Heap) : ∃ q H', X (d + 1) n_hand_Secret [.int .i64 n] H = some (.agg ⟨pubL q⟩, H') ∧ (q.length = 32 ∧ U8L q) ∧ Keep (fun _ => False) H H' := by
  rw [hand_Secret_eq, ← p0_eq]
  simp only [newK_s]
  generalize hH1 : H.new (.cells (pubL (List.replicate 32 0)) t_32_uint8 false 0 false) = H1
  have k1 : Keep (fun _ => False) H H1 := by subst hH1; exact Keep.new _ _
  have g1 : H1.get H.next = some (.cells (pubL (List.replicate 32 0)) t_32_uint8 false 0 false) := by subst hH1; simp
  have n1 : H1.next = H.next + 1 := by subst hH1; simp
  obtain ⟨q, H', e, h1, h2⟩ := secret_loop d H.next H1.next (by omega) H.next (by omega) NN 0 _ (List.replicate 32 0) (H1.new (.cells (pubL (List.replicate 32 0)) t_32_uint8 false 0 false)) (by omega) (NN_big _ (by omega)) (by simp) (U8L.zero 32) (by simp) (by rw [Heap.get_new_ne _ _ (by omega)]; exact g1)
  rw [show (((0 : Nat)) : Int) = 0 from rfl] at e
  rw [e]
  refine ⟨q, H', rfl, h1, ?_⟩
  exact ((k1.trans (Keep.new (S := fun _ => False) H1 _) fun _ _ h => h).mono (T := fun k => H.next ≤ k) fun _ _ h => h.elim).trans h2 (fun _ _ h => h) |>.mono fun k hk h => by omega

/-- keys are laid -/
theorem fill4 (a b : ByteArray) (p : List Int) (hp : p.length = 32) (r : Int) : fillL [(0, 1), (1, 32), (33, 1), (34, 1)] [.string a, .agg ⟨pubL p⟩, .int .i64 r, .string b] [.string (S []), .int .u8 0, .int .u8 0, .int .u8 0, .int .u8 0, .int .u8 0, .int .u8 0, .int .u8 0, .int .u8 0, .int .u8 0, .int .u8 0, .int .u8 0, .int .u8 0, .int .u8 0, .int .u8 0, .int .u8 0, .int .u8 0, .int .u8 0, .int .u8 0, .int .u8 0, .int .u8 0, .int .u8 0, .int .u8 0, .int .u8 0, .int .u8 0, .int .u8 0, .int .u8 0, .int .u8 0, .int .u8 0, .int .u8 0, .int .u8 0, .int .u8 0, .int .u8 0, .int .i64 0, .string (S [])] = some (.string a :: (pubL p ++ [.int .i64 r, .string b])) := by
  match p, hp with
  | [a0, a1, a2, a3, a4, a5, a6, a7, a8, a9, a10, a11, a12, a13, a14, a15, a16, a17, a18, a19, a20, a21, a22, a23, a24, a25, a26, a27, a28, a29, a30, a31], _ => rfl
theorem fill1 (k : Ky) (hp : k.pub.length = 32) : fillL [(0, 35)] [.agg ⟨keyL k⟩] [.string (S []), .int .u8 0, .int .u8 0, .int .u8 0, .int .u8 0, .int .u8 0, .int .u8 0, .int .u8 0, .int .u8 0, .int .u8 0, .int .u8 0, .int .u8 0, .int .u8 0, .int .u8 0, .int .u8 0, .int .u8 0, .int .u8 0, .int .u8 0, .int .u8 0, .int .u8 0, .int .u8 0, .int .u8 0, .int .u8 0, .int .u8 0, .int .u8 0, .int .u8 0, .int .u8 0, .int .u8 0, .int .u8 0, .int .u8 0, .int .u8 0, .int .u8 0, .int .u8 0, .int .i64 0, .string (S [])] = some (keyL k) := by
  obtain ⟨nm, p, r, pat⟩ := k
  simp only at hp
  match p, hp with
  | [a0, a1, a2, a3, a4, a5, a6, a7, a8, a9, a10, a11, a12, a13, a14, a15, a16, a17, a18, a19, a20, a21, a22, a23, a24, a25, a26, a27, a28, a29, a30, a31], _ => rfl

theorem eq32 : ∀ (n : Nat) (p q : List Int), p.length = n → q.length = n → ∃ b, eqL (List.replicate n (.int .u8)) (pubL p) (pubL q) = some b := by
  intro n
  induction n with
  | zero => intro p q hp hq; rw [List.eq_nil_of_length_eq_zero hp, List.eq_nil_of_length_eq_zero hq]; exact ⟨true, rfl⟩
  | succ n ih =>
    intro p q hp hq
    match p, q, hp, hq with
    | a :: p, b :: q, hp, hq =>
      obtain ⟨r, hr⟩ := ih p q (by simpa using hp) (by simpa using hq)
      simp only [List.replicate_succ, pubL, List.map_cons, eqL]
      have he : ∃ c, eqC (.int .u8) (.int .u8 a) (.int .u8 b) = some c := by
        simp [eqC, asI]
      obtain ⟨c, hc⟩ := he
      rw [hc]
      cases c with
      | true => exact ⟨r, hr⟩
      | false => exact ⟨false, rfl⟩
theorem rep32 : List.replicate 32 (Kd0.int .u8) = [.int .u8, .int .u8, .int .u8, .int .u8, .int .u8, .int .u8, .int .u8, .int .u8, .int .u8, .int .u8, .int .u8, .int .u8, .int .u8, .int .u8, .int .u8, .int .u8, .int .u8, .int .u8, .int .u8, .int .u8, .int .u8, .int .u8, .int .u8, .int .u8, .int .u8, .int .u8, .int .u8, .int .u8, .int .u8, .int .u8, .int .u8, .int .u8] := rfl
theorem eqPub (p q : List Int) (hp : p.length = 32) (hq : q.length = 32) : ∃ b, eqL [.int .u8, .int .u8, .int .u8, .int .u8, .int .u8, .int .u8, .int .u8, .int .u8, .int .u8, .int .u8, .int .u8, .int .u8, .int .u8, .int .u8, .int .u8, .int .u8, .int .u8, .int .u8, .int .u8, .int .u8, .int .u8, .int .u8, .int .u8, .int .u8, .int .u8, .int .u8, .int .u8, .int .u8, .int .u8, .int .u8, .int .u8, .int .u8] (pubL p) (pubL q) = some b := by
  rw [← rep32]; exact eq32 32 p q hp hq
theorem eqKey (k : Ky) (hp : k.pub.length = 32) : eqL [.str, .int .u8, .int .u8, .int .u8, .int .u8, .int .u8, .int .u8, .int .u8, .int .u8, .int .u8, .int .u8, .int .u8, .int .u8, .int .u8, .int .u8, .int .u8, .int .u8, .int .u8, .int .u8, .int .u8, .int .u8, .int .u8, .int .u8, .int .u8, .int .u8, .int .u8, .int .u8, .int .u8, .int .u8, .int .u8, .int .u8, .int .u8, .int .u8, .int .i64, .str] (keyL k) (keyL k) = some true := by
  obtain ⟨nm, p, r, pat⟩ := k
  simp only at hp
  match p, hp with
  | [a0, a1, a2, a3, a4, a5, a6, a7, a8, a9, a10, a11, a12, a13, a14, a15, a16, a17, a18, a19, a20, a21, a22, a23, a24, a25, a26, a27, a28, a29, a30, a31], _ => simp [keyL, pubL, eqL, eqC, asI, asS, sEq]
end Go.Proofs.YthphbdkhbaijlaaDoor.dec

namespace Go.Proofs.YthphbdkhbaijlaaDoor.dec
open Go Go.Cm

attribute [local congr] optK_congr asI_congr asN_congr asB_congr asS_congr asP_congr asA_congr asSL_congr callK_congr castT_congr chk_congr

theorem rdOk_all {hs : List Heap} {d : Rd} : ∀ (n k : Nat), (∀ j, k ≤ j → j < k + n → rdAt hs d j = true) → rdOk hs d k n = true := by
  intro n
  induction n with
  | zero => intro k _; rfl
  | succ n ih =>
    intro k h
    have e : rdOk hs d k (n + 1) = (rdAt hs d k && rdOk hs d (k + 1) n) := rfl
    rw [e, h k (Nat.le_refl _) (by omega), ih (k + 1) fun j h1 h2 => h j (by omega) (by omega)]
    rfl
theorem rds7 {H2 H21 H37 : Heap} : ∀ (ds : List Rd), (∀ d ∈ ds, d.hi ≤ 6 ∧ readD d.r d.vs H2 = some d.v ∧ readD d.r d.vs H21 = some d.v ∧ same d.v d.v = true) → rdsOk [H2, H2, H2, H2, H21, H21, H21, H37] ds = true := by
  intro ds
  induction ds with
  | nil => intro _; rfl
  | cons d ds ih =>
    intro h
    obtain ⟨h1, h2, h3, h4⟩ := h d (by simp)
    have e : rdsOk [H2, H2, H2, H2, H21, H21, H21, H37] (d :: ds) = (rdOk [H2, H2, H2, H2, H21, H21, H21, H37] d d.lo (d.hi + 1 - d.lo) && rdsOk [H2, H2, H2, H2, H21, H21, H21, H37] ds) := rfl
    rw [e, ih fun x hx => h x (by simp [hx]), rdOk_all _ _ fun j j1 j2 => ?_]
    · rfl
    · have : j = 0 ∨ j = 1 ∨ j = 2 ∨ j = 3 ∨ j = 4 ∨ j = 5 ∨ j = 6 := by omega
      rcases this with rfl | rfl | rfl | rfl | rfl | rfl | rfl
      · exact rdAt_s rfl h2 h4
      · exact rdAt_s rfl h2 h4
      · exact rdAt_s rfl h2 h4
      · exact rdAt_s rfl h2 h4
      · exact rdAt_s rfl h3 h4
      · exact rdAt_s rfl h3 h4
      · exact rdAt_s rfl h3 h4

/-- the law's tables -/
def Tabs (B : Nat) (H : Heap) : Prop := 2 ≤ B ∧ B ≤ H.next ∧ (∀ i, i < 6 → ∃ u : W, H.ld1 ⟨0, 0 + i, none⟩ = some (.string (S u)) ∧ u.length ≤ 20) ∧ ∀ i, i < 8 → ∃ u : W, H.ld1 ⟨1, 0 + i, none⟩ = some (.string (S u)) ∧ u.length ≤ 20
theorem ld1_keep {B : Nat} {H H' : Heap} (hk : Keep (fun k => B ≤ k) H H') (hB : B ≤ H.next) {b o : Nat} (hb : b < B) : H'.ld1 ⟨b, o, none⟩ = H.ld1 ⟨b, o, none⟩ := by
  simp only [Heap.ld1, hk.2 b (by omega) (by show ¬ B ≤ b; omega)]
theorem Tabs.keep {B : Nat} {H H' : Heap} (h : Tabs B H) (hk : Keep (fun k => B ≤ k) H H') : Tabs B H' := by
  obtain ⟨h1, h2, h3, h4⟩ := h
  refine ⟨h1, Nat.le_trans h2 hk.1, fun i hi => ?_, fun i hi => ?_⟩
  · rw [ld1_keep hk h2 (by omega)]; exact h3 i hi
  · rw [ld1_keep hk h2 (by omega)]; exact h4 i hi

/-- an argument of raw keys -/
def RawK (H : Heap) (B : Nat) (x : Sl) : Prop := B ≤ H.next ∧ x.n ≤ 1048576 ∧ ∀ i, i < x.n → ∃ a n0 n1 n2 n3 n5 odd, x.a = some a ∧ a.block < B ∧ Cm.ldA H (ap a (i * 6)) 6 = some (.agg #[.int .i64 n0, .int .i64 n1, .int .i64 n2, .int .i64 n3, .string (S odd), .int .i64 n5]) ∧ odd.length ≤ 1048576
theorem RawK.keep {H H' : Heap} {B : Nat} {x : Sl} (h : RawK H B x) (hk : Keep (fun k => B ≤ k) H H') : RawK H' B x := by
  obtain ⟨hB, hn, h⟩ := h
  refine ⟨Nat.le_trans hB hk.1, hn, fun i hi => ?_⟩
  obtain ⟨a, n0, n1, n2, n3, n5, odd, e1, e2, e3, e4⟩ := h i hi
  refine ⟨a, n0, n1, n2, n3, n5, odd, e1, e2, ?_, e4⟩
  rw [← e3]
  unfold Cm.ldA Heap.ldN
  rw [show H'.get (ap a (i * 6)).block = H.get (ap a (i * 6)).block from hk.2 a.block (by omega) (by show ¬ B ≤ _; omega)]

def Kys (H : Heap) (x : Sl) (L : List Ky) : Prop := Whole H x (L.map keyL).flatten t_api_Key 35 ∧ ∀ k ∈ L, KOK k
theorem flat_len {L : List Ky} (h : ∀ k ∈ L, KOK k) : (L.map keyL).flatten.length = L.length * 35 := by
  induction L with
  | nil => rfl
  | cons k L ih =>
    have h1 := keyL_len (h k (by simp)).1
    have h2 := ih fun x hx => h x (by simp [hx])
    simp only [List.map_cons, List.flatten_cons, List.length_append, List.length_cons, h1, h2]
    omega
theorem Kys.num {H : Heap} {x : Sl} {L : List Ky} (h : Kys H x L) : x.n = L.length := by
  have h1 := Whole.len h.1
  have h2 := flat_len h.2
  omega
theorem flat_snoc (L : List Ky) (k : Ky) : ((L ++ [k]).map keyL).flatten = (L.map keyL).flatten ++ keyL k := by simp

theorem set33 (k : Ky) (hp : k.pub.length = 32) (r : Int) : (keyL k).set 33 (.int .i64 r) = keyL { k with rights := r } := by
  obtain ⟨nm, p, r', pat⟩ := k
  simp only at hp
  match p, hp with
  | [a0, a1, a2, a3, a4, a5, a6, a7, a8, a9, a10, a11, a12, a13, a14, a15, a16, a17, a18, a19, a20, a21, a22, a23, a24, a25, a26, a27, a28, a29, a30, a31], _ => rfl
theorem set34 (k : Ky) (hp : k.pub.length = 32) (w : W) : (keyL k).set 34 (.string (S w)) = keyL { k with pat := w } := by
  obtain ⟨nm, p, r', pat⟩ := k
  simp only at hp
  match p, hp with
  | [a0, a1, a2, a3, a4, a5, a6, a7, a8, a9, a10, a11, a12, a13, a14, a15, a16, a17, a18, a19, a20, a21, a22, a23, a24, a25, a26, a27, a28, a29, a30, a31], _ => rfl
theorem splice1 (k : Ky) (hp : k.pub.length = 32) (q : List Int) (hq : q.length = 32) : splice (keyL k) 1 (pubL q) = keyL { k with pub := q } := by
  obtain ⟨nm, p, r', pat⟩ := k
  simp only at hp
  unfold splice
  rw [pubL_len, hq]
  match p, hp with
  | [a0, a1, a2, a3, a4, a5, a6, a7, a8, a9, a10, a11, a12, a13, a14, a15, a16, a17, a18, a19, a20, a21, a22, a23, a24, a25, a26, a27, a28, a29, a30, a31], _ => simp [keyL, pubL]

theorem list_push (d m : Nat) (x y : Sl) (i p B : Nat) (L : List Ky) (k : Ky) (H : Heap) (hp : H.get p = some (.cells (keyL k) t_api_Key false 0 false)) (hk : KOK k) (hy : Kys H y L) (hB : ∀ j, y.at j → B ≤ j) (hBH : B ≤ H.next) (hL : L.length ≤ 1000) (hi : i ≤ 1000) :
    ∃ l H', law17_list_p11010010010101 d m x y (i : Int) p H = law17_list_p11010 d m x l ((i + 1 : Nat) : Int) H' ∧ Kys H' l (L ++ [k]) ∧ (∀ j, l.at j → B ≤ j) ∧ Keep (fun k => B ≤ k) H H' := by
  rw [law17_list_p11010010010101_eq, ldAll hp (keyL_len hk.1)]
  simp only [optK_s, asA_s]
  rw [fill1 k hk.1]
  simp only [optK_s, newK_s]
  have hlen := hy.num
  obtain ⟨l, H', f1, f2, f3, _, f5, _⟩ := push_whole (bytes := 72) (new := keyL k) hy.1 (keyL_len hk.1) (by omega) (by omega) (by omega)
  rw [f1]
  simp only [Sl.v, asSL_s]
  rw [w64 (by omega), show ((i : Int) + 1) = ((i + 1 : Nat) : Int) by omega]
  refine ⟨l, H', rfl, ⟨by rw [flat_snoc]; exact f2, fun c hc => ?_⟩, fun j hj => by have := f5 j hj; omega, f3.mono fun k _ h => hB k h⟩
  rcases List.mem_append.1 hc with hc | hc
  · exact hy.2 c hc
  · simp only [List.mem_singleton] at hc; subst hc; exact hk

/-- the last turn of a key -/
theorem list_how (d m : Nat) (x y : Sl) (i p4 p8 B : Nat) (L : List Ky) (k : Ky) (H : Heap) (n0 n1 n2 n3 n5 : Int) (odd : W) (ho : odd.length ≤ 1048576) (h4 : H.get p4 = some (.cells [.int .i64 n0, .int .i64 n1, .int .i64 n2, .int .i64 n3, .string (S odd), .int .i64 n5] t_law17_Raw false 0 false))
    (h8 : H.get p8 = some (.cells (keyL k) t_api_Key false 0 false)) (h48 : p4 < p8) (h8n : p8 < H.next) (hk : KOK k) (hy : Kys H y L) (hyl : ∀ j, y.at j → j < p4) (hB : ∀ j, y.at j → B ≤ j) (hB4 : B ≤ p4) (hL : L.length ≤ 1000) (hi : i ≤ 1000) :
    ∃ l H' k', law17_list_p110100100101 (d + 1) m x y (i : Int) p4 p8 H = law17_list_p11010 (d + 1) m x l ((i + 1 : Nat) : Int) H' ∧ Kys H' l (L ++ [k']) ∧ (∀ j, l.at j → B ≤ j) ∧ Keep (fun k => B ≤ k) H H' := by
  have hkl := keyL_len hk.1
  -- behind a store into the key
  have go : ∀ (k' : Ky) (H1 : Heap), KOK k' → Keep (fun k => k = p8) H H1 ∨ Keep (fun k => p8 ≤ k) H H1 → H1.get p8 = some (.cells (keyL k') t_api_Key false 0 false) → ∃ l H' k', law17_list_p11010010010101 (d + 1) m x y (i : Int) p8 H1 = law17_list_p11010 (d + 1) m x l ((i + 1 : Nat) : Int) H' ∧ Kys H' l (L ++ [k']) ∧ (∀ j, l.at j → B ≤ j) ∧ Keep (fun k => B ≤ k) H H' := by
    intro k' H1 hk' hkeep hg
    have kk : Keep (fun k => p8 ≤ k) H H1 := hkeep.elim (fun h => h.mono fun _ _ e => by show p8 ≤ _; omega) id
    have hy1 : Kys H1 y L := ⟨Whole.keep hy.1 kk fun j hj h => by have := hyl j hj; have h' : p8 ≤ j := h; omega, hy.2⟩
    obtain ⟨l, H', e1, e2, e3, e4⟩ := list_push (d + 1) m x y i p8 B L k' H1 hg hk' hy1 hB (by have := kk.1; omega) hL hi
    exact ⟨l, H', k', e1, e2, e3, (kk.mono fun k _ h => by have h' : p8 ≤ k := h; show B ≤ k; omega).trans e4 fun _ _ h => h⟩
  rw [law17_list_p110100100101_eq, ld1_s h4]
  simp only [List.getElem?_cons_succ, List.getElem?_cons_zero, optK_s, asI_s]
  obtain ⟨r, e, r1, r2⟩ := Pick_s d n5 40 H (by omega) (by omega)
  rw [e]
  simp only [callK_s, asI_s, decide_eq_true_eq]
  by_cases c0 : r = 0
  · rw [if_pos c0, ld1_s h4]
    simp only [List.getElem?_cons_succ, List.getElem?_cons_zero, optK_s, asS_s]
    rw [st1_s h8 (by omega) (by omega)]
    simp only [optK_s]
    exact go { k with nm := odd } _ ⟨hk.1, ho, hk.2.2⟩ (.inl (Keep.put _ _ _ rfl)) (by simp [keyL])
  rw [if_neg c0]
  by_cases c1 : r = 1
  · rw [if_pos c1, ld1_s h4]
    simp only [List.getElem?_cons_succ, List.getElem?_cons_zero, optK_s, asS_s]
    rw [st1_s h8 (by omega) (by omega)]
    simp only [optK_s]
    exact go { k with pat := odd } _ ⟨hk.1, hk.2.1, ho, hk.2.2.2⟩ (.inl (Keep.put _ _ _ rfl)) (by rw [set34 k hk.1]; simp)
  rw [if_neg c1]
  by_cases c2 : r = 2
  · rw [if_pos c2, ld1_s h4]
    simp only [List.getElem?_cons_succ, List.getElem?_cons_zero, optK_s, asI_s]
    rw [st1_s h8 (by omega) (by omega)]
    simp only [optK_s]
    exact go { k with rights := IntKind.wrap .i64 (Int.tdiv n5 40) } _ ⟨hk.1, hk.2.1, hk.2.2⟩ (.inl (Keep.put _ _ _ rfl)) (by rw [set33 k hk.1]; simp)
  rw [if_neg c2]
  by_cases c3 : r = 3
  · rw [if_pos c3]
    obtain ⟨q, H1, e1, ⟨q1, q8⟩, q2⟩ := Secret_s d 0 H
    rw [e1]
    simp only [callK_s, asA_s]
    have g8 := (q2.2 p8 h8n id).trans h8
    have hst : H1.stN ⟨p8, 1, none⟩ (pubL q) = some (H1.put p8 (.cells (keyL { k with pub := q }) t_api_Key false 0 false)) := by
      simp only [Heap.stN, g8]
      rw [if_pos (show 1 + (pubL q).length ≤ (keyL k).length ∧ 0 ≤ 1 by rw [pubL_len]; omega), splice1 k hk.1 q q1]
    have hs : ∀ K, effK (.store 32) [.pointer (some ⟨p8, 1, none⟩), .agg ⟨pubL q⟩] H1 K = K (.tuple #[]) (H1.put p8 (.cells (keyL { k with pub := q }) t_api_Key false 0 false)) := fun K => by
      simp only [effK]
      rw [if_neg (by omega), if_pos ⟨by rw [show cellsL (.agg ⟨pubL q⟩) = pubL q from rfl, pubL_len, q1], pubL_one q, by omega⟩, show H1.stN ⟨p8, 1, none⟩ (cellsL (.agg ⟨pubL q⟩)) = _ from hst]
      rfl
    rw [hs]
    refine go { k with pub := q } _ ⟨q1, hk.2.1, hk.2.2.1, q8⟩ (.inr ?_) (by simp)
    exact (q2.mono (T := fun k => p8 ≤ k) fun _ _ h => h.elim).trans (Keep.put (S := fun k => p8 ≤ k) _ _ _ (Nat.le_refl _)) fun _ _ h => h
  · rw [if_neg c3]
    exact go k H hk (.inl (Keep.refl _)) h8

theorem raw_one (n0 n1 n2 n3 n5 : Int) (odd : W) : [Value.int .i64 n0, .int .i64 n1, .int .i64 n2, .int .i64 n3, .string (S odd), .int .i64 n5].all one = true := rfl

theorem list_key (d m : Nat) (x y : Sl) (i p4 B : Nat) (L : List Ky) (H : Heap) (n0 n1 n2 n3 n5 : Int) (odd : W) (ho : odd.length ≤ 1048576) (ht : Tabs B H) (h4 : H.get p4 = some (.cells [.int .i64 n0, .int .i64 n1, .int .i64 n2, .int .i64 n3, .string (S odd), .int .i64 n5] t_law17_Raw false 0 false)) (h4n : p4 < H.next)
    (hy : Kys H y L) (hyl : ∀ j, y.at j → j < p4) (hB : ∀ j, y.at j → B ≤ j) (hB4 : B ≤ p4) (hL : L.length ≤ 1000) (hi : i ≤ 1000) :
    ∃ l H' k', law17_list_p1101001001 (d + 1) m x y (i : Int) p4 H = law17_list_p11010 (d + 1) m x l ((i + 1 : Nat) : Int) H' ∧ Kys H' l (L ++ [k']) ∧ (∀ j, l.at j → B ≤ j) ∧ Keep (fun k => B ≤ k) H H' := by
  rw [law17_list_p1101001001_eq, ← k0_eq]
  simp only [newK_s]
  generalize hH2 : H.new (.cells (keyL k0) t_api_Key false 0 false) = H2
  have k2 : Keep (fun _ => False) H H2 := by subst hH2; exact Keep.new _ _
  have n2' : H2.next = H.next + 1 := by subst hH2; simp
  have g8 : H2.get H.next = some (.cells (keyL k0) t_api_Key false 0 false) := by subst hH2; simp
  have g4 := (k2.2 p4 h4n id).trans h4
  have t2 := ht.keep (k2.mono fun _ _ h => h.elim)
  rw [ld1_s g4]
  simp only [List.getElem?_cons_succ, List.getElem?_cons_zero, optK_s, asI_s]
  obtain ⟨r0, e0, a0, b0⟩ := Pick_s d n0 6 H2 (by omega) (by omega)
  rw [e0]
  simp only [callK_s, asI_s]
  obtain ⟨u1, v1, w1⟩ := t2.2.2.1 r0.toNat (by omega)
  rw [if_pos ⟨a0, b0⟩, Nat.mul_one, v1]
  simp only [optK_s, asS_s]
  obtain ⟨r1, e1, a1, b1⟩ := Pick_s d (i : Int) 6 H2 (by omega) (by omega)
  rw [e1]
  simp only [callK_s, asI_s]
  obtain ⟨u2, v2, w2⟩ := t2.2.2.1 r1.toNat (by omega)
  rw [if_pos ⟨a1, b1⟩, Nat.mul_one, v2]
  simp only [optK_s, asS_s, slenS]
  rw [if_pos (by omega), ld1_s g4]
  simp only [List.getElem?_cons_succ, List.getElem?_cons_zero, optK_s, asI_s]
  obtain ⟨r2, e2, a2, b2⟩ := Pick_s d n3 200 H2 (by omega) (by omega)
  rw [e2]
  simp only [callK_s, asI_s]
  obtain ⟨q, H21, es, ⟨qs, q8⟩, ks⟩ := Secret_s d (IntKind.wrap .i64 (r2 + IntKind.wrap .i64 ((i : Int) * 200))) H2
  rw [es]
  simp only [callK_s, asA_s]
  have n21 := ks.1
  have g4' := (ks.2 p4 (by omega) id).trans g4
  have g8' := (ks.2 H.next (by omega) id).trans g8
  have t21 := t2.keep (ks.mono fun _ _ h => h.elim)
  rw [ld1_s g4']
  simp only [List.getElem?_cons_succ, List.getElem?_cons_zero, optK_s, asI_s]
  obtain ⟨r3, e3, a3, b3⟩ := Pick_s d n2 7 H21 (by omega) (by omega)
  rw [e3]
  simp only [callK_s, asI_s]
  rw [ld1_s g4']
  simp only [List.getElem?_cons_succ, List.getElem?_cons_zero, optK_s, asI_s]
  obtain ⟨r4, e4, a4, b4⟩ := Pick_s d n1 8 H21 (by omega) (by omega)
  rw [e4]
  simp only [callK_s, asI_s]
  obtain ⟨u3, v3, w3⟩ := t21.2.2.2 r4.toNat (by omega)
  rw [if_pos ⟨a4, b4⟩, Nat.mul_one, v3]
  simp only [optK_s, asS_s, sCatS]
  rw [k0_eq, fill4 _ _ q qs]
  simp only [optK_s]
  have hkey : Value.string (S (u1 ++ u2)) :: (pubL q ++ [.int .i64 (IntKind.wrap .i64 (1 + r3)), .string (S u3)]) = keyL ⟨u1 ++ u2, q, IntKind.wrap .i64 (1 + r3), u3⟩ := rfl
  rw [hkey, storeN (n := 35) g8' (keyL_len (by simp [k0])) (keyL_len qs) (keyL_one _) (by omega)]
  have q0 : readD (.load 1 false) [.pointer (some ⟨0, 0 + r0.toNat, none⟩)] H21 = some (.string (S u1)) := by
    rw [readD_ld, ld1_keep (ks.mono (T := fun k => B ≤ k) fun _ _ h => h.elim) t2.2.1 (by have := ht.1; omega)]; exact v1
  have q1 : readD (.load 1 false) [.pointer (some ⟨0, 0 + r1.toNat, none⟩)] H21 = some (.string (S u2)) := by
    rw [readD_ld, ld1_keep (ks.mono (T := fun k => B ≤ k) fun _ _ h => h.elim) t2.2.1 (by have := ht.1; omega)]; exact v2
  rw [rds7 _ (fun d hd => by
    simp only [List.mem_cons, List.not_mem_nil, or_false] at hd
    rcases hd with rfl | rfl | rfl | rfl | rfl
    · exact ⟨by show (5 : Nat) ≤ 6; omega, by rw [readD_ld, ld1_s g4]; rfl, by rw [readD_ld, ld1_s g4']; rfl, same_int _ _⟩
    · exact ⟨by show (4 : Nat) ≤ 6; omega, by rw [readD_ld, ld1_s g4]; rfl, by rw [readD_ld, ld1_s g4']; rfl, same_int _ _⟩
    · exact ⟨by show (2 : Nat) ≤ 6; omega, by rw [readD_ld, ld1_s g4]; rfl, by rw [readD_ld, ld1_s g4']; rfl, same_int _ _⟩
    · exact ⟨by show (6 : Nat) ≤ 6; omega, by rw [readD_ld]; exact v2, q1, same_str _⟩
    · exact ⟨by show (6 : Nat) ≤ 6; omega, by rw [readD_ld]; exact v1, q0, same_str _⟩)]
  simp only [chk_s]
  have kp : Keep (fun k => H.next ≤ k) H (H21.put H.next (.cells (keyL ⟨u1 ++ u2, q, IntKind.wrap .i64 (1 + r3), u3⟩) t_api_Key false 0 false)) := ((k2.trans ks fun _ _ h => h).mono (T := fun k => H.next ≤ k) fun _ _ h => h.elim).trans (Keep.put (S := fun k => H.next ≤ k) _ _ _ (Nat.le_refl _)) fun _ _ h => h
  obtain ⟨l, H', k', f1, f2, f3, f4⟩ := list_how d m x y i p4 H.next B L ⟨u1 ++ u2, q, IntKind.wrap .i64 (1 + r3), u3⟩ (H21.put H.next (.cells (keyL ⟨u1 ++ u2, q, IntKind.wrap .i64 (1 + r3), u3⟩) t_api_Key false 0 false)) n0 n1 n2 n3 n5 odd ho (by rw [Heap.get_put_ne _ _ (by omega)]; exact g4') (by simp) h4n (by simp; omega) ⟨qs, by simp; omega, by simp; omega, q8⟩
    ⟨Whole.keep hy.1 kp fun j hj h => by have := hyl j hj; have h' : H.next ≤ j := h; omega, hy.2⟩ hyl hB hB4 hL hi
  exact ⟨l, H', k', f1, f2, f3, (kp.mono fun k _ h => by have h' : H.next ≤ k := h; show B ≤ k; omega).trans f4 fun _ _ h => h⟩

theorem list_loop (d B : Nat) (x : Sl) : ∀ (m i : Nat) (y : Sl) (L : List Ky) (H : Heap), i ≤ x.n → x.n - i < m → L.length ≤ i → i ≤ 25 → RawK H B x → Tabs B H → Kys H y L → (∀ j, y.at j → B ≤ j) →
    ∃ y' L' H', law17_list_p11010 (d + 1) m x y (i : Int) H = some (y'.v, H') ∧ Kys H' y' L' ∧ (∀ j, y'.at j → B ≤ j) ∧ L'.length ≤ 25 ∧ Keep (fun k => B ≤ k) H H' := by
  intro m
  induction m with
  | zero => intro i y L H h1 h2; omega
  | succ m ih =>
    intro i y L H h1 h2 hl h25 hr ht hy hB
    rw [law17_list_p11010_s]
    simp only [decide_eq_true_eq]
    have stop : ∃ y' L' H', law17_list_p11010001 (d + 1) m x y (i : Int) false H = some (y'.v, H') ∧ Kys H' y' L' ∧ (∀ j, y'.at j → B ≤ j) ∧ L'.length ≤ 25 ∧ Keep (fun k => B ≤ k) H H' := by
      rw [law17_list_p11010001_eq, if_neg (by simp)]
      exact ⟨y, L, H, rfl, hy, hB, by omega, Keep.refl _⟩
    by_cases hi : i < x.n
    · rw [if_pos (by omega)]
      by_cases g25 : i < 25
      · rw [show decide ((i : Int) < 25) = true from decide_eq_true (by omega), law17_list_p11010001_eq, if_pos rfl]
        obtain ⟨hBn, hn, hrr⟩ := hr
        obtain ⟨a, n0, n1, n2, n3, n5, odd, e1, e2, e3, e4⟩ := hrr i hi
        rw [e1]
        simp only [optK_s]
        rw [if_pos (by omega), Int.toNat_natCast, e3]
        simp only [optK_s, asA_s, newK_s]
        have g4 : (H.new (.cells [.int .i64 0, .int .i64 0, .int .i64 0, .int .i64 0, .string (S []), .int .i64 0] t_law17_Raw false 0 false)).get H.next = some (.cells [.int .i64 0, .int .i64 0, .int .i64 0, .int .i64 0, .string (S []), .int .i64 0] t_law17_Raw false 0 false) := by simp
        have hst := storeN (n := 6) (cs := [.int .i64 n0, .int .i64 n1, .int .i64 n2, .int .i64 n3, .string (S odd), .int .i64 n5]) g4 rfl rfl (raw_one n0 n1 n2 n3 n5 odd) (by omega)
        rw [show (#[Value.int .i64 n0, .int .i64 n1, .int .i64 n2, .int .i64 n3, .string (S odd), .int .i64 n5] : Array Value) = ⟨[.int .i64 n0, .int .i64 n1, .int .i64 n2, .int .i64 n3, .string (S odd), .int .i64 n5]⟩ from rfl, hst]
        generalize hH7 : (H.new (.cells [.int .i64 0, .int .i64 0, .int .i64 0, .int .i64 0, .string (S []), .int .i64 0] t_law17_Raw false 0 false)).put H.next (.cells [.int .i64 n0, .int .i64 n1, .int .i64 n2, .int .i64 n3, .string (S odd), .int .i64 n5] t_law17_Raw false 0 false) = H7
        have k7 : Keep (fun _ => False) H H7 := by subst hH7; exact ⟨by simp, fun k hk _ => by rw [Heap.get_put_ne _ _ (by omega), Heap.get_new_ne _ _ (by omega)]⟩
        have g7 : H7.get H.next = some (.cells [.int .i64 n0, .int .i64 n1, .int .i64 n2, .int .i64 n3, .string (S odd), .int .i64 n5] t_law17_Raw false 0 false) := by subst hH7; simp
        have n7 : H.next < H7.next := by subst hH7; simp
        have k7B : Keep (fun k => B ≤ k) H H7 := k7.mono fun _ _ h => h.elim
        obtain ⟨l, H', k', f1, f2, f3, f4⟩ := list_key d m x y i H.next B L H7 n0 n1 n2 n3 n5 odd e4 (ht.keep k7B) g7 n7 ⟨Whole.keep hy.1 k7 (fun _ _ h => h), hy.2⟩ (fun j hj => Whole.lt hy.1 hj) hB hBn (by omega) (by omega)
        rw [f1]
        have kk := k7B.trans f4 fun _ _ h => h
        obtain ⟨y', L', H2, z1, z2, z3, z4, z5⟩ := ih (i + 1) l (L ++ [k']) H' (by omega) (by omega) (by simp; omega) (by omega) (RawK.keep ⟨hBn, hn, hrr⟩ kk) (ht.keep kk) f2 f3
        exact ⟨y', L', H2, z1, z2, z3, z4, kk.trans z5 fun _ _ h => h⟩
      · rw [show decide ((i : Int) < 25) = false from decide_eq_false (by omega)]
        exact stop
    · rw [if_neg (by omega)]
      exact stop

theorem list_s (d B : Nat) (x : Sl) (H : Heap) (hr : RawK H B x) (ht : Tabs B H) : ∃ y L H', X (d + 2) n_law17_list [x.v] H = some (y.v, H') ∧ Kys H' y L ∧ (∀ j, y.at j → B ≤ j) ∧ L.length ≤ 25 ∧ Keep (fun k => B ≤ k) H H' := by
  rw [law17_list_eq]
  exact list_loop d B x NN 0 Sl.nil [] H (by omega) (NN_big _ (by have := hr.2.1; omega)) (by simp) (by omega) hr ht ⟨Whole.nil _ _ _, fun k hk => by cases hk⟩ (fun k hk => by obtain ⟨_, h, _⟩ := hk; cases h)
end Go.Proofs.YthphbdkhbaijlaaDoor.dec

namespace Go.Proofs.YthphbdkhbaijlaaDoor.dec
open Go Go.Cm

attribute [local congr] optK_congr asI_congr asN_congr asB_congr asS_congr asP_congr asA_congr asSL_congr callK_congr castT_congr chk_congr

theorem boxL {cs : List Value} (h : cs.all one = true) (t : TypeId) (H : Heap) (K : Value → Heap → Res) : effK (.box t) [.agg ⟨cs⟩] H K = K (P0 H.next) (H.new (.cells cs t false 0 false)) := by
  simp only [effK]
  rw [if_pos (show (cellsL (.agg ⟨cs⟩)).all one = true from h)]
  rfl

/-- one key of the list -/
theorem Kys.ldA {H : Heap} {x : Sl} {L : List Ky} (h : Kys H x L) {i : Nat} {k : Ky} (hk : L[i]? = some k) : ∃ b o st c, x.a = some ⟨b, 0, none⟩ ∧ x.at b ∧ H.get b = some (.cells c t_api_Key o 0 st) ∧ i * 35 + 35 ≤ c.length ∧ (c.drop (i * 35)).take 35 = keyL k := by
  have hlt := (List.getElem?_eq_some_iff.1 hk).1
  have hf := flat_len h.2
  obtain ⟨b, o, st, q1, q2, q3, q4⟩ : ∃ b o st, x = ⟨some ⟨b, 0, none⟩, x.n, x.n⟩ ∧ (L.map keyL).flatten.length = x.n * 35 ∧ H.get b = some (.cells (L.map keyL).flatten t_api_Key o 0 st) ∧ x.at b := by
    rcases h.1 with ⟨_, e⟩ | ⟨b, n, rfl, h1, _, o, st, h2⟩
    · rw [e] at hf; simp at hf; omega
    · exact ⟨b, o, st, rfl, h1, h2, _, rfl, rfl⟩
  refine ⟨b, o, st, _, by rw [q1], q4, q3, by omega, ?_⟩
  obtain ⟨_, f2⟩ := flat_at 35 (L.map keyL) (fun c hc => by
    obtain ⟨k', hk', rfl⟩ := List.mem_map.1 hc
    exact keyL_len (h.2 k' hk').1)
  exact f2 i (keyL k) (by rw [List.getElem?_map, hk]; rfl)
theorem Kys.keep {S : Nat → Prop} {H H' : Heap} {x : Sl} {L : List Ky} (h : Kys H x L) (hk : Keep S H H') (hn : ∀ j, x.at j → ¬ S j) : Kys H' x L := ⟨Whole.keep h.1 hk hn, h.2⟩
theorem Kys.load {H : Heap} {x : Sl} {L : List Ky} (h : Kys H x L) {i : Nat} {k : Ky} (hk : L[i]? = some k) : ∃ a, x.a = some a ∧ Cm.ldA H (ap a (i * 35)) 35 = some (.agg ⟨keyL k⟩) ∧ Cm.ldA H (ap (ap a (i * 35)) 1) 32 = some (.agg ⟨pubL k.pub⟩) := by
  obtain ⟨b, o, st, c, e1, _, e3, e4, e5⟩ := h.ldA hk
  have hp := (h.2 k (List.mem_of_getElem? hk)).1
  refine ⟨_, e1, ?_, ?_⟩
  · unfold Cm.ldA
    simp only [ap, Nat.zero_add]
    rw [ldN_s e3 (by omega), e5]
  · unfold Cm.ldA
    simp only [ap, Nat.zero_add]
    rw [ldN_s e3 (by omega)]
    have : (c.drop (i * 35 + 1)).take 32 = pubL k.pub := by
      have h1 := congrArg (fun l => (l.drop 1).take 32) e5
      simp only [List.drop_take, List.drop_drop, List.take_take] at h1
      rw [show min 32 (35 - 1) = 32 from rfl] at h1
      rw [h1]
      simp only [keyL, List.drop_succ_cons, List.drop_zero]
      rw [List.take_append_of_le_length (by rw [pubL_len]; omega), List.take_of_length_le (by rw [pubL_len]; omega)]
    rw [this]
theorem ld32 {H : Heap} {p : Nat} {k : Ky} (h : H.get p = some (.cells (keyL k) t_api_Key false 0 false)) (hp : k.pub.length = 32) : Cm.ldA H ⟨p, 1, none⟩ 32 = some (.agg ⟨pubL k.pub⟩) := by
  unfold Cm.ldA
  rw [ldN_s h (by rw [keyL_len hp]; omega)]
  have : ((keyL k).drop 1).take 32 = pubL k.pub := by
    simp only [keyL, List.drop_succ_cons, List.drop_zero]
    rw [List.take_append_of_le_length (by rw [pubL_len]; omega), List.take_of_length_le (by rw [pubL_len]; omega)]
  rw [this]

def ee (p q : List Int) : Option Bool := eqL [.int .u8, .int .u8, .int .u8, .int .u8, .int .u8, .int .u8, .int .u8, .int .u8, .int .u8, .int .u8, .int .u8, .int .u8, .int .u8, .int .u8, .int .u8, .int .u8, .int .u8, .int .u8, .int .u8, .int .u8, .int .u8, .int .u8, .int .u8, .int .u8, .int .u8, .int .u8, .int .u8, .int .u8, .int .u8, .int .u8, .int .u8, .int .u8] (pubL p) (pubL q)
def findL (t : List Int) : List Ky → Option Ky
  | [] => none
  | k :: L => if ee k.pub t = some true then some k else findL t L
def FR (q : Option Ky) : Value := .tuple #[.agg ⟨keyL (q.getD k0)⟩, .bool q.isSome]
theorem findL_ok {t : List Int} {L : List Ky} (h : ∀ k ∈ L, KOK k) : KOK ((findL t L).getD k0) := by
  induction L with
  | nil => exact ⟨by simp [findL, k0], by simp [findL, k0], by simp [findL, k0], by simp only [findL, k0, Option.getD_none]; exact U8L.zero 32⟩
  | cons k L ih =>
    simp only [findL]
    split
    · exact h k (by simp)
    · exact ih fun x hx => h x (by simp [hx])

theorem sz32 {p q : List Int} (hp : p.length = 32) (hq : q.length = 32) : (Array.size (⟨pubL p⟩ : Array Value) == 32 && Array.size (⟨pubL q⟩ : Array Value) == 32) = true := by
  have h1 : Array.size (⟨pubL p⟩ : Array Value) = 32 := (pubL_len p).trans hp
  have h2 : Array.size (⟨pubL q⟩ : Array Value) = 32 := (pubL_len q).trans hq
  rw [h1, h2]
  rfl

theorem found {H : Heap} {p : Nat} {k : Ky} (hk : k.pub.length = 32) (h : H.get p = some (.cells (keyL k) t_api_Key false 0 false)) (b : Bool) : retK [.cell 4 35 true, .tmp 5] [(4, P0 p), (5, .bool b)] H = some (.tuple #[.agg ⟨keyL k⟩, .bool b], H) := by
  have hr := loadAll h (keyL_len hk)
  have hg : Fr.get [(4, P0 p), (5, .bool b)] 4 = some (P0 p) := rfl
  have hg5 : Fr.get [(4, P0 p), (5, .bool b)] 5 = some (.bool b) := rfl
  simp only [retK, resL, hg, hr, hg5]

theorem find_loop (d pb p3 B : Nat) (t : List Int) (ht : t.length = 32) (x : Sl) (L : List Ky) (hB : B ≤ pb ∧ B ≤ p3) (hpb : pb ≠ p3) (hx : ∀ j, x.at j → j < B) (hL : L.length ≤ 1000) : ∀ (m i : Nat) (H : Heap), i ≤ L.length → L.length - i < m → Kys H x L → H.get pb = some (.cells (pubL t) t_32_uint8 false 0 false) → H.get p3 = some (.cells (keyL k0) t_api_Key false 0 false) → pb < H.next → p3 < H.next →
    ∃ H', keys_Find_p1010 d m (P0 pb) p3 x (x.n : Int) (i : Int) H = some (FR (findL t (L.drop i)), H') ∧ Keep (fun k => B ≤ k) H H' := by
  intro m
  induction m with
  | zero => intro i H h1 h2; omega
  | succ m ih =>
    intro i H hi hm hk h32 h3 nb n3
    have hn := hk.num
    rw [keys_Find_p1010_s, ← k0_eq]
    simp only [decide_eq_true_eq]
    by_cases h : i < L.length
    · rw [if_pos (by omega)]
      have hc : L[i]? = some L[i] := List.getElem?_eq_getElem h
      have hd : L.drop i = L[i] :: L.drop (i + 1) := List.drop_eq_getElem_cons h
      have hok := hk.2 _ (List.getElem_mem h)
      generalize L[i] = k at hc hd hok
      obtain ⟨a, e1, e2, _⟩ := hk.load hc
      rw [e1]
      simp only [optK_s]
      rw [if_pos (by omega), Int.toNat_natCast, e2]
      simp only [optK_s, asA_s, newK_s]
      have g4 : (H.new (.cells (keyL k0) t_api_Key false 0 false)).get H.next = some (.cells (keyL k0) t_api_Key false 0 false) := by simp
      rw [storeN (n := 35) g4 (keyL_len (by simp [k0])) (keyL_len hok.1) (keyL_one k) (by omega)]
      generalize hH7 : (H.new (.cells (keyL k0) t_api_Key false 0 false)).put H.next (.cells (keyL k) t_api_Key false 0 false) = H7
      have k7 : Keep (fun _ => False) H H7 := by subst hH7; exact ⟨by simp, fun j hj _ => by rw [Heap.get_put_ne _ _ (by omega), Heap.get_new_ne _ _ (by omega)]⟩
      have g7 : H7.get H.next = some (.cells (keyL k) t_api_Key false 0 false) := by subst hH7; simp
      have n7 := k7.1
      have h32' := (k7.2 pb nb id).trans h32
      have h3' := (k7.2 p3 n3 id).trans h3
      rw [ld32 g7 hok.1]
      simp only [optK_s, asA_s]
      rw [loadAll h32' (by rw [pubL_len]; exact ht)]
      simp only [optK_s, asA_s]
      rw [sz32 hok.1 ht]
      simp only [chk_s]
      obtain ⟨b, hb⟩ := eqPub k.pub t hok.1 ht
      rw [hb, hd, findL]
      simp only [optK_s]
      have hee : ee k.pub t = some b := hb
      rw [hee]
      have k7B : Keep (fun k => B ≤ k) H H7 := k7.mono fun _ _ h => h.elim
      cases b with
      | true =>
        rw [if_pos rfl, if_pos rfl, ldAll g7 (keyL_len hok.1)]
        simp only [optK_s, asA_s]
        rw [storeN (n := 35) h3' (keyL_len (by simp [k0])) (keyL_len hok.1) (keyL_one k) (by omega), found hok.1 (by simp) true]
        exact ⟨_, rfl, k7B.trans (Keep.put (S := fun k => B ≤ k) _ _ _ hB.2) fun _ _ h => h⟩
      | false =>
        rw [if_neg (by simp), if_neg (by simp), w64 (by omega), show ((i : Int) + 1) = ((i + 1 : Nat) : Int) by omega]
        obtain ⟨H', f1, f2⟩ := ih (i + 1) H7 (by omega) (by omega) (hk.keep k7 (fun _ _ h => h)) h32' h3' (by omega) (by omega)
        exact ⟨H', f1, k7B.trans f2 fun _ _ h => h⟩
    · rw [if_neg (by omega), List.drop_eq_nil_of_le (by omega)]
      have hst : H.stN ⟨p3, 0, none⟩ (keyL k0) = some (H.put p3 (.cells (keyL k0) t_api_Key false 0 false)) := by
        simp only [Heap.stN, h3]
        rw [if_pos (show 0 + (keyL k0).length ≤ (keyL k0).length ∧ 0 ≤ 0 by omega), splice_all rfl]
      rw [hst]
      simp only [optK_s]
      rw [found (k := k0) (by simp [k0]) (by simp) false]
      exact ⟨_, rfl, Keep.put (S := fun k => B ≤ k) _ _ _ hB.2⟩

theorem Find_s (d : Nat) (t : List Int) (ht : t.length = 32) (x : Sl) (L : List Ky) (H : Heap) (hk : Kys H x L) (hL : L.length ≤ 1000) : ∃ H', X (d + 1) n_keys_Find [x.v, .agg ⟨pubL t⟩] H = some (FR (findL t L), H') ∧ Keep (fun _ => False) H H' := by
  rw [keys_Find_eq, boxL (pubL_one t), ← k0_eq]
  simp only [newK_s]
  generalize hH2 : H.new (.cells (pubL t) t_32_uint8 false 0 false) = H2
  have k2 : Keep (fun _ => False) H H2 := by subst hH2; exact Keep.new _ _
  have g2 : H2.get H.next = some (.cells (pubL t) t_32_uint8 false 0 false) := by subst hH2; simp
  have n2 : H2.next = H.next + 1 := by subst hH2; simp
  generalize hH4 : H2.new (.cells (keyL k0) t_api_Key false 0 false) = H4
  have k4 : Keep (fun _ => False) H2 H4 := by subst hH4; exact Keep.new _ _
  have g4 : H4.get H2.next = some (.cells (keyL k0) t_api_Key false 0 false) := by subst hH4; simp
  have n4 : H4.next = H2.next + 1 := by subst hH4; simp
  have k24 := k2.trans k4 fun _ _ h => h
  obtain ⟨H', e, k⟩ := find_loop d H.next H2.next H.next t ht x L (by omega) (by omega) (fun j hj => Whole.lt hk.1 hj) hL NN 0 H4 (by omega) (NN_big _ (by omega)) (hk.keep k24 (fun _ _ h => h)) ((k4.2 _ (by omega) id).trans g2) g4 (by omega) (by omega)
  rw [show (((0 : Nat)) : Int) = 0 from rfl, List.drop_zero] at e
  rw [e]
  exact ⟨H', rfl, (k24.mono (T := fun k => H.next ≤ k) fun _ _ h => h.elim).trans k (fun _ _ h => h) |>.mono fun j hj h => by omega⟩

theorem rfind_loop (d pb p3 B : Nat) (t : List Int) (ht : t.length = 32) (x : Sl) (L : List Ky) (hB : B ≤ pb ∧ B ≤ p3) (H : Heap) (hk : Kys H x L) (h32 : H.get pb = some (.cells (pubL t) t_32_uint8 false 0 false)) (h3 : H.get p3 = some (.cells (keyL k0) t_api_Key false 0 false)) (hL : L.length ≤ 1000) : ∀ (m i : Nat), i ≤ L.length → L.length - i < m →
    ∃ H', ref15_Find_p1010 d m x (P0 pb) p3 (i : Int) H = some (FR (findL t (L.drop i)), H') ∧ Keep (fun k => B ≤ k) H H' := by
  intro m
  have hn := hk.num
  induction m with
  | zero => intro i h1 h2; omega
  | succ m ih =>
    intro i hi hm
    rw [ref15_Find_p1010_s, ← k0_eq]
    simp only [decide_eq_true_eq]
    by_cases h : i < L.length
    · rw [if_pos (by omega)]
      have hc : L[i]? = some L[i] := List.getElem?_eq_getElem h
      have hd : L.drop i = L[i] :: L.drop (i + 1) := List.drop_eq_getElem_cons h
      have hok := hk.2 _ (List.getElem_mem h)
      generalize L[i] = k at hc hd hok
      obtain ⟨a, e1, e2, e3⟩ := hk.load hc
      rw [e1]
      simp only [optK_s]
      rw [if_pos (by omega), Int.toNat_natCast, e3]
      simp only [optK_s, asA_s]
      rw [loadAll h32 (by rw [pubL_len]; exact ht)]
      simp only [optK_s, asA_s]
      rw [sz32 hok.1 ht]
      simp only [chk_s]
      obtain ⟨b, hb⟩ := eqPub k.pub t hok.1 ht
      rw [hb, hd, findL]
      simp only [optK_s]
      have hee : ee k.pub t = some b := hb
      rw [hee]
      cases b with
      | true =>
        rw [if_pos rfl, if_pos rfl, if_pos (by omega), e2]
        simp only [optK_s, asA_s]
        rw [storeN (n := 35) h3 (keyL_len (by simp [k0])) (keyL_len hok.1) (keyL_one k) (by omega), found hok.1 (by simp) true]
        exact ⟨_, rfl, Keep.put (S := fun k => B ≤ k) _ _ _ hB.2⟩
      | false =>
        rw [if_neg (by simp), if_neg (by simp), w64 (by omega), show ((i : Int) + 1) = ((i + 1 : Nat) : Int) by omega]
        exact ih (i + 1) (by omega) (by omega)
    · rw [if_neg (by omega), List.drop_eq_nil_of_le (by omega)]
      have hst : H.stN ⟨p3, 0, none⟩ (keyL k0) = some (H.put p3 (.cells (keyL k0) t_api_Key false 0 false)) := by
        simp only [Heap.stN, h3]
        rw [if_pos (show 0 + (keyL k0).length ≤ (keyL k0).length ∧ 0 ≤ 0 by omega), splice_all rfl]
      rw [hst]
      simp only [optK_s]
      rw [found (k := k0) (by simp [k0]) (by simp) false]
      exact ⟨_, rfl, Keep.put (S := fun k => B ≤ k) _ _ _ hB.2⟩

theorem RFind_s (d : Nat) (t : List Int) (ht : t.length = 32) (x : Sl) (L : List Ky) (H : Heap) (hk : Kys H x L) (hL : L.length ≤ 1000) : ∃ H', X (d + 1) n_ref15_Find [x.v, .agg ⟨pubL t⟩] H = some (FR (findL t L), H') ∧ Keep (fun _ => False) H H' := by
  rw [ref15_Find_eq, boxL (pubL_one t), ← k0_eq]
  simp only [newK_s]
  generalize hH2 : H.new (.cells (pubL t) t_32_uint8 false 0 false) = H2
  have k2 : Keep (fun _ => False) H H2 := by subst hH2; exact Keep.new _ _
  have g2 : H2.get H.next = some (.cells (pubL t) t_32_uint8 false 0 false) := by subst hH2; simp
  have n2 : H2.next = H.next + 1 := by subst hH2; simp
  generalize hH4 : H2.new (.cells (keyL k0) t_api_Key false 0 false) = H4
  have k4 : Keep (fun _ => False) H2 H4 := by subst hH4; exact Keep.new _ _
  have g4 : H4.get H2.next = some (.cells (keyL k0) t_api_Key false 0 false) := by subst hH4; simp
  have k24 := k2.trans k4 fun _ _ h => h
  obtain ⟨H', e, k⟩ := rfind_loop d H.next H2.next H.next t ht x L (by omega) H4 (hk.keep k24 (fun _ _ h => h)) ((k4.2 _ (by omega) id).trans g2) g4 hL NN 0 (by omega) (NN_big _ (by omega))
  rw [show (((0 : Nat)) : Int) = 0 from rfl, List.drop_zero] at e
  rw [e]
  exact ⟨H', rfl, (k24.mono (T := fun k => H.next ≤ k) fun _ _ h => h.elim).trans k (fun _ _ h => h) |>.mono fun j hj h => by omega⟩

/-! ### Allows -/
def AllowP (k : Ky) (r : Int) (s : W) : Prop := 1 ≤ r ∧ r ≤ 7 ∧ bitsI .and .i64 k.rights r = r ∧ M k.pat s
theorem get33 (k : Ky) (hp : k.pub.length = 32) : (keyL k)[33]? = some (.int .i64 k.rights) := by
  obtain ⟨nm, p, r', pat⟩ := k
  simp only at hp
  match p, hp with
  | [a0, a1, a2, a3, a4, a5, a6, a7, a8, a9, a10, a11, a12, a13, a14, a15, a16, a17, a18, a19, a20, a21, a22, a23, a24, a25, a26, a27, a28, a29, a30, a31], _ => rfl
theorem get34 (k : Ky) (hp : k.pub.length = 32) : (keyL k)[34]? = some (.string (S k.pat)) := by
  obtain ⟨nm, p, r', pat⟩ := k
  simp only at hp
  match p, hp with
  | [a0, a1, a2, a3, a4, a5, a6, a7, a8, a9, a10, a11, a12, a13, a14, a15, a16, a17, a18, a19, a20, a21, a22, a23, a24, a25, a26, a27, a28, a29, a30, a31], _ => rfl

theorem Allows_s (d : Nat) (k : Ky) (hk : KOK k) (r : Int) (s : W) (hs : s.length ≤ 1048576) (H : Heap) : ∃ b H', X (d + 4) n_keys_Allows [.agg ⟨keyL k⟩, .int .i64 r, .string (S s)] H = some (.bool b, H') ∧ (b = true ↔ AllowP k r s) ∧ Keep (fun _ => False) H H' := by
  rw [keys_Allows_eq, boxL (keyL_one k)]
  have k1 : Keep (fun _ => False) H (H.new (.cells (keyL k) t_api_Key false 0 false)) := Keep.new _ _
  have g1 : (H.new (.cells (keyL k) t_api_Key false 0 false)).get H.next = some (.cells (keyL k) t_api_Key false 0 false) := by simp
  generalize (H.new (.cells (keyL k) t_api_Key false 0 false)) = H1 at *
  simp only [decide_eq_true_eq]
  by_cases c1 : 1 ≤ r
  · rw [if_pos c1]
    by_cases c2 : r ≤ 7
    · rw [if_pos c2]
      simp only [show ∀ (K : Option Addr → Res), asP (P0 H.next) K = K (some ⟨H.next, 0, none⟩) from fun _ => rfl, optK_s, ap, Nat.zero_add, ld1_s g1, get33 k hk.1, asI_s]
      by_cases c3 : bitsI .and .i64 k.rights r = r
      · rw [if_pos c3]
        simp only [show ∀ (K : Option Addr → Res), asP (P0 H.next) K = K (some ⟨H.next, 0, none⟩) from fun _ => rfl, optK_s, ap, Nat.zero_add, ld1_s g1, get34 k hk.1, asS_s]
        obtain ⟨b, e, h⟩ := Match_s d k.pat s hk.2.2.1 hs H1
        rw [e]
        exact ⟨b, H1, rfl, by rw [h]; exact ⟨fun g => ⟨c1, c2, c3, g⟩, fun g => g.2.2.2⟩, k1⟩
      · rw [if_neg c3]
        exact ⟨false, H1, rfl, by simp [AllowP, c3], k1⟩
    · rw [if_neg c2]
      exact ⟨false, H1, rfl, by simp [AllowP, c2], k1⟩
  · rw [if_neg c1]
    exact ⟨false, H1, rfl, by simp [AllowP, c1], k1⟩

theorem RAllows_s (d : Nat) (k : Ky) (hk : KOK k) (r : Int) (s : W) (hs : s.length ≤ 1048576) (H : Heap) : ∃ b H', X (d + 2) n_ref15_Allows [.agg ⟨keyL k⟩, .int .i64 r, .string (S s)] H = some (.bool b, H') ∧ (b = true ↔ AllowP k r s) ∧ Keep (fun _ => False) H H' := by
  rw [ref15_Allows_eq, boxL (keyL_one k)]
  have k1 : Keep (fun _ => False) H (H.new (.cells (keyL k) t_api_Key false 0 false)) := Keep.new _ _
  have g1 : (H.new (.cells (keyL k) t_api_Key false 0 false)).get H.next = some (.cells (keyL k) t_api_Key false 0 false) := by simp
  generalize (H.new (.cells (keyL k) t_api_Key false 0 false)) = H1 at *
  simp only [decide_eq_true_eq]
  by_cases c1 : 1 ≤ r
  · rw [if_pos c1]
    by_cases c2 : r ≤ 7
    · rw [if_pos c2]
      simp only [show ∀ (K : Option Addr → Res), asP (P0 H.next) K = K (some ⟨H.next, 0, none⟩) from fun _ => rfl, optK_s, ap, Nat.zero_add, ld1_s g1, get33 k hk.1, asI_s]
      by_cases c3 : bitsI .and .i64 k.rights r = r
      · rw [if_pos c3]
        simp only [show ∀ (K : Option Addr → Res), asP (P0 H.next) K = K (some ⟨H.next, 0, none⟩) from fun _ => rfl, optK_s, ap, Nat.zero_add, ld1_s g1, get34 k hk.1, asS_s]
        obtain ⟨b, H2, e, h, k2⟩ := RMatch_s d k.pat s hk.2.2.1 hs H1
        rw [e]
        exact ⟨b, H2, rfl, by rw [h]; exact ⟨fun g => ⟨c1, c2, c3, g⟩, fun g => g.2.2.2⟩, k1.trans k2 fun _ _ h => h⟩
      · rw [if_neg c3]
        exact ⟨false, H1, rfl, by simp [AllowP, c3], k1⟩
    · rw [if_neg c2]
      exact ⟨false, H1, rfl, by simp [AllowP, c2], k1⟩
  · rw [if_neg c1]
    exact ⟨false, H1, rfl, by simp [AllowP, c1], k1⟩

theorem sameL_refl : ∀ (l : List Value), (∀ v ∈ l, same0 v v = true) → sameL l l = true := by
  intro l
  induction l with
  | nil => intro _; rfl
  | cons v l ih => intro h; simp only [sameL, h v (by simp), ih fun x hx => h x (by simp [hx]), Bool.and_self]
theorem same_key (k : Ky) : same (.agg ⟨keyL k⟩) (.agg ⟨keyL k⟩) = true := by
  show sameL (keyL k) (keyL k) = true
  refine sameL_refl _ fun v hv => ?_
  simp only [keyL, pubL, List.mem_cons, List.mem_append, List.mem_map, List.not_mem_nil, or_false] at hv
  rcases hv with rfl | ⟨n, _, rfl⟩ | rfl | rfl
  · simp [same0, sEq]
  · simp [same0]
  · simp [same0]
  · simp [same0, sEq]

theorem allows_find (d p12 : Nat) (t : List Int) (ht : t.length = 32) (x : Sl) (L : List Ky) (H : Heap) (hk : Kys H x L) (hL : L.length ≤ 1000) (h12 : H.get p12 = some (.cells (pubL t) t_32_uint8 false 0 false)) (hn : p12 < H.next) :
    ∃ H', law17_KeysAllows_p111011 (d + 1) x p12 H = some (.bool true, H') := by
  rw [law17_KeysAllows_p111011_eq, ← k0_eq, ldAll h12 (by rw [pubL_len]; exact ht)]
  simp only [optK_s, asA_s]
  obtain ⟨H4, e4, k4⟩ := Find_s d t ht x L H hk hL
  rw [e4]
  have hfk := findL_ok (t := t) hk.2
  simp only [FR, callK_s, castT_s, castL_c, castL_n, cast0, asA_s, asB_s, List.getElem?_cons_zero, List.getElem?_cons_succ, optK_s, newK_s]
  have g5 : (H4.new (.cells (keyL k0) t_api_Key false 0 false)).get H4.next = some (.cells (keyL k0) t_api_Key false 0 false) := by simp
  rw [storeN (n := 35) g5 (keyL_len (by simp [k0])) (keyL_len hfk.1) (keyL_one _) (by omega)]
  generalize hH14 : (H4.new (.cells (keyL k0) t_api_Key false 0 false)).put H4.next (.cells (keyL ((findL t L).getD k0)) t_api_Key false 0 false) = H14
  have k14 : Keep (fun _ => False) H4 H14 := by subst hH14; exact ⟨by simp, fun j hj _ => by rw [Heap.get_put_ne _ _ (by omega), Heap.get_new_ne _ _ (by omega)]⟩
  have g14 : H14.get H4.next = some (.cells (keyL ((findL t L).getD k0)) t_api_Key false 0 false) := by subst hH14; simp
  have n14 : H4.next < H14.next := by subst hH14; simp
  have kk := k4.trans k14 fun _ _ h => h
  have h12' := (kk.2 p12 hn id).trans h12
  rw [ldAll h12' (by rw [pubL_len]; exact ht)]
  simp only [optK_s, asA_s]
  obtain ⟨H18, e18, k18⟩ := RFind_s d t ht x L H14 (hk.keep kk (fun _ _ h => h)) hL
  rw [e18]
  simp only [FR, callK_s, castT_s, castL_c, castL_n, cast0, asA_s, asB_s, List.getElem?_cons_zero, List.getElem?_cons_succ, optK_s, newK_s]
  have g6 : (H18.new (.cells (keyL k0) t_api_Key false 0 false)).get H18.next = some (.cells (keyL k0) t_api_Key false 0 false) := by simp
  rw [storeN (n := 35) g6 (keyL_len (by simp [k0])) (keyL_len hfk.1) (keyL_one _) (by omega)]
  generalize hH28 : (H18.new (.cells (keyL k0) t_api_Key false 0 false)).put H18.next (.cells (keyL ((findL t L).getD k0)) t_api_Key false 0 false) = H28
  have k28 : Keep (fun _ => False) H18 H28 := by subst hH28; exact ⟨by simp, fun j hj _ => by rw [Heap.get_put_ne _ _ (by omega), Heap.get_new_ne _ _ (by omega)]⟩
  have g28 : H28.get H18.next = some (.cells (keyL ((findL t L).getD k0)) t_api_Key false 0 false) := by subst hH28; simp
  have g28' : H28.get H4.next = some (.cells (keyL ((findL t L).getD k0)) t_api_Key false 0 false) := ((k18.trans k28 fun _ _ h => h).2 H4.next n14 id).trans g14
  rw [law17_KeysAllows_p111011011_eq, known_s]
  simp only [callK_s, asB_s, if_true, beq_self_eq_true]
  rw [ldAll g28' (keyL_len hfk.1)]
  simp only [optK_s, asA_s]
  rw [ldAll g28 (keyL_len hfk.1)]
  simp only [optK_s, asA_s]
  rw [show (Array.size (⟨keyL ((findL t L).getD k0)⟩ : Array Value) == 35 && Array.size (⟨keyL ((findL t L).getD k0)⟩ : Array Value) == 35) = true from by
    have h1 : Array.size (⟨keyL ((findL t L).getD k0)⟩ : Array Value) = 35 := keyL_len hfk.1
    rw [h1]; rfl]
  simp only [chk_s]
  rw [eqKey _ hfk.1]
  exact ⟨H28, rfl⟩

theorem allows_body (d : Nat) (x1 x2 : Int) (s : W) (hs : s.length ≤ 1048576) (x : Sl) (L : List Ky) (H : Heap) (hk : Kys H x L) (hL : L.length ≤ 1000) :
    ∃ H', law17_KeysAllows_p111 (d + 4) x1 x2 (S s) x H = some (.bool true, H') := by
  rw [law17_KeysAllows_p111_eq, ← p0_eq]
  obtain ⟨r, e, r1, r2⟩ := Pick_s (d + 3) x1 300 H (by omega) (by omega)
  rw [e]
  simp only [callK_s, asI_s]
  obtain ⟨q, H5, es, ⟨qs, _⟩, ks⟩ := Secret_s (d + 3) r H
  rw [es]
  simp only [callK_s, asA_s, newK_s]
  have g7 : (H5.new (.cells (pubL (List.replicate 32 0)) t_32_uint8 false 0 false)).get H5.next = some (.cells (pubL (List.replicate 32 0)) t_32_uint8 false 0 false) := by simp
  rw [storeN (n := 32) g7 (by rw [pubL_len]; simp) (by rw [pubL_len]; exact qs) (pubL_one q) (by omega)]
  generalize hH10 : (H5.new (.cells (pubL (List.replicate 32 0)) t_32_uint8 false 0 false)).put H5.next (.cells (pubL q) t_32_uint8 false 0 false) = H10
  have k10 : Keep (fun _ => False) H5 H10 := by subst hH10; exact ⟨by simp, fun j hj _ => by rw [Heap.get_put_ne _ _ (by omega), Heap.get_new_ne _ _ (by omega)]⟩
  have g10 : H10.get H5.next = some (.cells (pubL q) t_32_uint8 false 0 false) := by subst hH10; simp
  have n10 : H5.next < H10.next := by subst hH10; simp
  have kk := ks.trans k10 fun _ _ h => h
  have hk10 := hk.keep kk (fun _ _ h => h)
  have hnum := hk10.num
  have hxl : ∀ j, x.at j → j < H5.next := fun j hj => by have := Whole.lt hk.1 hj; have := ks.1; omega
  have stop : ∃ H', law17_KeysAllows_p1110101 (d + 4) x1 x2 (S s) x H5.next false H10 = some (.bool true, H') := by
    rw [law17_KeysAllows_p1110101_eq, if_neg (by simp)]
    exact allows_find (d + 3) H5.next q qs x L H10 hk10 hL g10 n10
  simp only [decide_eq_true_eq]
  by_cases h0 : (0 : Int) < (x.n : Int)
  · rw [if_pos h0]
    by_cases h3 : (0 : Int) < Int.tmod x1 3
    · rw [show decide ((0 : Int) < Int.tmod x1 3) = true from decide_eq_true h3, law17_KeysAllows_p1110101_eq, if_pos rfl, ← k0_eq]
      obtain ⟨j, e, j1, j2⟩ := Pick_s (d + 3) x1 (x.n : Int) H10 h0 (by omega)
      rw [e]
      simp only [callK_s, asI_s]
      have hjl : j.toNat < L.length := by omega
      have hc : L[j.toNat]? = some L[j.toNat] := List.getElem?_eq_getElem hjl
      have hok := hk.2 _ (List.getElem_mem hjl)
      generalize L[j.toNat] = k at hc hok
      obtain ⟨a, a1, a2, _⟩ := hk10.load hc
      rw [a1]
      simp only [optK_s]
      rw [if_pos ⟨j1, j2⟩, a2]
      simp only [optK_s, asA_s, newK_s]
      have g11 : (H10.new (.cells (keyL k0) t_api_Key false 0 false)).get H10.next = some (.cells (keyL k0) t_api_Key false 0 false) := by simp
      rw [storeN (n := 35) g11 (keyL_len (by simp [k0])) (keyL_len hok.1) (keyL_one k) (by omega)]
      generalize hH12 : (H10.new (.cells (keyL k0) t_api_Key false 0 false)).put H10.next (.cells (keyL k) t_api_Key false 0 false) = H12
      have k12 : Keep (fun _ => False) H10 H12 := by subst hH12; exact ⟨by simp, fun j hj _ => by rw [Heap.get_put_ne _ _ (by omega), Heap.get_new_ne _ _ (by omega)]⟩
      have g12 : H12.get H10.next = some (.cells (keyL k) t_api_Key false 0 false) := by subst hH12; simp
      have n12 : H10.next < H12.next := by subst hH12; simp
      have g12' := (k12.2 H5.next n10 id).trans g10
      rw [ld32 g12 hok.1]
      simp only [optK_s, asA_s]
      rw [storeN (n := 32) g12' (by rw [pubL_len]; exact qs) (by rw [pubL_len]; exact hok.1) (pubL_one k.pub) (by omega)]
      generalize hH14 : H12.put H5.next (.cells (pubL k.pub) t_32_uint8 false 0 false) = H14
      have k14 : Keep (· = H5.next) H12 H14 := by subst hH14; exact Keep.put _ _ _ rfl
      have g14 : H14.get H10.next = some (.cells (keyL k) t_api_Key false 0 false) := (k14.2 _ n12 (by omega)).trans g12
      have g14' : H14.get H5.next = some (.cells (pubL k.pub) t_32_uint8 false 0 false) := by subst hH14; simp
      have n14 := k14.1
      have hk14 : Kys H14 x L := (hk10.keep k12 (fun _ _ h => h)).keep k14 (fun j hj e => by have := hxl j hj; omega)
      rw [ldAll g14 (keyL_len hok.1)]
      simp only [optK_s, asA_s]
      obtain ⟨b, H18, e18, hb, k18⟩ := Allows_s d k hok x2 s hs H14
      rw [e18]
      simp only [callK_s, asB_s]
      have g18 := (k18.2 H10.next (by omega) id).trans g14
      rw [ldAll g18 (keyL_len hok.1)]
      simp only [optK_s, asA_s]
      obtain ⟨b', H23, e23, hb', k23⟩ := RAllows_s (d + 2) k hok x2 s hs H18
      rw [e23]
      simp only [callK_s, asB_s]
      have hrd : rdsOk [H14, H18, H23] [⟨.load 35 true, [P0 H10.next], .agg ⟨keyL k⟩, 0, 1⟩] = true := by
        simp [rdsOk, rdOk_2, rdAt, loadAll g14 (keyL_len hok.1), loadAll g18 (keyL_len hok.1), same_key]
      rw [hrd]
      simp only [chk_s]
      have hbb : b = b' := by
        cases b <;> cases b' <;> simp_all
      rw [hbb, if_neg (by simp)]
      have k1823 := k18.trans k23 fun _ _ h => h
      exact allows_find (d + 3) H5.next k.pub hok.1 x L H23 (hk14.keep k1823 (fun _ _ h => h)) hL ((k1823.2 H5.next (by omega) id).trans g14') (by have := k1823.1; omega)
    · rw [show decide ((0 : Int) < Int.tmod x1 3) = false from decide_eq_false h3]
      exact stop
  · rw [if_neg h0]
    exact stop

theorem KeysAllows_s (d B : Nat) (x : Sl) (x1 x2 : Int) (s : ByteArray) (near : Bool) (H : Heap) (hr : RawK H B x) (ht : Tabs B H) (hs : (lst s).length ≤ 1048576) : ∃ H', X (d + 5) n_law17_KeysAllows [x.v, .int .i64 x1, .int .i64 x2, .string s, .bool near] H = some (.bool true, H') := by
  rw [law17_KeysAllows_eq]
  obtain ⟨y, L, H2, e, hk, _, hL, kk⟩ := list_s (d + 2) B x H hr ht
  rw [e]
  simp only [callK_s, Sl.v, asSL_s]
  have ht2 := ht.keep kk
  cases near with
  | false =>
    rw [if_neg (by simp)]
    exact allows_body d x1 x2 (lst s) hs ⟨y.a, y.n, y.c⟩ L H2 hk (by omega)
  | true =>
    rw [if_pos rfl]
    obtain ⟨r, e1, r1, r2⟩ := Pick_s (d + 3) x1 6 H2 (by omega) (by omega)
    rw [e1]
    simp only [callK_s, asI_s]
    obtain ⟨u, v1, w1⟩ := ht2.2.2.1 r.toNat (by omega)
    rw [if_pos ⟨r1, r2⟩, Nat.mul_one, v1]
    simp only [optK_s, asS_s]
    obtain ⟨r', e2, _, _⟩ := Pick_s (d + 3) x2 9 H2 (by omega) (by omega)
    rw [e2]
    simp only [callK_s, asI_s]
    exact allows_body d x1 r' u (by omega) ⟨y.a, y.n, y.c⟩ L H2 hk (by omega)
end Go.Proofs.YthphbdkhbaijlaaDoor.dec

namespace Go.Cm
open Go
theorem DR.array_inv {H : Type} {P : Program} {ws : List Win} {t e : TypeId} {n : Nat} {cs : List Value} {d : DataW H} (h : DR P ws t cs d) (ht : P.underlying t = some (.array n e)) : ∃ ds : List (DataW H), d = .agg ds ∧ ds.length = n ∧ ∀ (i : Nat) d, ds[i]? = some d → DR P ws e ((cs.drop (i * P.cellsOf e)).take (P.cellsOf e)) d := by
  cases h
  case array e' n' ds hn hu hd hl =>
    rw [ht] at hu
    cases hu
    exact ⟨_, rfl, hn, hd⟩
  all_goals simp_all
end Go.Cm
namespace Go.Proofs.YthphbdkhbaijlaaDoor.frame
open Go Go.Cm Go.ChangeShapes Go.WideShapes Go.ChangeAt Go.RowKit

set_option maxRecDepth 100000 in
theorem raws_of {H : Type} {ws : List Win} {cs : List Value} {d : DataW H} (h : DR Tryd.prog ws 31 cs d) (hk : Rows.uptoBulk d ≤ 1048576) : ∃ (x : Sl), cs = [x.v] ∧ dec.RawK (heapW ws) (heapW ws).next x := by
  obtain ⟨x, es, rest, rfl, h1, h2, h3, h4⟩ := h.slice_inv Tryd.underlying31
  have hc : Tryd.prog.cellsOf 60 = 6 := by kernel_rfl
  have hc3 : Tryd.prog.cellsOf 3 = 1 := by kernel_rfl
  have hc9 : Tryd.prog.cellsOf 9 = 1 := by kernel_rfl
  rw [hc] at h4
  have hes : ∀ dd ∈ es, Rows.uptoBulk dd ≤ 1048575 := by
    intro dd hdd
    rcases h3 with ⟨rfl, rfl⟩ | rfl
    · cases hdd
    · have := all_le hdd
      simp only [Rows.uptoBulk] at hk
      omega
  have hlen : es.length ≤ 1048575 := by
    rcases h3 with ⟨rfl, rfl⟩ | rfl
    · simp
    · have := length_le es
      simp only [Rows.uptoBulk] at hk
      omega
  refine ⟨x, rfl, Nat.le_refl _, by omega, fun i hi => ?_⟩
  have hi' : i < es.length := by omega
  obtain ⟨b, y, q1, q2, q3, q4⟩ := h4 i _ (List.getElem?_eq_getElem hi')
  have hbulk := hes _ (List.getElem_mem hi')
  generalize es[i] = dd at q4 hbulk
  have hb : b < ws.length := (List.getElem?_eq_some_iff.1 q2).1
  obtain ⟨g1, ds, rfl, g2, g3⟩ := q4.struct_inv Tryd.underlying60
  rw [hc] at g1
  generalize hcs : (y.cells.drop (i * 6)).take 6 = cs at g1 g3
  match cs, g1 with
  | [c0, c1, c2, c3, c4, c5], _ =>
    match ds, g2 with
    | [d0, d1, d2, d3, d4, d5], _ =>
      have f0 := g3 0 _ _ rfl rfl
      have f1 := g3 1 _ _ rfl rfl
      have f2 := g3 2 _ _ rfl rfl
      have f3 := g3 3 _ _ rfl rfl
      have f4 := g3 4 _ _ rfl rfl
      have f5 := g3 5 _ _ rfl rfl
      simp only [hc3, hc9] at f0 f1 f2 f3 f4 f5
      obtain ⟨n0, e0, _⟩ := f0.int_inv Tryd.underlying3
      obtain ⟨n1, e1, _⟩ := f1.int_inv Tryd.underlying3
      obtain ⟨n2, e2, _⟩ := f2.int_inv Tryd.underlying3
      obtain ⟨n3, e3, _⟩ := f3.int_inv Tryd.underlying3
      obtain ⟨odd, e4, o4⟩ := f4.string_inv Tryd.underlying9
      obtain ⟨n5, e5, _⟩ := f5.int_inv Tryd.underlying3
      obtain rfl : c0 = .int .i64 n0 := by simpa using e0
      obtain rfl : c1 = .int .i64 n1 := by simpa using e1
      obtain rfl : c2 = .int .i64 n2 := by simpa using e2
      obtain rfl : c3 = .int .i64 n3 := by simpa using e3
      obtain rfl : c4 = .string odd := by simpa using e4
      obtain rfl : c5 = .int .i64 n5 := by simpa using e5
      have hb4 : Rows.uptoBulk d4 ≤ 1048575 := by
        simp only [Rows.uptoBulk, Rows.uptoBulkAll] at hbulk
        omega
      subst o4
      have hs := string_le (H := H) odd
      refine ⟨⟨b, 0, none⟩, n0, n1, n2, n3, n5, lst odd, q1, hb, ?_, by omega⟩
      unfold Cm.ldA
      simp only [ap, Nat.zero_add]
      rw [ldN_s (heapW_get q2) (by omega), hcs]
      rfl

theorem tab_of {ws : List Win} {g n : Nat} {t : TypeId} {y : Win} {ds : List (DataW Unit)} (hy : ws[g]? = some y) (ht : Tryd.prog.underlying t = some (.array n 9)) (h : DR Tryd.prog ws t y.cells (.agg ds)) (hs : ∀ d ∈ ds, ∃ b : List UInt8, d = .lit (.string b) ∧ b.length ≤ 20) : ∀ i, i < n → ∃ u : dec.W, (heapW ws).ld1 ⟨g, 0 + i, none⟩ = some (.string (S u)) ∧ u.length ≤ 20 := by
  intro i hi
  obtain ⟨ds', e, hn, hd⟩ := h.array_inv ht
  cases e
  have hc9 : Tryd.prog.cellsOf 9 = 1 := by kernel_rfl
  have hx : ds[i]? = some ds[i] := List.getElem?_eq_getElem (by omega)
  have hdr := hd i _ hx
  rw [hc9, Nat.mul_one] at hdr
  obtain ⟨s, e1, e2⟩ := hdr.string_inv Tryd.underlying9
  obtain ⟨b, b1, b2⟩ := hs _ (List.getElem_mem (by omega : i < ds.length))
  rw [b1] at e2
  have hbs : b = s.data.toList := by simpa using e2
  refine ⟨lst s, ?_, ?_⟩
  · rw [ld1_s (heapW_get hy), Nat.zero_add]
    have : ((y.cells.drop i).take 1)[0]? = some (.string s) := by rw [e1]; rfl
    have h2 : y.cells[i]? = some (.string s) := by simpa using this
    rw [h2]
    rfl
  · have : (lst s).length = b.length := by rw [hbs]; rfl
    omega

theorem short20 {bs : List (List UInt8)} (h : bs.all (fun b => decide (b.length ≤ 20)) = true) : ∀ d ∈ bs.map (fun b => (.lit (.string b) : DataW Unit)), ∃ b : List UInt8, d = .lit (.string b) ∧ b.length ≤ 20 := by
  intro d hd
  obtain ⟨b, hb, rfl⟩ := List.mem_map.1 hd
  exact ⟨b, rfl, of_decide_eq_true (List.all_eq_true.1 h b hb)⟩

def GS : List GW := [some ("porthole/portholelaw17.names", 34, Rows.laid_porthole_portholelaw17_names), some ("porthole/portholelaw17.patterns", 61, Rows.laid_porthole_portholelaw17_patterns)]
theorem rowsGS : (List.range GS.length).all (fun g => (((begin Tryd.prog (fun _ _ => 0) default).world.heap[g]?).bind Obj.row?).isSome) = true := by kernel_rfl
theorem progGS (n0 : Nat) {w : World} (hsh : w.ShapedOpen Tryd.prog) : ProgOK Tryd.prog (startG GS.length n0 w) [0, 1] dec.C := prog_ok_at (by decide) n0 hsh

theorem tabs_of {ws : List Win} (h : ∀ (g : Nat) n t d, GS[g]? = some (some (n, t, d)) → ∃ y, ws[g]? = some y ∧ DR Tryd.prog ws t y.cells d) : dec.Tabs (heapW ws).next (heapW ws) := by
  obtain ⟨y0, a0, b0⟩ := h 0 _ _ _ rfl
  obtain ⟨y1, a1, b1⟩ := h 1 _ _ _ rfl
  have hl : 1 < ws.length := (List.getElem?_eq_some_iff.1 a1).1
  refine ⟨hl, Nat.le_refl _, tab_of a0 Tryd.underlying34 b0 ?_, tab_of a1 Tryd.underlying61 b1 ?_⟩
  · intro d hd
    simp only [List.mem_cons, List.not_mem_nil, or_false] at hd
    rcases hd with rfl | rfl | rfl | rfl | rfl | rfl <;> exact ⟨_, rfl, by decide⟩
  · intro d hd
    simp only [List.mem_cons, List.not_mem_nil, or_false] at hd
    rcases hd with rfl | rfl | rfl | rfl | rfl | rfl | rfl | rfl <;> exact ⟨_, rfl, by decide⟩
end Go.Proofs.YthphbdkhbaijlaaDoor.frame

namespace Go.Proofs.YthphbdkhbaijlaaDoor.dec
open Go Go.Cm

attribute [local congr] optK_congr asI_congr asN_congr asB_congr asS_congr asP_congr asA_congr asSL_congr callK_congr castT_congr chk_congr

theorem noEscape_s (d : Nat) (v : Value) (H : Heap) : X (d + 1) n_abi_NoEscape [v] H = some (v, H) := by kernel_rfl

abbrev Bd := Bld t_strings_Builder t_uint8

theorem copyCheck_s (d p : Nat) (s : Sl) (l : W) (H : Heap) (h : Bd H p s l) :
    ∃ H', X (d + 2) n_strings_Builder_copyCheck [P0 p] H = some (.tuple #[], H') ∧ Bd H' p s l ∧ Keep (BS p s) H H' ∧ H'.next = H.next := by
  obtain ⟨h1, ⟨pa, h2, h3⟩, h4, h5⟩ := h
  rw [strings_Builder_copyCheck_eq, ld1_s h2]
  simp only [List.getElem?_cons_zero, optK_s, show ∀ (a : Option Addr) (K : Option Addr → Res), asP (.pointer a) K = K a from fun _ _ => rfl]
  rcases h3 with rfl | rfl
  · have e1 : readD .toUns [P0 p] H = some (P0 p) := by simp [readD, P0, h2]
    have e2 : readD (.fromUns t_strings_Builder 2) [P0 p] H = some (P0 p) := by simp [readD, P0, h2]
    rw [if_pos (by rfl), e1]
    simp only [optK_s]
    rw [noEscape_s]
    simp only [callK_s]
    rw [e2]
    simp only [optK_s, show ∀ (K : Option Addr → Res), asP (P0 p) K = K (some ⟨p, 0, none⟩) from fun _ => rfl]
    rw [st1_s h2 (by simp) (by omega)]
    simp only [optK_s, List.set_cons_zero]
    refine ⟨_, rfl, ⟨by simpa using h1, ⟨_, by simp, .inr rfl⟩, ?_, h5⟩, Keep.put _ _ _ (.inl rfl), rfl⟩
    exact h4.keep (S := fun k => k = p) (Keep.put _ _ _ rfl) (fun k hk e => h5 (e ▸ hk))
  · rw [if_neg (by simp)]
    have e3 : readD (.eqP true) [.pointer (some ⟨p, 0, none⟩), P0 p] H = some (.bool false) := by
      simp [readD, P0, Heap.alive, h2, chk]
    rw [e3]
    simp only [optK_s, asB_s]
    rw [if_neg (by simp)]
    exact ⟨H, rfl, ⟨h1, ⟨_, h2, .inr rfl⟩, h4, h5⟩, Keep.refl _, rfl⟩

/-- the buffer is put back -/
theorem back_s {H2 H6 : Heap} {p : Nat} {s s' : Sl} {l l' : W} (h : Bd H2 p s l) (f1 : Buf H6 s' l' t_uint8) (f2 : Keep s.at H2 H6) (f3 : ∀ k, s'.at k → s.at k ∨ H2.next ≤ k) :
    ∃ H', Heap.st1 H6 ⟨p, 1, none⟩ s'.v = some H' ∧ Bd H' p s' l' ∧ Keep (BS p s) H2 H' ∧ H'.next = H6.next := by
  obtain ⟨h1, ⟨pa, h2, h3⟩, h4, h5⟩ := h
  have g : H6.get p = some (.cells [.pointer pa, s.v] t_strings_Builder false 0 false) := (f2.2 p h1 h5).trans h2
  refine ⟨_, st1_s g (by simp) (by omega), ⟨by have := f2.1; simp; omega, ⟨pa, by simp, h3⟩, ?_, ?_⟩, ?_, rfl⟩
  · exact f1.keep (S := fun k => k = p) (Keep.put _ _ _ rfl) (fun k hk e => by
      subst e
      rcases f3 _ hk with h | h
      · exact h5 h
      · omega)
  · intro hk
    rcases f3 _ hk with h | h
    · exact h5 h
    · omega
  · exact (f2.mono (T := BS p s) fun k _ h => .inr h).trans (Keep.put (S := BS p s) _ _ _ (.inl rfl)) fun _ _ h => h

theorem WriteString_s (d p : Nat) (s : Sl) (l w : W) (H : Heap) (h : Bd H p s l) (hl : l.length + w.length ≤ 70368744177664) :
    ∃ s' H', X (d + 3) n_strings_Builder_WriteString [P0 p, .string (S w)] H = some (.tuple #[.int .i64 (w.length : Int), .nilIface], H') ∧ Bd H' p s' (l ++ w) ∧ Keep (BS p s) H H' ∧ (∀ k, s'.at k → s.at k ∨ H.next ≤ k) := by
  rw [strings_Builder_WriteString_eq]
  obtain ⟨H2, e1, h2, k2, n2⟩ := copyCheck_s d p s l H h
  rw [e1]
  simp only [callK_s]
  have ⟨q1, ⟨pa, q2, q3⟩, q4, q5⟩ := h2
  rw [ld1_s q2]
  simp only [List.getElem?_cons_succ, List.getElem?_cons_zero, optK_s, asSL_s']
  have hn := q4.len
  obtain ⟨s', H6, f0, f1, f2, f3⟩ := append_buf (str := true) (x := .string (S w)) (n := w.length) (new := w) q4 (by simp [srcN, slenS]) (by simp [srcCells, bc, lst, S]) rfl (by omega)
  rw [f0]
  simp only [asSL_s']
  obtain ⟨H', g0, g1, g2, g3⟩ := back_s h2 f1 f2 f3
  rw [g0]
  simp only [optK_s, slenS]
  exact ⟨s', H', rfl, g1, k2.trans g2 fun _ _ h => h, fun k hk => by rw [← n2]; exact f3 k hk⟩

theorem WriteByte_s (d p : Nat) (s : Sl) (l : W) (b : UInt8) (H : Heap) (h : Bd H p s l) (hl : l.length + 1 ≤ 70368744177664) :
    ∃ s' H', X (d + 3) n_strings_Builder_WriteByte [P0 p, .int .u8 (b.toNat : Int)] H = some (.nilIface, H') ∧ Bd H' p s' (l ++ [b]) ∧ Keep (BS p s) H H' ∧ (∀ k, s'.at k → s.at k ∨ H.next ≤ k) := by
  rw [strings_Builder_WriteByte_eq]
  obtain ⟨H2, e1, h2, k2, n2⟩ := copyCheck_s d p s l H h
  rw [e1]
  simp only [callK_s]
  have ⟨q1, ⟨pa, q2, q3⟩, q4, q5⟩ := h2
  rw [ld1_s q2]
  simp only [List.getElem?_cons_succ, List.getElem?_cons_zero, optK_s, asSL_s', newK_s]
  have hn := q4.len
  have kn : Keep (BS p s) H2 (H2.new (.cells [.int .u8 (b.toNat : Int)] t_uint8 false 0 false)) := Keep.new _ _
  have h3 : Bd (H2.new (.cells [.int .u8 (b.toNat : Int)] t_uint8 false 0 false)) p s l := h2.keep (S := fun _ => False) (Keep.new _ _) id (fun _ _ h => h)
  have ⟨_, _, r4, _⟩ := h3
  obtain ⟨s', H6, f0, f1, f2, f3⟩ := append_buf (str := false) (x := .slice (some ⟨H2.next, 0, none⟩) 1 1) (n := 1) (new := [b]) r4 rfl (by
    simp only [srcCells, Nat.one_mul]
    rw [if_neg (by omega), ldN_s (Heap.get_new_same H2 _) (by simp)]
    rfl) rfl (by omega)
  rw [f0]
  simp only [asSL_s']
  obtain ⟨H', g0, g1, g2, g3⟩ := back_s h3 f1 f2 f3
  rw [g0]
  simp only [optK_s]
  refine ⟨s', H', rfl, g1, (k2.trans kn fun _ _ h => h).trans g2 fun _ _ h => h, fun k hk => ?_⟩
  rcases f3 k hk with h | h
  · exact .inl h
  · exact .inr (by simp at h; omega)

theorem String_s (d p : Nat) (s : Sl) (l : W) (H : Heap) (h : Bd H p s l) (hl : l.length ≤ 70368744177664) :
    ∃ H', X (d + 1) n_strings_Builder_String [P0 p] H = some (.string (S l), H') ∧ Keep (BS p s) H H' := by
  rw [strings_Builder_String_eq]
  have ⟨q1, ⟨pa, q2, q3⟩, q4, q5⟩ := h
  rw [ld1_s q2]
  simp only [List.getElem?_cons_succ, List.getElem?_cons_zero, optK_s, asSL_s']
  rcases q4 with ⟨rfl, rfl⟩ | ⟨b, n, rfl, hc, h0, hb, o, hg⟩
  · simp only [effK, Sl.v, show ∀ (a : Option Addr) (K : Option Addr → Res), asP (.pointer a) K = K a from fun _ _ => rfl]
    rw [ld1_s q2]
    simp only [List.getElem?_cons_succ, List.getElem?_cons_zero, optK_s, Sl.v, asSL_s]
    rw [if_pos (by rfl)]
    simp only [asS_s]
    refine ⟨H, ?_, Keep.refl _⟩
    have hr : readD (.load 1 false) [.pointer (some ⟨p, 1, none⟩)] H = some (.slice none 0 0) := by
      simp only [readD, Bool.false_eq_true, if_false]
      rw [ld1_s q2]; rfl
    simp [rdsOk, rdOk, hr, same_sl, chk]
  · have hbp : b ≠ p := fun e => q5 ⟨_, rfl, e⟩
    simp only [effK, Sl.v]
    rw [if_neg (by omega)]
    simp only [show ∀ (a : Option Addr) (K : Option Addr → Res), asP (.pointer a) K = K a from fun _ _ => rfl]
    rw [ld1_s q2]
    simp only [List.getElem?_cons_succ, List.getElem?_cons_zero, optK_s, Sl.v, asSL_s]
    rw [if_neg (by omega), if_pos (by omega)]
    rw [hg]
    simp only [Int.toNat_natCast, List.drop_zero]
    rw [if_pos ⟨by rw [bc_len]; omega, trivial, trivial⟩, List.take_of_length_le (by rw [bc_len]; omega), bytesOf_bc]
    simp only [optK_s, asS_s]
    have hr : ∀ H1 : Heap, H1.get p = H.get p → readD (.load 1 false) [.pointer (some ⟨p, 1, none⟩)] H1 = some (.slice (some ⟨b, 0, none⟩) n n) := by
      intro H1 e
      rw [q2] at e
      simp only [readD, Bool.false_eq_true, if_false]
      rw [ld1_s e]; rfl
    refine ⟨H.put b (.cells (bc l) t_uint8 o (max 0 (0 + n)) false), ?_, Keep.put _ _ _ (.inr ⟨_, rfl, rfl⟩)⟩
    simp [rdsOk, rdOk, hr H rfl, same_sl, chk]
end Go.Proofs.YthphbdkhbaijlaaDoor.dec

namespace Go.Proofs.YthphbdkhbaijlaaDoor.dec
open Go Go.Cm

attribute [local congr] optK_congr asI_congr asN_congr asB_congr asS_congr asP_congr asA_congr asSL_congr callK_congr castT_congr chk_congr

theorem letter_s (d : Nat) (n : Int) (H : Heap) : ∃ b, X (d + 1) n_keys_letter [.int .u8 n] H = some (.bool b, H) := by
  rw [keys_letter_eq]
  split
  · split
    · exact ⟨_, rfl⟩
    · split
      · split
        · exact ⟨_, rfl⟩
        · exact ⟨_, rfl⟩
      · exact ⟨_, rfl⟩
  · split
    · split
      · exact ⟨_, rfl⟩
      · exact ⟨_, rfl⟩
    · exact ⟨_, rfl⟩
theorem index_s (d : Nat) (s : ByteArray) (c : Int) (H : Heap) : X (d + 1) n_strings_IndexByte [.string s, .int .u8 c] H = some (.int .i64 (idxB s c), H) := by kernel_rfl

theorem word_loop (d : Nat) (w : W) (hw : w.length ≤ 1048576) (x1 : Int) (x2 : ByteArray) (H : Heap) : ∀ (m i : Nat), i ≤ w.length → w.length - i < m → ∃ b, keys_word_p1010 (d + 1) m (S w) x1 x2 (i : Int) H = some (.bool b, H) := by
  intro m
  induction m with
  | zero => intro i h1 h2; omega
  | succ m ih =>
    intro i hi hm
    rw [keys_word_p1010_s, slenS]
    simp only [decide_eq_true_eq]
    have go : ∀ b, ∃ r, keys_word_p101001001 (d + 1) m (S w) x1 x2 (i : Int) b H = some (.bool r, H) ∨ w.length ≤ i := fun b => by
      by_cases hl : w.length ≤ i
      · exact ⟨true, .inr hl⟩
      rw [keys_word_p101001001_eq]
      by_cases hb : b = true
      · rw [if_pos hb]; exact ⟨_, .inl rfl⟩
      · rw [if_neg hb, w64 (by omega), show ((i : Int) + 1) = ((i + 1 : Nat) : Int) by omega]
        obtain ⟨r, e⟩ := ih (i + 1) (by omega) (by omega)
        exact ⟨r, .inl e⟩
    by_cases h : i < w.length
    · rw [if_pos (by omega), if_pos (by omega)]
      obtain ⟨b, e⟩ := letter_s d (bt (S w) ((i : Int).toNat)) H
      rw [e]
      simp only [callK_s, asB_s]
      have go' : ∀ b, ∃ r, keys_word_p101001001 (d + 1) m (S w) x1 x2 (i : Int) b H = some (.bool r, H) := fun b => by
        obtain ⟨r, h1 | h1⟩ := go b
        · exact ⟨r, h1⟩
        · omega
      cases b with
      | false =>
        rw [if_pos (by rfl), if_pos (by omega), index_s]
        simp only [callK_s, asI_s]
        exact go' _
      | true =>
        rw [if_neg (by simp)]
        exact go' _
    · rw [if_neg (by omega)]
      split
      · exact ⟨_, rfl⟩
      · exact ⟨_, rfl⟩

theorem word_s (d : Nat) (w : W) (hw : w.length ≤ 1048576) (x1 : Int) (x2 : ByteArray) (H : Heap) : ∃ b, X (d + 2) n_keys_word [.string (S w), .int .i64 x1, .string x2] H = some (.bool b, H) := by
  rw [keys_word_eq]
  exact word_loop d w hw x1 x2 H NN 0 (by omega) (NN_big _ (by omega))

theorem get0 (k : Ky) : (keyL k)[0]? = some (.string (S k.nm)) := rfl

theorem one_s (d : Nat) (k : Ky) (hk : KOK k) (H : Heap) : ∃ b H', X (d + 3) n_keys_one [.agg ⟨keyL k⟩] H = some (.bool b, H') ∧ Keep (fun _ => False) H H' := by
  rw [keys_one_eq, boxL (keyL_one k)]
  have k1 : Keep (fun _ => False) H (H.new (.cells (keyL k) t_api_Key false 0 false)) := Keep.new _ _
  have g1 : (H.new (.cells (keyL k) t_api_Key false 0 false)).get H.next = some (.cells (keyL k) t_api_Key false 0 false) := by simp
  generalize (H.new (.cells (keyL k) t_api_Key false 0 false)) = H1 at *
  simp only [show ∀ (K : Option Addr → Res), asP (P0 H.next) K = K (some ⟨H.next, 0, none⟩) from fun _ => rfl, optK_s, ap, Nat.zero_add, ld1_s g1, get0, asS_s]
  obtain ⟨b, e⟩ := word_s d k.nm hk.2.1 20 (S []) H1
  rw [e]
  simp only [callK_s, asB_s]
  by_cases hb : b = true
  · rw [if_pos hb]
    simp only [show ∀ (K : Option Addr → Res), asP (P0 H.next) K = K (some ⟨H.next, 0, none⟩) from fun _ => rfl, optK_s, ap, Nat.zero_add, ld1_s g1, get33 k hk.1, asI_s]
    split
    · split
      · simp only [show ∀ (K : Option Addr → Res), asP (P0 H.next) K = K (some ⟨H.next, 0, none⟩) from fun _ => rfl, optK_s, ap, Nat.zero_add, ld1_s g1, get34 k hk.1, asS_s]
        obtain ⟨b', e'⟩ := word_s d k.pat hk.2.2.1 40 (S [42, 63]) H1
        rw [e']
        exact ⟨b', H1, rfl, k1⟩
      · exact ⟨_, H1, rfl, k1⟩
    · exact ⟨_, H1, rfl, k1⟩
  · rw [if_neg hb]
    exact ⟨_, H1, rfl, k1⟩

/-- of the keys ahead none has its Public -/
def Apart (L : List Ky) (i : Nat) (t : List Int) : Prop := ∀ j k, j < i → L[j]? = some k → ee k.pub t = some false

theorem twice_loop (d pb c : Nat) (k : Ky) (hk : KOK k) (x : Sl) (L : List Ky) (n : Nat) (hn : n ≤ L.length) (hL : L.length ≤ 1000) : ∀ (m i : Nat) (H : Heap), i ≤ n → n - i < m → Kys H x L → H.get pb = some (.cells (keyL k) t_api_Key false 0 false) → pb < H.next → Apart L i k.pub →
    ∃ b H', keys_twice_p1010 d m (P0 pb) ⟨x.a, n, c⟩ (n : Int) (i : Int) H = some (.bool b, H') ∧ (b = false → Apart L n k.pub) ∧ Keep (fun _ => False) H H' := by
  intro m
  induction m with
  | zero => intro i H h1 h2; omega
  | succ m ih =>
    intro i H hi hm hx hg hb ha
    rw [keys_twice_p1010_s, ← k0_eq]
    simp only [decide_eq_true_eq]
    by_cases h : i < n
    · rw [if_pos (by omega)]
      have hc : L[i]? = some L[i] := List.getElem?_eq_getElem (by omega)
      have hok := hx.2 _ (List.getElem_mem (by omega : i < L.length))
      generalize L[i] = q at hc hok
      obtain ⟨a, e1, e2, _⟩ := hx.load hc
      rw [e1]
      simp only [optK_s]
      rw [if_pos (by omega), Int.toNat_natCast, e2]
      simp only [optK_s, asA_s, newK_s]
      have g4 : (H.new (.cells (keyL k0) t_api_Key false 0 false)).get H.next = some (.cells (keyL k0) t_api_Key false 0 false) := by simp
      rw [storeN (n := 35) g4 (keyL_len (by simp [k0])) (keyL_len hok.1) (keyL_one q) (by omega)]
      generalize hH7 : (H.new (.cells (keyL k0) t_api_Key false 0 false)).put H.next (.cells (keyL q) t_api_Key false 0 false) = H7
      have k7 : Keep (fun _ => False) H H7 := by subst hH7; exact ⟨by simp, fun j hj _ => by rw [Heap.get_put_ne _ _ (by omega), Heap.get_new_ne _ _ (by omega)]⟩
      have g7 : H7.get H.next = some (.cells (keyL q) t_api_Key false 0 false) := by subst hH7; simp
      have n7 := k7.1
      have hg' := (k7.2 pb hb id).trans hg
      rw [ld32 g7 hok.1]
      simp only [optK_s, asA_s, show ∀ (K : Option Addr → Res), asP (P0 pb) K = K (some ⟨pb, 0, none⟩) from fun _ => rfl, ap, Nat.zero_add]
      rw [ld32 hg' hk.1]
      simp only [optK_s, asA_s]
      rw [sz32 hok.1 hk.1]
      simp only [chk_s]
      obtain ⟨b, hbb⟩ := eqPub q.pub k.pub hok.1 hk.1
      rw [hbb]
      simp only [optK_s]
      have hee : ee q.pub k.pub = some b := hbb
      -- on to the next
      have go : ∀ r : Bool, (r = false → b = false) → ∃ b H', keys_twice_p10100110011 d m (P0 pb) ⟨some a, n, c⟩ (n : Int) (i : Int) r H7 = some (.bool b, H') ∧ (b = false → Apart L n k.pub) ∧ Keep (fun _ => False) H H' := fun r hr => by
        rw [keys_twice_p10100110011_eq]
        cases r with
        | true => rw [if_pos rfl]; exact ⟨true, H7, rfl, (fun h => nomatch h), k7⟩
        | false =>
          rw [if_neg (by simp), w64 (by omega), show ((i : Int) + 1) = ((i + 1 : Nat) : Int) by omega]
          obtain ⟨b', H', f1, f2, f3⟩ := ih (i + 1) H7 (by omega) (by omega) (hx.keep k7 (fun _ _ h => h)) hg' (by omega) (fun j kk hj hkk => by
            by_cases e : j = i
            · subst e
              rw [hc] at hkk
              cases hkk
              rw [hee, hr rfl]
            · exact ha j kk (by omega) hkk)
          rw [e1] at f1
          exact ⟨b', H', f1, f2, k7.trans f3 fun _ _ h => h⟩
      cases b with
      | true => rw [if_pos rfl]; exact go true (fun h => by cases h)
      | false =>
        rw [if_neg (by simp), ld1_s g7, get0]
        simp only [optK_s, asS_s, ld1_s hg', get0]
        exact go _ (fun _ => rfl)
    · rw [if_neg (by omega)]
      exact ⟨false, H, rfl, fun _ j kk hj hkk => ha j kk (by omega) hkk, Keep.refl _⟩

theorem twice_s (d c : Nat) (k : Ky) (hk : KOK k) (x : Sl) (L : List Ky) (n : Nat) (hn : n ≤ L.length) (hL : L.length ≤ 1000) (H : Heap) (hx : Kys H x L) : ∃ b H', X (d + 1) n_keys_twice [.slice x.a n c, .agg ⟨keyL k⟩] H = some (.bool b, H') ∧ (b = false → Apart L n k.pub) ∧ Keep (fun _ => False) H H' := by
  have e0 := keys_twice_eq d ⟨x.a, n, c⟩ ⟨keyL k⟩ H
  simp only [Sl.v] at e0
  rw [e0, boxL (keyL_one k)]
  have k1 : Keep (fun _ => False) H (H.new (.cells (keyL k) t_api_Key false 0 false)) := Keep.new _ _
  have g1 : (H.new (.cells (keyL k) t_api_Key false 0 false)).get H.next = some (.cells (keyL k) t_api_Key false 0 false) := by simp
  have n1 : H.next < (H.new (.cells (keyL k) t_api_Key false 0 false)).next := by simp
  generalize (H.new (.cells (keyL k) t_api_Key false 0 false)) = H1 at *
  obtain ⟨b, H', f1, f2, f3⟩ := twice_loop d H.next c k hk x L n hn hL NN 0 H1 (by omega) (NN_big _ (by omega)) (hx.keep k1 (fun _ _ h => h)) g1 n1 (fun j _ hj => by omega)
  rw [show (((0 : Nat)) : Int) = 0 from rfl] at f1
  rw [f1]
  exact ⟨b, H', rfl, f2, k1.trans f3 fun _ _ h => h⟩

/-- all Publics are apart -/
def AllApart (L : List Ky) (n : Nat) : Prop := ∀ i k, i < n → L[i]? = some k → Apart L i k.pub

theorem right_loop (d : Nat) (x : Sl) (L : List Ky) (hL : L.length ≤ 1000) : ∀ (m i : Nat) (H : Heap), i ≤ L.length → L.length - i < m → Kys H x L → AllApart L i →
    ∃ b H', keys_Right_p1010 (d + 3) m x x (x.n : Int) (i : Int) H = some (.bool b, H') ∧ (b = true → AllApart L L.length) ∧ Keep (fun _ => False) H H' := by
  intro m
  induction m with
  | zero => intro i H h1 h2; omega
  | succ m ih =>
    intro i H hi hm hx ha
    have hn := hx.num
    rw [keys_Right_p1010_s, ← k0_eq]
    simp only [decide_eq_true_eq]
    by_cases h : i < L.length
    · rw [if_pos (by omega)]
      have hc : L[i]? = some L[i] := List.getElem?_eq_getElem h
      have hok := hx.2 _ (List.getElem_mem h)
      generalize L[i] = k at hc hok
      obtain ⟨a, e1, e2, _⟩ := hx.load hc
      have hcap : x.c = x.n := (Whole.len hx.1).2
      rw [e1]
      simp only [optK_s]
      rw [if_pos (by omega), Int.toNat_natCast, e2]
      simp only [optK_s, asA_s, newK_s]
      have g4 : (H.new (.cells (keyL k0) t_api_Key false 0 false)).get H.next = some (.cells (keyL k0) t_api_Key false 0 false) := by simp
      rw [storeN (n := 35) g4 (keyL_len (by simp [k0])) (keyL_len hok.1) (keyL_one k) (by omega)]
      generalize hH7 : (H.new (.cells (keyL k0) t_api_Key false 0 false)).put H.next (.cells (keyL k) t_api_Key false 0 false) = H7
      have k7 : Keep (fun _ => False) H H7 := by subst hH7; exact ⟨by simp, fun j hj _ => by rw [Heap.get_put_ne _ _ (by omega), Heap.get_new_ne _ _ (by omega)]⟩
      have g7 : H7.get H.next = some (.cells (keyL k) t_api_Key false 0 false) := by subst hH7; simp
      have n7 : H.next < H7.next := by subst hH7; simp
      rw [ldAll g7 (keyL_len hok.1)]
      simp only [optK_s, asA_s]
      obtain ⟨b, H11, o1, o2⟩ := one_s d k hok H7
      rw [o1]
      simp only [callK_s, asB_s]
      have k11 := k7.trans o2 fun _ _ h => h
      have g11 := (o2.2 H.next n7 id).trans g7
      have no : ∀ H2, Keep (fun _ => False) H H2 → ∃ b H', keys_Right_p10100110011 (d + 3) m x x (x.n : Int) (i : Int) true H2 = some (.bool b, H') ∧ (b = true → AllApart L L.length) ∧ Keep (fun _ => False) H H' := fun H2 hk2 => by
        rw [keys_Right_p10100110011_eq, if_pos rfl]
        exact ⟨false, H2, rfl, (fun h => nomatch h), hk2⟩
      cases b with
      | false =>
        rw [if_pos (by rfl)]
        exact no H11 k11
      | true =>
        rw [if_neg (by simp)]
        have hsub : readD (.subSl t_api_Key 35 false true false) [x.v, .int .i64 (i : Int)] H11 = some (.slice (some a) i x.c) := by
          simp only [readD, Sl.v, asSl, bnds, asN_s, e1]
          rw [if_pos (by omega), Int.toNat_natCast]
          rfl
        rw [hsub]
        simp only [optK_s, asSL_s]
        rw [ldAll g11 (keyL_len hok.1)]
        simp only [optK_s, asA_s]
        obtain ⟨b', H18, t1, t2, t3⟩ := twice_s (d + 2) x.c k hok x L i (by omega) hL H11 (hx.keep k11 (fun _ _ h => h))
        rw [e1] at t1
        simp only [Sl.v]
        rw [t1]
        simp only [callK_s, asB_s]
        have k18 := k11.trans t3 fun _ _ h => h
        cases b' with
        | true => exact no H18 k18
        | false =>
          rw [keys_Right_p10100110011_eq, if_neg (by simp), w64 (by omega), show ((i : Int) + 1) = ((i + 1 : Nat) : Int) by omega]
          obtain ⟨b2, H', f1, f2, f3⟩ := ih (i + 1) H18 (by omega) (by omega) (hx.keep k18 (fun _ _ h => h)) (fun j kk hj hkk => by
            by_cases e : j = i
            · subst e
              rw [hc] at hkk
              cases hkk
              exact t2 rfl
            · exact ha j kk (by omega) hkk)
          exact ⟨b2, H', f1, f2, k18.trans f3 fun _ _ h => h⟩
    · rw [if_neg (by omega)]
      exact ⟨_, H, rfl, fun _ => by rwa [show i = L.length by omega] at ha, Keep.refl _⟩

theorem Right_s (d : Nat) (x : Sl) (L : List Ky) (hL : L.length ≤ 1000) (H : Heap) (hx : Kys H x L) : ∃ b H', X (d + 4) n_keys_Right [x.v] H = some (.bool b, H') ∧ (b = true → AllApart L L.length) ∧ Keep (fun _ => False) H H' := by
  rw [keys_Right_eq]
  obtain ⟨b, H', f1, f2, f3⟩ := right_loop d x L hL NN 0 H (by omega) (NN_big _ (by omega)) hx (fun i _ hi => by omega)
  rw [show (((0 : Nat)) : Int) = 0 from rfl] at f1
  exact ⟨b, H', f1, f2, f3⟩

/-! ### the law -/
theorem ee_self (p : List Int) (hp : p.length = 32) : ee p p = some true := by
  unfold ee
  match p, hp with
  | [a0, a1, a2, a3, a4, a5, a6, a7, a8, a9, a10, a11, a12, a13, a14, a15, a16, a17, a18, a19, a20, a21, a22, a23, a24, a25, a26, a27, a28, a29, a30, a31], _ => simp [pubL, eqL, eqC]

theorem find_at {t : List Int} : ∀ {L : List Ky} {i : Nat} {k : Ky}, L[i]? = some k → Apart L i t → ee k.pub t = some true → findL t L = some k := by
  intro L
  induction L with
  | nil => intro i k h; cases h
  | cons q L ih =>
    intro i k h ha hk
    cases i with
    | zero =>
      simp only [List.getElem?_cons_zero, Option.some.injEq] at h
      subst h
      rw [findL, if_pos hk]
    | succ i =>
      have h0 := ha 0 q (by omega) rfl
      rw [findL, h0, if_neg (by simp)]
      exact ih (by simpa using h) (fun j kk hj hkk => ha (j + 1) kk (by omega) (by simpa using hkk)) hk

theorem find_none {t : List Int} (ht : t.length = 32) : ∀ {L : List Ky}, (∀ k ∈ L, KOK k) → (findL t L).isSome = !(L.all fun k => !(ee k.pub t == some true)) := by
  intro L
  induction L with
  | nil => intro _; rfl
  | cons q L ih =>
    intro h
    rw [findL]
    by_cases g : ee q.pub t = some true
    · rw [if_pos g]; simp [g]
    · rw [if_neg g, ih fun k hk => h k (by simp [hk])]
      simp [g]

theorem finds_loop (d p6 : Nat) (t : List Int) (ht : t.length = 32) (x : Sl) (L : List Ky) (hL : L.length ≤ 1000) (ha : AllApart L L.length) : ∀ (m i : Nat) (H : Heap), i ≤ L.length → L.length - i < m → Kys H x L → H.get p6 = some (.cells (pubL t) t_32_uint8 false 0 false) → p6 < H.next →
    ∃ H', law17_KeysFinds_p11111010 (d + 1) m x p6 ((L.take i).all fun k => !(ee k.pub t == some true)) (i : Int) H = some (.bool true, H') := by
  intro m
  induction m with
  | zero => intro i H h1 h2; omega
  | succ m ih =>
    intro i H hi hm hx hg hp
    have hn := hx.num
    rw [law17_KeysFinds_p11111010_s, ← k0_eq]
    simp only [decide_eq_true_eq]
    by_cases h : i < L.length
    · rw [if_pos (by omega)]
      have hc : L[i]? = some L[i] := List.getElem?_eq_getElem h
      have hok := hx.2 _ (List.getElem_mem h)
      have htk : L.take (i + 1) = L.take i ++ [L[i]] := by rw [List.take_add_one, hc]; rfl
      generalize L[i] = k at hc hok htk
      obtain ⟨a, e1, e2, e3⟩ := hx.load hc
      rw [e1]
      simp only [optK_s]
      rw [if_pos (by omega), Int.toNat_natCast, e3]
      simp only [optK_s, asA_s]
      obtain ⟨H5, f1, f2⟩ := Find_s d k.pub hok.1 x L H hx hL
      rw [f1, find_at hc (ha i k h hc) (ee_self _ hok.1)]
      simp only [FR, Option.getD_some, Option.isSome_some, callK_s, castT_s, castL_c, castL_n, cast0, asA_s, asB_s, List.getElem?_cons_zero, List.getElem?_cons_succ, optK_s, newK_s]
      have g5 : (H5.new (.cells (keyL k0) t_api_Key false 0 false)).get H5.next = some (.cells (keyL k0) t_api_Key false 0 false) := by simp
      rw [storeN (n := 35) g5 (keyL_len (by simp [k0])) (keyL_len hok.1) (keyL_one _) (by omega)]
      generalize hH15 : (H5.new (.cells (keyL k0) t_api_Key false 0 false)).put H5.next (.cells (keyL k) t_api_Key false 0 false) = H15
      have k15 : Keep (fun _ => False) H5 H15 := by subst hH15; exact ⟨by simp, fun j hj _ => by rw [Heap.get_put_ne _ _ (by omega), Heap.get_new_ne _ _ (by omega)]⟩
      have g15 : H15.get H5.next = some (.cells (keyL k) t_api_Key false 0 false) := by subst hH15; simp
      have kk := f2.trans k15 fun _ _ h => h
      have hx15 := hx.keep kk (fun _ _ h => h)
      have hg15 := (kk.2 p6 hp id).trans hg
      have n15 := kk.1
      obtain ⟨a', e1', e2', e3'⟩ := hx15.load hc
      rw [e1] at e1'
      cases e1'
      rw [if_neg (by simp), ldAll g15 (keyL_len hok.1)]
      simp only [optK_s, asA_s]
      rw [if_pos (show (0 : Int) ≤ (i : Int) ∧ (i : Int) < (x.n : Int) by omega), e2']
      simp only [optK_s, asA_s]
      rw [show (Array.size (⟨keyL k⟩ : Array Value) == 35 && Array.size (⟨keyL k⟩ : Array Value) == 35) = true from by
        have h1 : Array.size (⟨keyL k⟩ : Array Value) = 35 := keyL_len hok.1
        rw [h1]; rfl]
      simp only [chk_s]
      rw [eqKey k hok.1]
      simp only [optK_s, Bool.not_true]
      rw [law17_KeysFinds_p111110100100101_eq, if_neg (show ¬(false = true) by simp)]
      have nxt : ∀ b, b = ((L.take (i + 1)).all fun k => !(ee k.pub t == some true)) → ∃ H', law17_KeysFinds_p11111010011 (d + 1) m x p6 b (i : Int) H15 = some (.bool true, H') := fun b hb => by
        subst hb
        rw [law17_KeysFinds_p11111010011_eq, w64 (by omega), show ((i : Int) + 1) = ((i + 1 : Nat) : Int) by omega]
        exact ih (i + 1) H15 (by omega) (by omega) hx15 hg15 (by omega)
      rw [htk, List.all_append] at nxt
      simp only [List.all_cons, List.all_nil, Bool.and_true] at nxt
      cases hq : ((L.take i).all fun k => !(ee k.pub t == some true)) with
      | false =>
        rw [if_neg (show ¬(false = true) by simp)]
        exact nxt false (by rw [hq]; rfl)
      | true =>
        rw [if_pos (show true = true from rfl), e1]
        simp only [optK_s]
        rw [if_pos (by omega), Int.toNat_natCast, e3']
        simp only [optK_s, asA_s]
        rw [ldAll hg15 (by rw [pubL_len]; exact ht)]
        simp only [optK_s, asA_s]
        rw [sz32 hok.1 ht]
        simp only [chk_s]
        obtain ⟨b, hbb⟩ := eqPub k.pub t hok.1 ht
        rw [hbb]
        simp only [optK_s]
        have hee : ee k.pub t = some b := hbb
        exact nxt (!b) (by rw [hq, hee]; cases b <;> rfl)
    · rw [if_neg (by omega), ldAll hg (by rw [pubL_len]; exact ht)]
      simp only [optK_s, asA_s]
      obtain ⟨H5, f1, f2⟩ := Find_s d t ht x L H hx hL
      rw [f1]
      have hfk := findL_ok (t := t) hx.2
      simp only [FR, callK_s, castT_s, castL_c, castL_n, cast0, asA_s, asB_s, List.getElem?_cons_zero, List.getElem?_cons_succ, optK_s, newK_s]
      have g5 : (H5.new (.cells (keyL k0) t_api_Key false 0 false)).get H5.next = some (.cells (keyL k0) t_api_Key false 0 false) := by simp
      rw [storeN (n := 35) g5 (keyL_len (by simp [k0])) (keyL_len hfk.1) (keyL_one _) (by omega), find_none ht hx.2, List.take_of_length_le (by omega)]
      exact ⟨_, by rw [beq_self_eq_true]⟩

theorem KeysFinds_s (d B : Nat) (x : Sl) (n : Int) (H : Heap) (hr : RawK H B x) (ht : Tabs B H) : ∃ H', X (d + 5) n_law17_KeysFinds [x.v, .int .i64 n] H = some (.bool true, H') := by
  rw [law17_KeysFinds_eq]
  obtain ⟨y, L, H2, e, hk, _, hL, kk⟩ := list_s (d + 2) B x H hr ht
  rw [e]
  simp only [callK_s, Sl.v, asSL_s]
  rw [known_s]
  simp only [callK_s, asB_s]
  rw [if_neg (by simp)]
  obtain ⟨b, H8, r1, r2, r3⟩ := Right_s d y L (by omega) H2 hk
  rw [show (Value.slice y.a y.n y.c) = y.v from rfl, r1]
  simp only [callK_s, asB_s]
  cases b with
  | false =>
    rw [law17_KeysFinds_p1101_eq, if_pos (by rfl), known_s]
    exact ⟨H8, rfl⟩
  | true =>
    rw [law17_KeysFinds_p1101_eq, if_neg (by simp), ← p0_eq]
    obtain ⟨r, e1, _, _⟩ := Pick_s (d + 3) n 1000 H8 (by omega) (by omega)
    rw [e1]
    simp only [callK_s, asI_s]
    obtain ⟨q, H9, es, ⟨qs, _⟩, ks⟩ := Secret_s (d + 3) (IntKind.wrap .i64 (7000000 + r)) H8
    rw [es]
    simp only [callK_s, asA_s, newK_s]
    have g7 : (H9.new (.cells (pubL (List.replicate 32 0)) t_32_uint8 false 0 false)).get H9.next = some (.cells (pubL (List.replicate 32 0)) t_32_uint8 false 0 false) := by simp
    rw [storeN (n := 32) g7 (by rw [pubL_len]; simp) (by rw [pubL_len]; exact qs) (pubL_one q) (by omega)]
    have k10 : Keep (fun _ => False) H9 ((H9.new (.cells (pubL (List.replicate 32 0)) t_32_uint8 false 0 false)).put H9.next (.cells (pubL q) t_32_uint8 false 0 false)) := ⟨by simp, fun j hj _ => by rw [Heap.get_put_ne _ _ (by omega), Heap.get_new_ne _ _ (by omega)]⟩
    have hkk := hk.keep ((r3.trans ks fun _ _ h => h).trans k10 fun _ _ h => h) (fun _ _ h => h)
    obtain ⟨H', f⟩ := finds_loop (d + 3) H9.next q qs y L (by omega) (r2 rfl) NN 0 _ (by omega) (NN_big _ (by omega)) hkk (by simp) (by simp)
    rw [List.take_zero, show (((0 : Nat)) : Int) = 0 from rfl] at f
    exact ⟨H', f⟩
end Go.Proofs.YthphbdkhbaijlaaDoor.dec

namespace Go.Proofs.YthphbdkhbaijlaaDoor.dec
open Go Go.Cm

attribute [local congr] optK_congr asI_congr asN_congr asB_congr asS_congr asP_congr asA_congr asSL_congr callK_congr castT_congr chk_congr

abbrev Keep0 := Keep fun _ => False
theorem Keep0.trans {H H' H'' : Heap} (h : Keep0 H H') (h' : Keep0 H' H'') : Keep0 H H'' := Keep.trans h h' fun _ _ h => h
theorem Keep0.to {S : Nat → Prop} {H H' : Heap} (h : Keep0 H H') : Keep S H H' := Keep.mono h fun _ _ h => h.elim
theorem Keep0.get {H H' : Heap} (h : Keep0 H H') {b : Nat} {o : CObj} (hb : b < H.next) (hg : H.get b = some o) : H'.get b = some o := (h.2 b hb id).trans hg

/-! ### the plain law -/
def plainB (c : UInt8) : Bool := (decide (97 ≤ c.toNat) && decide (c.toNat ≤ 122)) || ((decide (48 ≤ c.toNat) && decide (c.toNat ≤ 57)) || decide (c.toNat = 45))
def wordB (w more : W) (most : Nat) : Bool := (w.all fun c => plainB c || more.contains c) && (!w.isEmpty && decide (w.length ≤ most))
def oneB (k : Ky) : Bool := wordB k.nm [] 20 && (decide (1 ≤ k.rights) && (decide (k.rights ≤ 7) && wordB k.pat [42, 63] 40))
def twiceB (L : List Ky) (k : Ky) : Bool := L.any fun x => decide (x.pub = k.pub) || decide (x.nm = k.nm)
def rightA : List Ky → List Ky → Bool
  | _, [] => true
  | pre, k :: r => oneB k && (!twiceB pre k && rightA (pre ++ [k]) r)
def rightB (L : List Ky) : Bool := rightA [] L && decide (L.length ≤ 20)

theorem ee_eq (p q : List Int) (hp : p.length = 32) (hq : q.length = 32) : ee p q = some (decide (p = q)) := by
  have gen : ∀ (n : Nat) (p q : List Int), p.length = n → q.length = n → eqL (List.replicate n (.int .u8)) (pubL p) (pubL q) = some (decide (p = q)) := by
    intro n
    induction n with
    | zero => intro p q hp hq; rw [List.eq_nil_of_length_eq_zero hp, List.eq_nil_of_length_eq_zero hq]; rfl
    | succ n ih =>
      intro p q hp hq
      match p, q, hp, hq with
      | a :: p, b :: q, hp, hq =>
        have hr := ih p q (by simpa using hp) (by simpa using hq)
        simp only [pubL] at hr
        simp only [List.replicate_succ, pubL, List.map_cons, eqL, eqC, asI_s, hr]
        by_cases e : a = b
        · subst e; simp
        · simp [e]
  unfold ee
  rw [← rep32]; exact gen 32 p q hp hq

theorem letter_b (d : Nat) (c : UInt8) (H : Heap) : X (d + 1) n_keys_letter [.int .u8 (c.toNat : Int)] H = some (.bool (plainB c), H) := by
  rw [keys_letter_eq]
  simp only [decide_eq_true_eq, plainB]
  repeat' split
  all_goals
    simp only [Option.some.injEq, Prod.mk.injEq, Value.bool.injEq, and_true]
    rw [Bool.eq_iff_iff]
    simp only [Bool.or_eq_true, Bool.and_eq_true, decide_eq_true_eq, true_iff]
    omega
theorem plain_b (d : Nat) (c : UInt8) (H : Heap) : X (d + 1) n_ref15_plain [.int .u8 (c.toNat : Int)] H = some (.bool (plainB c), H) := by
  rw [ref15_plain_eq, ← keys_letter_eq d (c.toNat : Int) H]
  exact letter_b d c H

theorem all_drop {f : UInt8 → Bool} {w : W} {i : Nat} {c : UInt8} (h : w[i]? = some c) : (w.drop i).all f = (f c && (w.drop (i + 1)).all f) := by
  obtain ⟨hlt, e⟩ := List.getElem?_eq_some_iff.1 h
  rw [List.drop_eq_getElem_cons hlt, e]; rfl

theorem idx_nil : ∀ c : UInt8, decide (idxB (S []) (c.toNat : Int) < 0) = !([] : W).contains c := fun c => rfl
set_option maxRecDepth 100000 in
theorem idx_more : ∀ c : UInt8, decide (idxB (S [42, 63]) (c.toNat : Int) < 0) = !([42, 63] : W).contains c := by
  intro c
  have : ∀ n : Fin 256, decide (idxB (S [42, 63]) ((UInt8.ofFin n).toNat : Int) < 0) = !([42, 63] : W).contains (UInt8.ofFin n) := by decide
  exact this c.toFin

theorem sEq_nil (w : W) : sEq (S w) (S []) = w.isEmpty := by rw [sEqS]; cases w <;> rfl

theorem word_b (d : Nat) (w more : W) (hw : w.length ≤ 1048576) (x1 : Nat) (hm : ∀ c : UInt8, decide (idxB (S more) (c.toNat : Int) < 0) = !more.contains c) (H : Heap) : X (d + 2) n_keys_word [.string (S w), .int .i64 (x1 : Int), .string (S more)] H = some (.bool (wordB w more x1), H) := by
  have loop : ∀ (m i : Nat), i ≤ w.length → w.length - i < m → keys_word_p1010 (d + 1) m (S w) (x1 : Int) (S more) (i : Int) H = some (.bool (((w.drop i).all fun c => plainB c || more.contains c) && (!w.isEmpty && decide (w.length ≤ x1))), H) := by
    intro m
    induction m with
    | zero => intro i h1 h2; omega
    | succ m ih =>
      intro i hi hlt
      rw [keys_word_p1010_s]
      simp only [decide_eq_true_eq, slenS, Int.toNat_natCast]
      by_cases h : i < w.length
      · rw [if_pos (by omega), if_pos (by omega)]
        have hc : w[i]? = some w[i] := List.getElem?_eq_getElem h
        generalize w[i] = c at hc
        rw [btS hc, letter_b]
        simp only [callK_s, asB_s]
        rw [all_drop hc]
        have nx := ih (i + 1) (by omega) (by omega)
        rw [show ((i + 1 : Nat) : Int) = IntKind.wrap .i64 ((i : Int) + 1) by rw [w64 (by omega)]; omega] at nx
        cases plainB c with
        | true => rw [if_neg (by simp), keys_word_p101001001_eq, if_neg (by simp), nx]; rfl
        | false =>
          rw [if_pos (by rfl), if_pos (by omega), index_s]
          simp only [callK_s, asI_s, Bool.false_or]
          rw [hm, keys_word_p101001001_eq]
          cases more.contains c with
          | true => rw [if_neg (by simp), nx]; rfl
          | false => rw [if_pos (by rfl)]; rfl
      · rw [if_neg (by omega), List.drop_eq_nil_of_le (by omega), sEq_nil]
        cases w.isEmpty with
        | true => rfl
        | false =>
          rw [if_pos (by rfl)]
          simp only [List.all_nil, Bool.true_and, Bool.not_false, Option.some.injEq, Prod.mk.injEq, Value.bool.injEq, and_true, decide_eq_decide]
          omega
  rw [keys_word_eq]
  exact loop NN 0 (by omega) (NN_big _ (by omega))

theorem one_b (d : Nat) (k : Ky) (hk : KOK k) (H : Heap) : ∃ H', X (d + 3) n_keys_one [.agg ⟨keyL k⟩] H = some (.bool (oneB k), H') ∧ Keep0 H H' := by
  rw [keys_one_eq, boxL (keyL_one k)]
  have k1 : Keep (fun _ => False) H (H.new (.cells (keyL k) t_api_Key false 0 false)) := Keep.new _ _
  have g1 : (H.new (.cells (keyL k) t_api_Key false 0 false)).get H.next = some (.cells (keyL k) t_api_Key false 0 false) := by simp
  generalize (H.new (.cells (keyL k) t_api_Key false 0 false)) = H1 at *
  refine ⟨H1, ?_, k1⟩
  simp only [show ∀ (K : Option Addr → Res), asP (P0 H.next) K = K (some ⟨H.next, 0, none⟩) from fun _ => rfl, optK_s, ap, Nat.zero_add, ld1_s g1, get0, get33 k hk.1, get34 k hk.1, asS_s, asI_s]
  rw [show (20 : Int) = ((20 : Nat) : Int) from rfl, word_b d k.nm [] hk.2.1 20 idx_nil H1]
  simp only [callK_s, asB_s, oneB]
  cases wordB k.nm [] 20 with
  | false => rfl
  | true =>
    rw [if_pos rfl]
    simp only [show ∀ (K : Option Addr → Res), asP (P0 H.next) K = K (some ⟨H.next, 0, none⟩) from fun _ => rfl, optK_s, ap, Nat.zero_add, ld1_s g1, get33 k hk.1, asI_s]
    by_cases c1 : 1 ≤ k.rights
    · by_cases c2 : k.rights ≤ 7
      · simp only [c1, c2, decide_true, if_true, Bool.true_and, show ∀ (K : Option Addr → Res), asP (P0 H.next) K = K (some ⟨H.next, 0, none⟩) from fun _ => rfl, optK_s, ap, Nat.zero_add, ld1_s g1, get33 k hk.1, get34 k hk.1, asS_s, asI_s]
        rw [show (40 : Int) = ((40 : Nat) : Int) from rfl, word_b d k.pat [42, 63] hk.2.2.1 40 idx_more H1]
        rfl
      · simp [c1, c2, asP, P0, optK, ap, ld1_s g1, get33 k hk.1, asI]
    · simp [c1]

/-! ### keys that are read -/
/-- a slice of keys, as it is read -/
def RK (H : Heap) (x : Sl) (L : List Ky) : Prop := x.n = L.length ∧ x.n ≤ x.c ∧ L.length ≤ 1048576 ∧ (∀ k ∈ L, KOK k) ∧ (L ≠ [] → ∃ b o c e ob fz st, x.a = some ⟨b, o, none⟩ ∧ b < H.next ∧ H.get b = some (.cells c e ob fz st) ∧ ∀ i k, L[i]? = some k → o + i * 35 + 35 ≤ c.length ∧ (c.drop (o + i * 35)).take 35 = keyL k)

theorem RK.of {H : Heap} {x : Sl} {L : List Ky} (h : Kys H x L) (hL : L.length ≤ 1048576) : RK H x L := by
  refine ⟨h.num, by have := (Whole.len h.1).2; omega, hL, h.2, fun hne => ?_⟩
  have hc : ∃ k, L[0]? = some k := by cases L with
    | nil => exact absurd rfl hne
    | cons k L => exact ⟨k, rfl⟩
  obtain ⟨k, hk⟩ := hc
  obtain ⟨b, o, st, c, e1, e2, e3, _, _⟩ := h.ldA hk
  refine ⟨b, 0, c, _, o, 0, st, e1, Whole.lt h.1 e2, e3, fun i k hi => ?_⟩
  obtain ⟨b', o', st', c', f1, f2, f3, f4, f5⟩ := h.ldA hi
  rw [e1] at f1
  cases f1
  rw [e3] at f3
  cases f3
  rw [Nat.zero_add]
  exact ⟨f4, f5⟩

theorem RK.keep {S : Nat → Prop} {H H' : Heap} {x : Sl} {L : List Ky} (h : RK H x L) (hk : Keep S H H') (hn : L ≠ [] → ∀ j, x.at j → ¬ S j) : RK H' x L := by
  obtain ⟨h1, h2, h3, h4, h5⟩ := h
  refine ⟨h1, h2, h3, h4, fun hne => ?_⟩
  obtain ⟨b, o, c, e, ob, fz, st, e1, e2, e3, e4⟩ := h5 hne
  exact ⟨b, o, c, e, ob, fz, st, e1, Nat.lt_of_lt_of_le e2 hk.1, (hk.2 b e2 (hn hne b ⟨_, e1, rfl⟩)).trans e3, e4⟩
theorem RK.keep0 {H H' : Heap} {x : Sl} {L : List Ky} (h : RK H x L) (hk : Keep0 H H') : RK H' x L := h.keep hk fun _ _ _ h => h

theorem RK.lt {H : Heap} {x : Sl} {L : List Ky} (h : RK H x L) (hne : L ≠ []) (j : Nat) (hj : x.at j) : j < H.next := by
  obtain ⟨b, o, c, e, ob, fz, st, e1, e2, _⟩ := h.2.2.2.2 hne
  obtain ⟨a, ha, rfl⟩ := hj
  rw [e1] at ha; cases ha; exact e2

/-- what is read of the i-th key -/
structure KeyAt (H : Heap) (x : Sl) (i : Nat) (k : Ky) : Prop where
  all : ∃ a, x.a = some a ∧ Cm.ldA H (ap a (i * 35)) 35 = some (.agg ⟨keyL k⟩) ∧ Cm.ldA H (ap (ap a (i * 35)) 1) 32 = some (.agg ⟨pubL k.pub⟩) ∧ Heap.ld1 H (ap (ap a (i * 35)) 0) = some (.string (S k.nm)) ∧
    Heap.ld1 H (ap (ap a (i * 35)) 33) = some (.int .i64 k.rights) ∧ Heap.ld1 H (ap (ap a (i * 35)) 34) = some (.string (S k.pat)) ∧ (∀ j n, k.pub[j]? = some n → Heap.ld1 H (ap (ap (ap a (i * 35)) 1) (j * 1)) = some (.int .u8 n))

theorem RK.at {H : Heap} {x : Sl} {L : List Ky} (h : RK H x L) {i : Nat} {k : Ky} (hk : L[i]? = some k) : KeyAt H x i k := by
  obtain ⟨h1, h2, h3, h4, h5⟩ := h
  have hkk := h4 k (List.mem_of_getElem? hk)
  obtain ⟨b, o, c, e, ob, fz, st, e1, e2, e3, e4⟩ := h5 (by rintro rfl; cases hk)
  obtain ⟨f1, f2⟩ := e4 i k hk
  have cell : ∀ j, j < 35 → Heap.ld1 H ⟨b, o + i * 35 + j, none⟩ = (keyL k)[j]? := fun j hj => by
    rw [ld1_s e3, ← f2, List.getElem?_take_of_lt hj, List.getElem?_drop]
  have part : ∀ j n, j + n ≤ 35 → Heap.ldN H ⟨b, o + i * 35 + j, none⟩ n = some (((keyL k).drop j).take n) := fun j n hj => by
    rw [ldN_s e3 (by omega), ← f2, List.drop_take, List.take_take, List.drop_drop, Nat.min_eq_left (by omega)]
  refine ⟨⟨b, o, none⟩, e1, ?_, ?_, ?_, ?_, ?_, fun j n hj => ?_⟩
  · have := part 0 35 (by omega)
    rw [Nat.add_zero, List.drop_zero, List.take_of_length_le (by rw [keyL_len hkk.1]; exact Nat.le_refl _)] at this
    simp only [Cm.ldA, ap, this]
  · have := part 1 32 (by omega)
    have e : ((keyL k).drop 1).take 32 = pubL k.pub := by
      simp only [keyL, List.drop_succ_cons, List.drop_zero]
      rw [List.take_left' (by rw [pubL_len]; exact hkk.1)]
    rw [e] at this
    simp only [Cm.ldA, ap, this]
  · simp only [ap]; rw [cell 0 (by omega)]; rfl
  · simp only [ap]; rw [cell 33 (by omega)]; exact get33 k hkk.1
  · simp only [ap]; rw [cell 34 (by omega)]; exact get34 k hkk.1
  · have hj' := (List.getElem?_eq_some_iff.1 hj).1
    have hl := hkk.1
    simp only [ap, Nat.mul_one]
    rw [show o + i * 35 + 1 + j = o + i * 35 + (j + 1) by omega, cell (j + 1) (by omega)]
    simp only [keyL, List.getElem?_cons_succ]
    rw [List.getElem?_append_left (by rw [pubL_len]; exact hj')]
    simp [pubL, hj]

theorem RK.len35 {H : Heap} {x : Sl} {L : List Ky} (h : RK H x L) : x.n = L.length := h.1

/-- a key's copy in a block of its own -/
def cpH (H : Heap) (c : List Value) (t : TypeId) (z : List Value) : Heap := (H.new (.cells z t false 0 false)).put H.next (.cells c t false 0 false)
theorem cpH_keep (H : Heap) (c z : List Value) (t : TypeId) : Keep0 H (cpH H c t z) := ⟨by simp [cpH], fun j hj _ => by unfold cpH; rw [Heap.get_put_ne _ _ (by omega), Heap.get_new_ne _ _ (by omega)]⟩
theorem cpH_get (H : Heap) (c z : List Value) (t : TypeId) : (cpH H c t z).get H.next = some (.cells c t false 0 false) := by simp [cpH]
theorem cpH_next (H : Heap) (c z : List Value) (t : TypeId) : (cpH H c t z).next = H.next + 1 := by simp [cpH]
theorem cpK {k : Ky} (hk : k.pub.length = 32) (H : Heap) (F : Nat → Value → Heap → Res) :
    (newK H (.cells (keyL k0) t_api_Key false 0 false) fun p H5 => effK (.store 35) [P0 p, .agg ⟨keyL k⟩] H5 fun v H7 => F p v H7) = F H.next (.tuple #[]) (cpH H (keyL k) t_api_Key (keyL k0)) := by
  rw [newK_s, storeN (n := 35) (Heap.get_new_same H _) (keyL_len (by simp [k0])) (keyL_len hk) (keyL_one k) (by omega)]
  rfl

theorem takeK {L : List Ky} {i : Nat} {k : Ky} (h : L[i]? = some k) : L.take (i + 1) = L.take i ++ [k] := by rw [List.take_add_one, h]; rfl
theorem dropK {α : Type} {L : List α} {i : Nat} {k : α} (h : L[i]? = some k) : L.drop i = k :: L.drop (i + 1) := by
  obtain ⟨hlt, e⟩ := List.getElem?_eq_some_iff.1 h
  rw [List.drop_eq_getElem_cons hlt, e]

/-! ### the program's -/
theorem twice_b (d c : Nat) (k : Ky) (hk : KOK k) (x : Sl) (L : List Ky) (n : Nat) (hn : n ≤ L.length) (H : Heap) (hx : RK H x L) : ∃ H', X (d + 1) n_keys_twice [.slice x.a n c, .agg ⟨keyL k⟩] H = some (.bool (twiceB (L.take n) k), H') ∧ Keep0 H H' := by
  have hL := hx.2.2.1
  have loop : ∀ (pb m i : Nat) (H : Heap), i ≤ n → n - i < m → RK H x L → H.get pb = some (.cells (keyL k) t_api_Key false 0 false) → pb < H.next →
      ∃ H', keys_twice_p1010 d m (P0 pb) ⟨x.a, n, c⟩ (n : Int) (i : Int) H = some (.bool (twiceB ((L.take n).drop i) k), H') ∧ Keep0 H H' := by
    intro pb m
    induction m with
    | zero => intro i H h1 h2; omega
    | succ m ih =>
      intro i H hi hm hx hg hb
      rw [keys_twice_p1010_s, ← k0_eq]
      simp only [decide_eq_true_eq]
      by_cases h : i < n
      · rw [if_pos (by omega)]
        have hc : L[i]? = some L[i] := List.getElem?_eq_getElem (by omega)
        have hok := hx.2.2.2.1 _ (List.getElem_mem (by omega : i < L.length))
        generalize L[i] = q at hc hok
        have hc' : (L.take n)[i]? = some q := by rw [List.getElem?_take_of_lt h, hc]
        obtain ⟨a, e1, e2, _⟩ := (hx.at hc).all
        rw [e1]
        simp only [optK_s]
        rw [if_pos (by omega), Int.toNat_natCast, e2]
        simp only [optK_s, asA_s]
        rw [cpK hok.1]
        have k7 := cpH_keep H (keyL q) (keyL k0) t_api_Key
        have g7 := cpH_get H (keyL q) (keyL k0) t_api_Key
        have n7 := cpH_next H (keyL q) (keyL k0) t_api_Key
        generalize cpH H (keyL q) t_api_Key (keyL k0) = H7 at *
        have hg' := k7.get hb hg
        rw [ld32 g7 hok.1]
        simp only [optK_s, asA_s, show ∀ (K : Option Addr → Res), asP (P0 pb) K = K (some ⟨pb, 0, none⟩) from fun _ => rfl, ap, Nat.zero_add]
        rw [ld32 hg' hk.1]
        simp only [optK_s, asA_s]
        rw [sz32 hok.1 hk.1]
        simp only [chk_s]
        rw [show eqL _ (pubL q.pub) (pubL k.pub) = _ from ee_eq q.pub k.pub hok.1 hk.1]
        simp only [optK_s, ld1_s g7, ld1_s hg', get0, asS_s, sEqS]
        rw [dropK hc', twiceB, List.any_cons, ← twiceB]
        obtain ⟨H', f1, f2⟩ := ih (i + 1) H7 (by omega) (by omega) (hx.keep0 k7) hg' (by omega)
        rw [e1] at f1
        by_cases c1 : q.pub = k.pub
        · rw [if_pos (by simpa using c1), keys_twice_p10100110011_eq, if_pos rfl]
          exact ⟨H7, by simp [c1], k7⟩
        · rw [if_neg (by simpa using c1), keys_twice_p10100110011_eq]
          by_cases c2 : q.nm = k.nm
          · rw [if_pos (by simp [c2])]
            exact ⟨H7, by simp [c2], k7⟩
          · rw [if_neg (by simp [c2]), w64 (by omega), show ((i : Int) + 1) = ((i + 1 : Nat) : Int) by omega, f1]
            exact ⟨H', by simp [c1, c2], k7.trans f2⟩
      · rw [if_neg (by omega), List.drop_eq_nil_of_le (by rw [List.length_take]; omega)]
        exact ⟨H, rfl, Keep.refl _⟩
  have e0 := keys_twice_eq d ⟨x.a, n, c⟩ ⟨keyL k⟩ H
  simp only [Sl.v] at e0
  rw [e0, boxL (keyL_one k)]
  have k1 : Keep0 H (H.new (.cells (keyL k) t_api_Key false 0 false)) := Keep.new _ _
  have g1 : (H.new (.cells (keyL k) t_api_Key false 0 false)).get H.next = some (.cells (keyL k) t_api_Key false 0 false) := by simp
  have n1 : H.next < (H.new (.cells (keyL k) t_api_Key false 0 false)).next := by simp
  generalize (H.new (.cells (keyL k) t_api_Key false 0 false)) = H1 at *
  obtain ⟨H', f1, f2⟩ := loop H.next NN 0 H1 (by omega) (NN_big _ (by omega)) (hx.keep0 k1) g1 n1
  rw [show (((0 : Nat)) : Int) = 0 from rfl] at f1
  rw [f1, List.drop_zero]
  exact ⟨H', rfl, k1.trans f2⟩

theorem Right_b (d : Nat) (x : Sl) (L : List Ky) (H : Heap) (hx : RK H x L) : ∃ H', X (d + 4) n_keys_Right [x.v] H = some (.bool (rightB L), H') ∧ Keep0 H H' := by
  have hL := hx.2.2.1
  have hn := hx.1
  have hcap := hx.2.1
  have loop : ∀ (m i : Nat) (H : Heap), i ≤ L.length → L.length - i < m → RK H x L →
      ∃ H', keys_Right_p1010 (d + 3) m x x (x.n : Int) (i : Int) H = some (.bool (rightA (L.take i) (L.drop i) && decide (L.length ≤ 20)), H') ∧ Keep0 H H' := by
    intro m
    induction m with
    | zero => intro i H h1 h2; omega
    | succ m ih =>
      intro i H hi hm hx
      rw [keys_Right_p1010_s, ← k0_eq]
      simp only [decide_eq_true_eq]
      by_cases h : i < L.length
      · rw [if_pos (by omega)]
        have hc : L[i]? = some L[i] := List.getElem?_eq_getElem h
        have hok := hx.2.2.2.1 _ (List.getElem_mem h)
        generalize L[i] = k at hc hok
        obtain ⟨a, e1, e2, _⟩ := (hx.at hc).all
        rw [e1]
        simp only [optK_s]
        rw [if_pos (by omega), Int.toNat_natCast, e2]
        simp only [optK_s, asA_s]
        rw [cpK hok.1]
        have k7 := cpH_keep H (keyL k) (keyL k0) t_api_Key
        have g7 := cpH_get H (keyL k) (keyL k0) t_api_Key
        have n7 := cpH_next H (keyL k) (keyL k0) t_api_Key
        generalize cpH H (keyL k) t_api_Key (keyL k0) = H7 at *
        rw [ldAll g7 (keyL_len hok.1)]
        simp only [optK_s, asA_s]
        obtain ⟨H11, o1, o2⟩ := one_b d k hok H7
        rw [o1]
        simp only [callK_s, asB_s]
        have k11 := k7.trans o2
        have g11 := o2.get (by omega) g7
        rw [dropK hc, rightA]
        cases oneB k with
        | false =>
          rw [if_pos (by rfl), keys_Right_p10100110011_eq, if_pos rfl]
          exact ⟨H11, rfl, k11⟩
        | true =>
          rw [if_neg (by simp)]
          have hsub : readD (.subSl t_api_Key 35 false true false) [x.v, .int .i64 (i : Int)] H11 = some (.slice (some a) i x.c) := by
            simp only [readD, Sl.v, asSl, bnds, asN_s, e1]
            rw [if_pos (by omega), Int.toNat_natCast]
            rfl
          rw [hsub]
          simp only [optK_s, asSL_s]
          rw [ldAll g11 (keyL_len hok.1)]
          simp only [optK_s, asA_s]
          obtain ⟨H18, t1, t3⟩ := twice_b (d + 2) x.c k hok x L i (by omega) H11 (hx.keep0 k11)
          rw [e1] at t1
          simp only [Sl.v]
          rw [t1]
          simp only [callK_s, asB_s]
          have k18 := k11.trans t3
          rw [keys_Right_p10100110011_eq]
          cases twiceB (L.take i) k with
          | true => rw [if_pos rfl]; exact ⟨H18, rfl, k18⟩
          | false =>
            rw [if_neg (by simp), w64 (by omega), show ((i : Int) + 1) = ((i + 1 : Nat) : Int) by omega]
            obtain ⟨H', f1, f3⟩ := ih (i + 1) H18 (by omega) (by omega) (hx.keep0 k18)
            rw [takeK hc] at f1
            exact ⟨H', by rw [f1]; rfl, k18.trans f3⟩
      · rw [if_neg (by omega), List.drop_eq_nil_of_le (by omega)]
        refine ⟨H, ?_, Keep.refl _⟩
        simp only [rightA, Bool.true_and, Option.some.injEq, Prod.mk.injEq, Value.bool.injEq, and_true, decide_eq_decide]
        omega
  rw [keys_Right_eq]
  obtain ⟨H', f1, f3⟩ := loop NN 0 H (by omega) (NN_big _ (by omega)) hx
  rw [show (((0 : Nat)) : Int) = 0 from rfl] at f1
  exact ⟨H', f1, f3⟩

/-! ### the reference's -/
theorem RName_b (d : Nat) (w : W) (hw : w.length ≤ 1048576) (H : Heap) : X (d + 2) n_ref15_IsName [.string (S w)] H = some (.bool (wordB w [] 20), H) := by
  have loop : ∀ (m i : Nat), i ≤ w.length → w.length - i < m → ref15_IsName_p1010 (d + 1) m (S w) (i : Int) H = some (.bool (((w.drop i).all fun c => plainB c || ([] : W).contains c) && (!w.isEmpty && decide (w.length ≤ 20))), H) := by
    intro m
    induction m with
    | zero => intro i h1 h2; omega
    | succ m ih =>
      intro i hi hlt
      rw [ref15_IsName_p1010_s]
      simp only [decide_eq_true_eq, slenS, Int.toNat_natCast]
      by_cases h : i < w.length
      · rw [if_pos (by omega), if_pos (by omega)]
        have hc : w[i]? = some w[i] := List.getElem?_eq_getElem h
        generalize w[i] = c at hc
        rw [btS hc, plain_b]
        simp only [callK_s, asB_s]
        rw [all_drop hc]
        have nx := ih (i + 1) (by omega) (by omega)
        rw [show ((i + 1 : Nat) : Int) = IntKind.wrap .i64 ((i : Int) + 1) by rw [w64 (by omega)]; omega] at nx
        cases plainB c with
        | true => rw [if_neg (by simp), nx]; rfl
        | false => rw [if_pos (by rfl)]; rfl
      · rw [if_neg (by omega), List.drop_eq_nil_of_le (by omega)]
        cases w with
        | nil => rfl
        | cons a w =>
          rw [if_pos (by simp only [List.length_cons]; omega)]
          simp only [List.all_nil, Bool.true_and, Option.some.injEq, Prod.mk.injEq, Value.bool.injEq, and_true, List.isEmpty_cons, Bool.not_false, decide_eq_decide]
          omega
  rw [ref15_IsName_eq]
  exact loop NN 0 (by omega) (NN_big _ (by omega))

theorem more_b (c : UInt8) : ([42, 63] : W).contains c = (decide ((c.toNat : Int) = 42) || decide ((c.toNat : Int) = 63)) := by
  rw [Bool.eq_iff_iff]
  simp only [List.contains_eq_mem, List.mem_cons, List.not_mem_nil, or_false, decide_eq_true_eq, Bool.or_eq_true, ← UInt8.toNat_inj]
  simp only [show (42 : UInt8).toNat = 42 from rfl, show (63 : UInt8).toNat = 63 from rfl]
  omega

theorem RPattern_b (d : Nat) (w : W) (hw : w.length ≤ 1048576) (H : Heap) : X (d + 2) n_ref15_isPattern [.string (S w)] H = some (.bool (wordB w [42, 63] 40), H) := by
  have loop : ∀ (m i : Nat), i ≤ w.length → w.length - i < m → ref15_isPattern_p1010 (d + 1) m (S w) (i : Int) H = some (.bool (((w.drop i).all fun c => plainB c || ([42, 63] : W).contains c) && (!w.isEmpty && decide (w.length ≤ 40))), H) := by
    intro m
    induction m with
    | zero => intro i h1 h2; omega
    | succ m ih =>
      intro i hi hlt
      rw [ref15_isPattern_p1010_s]
      simp only [decide_eq_true_eq, slenS, Int.toNat_natCast]
      by_cases h : i < w.length
      · rw [if_pos (by omega), if_pos (by omega)]
        have hc : w[i]? = some w[i] := List.getElem?_eq_getElem h
        generalize w[i] = c at hc
        simp only [btS hc]
        rw [plain_b]
        simp only [callK_s, asB_s, btS hc, Int.toNat_natCast]
        rw [all_drop hc, more_b]
        have nx := ih (i + 1) (by omega) (by omega)
        rw [show ((i + 1 : Nat) : Int) = IntKind.wrap .i64 ((i : Int) + 1) by rw [w64 (by omega)]; omega] at nx
        cases plainB c with
        | true => rw [if_neg (by simp), ref15_isPattern_p101001001_eq, if_neg (by simp), nx]; rfl
        | false =>
          rw [if_pos (by rfl), if_pos (by omega)]
          by_cases c1 : (c.toNat : Int) = 42
          · rw [if_neg (by simp [c1]), ref15_isPattern_p101001001_eq, if_neg (by simp), nx]
            simp [c1]
          · rw [if_pos (by simp [c1]), if_pos (by omega), ref15_isPattern_p101001001_eq]
            by_cases c2 : (c.toNat : Int) = 63
            · rw [if_neg (by simp [c2]), nx]; simp [c2]
            · rw [if_pos (by simp [c2])]; simp [c1, c2]
      · rw [if_neg (by omega), List.drop_eq_nil_of_le (by omega)]
        cases w with
        | nil => rfl
        | cons a w =>
          rw [if_pos (by simp only [List.length_cons]; omega)]
          simp only [List.all_nil, Bool.true_and, Option.some.injEq, Prod.mk.injEq, Value.bool.injEq, and_true, List.isEmpty_cons, Bool.not_false, decide_eq_decide]
          omega
  rw [ref15_isPattern_eq]
  exact loop NN 0 (by omega) (NN_big _ (by omega))

theorem RRight_b (d : Nat) (x : Sl) (L : List Ky) (H : Heap) (hx : RK H x L) : X (d + 3) n_ref15_Right [x.v] H = some (.bool (rightB L), H) := by
  have hL := hx.2.2.1
  have hn := hx.1
  have inner : ∀ (m i : Nat) (k : Ky), L[i]? = some k → KOK k → ∀ (m1 j : Nat), j ≤ i → i - j < m1 →
      ref15_Right_p110100100110 (d + 2) m m1 x (i : Int) (j : Int) H = if twiceB ((L.take i).drop j) k = true then some (.bool false, H) else ref15_Right_p11010 (d + 2) m x ((i + 1 : Nat) : Int) H := by
    intro m i k hc hok m1
    have hlt := (List.getElem?_eq_some_iff.1 hc).1
    induction m1 with
    | zero => intro j h1 h2; omega
    | succ m1 ih =>
      intro j hj hm1
      rw [ref15_Right_p110100100110_s]
      simp only [decide_eq_true_eq]
      by_cases h : j < i
      · rw [if_pos (by omega)]
        have hq : L[j]? = some L[j] := List.getElem?_eq_getElem (by omega)
        have hqk := hx.2.2.2.1 _ (List.getElem_mem (by omega : j < L.length))
        generalize L[j] = q at hq hqk
        have hq' : (L.take i)[j]? = some q := by rw [List.getElem?_take_of_lt h, hq]
        obtain ⟨a, e1, _, e2, e3, _⟩ := (hx.at hq).all
        obtain ⟨a', e1', _, f2, f3, _⟩ := (hx.at hc).all
        rw [e1] at e1'
        cases e1'
        rw [e1]
        simp only [optK_s]
        rw [if_pos (by omega), Int.toNat_natCast, e2]
        simp only [optK_s, asA_s]
        rw [if_pos (by omega), Int.toNat_natCast, f2]
        simp only [optK_s, asA_s]
        rw [sz32 hqk.1 hok.1]
        simp only [chk_s]
        rw [show eqL _ (pubL q.pub) (pubL k.pub) = _ from ee_eq q.pub k.pub hqk.1 hok.1]
        rw [dropK hq', twiceB, List.any_cons, ← twiceB]
        simp only [optK_s]
        by_cases c1 : q.pub = k.pub
        · rw [if_pos (by simpa using c1), ref15_Right_p11010010011001001_eq, if_pos rfl]
          simp [c1]
        · rw [if_neg (by simpa using c1), if_pos (by omega), e3]
          simp only [optK_s, asS_s]
          rw [if_pos (by omega), f3]
          simp only [optK_s, asS_s, sEqS]
          rw [ref15_Right_p11010010011001001_eq]
          by_cases c2 : q.nm = k.nm
          · simp [c2]
          · rw [if_neg (by simp [c2]), w64 (by omega), show ((j : Int) + 1) = ((j + 1 : Nat) : Int) by omega, ih (j + 1) (by omega) (by omega)]
            simp [c1, c2]
      · rw [if_neg (by omega), List.drop_eq_nil_of_le (by rw [List.length_take]; omega), w64 (by omega)]
        rfl
  have loop : ∀ (m i : Nat), i ≤ L.length → L.length - i < m → ref15_Right_p11010 (d + 2) m x (i : Int) H = some (.bool (rightA (L.take i) (L.drop i)), H) := by
    intro m
    induction m with
    | zero => intro i h1 h2; omega
    | succ m ih =>
      intro i hi hm
      rw [ref15_Right_p11010_s]
      simp only [decide_eq_true_eq]
      by_cases h : i < L.length
      · rw [if_pos (by omega)]
        have hc : L[i]? = some L[i] := List.getElem?_eq_getElem h
        have hok := hx.2.2.2.1 _ (List.getElem_mem h)
        generalize L[i] = k at hc hok
        obtain ⟨a, e1, _, _, e3, e4, e5, _⟩ := (hx.at hc).all
        rw [e1]
        simp only [optK_s]
        rw [if_pos (by omega), Int.toNat_natCast, e3]
        simp only [optK_s, asS_s]
        rw [RName_b d k.nm hok.2.1]
        simp only [callK_s, asB_s]
        rw [dropK hc, rightA, oneB]
        cases wordB k.nm [] 20 with
        | false => rw [if_pos (by rfl), ref15_Right_p11010010001_eq, if_pos rfl]; rfl
        | true =>
          rw [if_neg (by simp), if_pos (by omega), e5]
          simp only [optK_s, asS_s]
          rw [RPattern_b d k.pat hok.2.2.1]
          simp only [callK_s, asB_s]
          cases wordB k.pat [42, 63] 40 with
          | false => rw [if_pos (by rfl), ref15_Right_p11010010001_eq, if_pos rfl]; simp
          | true =>
            rw [if_neg (by simp), if_pos (by omega), e4]
            simp only [optK_s, asI_s]
            by_cases c1 : k.rights < 1
            · rw [if_pos c1, ref15_Right_p11010010001_eq, if_pos rfl]
              simp [show ¬ 1 ≤ k.rights by omega]
            · rw [if_neg c1, if_pos (by omega)]
              rw [ref15_Right_p11010010001_eq]
              by_cases c2 : 7 < k.rights
              · rw [if_pos (by simpa using c2)]; simp [show ¬ k.rights ≤ 7 by omega]
              · rw [if_neg (by simpa using c2), show (0 : Int) = ((0 : Nat) : Int) from rfl, inner m i k hc hok NN 0 (by omega) (NN_big _ (by omega)), List.drop_zero]
                simp only [show 1 ≤ k.rights by omega, show k.rights ≤ 7 by omega, decide_true, Bool.true_and]
                cases twiceB (L.take i) k with
                | true => rfl
                | false => rw [if_neg (by simp), ih (i + 1) (by omega) (by omega), takeK hc]; rfl
      · rw [if_neg (by omega), List.drop_eq_nil_of_le (by omega)]
        rfl
  rw [ref15_Right_eq]
  simp only [decide_eq_true_eq]
  unfold rightB
  by_cases c : 20 < L.length
  · rw [if_pos (by omega)]
    simp [show ¬ L.length ≤ 20 by omega]
  · rw [if_neg (by omega), show (0 : Int) = ((0 : Nat) : Int) from rfl, loop NN 0 (by omega) (NN_big _ (by omega))]
    simp [show L.length ≤ 20 by omega]
end Go.Proofs.YthphbdkhbaijlaaDoor.dec

namespace Go.Proofs.YthphbdkhbaijlaaDoor.dec
open Go Go.Cm

attribute [local congr] optK_congr asI_congr asN_congr asB_congr asS_congr asP_congr asA_congr asSL_congr callK_congr castT_congr chk_congr

/-! ### the plain law -/
def digitsW : W := [48, 49, 50, 51, 52, 53, 54, 55, 56, 57, 97, 98, 99, 100, 101, 102]
def hexD (n : Nat) : UInt8 := digitsW.getD n 0
def hexB (n : Int) : W := [hexD (n.toNat / 16), hexD (n.toNat % 16)]
def letB (n : Int) (i : Nat) : Bool := decide (n.toNat / 2 ^ i % 2 = 1)
def lettersW : W := [115, 116, 114]
def letL (n : Int) (i : Nat) : W := if letB n i then [lettersW.getD i 0] else []
def lettersOf (n : Int) : W := letL n 0 ++ (letL n 1 ++ letL n 2)
def hexsOf (p : List Int) : W := p.flatMap hexB
def tailK (k : Ky) : W := 32 :: (k.pat ++ 32 :: (k.nm ++ [10]))
def printK (k : Ky) : W := lettersOf k.rights ++ 32 :: (hexsOf k.pub ++ tailK k)
def printL (L : List Ky) : W := L.flatMap printK
def printR (L : List Ky) : Value := if rightB L = true then .tuple #[.string (S (printL L)), .int .i64 0] else .tuple #[.string (S []), .int .i64 1]

theorem hexB_len (n : Int) : (hexB n).length = 2 := rfl
theorem hexs_len (p : List Int) : (hexsOf p).length = 2 * p.length := by
  induction p with
  | nil => rfl
  | cons a p ih => simp only [hexsOf, List.flatMap_cons, List.length_append, hexB_len, List.length_cons] at ih ⊢; omega
theorem hexs_cons (a : Int) (p : List Int) : hexsOf (a :: p) = hexB a ++ hexsOf p := rfl
theorem letL_len (n : Int) (i : Nat) : (letL n i).length ≤ 1 := by unfold letL; split <;> simp
theorem letters_len (n : Int) : (lettersOf n).length ≤ 3 := by
  have := letL_len n 0; have := letL_len n 1; have := letL_len n 2
  simp only [lettersOf, List.length_append]; omega

/-- what each key that may be is like -/
def RightK (k : Ky) : Prop := k.nm.length ≤ 20 ∧ k.pat.length ≤ 40 ∧ 1 ≤ k.rights ∧ k.rights ≤ 7
theorem wordB_len {w more : W} {n : Nat} (h : wordB w more n = true) : w.length ≤ n := by
  simp only [wordB, Bool.and_eq_true, decide_eq_true_eq] at h; exact h.2.2
theorem oneB_right {k : Ky} (h : oneB k = true) : RightK k := by
  simp only [oneB, Bool.and_eq_true, decide_eq_true_eq] at h
  exact ⟨wordB_len h.1, wordB_len h.2.2.2, h.2.1, h.2.2.1⟩
theorem rightA_all : ∀ {r pre : List Ky}, rightA pre r = true → ∀ k ∈ r, oneB k = true := by
  intro r
  induction r with
  | nil => intro _ _ k h; cases h
  | cons q r ih =>
    intro pre h k hk
    simp only [rightA, Bool.and_eq_true] at h
    rcases List.mem_cons.1 hk with rfl | hk
    · exact h.1
    · exact ih h.2.2 k hk
theorem rightB_all {L : List Ky} (h : rightB L = true) : (∀ k ∈ L, RightK k) ∧ L.length ≤ 20 := by
  simp only [rightB, Bool.and_eq_true, decide_eq_true_eq] at h
  exact ⟨fun k hk => oneB_right (rightA_all h.1 k hk), h.2⟩
theorem printK_len {k : Ky} (h : RightK k) (hk : k.pub.length = 32) : (printK k).length ≤ 200 := by
  have h1 := letters_len k.rights
  have h2 := hexs_len k.pub
  have h3 := h.1
  have h4 := h.2.1
  simp only [printK, tailK, List.length_append, List.length_cons, List.length_nil]
  omega
theorem printL_snoc (L : List Ky) (k : Ky) : printL (L ++ [k]) = printL L ++ printK k := by simp [printL]
theorem printL_len {L : List Ky} (h : ∀ k ∈ L, RightK k) (hk : ∀ k ∈ L, KOK k) : (printL L).length ≤ L.length * 200 := by
  induction L with
  | nil => simp [printL]
  | cons k L ih =>
    have h1 := printK_len (h k (by simp)) (hk k (by simp)).1
    have h2 := ih (fun k' h' => h k' (by simp [h'])) (fun k' h' => hk k' (by simp [h']))
    simp only [printL, List.flatMap_cons, List.length_append, List.length_cons] at h2 ⊢
    omega

/-! ### the program's -/
theorem bit_cases {n : Int} (h1 : 1 ≤ n) (h7 : n ≤ 7) {i : Nat} (hi : i < 3) : (!decide (bitsI .and .i64 n (IntKind.wrap .i64 (1 * 2 ^ (min i (IntKind.bits .i64)))) = 0)) = letB n i := by
  have hn : n = 1 ∨ n = 2 ∨ n = 3 ∨ n = 4 ∨ n = 5 ∨ n = 6 ∨ n = 7 := by omega
  have hi' : i = 0 ∨ i = 1 ∨ i = 2 := by omega
  rcases hi' with rfl | rfl | rfl <;> rcases hn with rfl | rfl | rfl | rfl | rfl | rfl | rfl <;> decide

/-- the printing of a key goes on -/
def Prn (B p pk : Nat) (k : Ky) (x : Sl) (L : List Ky) (s : Sl) (l : W) (H : Heap) : Prop :=
  Bd H p s l ∧ B ≤ p ∧ (∀ j, s.at j → B ≤ j) ∧ (pk < H.next ∧ B ≤ pk ∧ pk ≠ p ∧ ¬ s.at pk ∧ H.get pk = some (.cells (keyL k) t_api_Key false 0 false)) ∧ RK H x L ∧ (L ≠ [] → ∀ j, x.at j → j < B)

theorem Prn.step {B p pk : Nat} {k : Ky} {x : Sl} {L : List Ky} {s s' : Sl} {l l' : W} {H H' : Heap} (h : Prn B p pk k x L s l H) (h1 : Bd H' p s' l') (h2 : Keep (BS p s) H H') (h3 : ∀ j, s'.at j → s.at j ∨ H.next ≤ j) : Prn B p pk k x L s' l' H' ∧ Keep (fun j => B ≤ j) H H' := by
  obtain ⟨a1, a2, a3, ⟨a4, a5, a6, a7, a8⟩, a9, a10⟩ := h
  have kB : Keep (fun j => B ≤ j) H H' := h2.mono fun j _ hj => by
    rcases hj with rfl | hj
    · exact a2
    · exact a3 j hj
  have hpn := a1.1
  refine ⟨⟨h1, a2, fun j hj => ?_, ⟨Nat.lt_of_lt_of_le a4 h2.1, a5, a6, fun hj => ?_, (h2.2 pk a4 fun hj => ?_).trans a8⟩, a9.keep kB fun hne j hj hB => ?_, a10⟩, kB⟩
  · rcases h3 j hj with hj | hj
    · exact a3 j hj
    · omega
  · rcases h3 pk hj with hj | hj
    · exact a7 hj
    · omega
  · rcases hj with rfl | hj
    · exact a6 rfl
    · exact a7 hj
  · have := a10 hne j hj; have h' : B ≤ j := hB; omega

theorem Prn.byte {B p pk : Nat} {k : Ky} {x : Sl} {L : List Ky} {s : Sl} {l : W} {H : Heap} (h : Prn B p pk k x L s l H) (d : Nat) (b : UInt8) (hl : l.length ≤ 1000000) :
    ∃ v s' H', X (d + 3) n_strings_Builder_WriteByte [P0 p, .int .u8 (b.toNat : Int)] H = some (v, H') ∧ Prn B p pk k x L s' (l ++ [b]) H' ∧ Keep (fun j => B ≤ j) H H' := by
  obtain ⟨s', H', e, f1, f2, f3⟩ := WriteByte_s d p s l b H h.1 (by omega)
  exact ⟨_, s', H', e, h.step f1 f2 f3⟩

theorem dig_len : slen (S [48, 49, 50, 51, 52, 53, 54, 55, 56, 57, 97, 98, 99, 100, 101, 102]) = 16 := rfl
theorem bt_dig {n : Nat} (h : n < 16) : bt (S [48, 49, 50, 51, 52, 53, 54, 55, 56, 57, 97, 98, 99, 100, 101, 102]) n = ((hexD n).toNat : Int) := by
  rw [btS (c := hexD n)]
  unfold hexD
  rw [List.getD_eq_getElem?_getD]
  have : ∃ c, digitsW[n]? = some c := ⟨_, List.getElem?_eq_getElem (show n < digitsW.length from h)⟩
  obtain ⟨c, hc⟩ := this
  rw [hc]; exact hc
theorem bt_let {n : Nat} (h : n < 3) : bt (S [115, 116, 114]) n = ((lettersW.getD n 0).toNat : Int) := by
  rw [btS (c := lettersW.getD n 0)]
  rw [List.getD_eq_getElem?_getD]
  have : ∃ c, lettersW[n]? = some c := ⟨_, List.getElem?_eq_getElem (show n < lettersW.length from h)⟩
  obtain ⟨c, hc⟩ := this
  rw [hc]; exact hc

set_option maxRecDepth 100000 in
theorem nib_lo {n : Int} (h : 0 ≤ n ∧ n < 256) : bitsI .and .u8 n 15 = ((n.toNat % 16 : Nat) : Int) := by
  obtain ⟨m, rfl⟩ := Int.eq_ofNat_of_zero_le h.1
  have hm : m < 256 := by omega
  have : ∀ m : Fin 256, bitsI .and .u8 (m.val : Int) 15 = ((m.val % 16 : Nat) : Int) := by decide
  exact this ⟨m, hm⟩
theorem nib_hi {n : Int} (h : 0 ≤ n ∧ n < 256) : Int.fdiv n 16 = ((n.toNat / 16 : Nat) : Int) := by
  obtain ⟨m, rfl⟩ := Int.eq_ofNat_of_zero_le h.1
  rw [Int.fdiv_eq_ediv_of_nonneg _ (by omega)]
  simp

def letF (n : Int) (j : Nat) : W := ((List.range 3).drop j).flatMap (letL n)
theorem letF_3 (n : Int) : letF n 3 = [] := rfl
theorem letF_s (n : Int) {j : Nat} (h : j < 3) : letF n j = letL n j ++ letF n (j + 1) := by
  have hj : (List.range 3)[j]? = some j := List.getElem?_range h
  unfold letF
  rw [List.drop_eq_getElem?_toList_append, hj]; rfl
theorem letF_0 (n : Int) : letF n 0 = lettersOf n := by
  simp [letF, lettersOf, List.range, List.range.loop]

theorem letters_loop (d m B p pk : Nat) (k : Ky) (hk : KOK k) (hr : RightK k) (x : Sl) (L : List Ky) (x14 x15 : Int) : ∀ (m1 j : Nat) (s : Sl) (l : W) (H : Heap), j ≤ 3 → 3 - j < m1 → l.length + (3 - j) ≤ 900000 → Prn B p pk k x L s l H →
    ∃ s' H', keys_Print_p111010011001010 (d + 3) m m1 p pk x x14 x15 (j : Int) H = keys_Print_p11101001100111010 (d + 3) m NN p pk x x14 x15 ⟨pubL k.pub⟩ 0 H' ∧ Prn B p pk k x L s' (l ++ (letF k.rights j ++ [32])) H' ∧ Keep (fun j => B ≤ j) H H' := by
  intro m1
  induction m1 with
  | zero => intro j s l H h1 h2; omega
  | succ m1 ih =>
    intro j s l H hj hm hl h
    rw [keys_Print_p111010011001010_s]
    simp only [decide_eq_true_eq]
    obtain ⟨_, _, _, ⟨hpk, _, _, _, hg⟩, _⟩ := id h
    by_cases c : j < 3
    · rw [if_pos (by omega), ld1_s hg, get33 k hk.1]
      simp only [optK_s, asI_s, Int.toNat_natCast]
      rw [if_neg (by omega), bit_cases hr.2.2.1 hr.2.2.2 c]
      have w : IntKind.wrap .i64 ((j : Int) + 1) = ((j + 1 : Nat) : Int) := by rw [w64 (by omega)]; omega
      rw [letF_s _ c, letL]
      cases hb : letB k.rights j with
      | true =>
        rw [if_pos rfl, if_pos ⟨by omega, by rw [slenS]; simp only [List.length_cons, List.length_nil]; omega⟩, bt_let c]
        obtain ⟨v, s1, H1, e, f1, f2⟩ := h.byte d (lettersW.getD j 0) (by omega)
        rw [e]
        simp only [callK_s]
        rw [keys_Print_p1110100110010100111_eq, w]
        obtain ⟨s', H', g1, g2, g3⟩ := ih (j + 1) s1 _ H1 (by omega) (by omega) (by simp only [List.length_append, List.length_cons, List.length_nil]; omega) f1
        exact ⟨s', H', g1, by simpa using g2, f2.trans g3 fun _ _ h => h⟩
      | false =>
        rw [if_neg (by simp), keys_Print_p1110100110010100111_eq, w]
        obtain ⟨s', H', g1, g2, g3⟩ := ih (j + 1) s l H (by omega) (by omega) (by omega) h
        exact ⟨s', H', g1, by simpa using g2, g3⟩
    · have hj3 : j = 3 := by omega
      subst hj3
      rw [if_neg (by omega)]
      obtain ⟨v, s1, H1, e, f1, f2⟩ := h.byte d 32 (by omega)
      rw [show (32 : Int) = ((32 : UInt8).toNat : Int) from rfl, e]
      simp only [callK_s]
      obtain ⟨_, _, _, ⟨_, _, _, _, hg1⟩, _⟩ := id f1
      rw [ld32 hg1 hk.1]
      simp only [optK_s, asA_s]
      exact ⟨s1, H1, rfl, by rw [letF_3]; exact f1, f2⟩

theorem partL_pub {p : List Int} {j : Nat} {n : Int} (h : p[j]? = some n) : partL (pubL p) (j * 1) 1 false = some (.int .u8 n) := by
  have : (pubL p)[j]? = some (.int .u8 n) := by simp [pubL, h]
  simp [partL, this]

theorem digits_loop (d m B p pk : Nat) (k : Ky) (hk : KOK k) (hr : RightK k) (x : Sl) (L : List Ky) (x14 : Int) (i : Nat) (hi : i ≤ 1000000) : ∀ (m1 j : Nat) (s : Sl) (l : W) (H : Heap), j ≤ 32 → 32 - j < m1 → l.length + 2 * (32 - j) ≤ 900000 → Prn B p pk k x L s l H →
    ∃ s' H', keys_Print_p11101001100111010 (d + 3) m m1 p pk x x14 (i : Int) ⟨pubL k.pub⟩ (j : Int) H = keys_Print_p111010 (d + 3) m p x x14 ((i + 1 : Nat) : Int) H' ∧ Prn B p pk k x L s' (l ++ (hexsOf (k.pub.drop j) ++ tailK k)) H' ∧ Keep (fun j => B ≤ j) H H' := by
  intro m1
  induction m1 with
  | zero => intro j s l H h1 h2; omega
  | succ m1 ih =>
    intro j s l H hj hm hl h
    rw [keys_Print_p11101001100111010_s]
    simp only [decide_eq_true_eq]
    by_cases c : j < 32
    · have hlt : j < k.pub.length := by rw [hk.1]; exact c
      have hc : k.pub[j]? = some k.pub[j] := List.getElem?_eq_getElem hlt
      have hn := hk.2.2.2 _ (List.getElem_mem hlt)
      generalize k.pub[j] = n at hc hn
      rw [if_pos (by omega), if_pos (by omega), Int.toNat_natCast, partL_pub hc]
      simp only [optK_s, asI_s]
      rw [nib_hi hn, nib_lo hn, dig_len, if_pos (by omega), Int.toNat_natCast, bt_dig (by omega)]
      obtain ⟨v1, s1, H1, e1, f1, f2⟩ := h.byte d (hexD (n.toNat / 16)) (by omega)
      rw [e1]
      simp only [callK_s]
      rw [if_pos (by omega), Int.toNat_natCast, bt_dig (by omega)]
      obtain ⟨v2, s2, H2, e2, g1, g2⟩ := f1.byte d (hexD (n.toNat % 16)) (by simp only [List.length_append, List.length_cons, List.length_nil]; omega)
      rw [e2]
      simp only [callK_s]
      rw [w64 (by omega), show ((j : Int) + 1) = ((j + 1 : Nat) : Int) by omega]
      obtain ⟨s', H', q1, q2, q3⟩ := ih (j + 1) s2 _ H2 (by omega) (by omega) (by simp only [List.length_append, List.length_cons, List.length_nil]; omega) g1
      refine ⟨s', H', q1, ?_, (f2.trans g2 fun _ _ h => h).trans q3 fun _ _ h => h⟩
      rw [dropK hc, hexsOf, List.flatMap_cons, ← hexsOf]
      simpa [hexB] using q2
    · rw [if_neg (by omega)]
      obtain ⟨_, _, _, ⟨hpk, _, _, _, hg⟩, _⟩ := id h
      rw [ld1_s hg, get34 k hk.1]
      simp only [optK_s, asS_s, slenS, sCatS]
      have := hk.2.1
      have := hk.2.2.1
      have := hr.1
      have := hr.2.1
      simp only [List.length_append, List.length_cons, List.length_nil]
      rw [if_pos (by omega), if_pos (by omega), ld1_s hg, get0]
      simp only [optK_s, asS_s, slenS, sCatS]
      simp only [List.length_append, List.length_cons, List.length_nil]
      rw [if_pos (by omega), if_pos (by omega)]
      have hw : [32] ++ k.pat ++ [32] ++ k.nm ++ [10] = tailK k := by simp [tailK]
      rw [hw]
      obtain ⟨s', H', e, f1, f2, f3⟩ := WriteString_s d p s l (tailK k) H h.1 (by simp only [tailK, List.length_append, List.length_cons, List.length_nil]; omega)
      rw [e]
      simp only [callK_s, castT, castL, cast0]
      obtain ⟨q1, q2⟩ := h.step f1 f2 f3
      rw [w64 (by omega), show ((i : Int) + 1) = ((i + 1 : Nat) : Int) by omega]
      refine ⟨s', H', rfl, ?_, q2⟩
      rw [List.drop_eq_nil_of_le (by rw [hk.1]; omega)]
      exact q1

theorem print_loop (d B p : Nat) (x : Sl) (L : List Ky) (hR : ∀ k ∈ L, RightK k) (hL : L.length ≤ 20) (hxB : L ≠ [] → ∀ j, x.at j → j < B) (hBp : B ≤ p) : ∀ (m i : Nat) (s : Sl) (H : Heap), i ≤ L.length → L.length - i < m → Bd H p s (printL (L.take i)) → (∀ j, s.at j → B ≤ j) → RK H x L →
    ∃ H', keys_Print_p111010 (d + 3) m p x (x.n : Int) (i : Int) H = some (.tuple #[.string (S (printL L)), .int .i64 0], H') ∧ Keep (fun j => B ≤ j) H H' := by
  intro m
  induction m with
  | zero => intro i s H h1 h2; omega
  | succ m ih =>
    intro i s H hi hm h hs hx
    have hn := hx.1
    rw [keys_Print_p111010_s, ← k0_eq]
    simp only [decide_eq_true_eq]
    by_cases c : i < L.length
    · rw [if_pos (by omega)]
      have hc : L[i]? = some L[i] := List.getElem?_eq_getElem c
      have hok := hx.2.2.2.1 _ (List.getElem_mem c)
      have hrk := hR _ (List.getElem_mem c)
      generalize L[i] = k at hc hok hrk
      obtain ⟨a, e1, e2, _⟩ := (hx.at hc).all
      rw [e1]
      simp only [optK_s]
      rw [if_pos (by omega), Int.toNat_natCast, e2]
      simp only [optK_s, asA_s]
      rw [cpK hok.1]
      have k7 := cpH_keep H (keyL k) (keyL k0) t_api_Key
      have g7 := cpH_get H (keyL k) (keyL k0) t_api_Key
      have n7 := cpH_next H (keyL k) (keyL k0) t_api_Key
      generalize cpH H (keyL k) t_api_Key (keyL k0) = H7 at *
      have hp := h.1
      have hlt : ∀ j, s.at j → j < H.next := fun j hj => h.2.2.1.lt hj
      have hP : Prn B p H.next k x L s (printL (L.take i)) H7 := ⟨h.keep k7 id (fun _ _ h => h), hBp, hs, ⟨by omega, by omega, by omega, fun hj => by have := hlt _ hj; omega, g7⟩, hx.keep0 k7, hxB⟩
      have hl := printL_len (L := L.take i) (fun k hk => hR k (List.mem_of_mem_take hk)) (fun k hk => hx.2.2.2.1 k (List.mem_of_mem_take hk))
      rw [List.length_take] at hl
      obtain ⟨s1, H1, a1, a2, a3⟩ := letters_loop d m B p H.next k hok hrk x L (x.n : Int) (i : Int) NN 0 s _ H7 (by omega) (NN_big _ (by omega)) (by omega) hP
      rw [show (((0 : Nat)) : Int) = 0 from rfl] at a1
      rw [a1]
      have hll := letters_len k.rights
      obtain ⟨s2, H2, b1, b2, b3⟩ := digits_loop d m B p H.next k hok hrk x L (x.n : Int) i (by omega) NN 0 s1 _ H1 (by omega) (NN_big _ (by omega)) (by rw [letF_0]; simp only [List.length_append, List.length_cons, List.length_nil]; omega) a2
      rw [show (((0 : Nat)) : Int) = 0 from rfl] at b1
      rw [b1]
      have hnx : printL (L.take i) ++ (letF k.rights 0 ++ [32]) ++ (hexsOf (k.pub.drop 0) ++ tailK k) = printL (L.take (i + 1)) := by
        rw [takeK hc, printL_snoc, letF_0, List.drop_zero]; simp [printK]
      rw [hnx] at b2
      obtain ⟨H', z1, z2⟩ := ih (i + 1) s2 H2 (by omega) (by omega) b2.1 b2.2.2.1 b2.2.2.2.2.1
      exact ⟨H', z1, ((k7.to.trans a3 fun _ _ h => h).trans b3 fun _ _ h => h).trans z2 fun _ _ h => h⟩
    · rw [if_neg (by omega)]
      rw [List.take_of_length_le (by omega)] at h
      have hl := printL_len hR hx.2.2.2.1
      obtain ⟨H', e, f⟩ := String_s (d + 2) p s _ H h (by omega)
      rw [e]
      exact ⟨H', rfl, f.mono fun j _ hj => by
        rcases hj with rfl | hj
        · exact hBp
        · exact hs j hj⟩

theorem Print_b (d : Nat) (x : Sl) (L : List Ky) (H : Heap) (hx : RK H x L) : ∃ H', X (d + 5) n_keys_Print [x.v] H = some (printR L, H') ∧ Keep0 H H' := by
  rw [keys_Print_eq]
  obtain ⟨H2, e, k2⟩ := Right_b d x L H hx
  rw [e]
  simp only [callK_s, asB_s]
  unfold printR
  cases hr : rightB L with
  | false => exact ⟨H2, rfl, k2⟩
  | true =>
    rw [if_neg (by simp), if_pos rfl, newK_s]
    obtain ⟨h1, h2⟩ := rightB_all hr
    have k3 : Keep0 H2 (H2.new (.cells [.pointer none, .slice none 0 0] t_strings_Builder false 0 false)) := Keep.new _ _
    have hlt : L ≠ [] → ∀ j, x.at j → j < H2.next := fun hne => (hx.keep0 k2).lt hne
    obtain ⟨H', f1, f2⟩ := print_loop (d + 1) H2.next H2.next x L h1 h2 hlt (Nat.le_refl _) NN 0 Sl.nil _ (by omega) (NN_big _ (by omega)) (Bld.new _ _ H2) (fun j hj => absurd hj Sl.at_nil) ((hx.keep0 k2).keep0 k3)
    rw [show (((0 : Nat)) : Int) = 0 from rfl] at f1
    rw [f1]
    exact ⟨H', rfl, k2.trans ⟨by have := f2.1; simp at this; omega, fun j hj _ => (f2.2 j (by simp; omega) (by show ¬ H2.next ≤ j; omega)).trans (k3.2 j hj id)⟩⟩

/-! ### the reference's -/
theorem ref_letters {n : Int} (h1 : 1 ≤ n) (h7 : n ≤ 7) : partL [.string (S []), .string (S [115]), .string (S [116]), .string (S [115, 116]), .string (S [114]), .string (S [115, 114]), .string (S [116, 114]), .string (S [115, 116, 114])] (n.toNat * 1) 1 false = some (.string (S (lettersOf n))) := by
  have hn : n = 1 ∨ n = 2 ∨ n = 3 ∨ n = 4 ∨ n = 5 ∨ n = 6 ∨ n = 7 := by omega
  rcases hn with rfl | rfl | rfl | rfl | rfl | rfl | rfl <;> rfl
theorem sub_dig {n : Nat} (h : n < 16) : sSub (S [48, 49, 50, 51, 52, 53, 54, 55, 56, 57, 97, 98, 99, 100, 101, 102]) n (n + 1) = S [hexD n] := by
  have : ∀ n : Fin 16, ((([48, 49, 50, 51, 52, 53, 54, 55, 56, 57, 97, 98, 99, 100, 101, 102] : W).take (n.val + 1)).drop n.val) = [hexD n.val] := by decide
  rw [sSubS, this ⟨n, h⟩]

theorem RPrint_b (d : Nat) (x : Sl) (L : List Ky) (H : Heap) (hx : RK H x L) : X (d + 4) n_ref15_Print [x.v] H = some (printR L, H) := by
  have hn := hx.1
  rw [ref15_Print_eq, RRight_b d x L H hx]
  simp only [callK_s, asB_s]
  unfold printR
  cases hr : rightB L with
  | false => rfl
  | true =>
    obtain ⟨hR, hL⟩ := rightB_all hr
    rw [if_neg (by simp), if_pos rfl]
    have digits : ∀ (m i : Nat) (k : Ky), L[i]? = some k → KOK k → RightK k → ∀ (m1 j : Nat) (l : W), j ≤ 32 → 32 - j < m1 → l.length + 2 * (32 - j) ≤ 900000 →
        ref15_Print_p11101001001010 (d + 3) m m1 x (S l) (i : Int) (j : Int) H = ref15_Print_p111010 (d + 3) m x (S (l ++ (hexsOf (k.pub.drop j) ++ tailK k))) ((i + 1 : Nat) : Int) H := by
      intro m i k hc hok hrk m1
      have hlt := (List.getElem?_eq_some_iff.1 hc).1
      obtain ⟨a, e1, _, _, e3, e4, e5, e6⟩ := (hx.at hc).all
      induction m1 with
      | zero => intro j l h1 h2; omega
      | succ m1 ih =>
        intro j l hj hm hl
        rw [ref15_Print_p11101001001010_s, e1]
        simp only [decide_eq_true_eq]
        by_cases c : j < 32
        · have hlt' : j < k.pub.length := by rw [hok.1]; exact c
          have hq : k.pub[j]? = some k.pub[j] := List.getElem?_eq_getElem hlt'
          have hq8 := hok.2.2.2 _ (List.getElem_mem hlt')
          generalize k.pub[j] = q at hq hq8
          obtain ⟨qn, rfl⟩ := Int.eq_ofNat_of_zero_le hq8.1
          rw [if_pos (by omega)]
          simp only [optK_s]
          rw [if_pos (by omega), if_pos (by omega), Int.toNat_natCast, Int.toNat_natCast, e6 j _ hq]
          simp only [optK_s, asI_s]
          have t1 : IntKind.wrap .i64 (Int.tdiv (IntKind.wrap .i64 (qn : Int)) 16) = ((qn / 16 : Nat) : Int) := by
            rw [w64 (n := (qn : Int)) (by omega), Int.tdiv_eq_ediv_of_nonneg (by omega), w64 (by omega)]; omega
          have t2 : Int.tmod (IntKind.wrap .i64 (qn : Int)) 16 = ((qn % 16 : Nat) : Int) := by
            rw [w64 (n := (qn : Int)) (by omega), Int.tmod_eq_emod_of_nonneg (by omega)]; omega
          have w1 : IntKind.wrap .i64 (((qn / 16 : Nat) : Int) + 1) = ((qn / 16 + 1 : Nat) : Int) := by rw [w64 (by omega)]; omega
          have w2 : IntKind.wrap .i64 (((qn % 16 : Nat) : Int) + 1) = ((qn % 16 + 1 : Nat) : Int) := by rw [w64 (by omega)]; omega
          rw [t1, t2, w1, w2, dig_len]
          simp only [Int.toNat_natCast]
          rw [sub_dig (show qn / 16 < 16 by omega), sub_dig (show qn % 16 < 16 by omega)]
          simp only [slenS, sCatS, List.length_append, List.length_cons, List.length_nil]
          rw [if_pos (by omega), if_pos (by omega), if_pos (by omega), if_pos (by omega)]
          rw [w64 (n := (j : Int) + 1) (by omega), show ((j : Int) + 1) = ((j + 1 : Nat) : Int) by omega, ih (j + 1) _ (by omega) (by omega) (by simp only [List.length_append, List.length_cons, List.length_nil]; omega)]
          rw [dropK hq, hexs_cons]
          simp [hexB]
        · have h1 := hrk.1
          have h2 := hrk.2.1
          rw [if_neg (by omega)]
          simp only [optK_s, slenS, sCatS, List.length_append, List.length_cons, List.length_nil]
          rw [if_pos (by omega), if_pos (by omega), Int.toNat_natCast, e5]
          simp only [optK_s, asS_s, slenS, sCatS, List.length_append, List.length_cons, List.length_nil]
          rw [if_pos (by omega), if_pos (by omega), if_pos (by omega), e3]
          simp only [optK_s, asS_s, slenS, sCatS, List.length_append, List.length_cons, List.length_nil]
          rw [if_pos (by omega), if_pos (by omega), w64 (by omega), show ((i : Int) + 1) = ((i + 1 : Nat) : Int) by omega, List.drop_eq_nil_of_le (by rw [hok.1]; omega)]
          simp [tailK, hexsOf]
    have loop : ∀ (m i : Nat), i ≤ L.length → L.length - i < m → ref15_Print_p111010 (d + 3) m x (S (printL (L.take i))) (i : Int) H = some (.tuple #[.string (S (printL L)), .int .i64 0], H) := by
      intro m
      induction m with
      | zero => intro i h1 h2; omega
      | succ m ih =>
        intro i hi hm
        rw [ref15_Print_p111010_s]
        simp only [decide_eq_true_eq]
        by_cases c : i < L.length
        · rw [if_pos (by omega)]
          have hc : L[i]? = some L[i] := List.getElem?_eq_getElem c
          have hok := hx.2.2.2.1 _ (List.getElem_mem c)
          have hrk := hR _ (List.getElem_mem c)
          generalize L[i] = k at hc hok hrk
          obtain ⟨a, e1, _, _, e3, e4, e5, e6⟩ := (hx.at hc).all
          have hl := printL_len (L := L.take i) (fun k hk => hR k (List.mem_of_mem_take hk)) (fun k hk => hx.2.2.2.1 k (List.mem_of_mem_take hk))
          rw [List.length_take] at hl
          have hll := letters_len k.rights
          rw [e1]
          simp only [optK_s]
          rw [if_pos (by omega), Int.toNat_natCast, e4]
          simp only [optK_s, asI_s]
          have hr3 := hrk.2.2
          rw [if_pos (by omega), ref_letters hr3.1 hr3.2]
          simp only [optK_s, asS_s, slenS, sCatS, List.length_append, List.length_cons, List.length_nil]
          rw [if_pos (by omega), if_pos (by omega), show (0 : Int) = ((0 : Nat) : Int) from rfl, digits m i k hc hok hrk NN 0 _ (by omega) (NN_big _ (by omega)) (by simp only [List.length_append, List.length_cons, List.length_nil]; omega)]
          refine Eq.trans ?_ (ih (i + 1) (by omega) (by omega))
          rw [takeK hc, printL_snoc]
          simp [printK]
        · rw [if_neg (by omega), List.take_of_length_le (by omega)]
    exact loop NN 0 (by omega) (NN_big _ (by omega))
end Go.Proofs.YthphbdkhbaijlaaDoor.dec

namespace Go.Proofs.YthphbdkhbaijlaaDoor.dec
open Go Go.Cm

attribute [local congr] optK_congr asI_congr asN_congr asB_congr asS_congr asP_congr asA_congr asSL_congr callK_congr castT_congr chk_congr

/-! ### splitting -/
def pre (p : W) : List W → List W
  | [] => [p]
  | h :: t => (p ++ h) :: t
def splW (c : UInt8) : W → List W
  | [] => [[]]
  | b :: l => if b = c then [] :: splW c l else pre [b] (splW c l)

theorem pre_pre (p q : W) (l : List W) : pre p (pre q l) = pre (p ++ q) l := by
  cases l <;> simp [pre]
theorem splW_ne (c : UInt8) (w : W) : splW c w ≠ [] := by
  cases w with
  | nil => simp [splW]
  | cons b l =>
    simp only [splW]
    split
    · simp
    · cases splW c l <;> simp [pre]
theorem pre_nil {l : List W} (h : l ≠ []) : pre [] l = l := by
  cases l with
  | nil => exact absurd rfl h
  | cons a l => rfl
theorem mem_pre {p : W} {l : List W} {x : W} (h : x ∈ pre p l) : (∃ y, (y ∈ l ∨ y = []) ∧ x = p ++ y) ∨ x ∈ l := by
  cases l with
  | nil => simp only [pre, List.mem_singleton] at h; subst h; exact .inl ⟨[], .inr rfl, by simp⟩
  | cons a l =>
    simp only [pre, List.mem_cons] at h
    rcases h with rfl | h
    · exact .inl ⟨a, .inl (by simp), rfl⟩
    · exact .inr (by simp [h])
theorem splW_len {c : UInt8} : ∀ {w x : W}, x ∈ splW c w → x.length ≤ w.length := by
  intro w
  induction w with
  | nil => intro x h; simp only [splW, List.mem_singleton] at h; simp [h]
  | cons b l ih =>
    intro x h
    simp only [splW] at h
    split at h
    · rcases List.mem_cons.1 h with rfl | h
      · simp
      · have := ih h; simp; omega
    · rcases mem_pre h with ⟨y, hy, rfl⟩ | h
      · rcases hy with hy | rfl
        · have := ih hy; simp; omega
        · simp
      · have := ih h; simp; omega
theorem splW_num (c : UInt8) (w : W) : (splW c w).length ≤ w.length + 1 := by
  induction w with
  | nil => simp [splW]
  | cons b l ih =>
    simp only [splW]
    split
    · simp; omega
    · have : (pre [b] (splW c l)).length = (splW c l).length := by
        have := splW_ne c l
        cases h : splW c l with
        | nil => exact absurd h this
        | cons _ _ => rfl
      simp; omega

open Go.Lib in
theorem splitK_one (c : UInt8) : ∀ s : W, splitK [c] 0 (count s [c]) s = splW c s := by
  intro s
  induction s with
  | nil => rw [count_one]; rfl
  | cons b l ih =>
    by_cases h : b = c
    · subst h
      rw [count_cons_eq, Nat.add_comm]
      have hix : index (b :: l) [b] = ((0 : Nat) : Int) := by rw [index]; simp [List.isPrefixOf]
      rw [splitK, hix, if_neg (by decide)]
      simp only [splW, if_pos, Int.toNat_natCast, Nat.add_zero, List.take_zero, Nat.zero_add, List.length_singleton, List.drop_succ_cons, List.drop_zero]
      rw [ih]
    · have hp : ([c] : List UInt8).isPrefixOf (b :: l) = false := by simp [List.isPrefixOf, Ne.symm h]
      have hix : index (b :: l) [c] = if index l [c] == -1 then -1 else index l [c] + 1 := by rw [index, hp]; simp
      rw [count_cons_ne b c l h, splW, if_neg h, ← ih]
      by_cases hm : index l [c] = -1
      · rw [count_miss hm]; rfl
      · have hge : 0 ≤ index l [c] := by
          have := index_ge l [c]; omega
        obtain ⟨i, hi⟩ := Int.eq_ofNat_of_zero_le hge
        rw [hi] at hix
        rw [if_neg (by simp)] at hix
        rw [count_hit (by simp) hi, Nat.add_comm]
        rw [splitK, splitK, hix, hi, if_neg (by simp <;> omega), if_neg (by simp <;> omega)]
        simp only [pre, List.length_singleton, Nat.add_zero, Int.toNat_natCast, show ((i : Int) + 1).toNat = i + 1 by omega, List.take_succ_cons, List.drop_succ_cons, List.singleton_append, List.cons_append, List.nil_append]

def strL (L : List W) : List Value := L.map fun w => .string (S w)
theorem split_cells (c : UInt8) (w : W) : (Lib.splitB (S [c]) 0 (Lib.countB (S w) (S [c])) (S w)).map Value.string = strL (splW c w) := by
  have h := Lib.splitB_data (S [c]) 0 (Lib.countB (S w) (S [c])) (S w)
  have e : Lib.splitK (S [c]).data.toList 0 (Lib.countB (S w) (S [c])) (S w).data.toList = splW c w := splitK_one c w
  rw [e] at h
  rw [strL, ← h, List.map_map]
  rfl

/-- a slice of strings -/
def Strs (H : Heap) (x : Sl) (L : List W) : Prop := Whole H x (strL L) t_string 1
theorem Strs.num {H : Heap} {x : Sl} {L : List W} (h : Strs H x L) : x.n = L.length := by
  have := (Whole.len h).1; simp [strL] at this; omega
theorem Strs.at {H : Heap} {x : Sl} {L : List W} (h : Strs H x L) {i : Nat} {w : W} (hi : L[i]? = some w) : ∃ a, x.a = some a ∧ Heap.ld1 H (ap a i) = some (.string (S w)) ∧ Heap.ld1 H (ap a (i * 1)) = some (.string (S w)) := by
  rcases h with ⟨_, h⟩ | ⟨b, n, rfl, _, _, o, st, hg⟩
  · have : L = [] := by simpa [strL] using h
    subst this; cases hi
  · refine ⟨_, rfl, ?_, ?_⟩
    · rw [show ap ⟨b, 0, none⟩ i = ⟨b, 0 + i, none⟩ from rfl, ld1_s hg]; simp [strL, hi]
    · rw [show ap ⟨b, 0, none⟩ (i * 1) = ⟨b, 0 + i * 1, none⟩ from rfl, ld1_s hg]; simp [strL, hi]
theorem Strs.keep0 {H H' : Heap} {x : Sl} {L : List W} (h : Strs H x L) (hk : Keep0 H H') : Strs H' x L := Whole.keep h hk fun _ _ h => h

theorem Split_s (d : Nat) (c : UInt8) (w : W) (hw : w.length ≤ 1048576) (H : Heap) : ∃ x H', X (d + 1) n_strings_Split [.string (S w), .string (S [c])] H = some (x.v, H') ∧ Strs H' x (splW c w) ∧ Keep0 H H' := by
  have e : X (d + 1) n_strings_Split [.string (S w), .string (S [c])] H = splitP t_string [.string (S w), .string (S [c])] H := by kernel_rfl
  have hs : (S w).size = w.length := by simp [ByteArray.size, S]
  have h1 : (S [c]).size = 1 := rfl
  rw [e]
  simp only [splitP]
  rw [if_pos (by omega), split_cells]
  have hn : Lib.countB (S w) (S [c]) + 1 = (splW c w).length := by
    have h := congrArg List.length (split_cells c w)
    simp only [List.length_map, strL] at h
    rw [← h]
    exact (Lib.splitB_all (S [c]) (by omega) 0 _ _ rfl).symm
  rw [hn]
  exact ⟨⟨some ⟨H.next, 0, none⟩, (splW c w).length, (splW c w).length⟩, _, rfl, .inr ⟨H.next, _, rfl, by simp [strL], by simp, false, false, by simp⟩, Keep.new _ _⟩

theorem sub_take (w : W) (f i : Nat) : sSub (S w) f i = S ((w.take i).drop f) := sSubS w f i

theorem RSplit_s (d : Nat) (c : UInt8) (w : W) (hw : w.length ≤ 1048576) (H : Heap) : ∃ x H', X (d + 1) n_ref15_split [.string (S w), .int .u8 (c.toNat : Int)] H = some (x.v, H') ∧ Strs H' x (splW c w) ∧ Keep0 H H' := by
  have loop : ∀ (m i f : Nat) (x : Sl) (L : List W) (H1 : Heap), f ≤ i → i ≤ w.length → w.length + 1 - i < m → L.length ≤ i → Strs H1 x L → Keep0 H H1 → (∀ j, x.at j → H.next ≤ j) →
      ∃ y H', ref15_split_p111010 d m (S w) (c.toNat : Int) x (f : Int) (i : Int) H1 = some (y.v, H') ∧ Strs H' y (L ++ pre ((w.take i).drop f) (splW c (w.drop i))) ∧ Keep0 H H' := by
    intro m
    induction m with
    | zero => intro i f x L H1 _ h1 h2; omega
    | succ m ih =>
      intro i f x L H1 hf hi hm hL hx hk hB
      have hnum := hx.num
      rw [ref15_split_p111010_s]
      simp only [decide_eq_true_eq, slenS]
      rw [if_pos (by omega)]
      have wi : IntKind.wrap .i64 ((i : Int) + 1) = ((i + 1 : Nat) : Int) := by rw [w64 (by omega)]; omega
      -- a piece is put in
      have push : ∃ y H2, ref15_split_p11101001001 d m (S w) (c.toNat : Int) x (f : Int) (i : Int) true H1 = ref15_split_p111010 d m (S w) (c.toNat : Int) y ((i + 1 : Nat) : Int) ((i + 1 : Nat) : Int) H2 ∧ Strs H2 y (L ++ [(w.take i).drop f]) ∧ Keep0 H H2 ∧ (∀ j, y.at j → H.next ≤ j) := by
        rw [ref15_split_p11101001001_eq, if_pos rfl, slenS, if_pos (by omega)]
        simp only [newK_s, Int.toNat_natCast, sSubS]
        obtain ⟨y, H2, e1, e2, e3, _, e5, _⟩ := push_whole (bytes := 16) (new := [.string (S ((w.take i).drop f))]) hx rfl (by omega) (by omega) (by omega)
        rw [e1]
        simp only [show ∀ (s : Sl) (K : Sl → Res), asSL s.v K = K s from fun _ _ => rfl]
        rw [ref15_split_p111010011_eq, wi]
        have hkn := hk.1
        exact ⟨y, H2, rfl, by simpa [Strs, strL] using e2, ⟨Nat.le_trans hk.1 e3.1, fun j hj _ => (e3.2 j (by omega) (fun hj' => by have := hB j hj'; omega)).trans (hk.2 j hj id)⟩, fun j hj => by have := e5 j hj; omega⟩
      by_cases h : i < w.length
      · rw [if_neg (by omega), if_pos (by omega)]
        have hc : w[i]? = some w[i] := List.getElem?_eq_getElem h
        generalize w[i] = b at hc
        simp only [Int.toNat_natCast, btS hc]
        rw [dropK hc, splW]
        by_cases hb : b = c
        · subst hb
          rw [show decide ((b.toNat : Int) = (b.toNat : Int)) = true from decide_eq_true rfl]
          obtain ⟨y, H2, e1, e2, e3, e4⟩ := push
          rw [e1]
          obtain ⟨z, H', f1, f2, f3⟩ := ih (i + 1) (i + 1) y _ H2 (by omega) (by omega) (by omega) (by simp; omega) e2 e3 e4
          refine ⟨z, H', f1, ?_, f3⟩
          rw [List.drop_eq_nil_of_le (show (w.take (i + 1)).length ≤ i + 1 by rw [List.length_take]; omega), pre_nil (splW_ne _ _)] at f2
          rw [if_pos rfl, pre, List.append_nil]
          simpa using f2
        · rw [show decide ((b.toNat : Int) = (c.toNat : Int)) = false from decide_eq_false (fun e => hb (UInt8.toNat_inj.1 (by omega)))]
          rw [ref15_split_p11101001001_eq, if_neg (by simp), ref15_split_p111010011_eq, wi]
          obtain ⟨z, H', f1, f2, f3⟩ := ih (i + 1) f x L H1 (by omega) (by omega) (by omega) (by omega) hx hk hB
          refine ⟨z, H', f1, ?_, f3⟩
          rw [if_neg hb, pre_pre]
          have : (w.take i).drop f ++ [b] = (w.take (i + 1)).drop f := by
            rw [List.take_add_one, hc, List.drop_append_of_le_length (by rw [List.length_take]; omega)]; rfl
          rw [this]; exact f2
      · have he : i = w.length := by omega
        subst he
        rw [if_pos rfl]
        obtain ⟨y, H2, e1, e2, e3, e4⟩ := push
        rw [e1]
        cases m with
        | zero => omega
        | succ m =>
          rw [ref15_split_p111010_s]
          simp only [decide_eq_true_eq, slenS]
          rw [if_neg (by omega)]
          refine ⟨y, H2, rfl, ?_, e3⟩
          rw [List.drop_length, splW, pre, List.append_nil]
          exact e2
  rw [ref15_split_eq]
  obtain ⟨y, H', e1, e2, e3⟩ := loop NN 0 0 Sl.nil [] H (by omega) (by omega) (NN_big _ (by omega)) (by simp) (.inl ⟨rfl, rfl⟩) (Keep.refl _) (fun j hj => absurd hj Sl.at_nil)
  refine ⟨y, H', e1, ?_, e3⟩
  rw [List.take_zero, List.drop_nil, List.nil_append, List.drop_zero, pre_nil (splW_ne _ _)] at e2
  exact e2

/-! ### the words of a line -/
def hexI (c : UInt8) : Int := if 48 ≤ c.toNat ∧ c.toNat ≤ 57 then (c.toNat : Int) - 48 else if 97 ≤ c.toNat ∧ c.toNat ≤ 102 then (c.toNat : Int) - 87 else -1
set_option maxRecDepth 100000 in
theorem hex_idx (c : UInt8) : idxB (S [48, 49, 50, 51, 52, 53, 54, 55, 56, 57, 97, 98, 99, 100, 101, 102]) (c.toNat : Int) = hexI c := by
  have : ∀ n : Fin 256, idxB (S [48, 49, 50, 51, 52, 53, 54, 55, 56, 57, 97, 98, 99, 100, 101, 102]) ((UInt8.ofFin n).toNat : Int) = hexI (UInt8.ofFin n) := by decide
  exact this c.toFin
theorem hexI_range (c : UInt8) : -1 ≤ hexI c ∧ hexI c ≤ 15 := by
  unfold hexI; split
  · omega
  · split <;> omega
theorem RHex_s (d : Nat) (c : UInt8) (H : Heap) : X (d + 1) n_ref15_hex [.int .u8 (c.toNat : Int)] H = some (.int .i64 (hexI c), H) := by
  have hc : c.toNat < 256 := c.toNat_lt
  have w8 : ∀ n : Int, 0 ≤ n → n < 256 → IntKind.wrap .u8 n = n := fun n h1 h2 => by
    simp only [IntKind.wrap, IntKind.bits, IntKind.signed]
    simp
    omega
  have p2 : ∀ b : Bool, ref15_hex_p1001011 d (c.toNat : Int) b H = some (.int .i64 (if b = true then IntKind.wrap .i64 ((IntKind.wrap .i64 (IntKind.wrap .u8 ((c.toNat : Int) - 97))) + 10) else -1), H) := fun b => by
    rw [ref15_hex_p1001011_eq]; cases b <;> rfl
  have p1 : ref15_hex_p1001 d (c.toNat : Int) false H = some (.int .i64 (if 97 ≤ c.toNat ∧ c.toNat ≤ 102 then (c.toNat : Int) - 87 else -1), H) := by
    rw [ref15_hex_p1001_eq, if_neg (by simp)]
    simp only [decide_eq_true_eq]
    by_cases h1 : 97 ≤ c.toNat
    · rw [if_pos (by omega), p2]
      by_cases h2 : c.toNat ≤ 102
      · rw [if_pos (by simp; omega), w8 _ (by omega) (by omega), w64 (n := (c.toNat : Int) - 97) (by omega), w64 (by omega), if_pos ⟨h1, h2⟩]
        congr 3; omega
      · rw [if_neg (by simp; omega), if_neg (by omega)]
    · rw [if_neg (by omega), p2, if_neg (by simp), if_neg (by omega)]
  rw [ref15_hex_eq]
  simp only [decide_eq_true_eq]
  unfold hexI
  by_cases h1 : 48 ≤ c.toNat
  · rw [if_pos (by omega)]
    by_cases h2 : c.toNat ≤ 57
    · rw [show decide ((c.toNat : Int) ≤ 57) = true from decide_eq_true (by omega), ref15_hex_p1001_eq, if_pos rfl, w8 _ (by omega) (by omega), w64 (by omega), if_pos ⟨h1, h2⟩]
    · rw [show decide ((c.toNat : Int) ≤ 57) = false from decide_eq_false (by omega), p1, if_neg (show ¬(48 ≤ c.toNat ∧ c.toNat ≤ 57) by omega)]
  · rw [if_neg (by omega), p1, if_neg (show ¬(48 ≤ c.toNat ∧ c.toNat ≤ 57) by omega)]

/-- pairs of digits -/
def pairs : W → Option (List Int)
  | [] => some []
  | [_] => none
  | a :: b :: r => if 0 ≤ hexI a ∧ 0 ≤ hexI b then (pairs r).map fun l => (16 * hexI a + hexI b) :: l else none
def pubW (w : W) : Option (List Int) := if w.length = 64 then pairs w else none
def rightsW (r : W) : Option Int :=
  if r = [115] then some 1 else if r = [116] then some 2 else if r = [115, 116] then some 3 else if r = [114] then some 4 else if r = [115, 114] then some 5 else if r = [116, 114] then some 6 else if r = [115, 116, 114] then some 7 else none
def line4 (r p pat nm : W) : Option Ky := match rightsW r, pubW p with
  | some n, some q => if wordB nm [] 20 && wordB pat [42, 63] 40 then some ⟨nm, q, n, pat⟩ else none
  | _, _ => none
def lineW (s : W) : Option Ky := match splW 32 s with
  | [r, p, pat, nm] => line4 r p pat nm
  | _ => none

theorem pairs_len : ∀ (n : Nat) (w : W) (q : List Int), w.length = 2 * n → pairs w = some q → q.length = n ∧ U8L q := by
  intro n
  induction n with
  | zero =>
    intro w q h e
    have hn : w = [] := List.eq_nil_of_length_eq_zero (by omega)
    subst hn
    cases e
    exact ⟨rfl, fun _ h => by cases h⟩
  | succ n ih =>
    intro w q h e
    match w, h with
    | a :: b :: r, h =>
      simp only [pairs] at e
      split at e
      · rename_i hc
        obtain ⟨q', h1, rfl⟩ := Option.map_eq_some_iff.1 e
        obtain ⟨i1, i2⟩ := ih r q' (by simp at h; omega) h1
        refine ⟨by simp [i1], fun m hm => ?_⟩
        rcases List.mem_cons.1 hm with rfl | hm
        · have := hexI_range a; have := hexI_range b; omega
        · exact i2 m hm
      · cases e
    | [_], h => simp at h; omega
    | [], h => simp at h
theorem pubW_ok {w : W} {q : List Int} (h : pubW w = some q) : q.length = 32 ∧ U8L q := by
  unfold pubW at h
  split at h
  · exact pairs_len 32 w q (by omega) h
  · cases h
theorem rightsW_ok {r : W} {n : Int} (h : rightsW r = some n) : 1 ≤ n ∧ n ≤ 7 := by
  unfold rightsW at h
  repeat' split at h
  all_goals first | (cases h; omega) | cases h
theorem line4_ok {r p pat nm : W} {k : Ky} (h : line4 r p pat nm = some k) : k = ⟨nm, k.pub, k.rights, pat⟩ ∧ k.pub.length = 32 ∧ U8L k.pub ∧ oneB k = true := by
  unfold line4 at h
  split at h
  · rename_i n q h1 h2
    split at h
    · rename_i hc
      cases h
      obtain ⟨a1, a2⟩ := pubW_ok h2
      obtain ⟨b1, b2⟩ := rightsW_ok h1
      simp only [Bool.and_eq_true] at hc
      refine ⟨rfl, a1, a2, ?_⟩
      simp [oneB, hc.1, hc.2, b1, b2]
    · cases h
  · cases h
end Go.Proofs.YthphbdkhbaijlaaDoor.dec

namespace Go.Proofs.YthphbdkhbaijlaaDoor.dec
open Go Go.Cm

attribute [local congr] optK_congr asI_congr asN_congr asB_congr asS_congr asP_congr asA_congr asSL_congr callK_congr castT_congr chk_congr

/-! ### rights -/
def hp (r : W) (c : UInt8) : Bool := match r with
  | [] => false
  | a :: _ => decide (a = c)
theorem HasPrefix_s (d : Nat) (r : W) (c : UInt8) (H : Heap) : X (d + 2) n_strings_HasPrefix [.string (S r), .string (S [c])] H = some (.bool (hp r c), H) := by
  rw [strings_HasPrefix_eq, stringslite_HasPrefix_eq]
  simp only [slenS, decide_eq_true_eq, List.length_singleton]
  cases r with
  | nil => rw [if_neg (by simp)]; rfl
  | cons a r =>
    simp only [List.length_cons]
    rw [if_pos (by omega), if_pos (by omega), sSubS, sEqS]
    simp only [callK_s, asB_s]
    have : (List.drop 0 (List.take ((1 : Nat) : Int).toNat (a :: r)) == [c]) = decide (a = c) := by
      show ([a] == [c]) = _
      rw [Bool.eq_iff_iff]; simp
    rw [show (((0 + 1 : Nat) : Int)).toNat = ((1 : Nat) : Int).toNat from rfl] at *
    rw [this]; rfl

def rstep (j : Nat) (x : W × Int) : W × Int := if hp x.1 (lettersW.getD j 0) = true then (x.1.tail, x.2 + 2 ^ j) else x
def rr (r : W) : W × Int := rstep 2 (rstep 1 (rstep 0 (r, 0)))
theorem or_add {n : Int} {j : Nat} (hj : j < 3) (h0 : 0 ≤ n) (h1 : n < 2 ^ j) : bitsI .or .i64 n (IntKind.wrap .i64 (1 * 2 ^ (min j (IntKind.bits .i64)))) = n + 2 ^ j := by
  have hj' : j = 0 ∨ j = 1 ∨ j = 2 := by omega
  rcases hj' with rfl | rfl | rfl
  · have : n = 0 := by simp at h1; omega
    subst this; decide
  · have : n = 0 ∨ n = 1 := by simp at h1; omega
    rcases this with rfl | rfl <;> decide
  · have : n = 0 ∨ n = 1 ∨ n = 2 ∨ n = 3 := by simp at h1; omega
    rcases this with rfl | rfl | rfl | rfl <;> decide
theorem rstep_range {j : Nat} {x : W × Int} (h : 0 ≤ x.2 ∧ x.2 < 2 ^ j) : 0 ≤ (rstep j x).2 ∧ (rstep j x).2 < 2 ^ (j + 1) := by
  have : (2 : Int) ^ (j + 1) = 2 * 2 ^ j := by rw [Int.pow_succ]; omega
  unfold rstep
  split
  · simp only; omega
  · omega

theorem sub_let {j : Nat} (h : j < 3) : sSub (S [115, 116, 114]) j (j + 1) = S [lettersW.getD j 0] := by
  have hj' : j = 0 ∨ j = 1 ∨ j = 2 := by omega
  rcases hj' with rfl | rfl | rfl <;> rfl

theorem rights_iter (d m j : Nat) (hj : j < 3) (x : W × Int) (hx : 0 ≤ x.2 ∧ x.2 < 2 ^ j) (hl : x.1.length ≤ 1048576) (H : Heap) : keys_rights_p11010 (d + 2) (m + 1) (S x.1) x.2 (j : Int) H = keys_rights_p11010 (d + 2) m (S (rstep j x).1) (rstep j x).2 ((j + 1 : Nat) : Int) H := by
  rw [keys_rights_p11010_s]
  have w1 : IntKind.wrap .i64 ((j : Int) + 1) = ((j + 1 : Nat) : Int) := by rw [w64 (by omega)]; omega
  simp only [decide_eq_true_eq, slenS, w1, Int.toNat_natCast]
  rw [if_pos (by omega), if_pos (by simp only [List.length_cons, List.length_nil]; omega), sub_let hj, HasPrefix_s]
  simp only [callK_s, asB_s]
  unfold rstep
  cases hb : hp x.1 (lettersW.getD j 0) with
  | true =>
    rw [if_pos rfl, if_neg (by omega), if_pos rfl]
    have : 1 ≤ x.1.length := by
      cases h : x.1 with
      | nil => rw [h] at hb; cases hb
      | cons a l => simp
    rw [if_pos (by omega), keys_rights_p110100111_eq, w1, or_add hj hx.1 hx.2, sSubS, List.take_of_length_le (Nat.le_refl _), List.drop_one]
  | false => rw [if_neg (by simp), if_neg (by simp), keys_rights_p110100111_eq, w1]

theorem rstep_len (j : Nat) (x : W × Int) : (rstep j x).1.length ≤ x.1.length := by
  unfold rstep; split
  · simp
  · exact Nat.le_refl _

theorem rights_b (d : Nat) (r : W) (hr : r.length ≤ 1048576) (H : Heap) : X (d + 3) n_keys_rights [.string (S r)] H = some (.tuple #[.int .i64 (rr r).2, .bool ((rr r).1.isEmpty && decide (0 < (rr r).2))], H) := by
  rw [keys_rights_eq]
  obtain ⟨m, hm⟩ : ∃ m, NN = m + 4 := ⟨NN - 4, by have := NN_big 4 (by omega); omega⟩
  have r0 := rstep_range (j := 0) (x := (r, 0)) (by simp)
  have r1 := rstep_range r0
  rw [hm, show (0 : Int) = ((0 : Nat) : Int) from rfl]
  have l0 := rstep_len 0 (r, 0)
  have l1 := rstep_len 1 (rstep 0 (r, 0))
  have i0 := rights_iter d (m + 3) 0 (by omega) (r, 0) (by simp) hr H
  have i1 := rights_iter d (m + 2) 1 (by omega) (rstep 0 (r, 0)) r0 (by simp only at l0; omega) H
  have i2 := rights_iter d (m + 1) 2 (by omega) (rstep 1 (rstep 0 (r, 0))) r1 (by simp only at l0; omega) H
  simp only at i0
  rw [show ((((0 : Nat)) : Int)) = (0 : Int) from rfl] at i0 ⊢
  rw [i0, i1, i2, keys_rights_p11010_s, if_neg (by decide), sEq_nil]
  show _ = some (Value.tuple #[.int .i64 (rr r).2, .bool ((rr r).1.isEmpty && decide (0 < (rr r).2))], H)
  show (if ((rr r).1.isEmpty) = true then _ else _) = _
  cases (rr r).1.isEmpty <;> rfl

theorem rr_ok (r : W) : ((rr r).1.isEmpty && decide (0 < (rr r).2)) = (rightsW r).isSome ∧ ∀ n, rightsW r = some n → (rr r).2 = n := by
  have ne : ∀ {a b : UInt8}, a ≠ b → decide (a = b) = false := fun h => decide_eq_false h
  match r with
  | [] => exact ⟨rfl, fun n h => by cases h⟩
  | [a] =>
    by_cases h1 : a = 115
    · subst h1; exact ⟨rfl, fun n h => by cases h; rfl⟩
    · by_cases h2 : a = 116
      · subst h2; exact ⟨rfl, fun n h => by cases h; rfl⟩
      · by_cases h3 : a = 114
        · subst h3; exact ⟨rfl, fun n h => by cases h; rfl⟩
        · simp [rr, rstep, hp, rightsW, lettersW, h1, h2, h3]
  | [a, b] =>
    by_cases h1 : a = 115
    · subst h1
      by_cases g2 : b = 116
      · subst g2; exact ⟨rfl, fun n h => by cases h; rfl⟩
      · by_cases g3 : b = 114
        · subst g3; exact ⟨rfl, fun n h => by cases h; rfl⟩
        · simp [rr, rstep, hp, rightsW, lettersW, g2, g3]
    · by_cases h2 : a = 116
      · subst h2
        by_cases g3 : b = 114
        · subst g3; exact ⟨rfl, fun n h => by cases h; rfl⟩
        · simp [rr, rstep, hp, rightsW, lettersW, g3]
      · by_cases h3 : a = 114
        · subst h3; simp [rr, rstep, hp, rightsW, lettersW]
        · simp [rr, rstep, hp, rightsW, lettersW, h1, h2, h3]
  | [a, b, c] =>
    by_cases h1 : a = 115
    · subst h1
      by_cases g2 : b = 116
      · subst g2
        by_cases e3 : c = 114
        · subst e3; exact ⟨rfl, fun n h => by cases h; rfl⟩
        · simp [rr, rstep, hp, rightsW, lettersW, e3]
      · by_cases g3 : b = 114
        · subst g3; simp [rr, rstep, hp, rightsW, lettersW]
        · simp [rr, rstep, hp, rightsW, lettersW, g2, g3]
    · by_cases h2 : a = 116
      · subst h2
        by_cases g3 : b = 114
        · subst g3; simp [rr, rstep, hp, rightsW, lettersW]
        · simp [rr, rstep, hp, rightsW, lettersW, g3]
      · by_cases h3 : a = 114
        · subst h3; simp [rr, rstep, hp, rightsW, lettersW]
        · simp [rr, rstep, hp, rightsW, lettersW, h1, h2, h3]
  | a :: b :: c :: e :: t =>
    have hn : rightsW (a :: b :: c :: e :: t) = none := by simp [rightsW]
    rw [hn]
    refine ⟨?_, fun n h => by cases h⟩
    have step : ∀ (j : Nat) (x : W × Int), x.1.length ≤ (rstep j x).1.length + 1 := fun j x => by
      unfold rstep; split
      · simp; omega
      · omega
    have s0 := step 0 (a :: b :: c :: e :: t, 0)
    have s1 := step 1 (rstep 0 (a :: b :: c :: e :: t, 0))
    have s2 := step 2 (rstep 1 (rstep 0 (a :: b :: c :: e :: t, 0)))
    simp only [List.length_cons] at s0
    have : (rr (a :: b :: c :: e :: t)).1.isEmpty = false := by
      cases h : (rr (a :: b :: c :: e :: t)).1 with
      | nil =>
        have : (rr (a :: b :: c :: e :: t)).1.length = 0 := by rw [h]; rfl
        unfold rr at this
        omega
      | cons _ _ => rfl
    rw [this]; rfl

/-! ### a Public -/
theorem stN_all {H : Heap} {p : Nat} {c cs : List Value} {e : TypeId} (h : H.get p = some (.cells c e false 0 false)) (hc : c.length = cs.length) : H.stN ⟨p, 0, none⟩ cs = some (H.put p (.cells cs e false 0 false)) := by
  simp only [Heap.stN, h]
  rw [if_pos (show 0 + cs.length ≤ c.length ∧ 0 ≤ 0 by omega), splice_all (by omega)]
theorem ret_cell {H : Heap} {p n : Nat} {c : List Value} {e : TypeId} (h : H.get p = some (.cells c e false 0 false)) (hn : c.length = n) (b : Bool) : retK [.cell 2 n true, .tmp 3] [(2, P0 p), (3, .bool b)] H = some (.tuple #[.agg ⟨c⟩, .bool b], H) := by
  have hr : readD (.load n true) [P0 p] H = some (.agg ⟨c⟩) := loadAll h hn
  have g2 : Fr.get [(2, P0 p), (3, .bool b)] 2 = some (P0 p) := rfl
  have g3 : Fr.get [(2, P0 p), (3, .bool b)] 3 = some (.bool b) := rfl
  simp only [retK, resL, g2, g3, hr]

set_option maxRecDepth 100000 in
theorem or16 {a b : Int} (ha : 0 ≤ a ∧ a ≤ 15) (hb : 0 ≤ b ∧ b ≤ 15) : bitsI .or .u8 (IntKind.wrap .u8 (a * 16)) (IntKind.wrap .u8 b) = 16 * a + b := by
  obtain ⟨x, rfl⟩ := Int.eq_ofNat_of_zero_le ha.1
  obtain ⟨y, rfl⟩ := Int.eq_ofNat_of_zero_le hb.1
  have : ∀ x y : Fin 16, bitsI .or .u8 (IntKind.wrap .u8 ((x.val : Int) * 16)) (IntKind.wrap .u8 (y.val : Int)) = 16 * (x.val : Int) + (y.val : Int) := by decide
  exact this ⟨x, by omega⟩ ⟨y, by omega⟩

theorem pub_get {q : List Int} {n : Int} {r : List Int} : (pubL (q ++ n :: r))[q.length]? = some (.int .u8 n) := by simp [pubL]
theorem pub_set {q : List Int} {n m : Int} {r : List Int} : (pubL (q ++ n :: r)).set q.length (.int .u8 m) = pubL (q ++ m :: r) := by simp [pubL]

/-- what a Public's words give -/
def PubR (H0 : Heap) (w : W) (R : Res) : Prop := ∃ q b H', R = some (.tuple #[.agg ⟨pubL q⟩, .bool b], H') ∧ q.length = 32 ∧ U8L q ∧ b = (pubW w).isSome ∧ (∀ q', pubW w = some q' → q = q') ∧ Keep0 H0 H'

theorem public_b (d : Nat) (w : W) (hw : w.length ≤ 1048576) (H : Heap) : PubR H w (X (d + 2) n_keys_public [.string (S w)] H) := by
  rw [keys_public_eq, ← p0_eq]
  simp only [newK_s]
  generalize hH2 : H.new (.cells (pubL (List.replicate 32 0)) t_32_uint8 false 0 false) = H2
  have n2 : H2.next = H.next + 1 := by subst hH2; simp
  have g2 : H2.get H.next = some (.cells (pubL (List.replicate 32 0)) t_32_uint8 false 0 false) := by subst hH2; simp
  have k2 : Keep0 H H2 := by subst hH2; exact Keep.new _ _
  generalize hH4 : H2.new (.cells (pubL (List.replicate 32 0)) t_32_uint8 false 0 false) = H4
  have g4 : H4.get H2.next = some (.cells (pubL (List.replicate 32 0)) t_32_uint8 false 0 false) := by subst hH4; simp
  have k4 : Keep0 H2 H4 := by subst hH4; exact Keep.new _ _
  have g42 : H4.get H.next = some (.cells (pubL (List.replicate 32 0)) t_32_uint8 false 0 false) := k4.get (by omega) g2
  have z32 : (pubL (List.replicate 32 0)).length = 32 := by rw [pubL_len]; rfl
  have own : ∀ H5 : Heap, Keep (fun j => H.next ≤ j) H4 H5 → Keep0 H H5 := fun H5 h => ⟨by have := h.1; have := (k2.trans k4).1; omega, fun j hj _ => (h.2 j (by have := k4.1; omega) (by show ¬ H.next ≤ j; omega)).trans ((k2.trans k4).2 j hj id)⟩
  simp only [slenS]
  by_cases c : w.length = 64
  · rw [if_neg (by simp; omega)]
    have hpw : pubW w = pairs w := by unfold pubW; rw [if_pos c]
    have loop : ∀ (k j m : Nat) (q : List Int) (H5 : Heap), j + k = 32 → 2 * k < m → q.length = j → U8L q → (∀ q', pairs w = some q' → ∃ t, pairs (w.drop (2 * j)) = some t ∧ q' = q ++ t) → ((pairs (w.drop (2 * j))).isSome = (pairs w).isSome) →
        H5.get H2.next = some (.cells (pubL (q ++ List.replicate k 0)) t_32_uint8 false 0 false) → H5.get H.next = some (.cells (pubL (List.replicate 32 0)) t_32_uint8 false 0 false) → Keep (fun j => H.next ≤ j) H4 H5 →
        PubR H w (keys_public_p111010 (d + 1) m (S w) H.next H2.next ((2 * j : Nat) : Int) H5) := by
      intro k
      induction k with
      | zero =>
        intro j m q H5 hj hm hq hu h1 h2 g5 g6 k5
        obtain ⟨m, rfl⟩ : ∃ m', m = m' + 1 := ⟨m - 1, by omega⟩
        rw [keys_public_p111010_s, slenS]
        simp only [decide_eq_true_eq]
        rw [if_neg (by omega)]
        simp only [List.replicate_zero, List.append_nil] at g5
        rw [ldAll g5 (by rw [pubL_len]; omega)]
        simp only [optK_s, asA_s]
        rw [storeN (n := 32) g6 z32 (by rw [pubL_len]; omega) (pubL_one q) (by omega), ret_cell (n := 32) (Heap.get_put_same H5 H.next _) (by rw [pubL_len]; omega)]
        have hd : pairs (w.drop (2 * j)) = some [] := by rw [List.drop_eq_nil_of_le (by omega)]; rfl
        refine ⟨q, true, _, rfl, by omega, hu, ?_, fun q' hq' => ?_, own _ (k5.trans (Keep.put _ _ _ (Nat.le_refl _)) fun _ _ h => h)⟩
        · rw [hpw, ← h2, hd]; rfl
        · rw [hpw] at hq'
          obtain ⟨t, t1, rfl⟩ := h1 q' hq'
          rw [hd] at t1; cases t1; simp
      | succ k ih =>
        intro j m q H5 hj hm hq hu h1 h2 g5 g6 k5
        obtain ⟨m, rfl⟩ : ∃ m', m = m' + 1 + 1 := ⟨m - 2, by omega⟩
        have ha : w[2 * j]? = some w[2 * j] := List.getElem?_eq_getElem (by omega)
        have hb : w[2 * j + 1]? = some w[2 * j + 1] := List.getElem?_eq_getElem (by omega)
        generalize w[2 * j] = a at ha
        generalize w[2 * j + 1] = b at hb
        have hdr : w.drop (2 * j) = a :: b :: w.drop (2 * (j + 1)) := by rw [dropK ha, dropK hb, show 2 * j + 1 + 1 = 2 * (j + 1) by omega]
        have fail : ∀ H6 : Heap, Keep (fun j => H.next ≤ j) H4 H6 → H6.get H.next = some (.cells (pubL (List.replicate 32 0)) t_32_uint8 false 0 false) → pairs (w.drop (2 * j)) = none →
            PubR H w (optK (Heap.stN H6 ⟨H.next, 0, none⟩ (pubL (List.replicate 32 0))) fun H4 => retK [.cell 2 32 true, .tmp 3] [(2, P0 H.next), (3, .bool false)] H4) := fun H6 k6 g6 hp => by
          rw [stN_all g6 rfl]
          simp only [optK_s]
          rw [ret_cell (n := 32) (Heap.get_put_same H6 H.next _) z32]
          have hn : pubW w = none := by
            rw [hpw]; rw [hp] at h2; cases h : pairs w with
            | none => rfl
            | some _ => rw [h] at h2; cases h2
          exact ⟨_, false, _, rfl, by simp, U8L.zero 32, by rw [hn]; rfl, fun q' h => by rw [hn] at h; (cases h), own _ (k6.trans (Keep.put _ _ _ (Nat.le_refl _)) fun _ _ h => h)⟩
        rw [keys_public_p111010_s, slenS, ← p0_eq]
        simp only [decide_eq_true_eq]
        rw [if_pos (by omega), if_pos (by omega), Int.toNat_natCast, btS ha, index_s, hex_idx]
        simp only [callK_s, asI_s]
        by_cases ca : hexI a < 0
        · rw [if_pos ca]
          exact fail H5 k5 g6 (by rw [hdr, pairs, if_neg (by omega)])
        · have ra := hexI_range a
          rw [if_neg ca]
          have t1 : IntKind.wrap .i64 (Int.tdiv ((2 * j : Nat) : Int) 2) = (j : Int) := by
            rw [Int.tdiv_eq_ediv_of_nonneg (by omega), w64 (by omega)]; omega
          rw [t1, if_pos (by omega), Int.toNat_natCast, Nat.mul_one, Nat.zero_add, ld1_s g5, ← hq, List.replicate_succ, pub_get]
          simp only [optK_s, asI_s]
          have o1 : bitsI .or .u8 (IntKind.wrap .u8 (0 * 16)) (IntKind.wrap .u8 (hexI a)) = hexI a := by
            rw [or16 (by omega) (by omega)]; omega
          have e5 := g5
          rw [List.replicate_succ] at e5
          rw [if_pos (by omega), o1, st1_s e5 (by rw [pubL_len]; simp) (by omega), pub_set]
          simp only [optK_s]
          have w1 : IntKind.wrap .i64 (((2 * q.length : Nat) : Int) + 1) = ((2 * q.length + 1 : Nat) : Int) := by rw [w64 (by omega)]; omega
          rw [w1, hq]
          generalize hH6 : H5.put H2.next (.cells (pubL (q ++ hexI a :: List.replicate k 0)) t_32_uint8 false 0 false) = H6
          have g65 : H6.get H2.next = some (.cells (pubL (q ++ hexI a :: List.replicate k 0)) t_32_uint8 false 0 false) := by subst hH6; simp
          have g66 : H6.get H.next = some (.cells (pubL (List.replicate 32 0)) t_32_uint8 false 0 false) := by subst hH6; rw [Heap.get_put_ne _ _ (by omega)]; exact g6
          have k6 : Keep (fun j => H.next ≤ j) H4 H6 := by subst hH6; exact k5.trans (Keep.put _ _ _ (by show H.next ≤ _; omega)) fun _ _ h => h
          rw [keys_public_p111010_s, slenS, ← p0_eq]
          simp only [decide_eq_true_eq]
          rw [if_pos (by omega), if_pos (by omega), Int.toNat_natCast, btS hb, index_s, hex_idx]
          simp only [callK_s, asI_s]
          by_cases cb : hexI b < 0
          · rw [if_pos cb]
            exact fail H6 k6 g66 (by rw [hdr, pairs, if_neg (by omega)])
          · have rb := hexI_range b
            rw [if_neg cb]
            have t2 : IntKind.wrap .i64 (Int.tdiv ((2 * j + 1 : Nat) : Int) 2) = (j : Int) := by
              rw [Int.tdiv_eq_ediv_of_nonneg (by omega), w64 (by omega)]; omega
            rw [t2, if_pos (by omega), Int.toNat_natCast, Nat.mul_one, Nat.zero_add, ld1_s g65, ← hq, pub_get]
            simp only [optK_s, asI_s]
            rw [if_pos (by omega), or16 (by omega) (by omega), st1_s g65 (by rw [pubL_len]; simp) (by omega), pub_set]
            simp only [optK_s]
            have w2 : IntKind.wrap .i64 (((2 * q.length + 1 : Nat) : Int) + 1) = ((2 * (q.length + 1) : Nat) : Int) := by rw [w64 (by omega)]; omega
            rw [w2, hq]
            have hsh : pubL (q ++ (16 * hexI a + hexI b) :: List.replicate k 0) = pubL ((q ++ [16 * hexI a + hexI b]) ++ List.replicate k 0) := by simp
            rw [hsh]
            have hpn : pairs (w.drop (2 * j)) = (pairs (w.drop (2 * (j + 1)))).map fun l => (16 * hexI a + hexI b) :: l := by rw [hdr, pairs, if_pos (by omega)]
            refine ih (j + 1) (m + 1 - 1) (q ++ [16 * hexI a + hexI b]) _ (by omega) (by omega) (by simp [hq]) (fun n hn => ?_) (fun q' hq' => ?_) ?_ (by simp) (by rw [Heap.get_put_ne _ _ (by omega)]; exact g66) (k6.trans (Keep.put _ _ _ (by show H.next ≤ _; omega)) fun _ _ h => h)
            · rcases List.mem_append.1 hn with hn | hn
              · exact hu n hn
              · simp only [List.mem_singleton] at hn; omega
            · obtain ⟨t, t1, rfl⟩ := h1 q' hq'
              rw [hpn] at t1
              obtain ⟨t', t2, rfl⟩ := Option.map_eq_some_iff.1 t1
              exact ⟨t', t2, by simp⟩
            · rw [← h2, hpn]; cases pairs (w.drop (2 * (j + 1))) <;> rfl
    have := loop 32 0 NN [] H4 (by omega) (NN_big _ (by omega)) rfl (fun _ h => by cases h) (fun q' h => ⟨q', h, rfl⟩) rfl g4 g42 (Keep.refl _)
    exact this
  · rw [if_pos (by simp; omega), ldAll g4 z32]
    simp only [optK_s, asA_s]
    rw [storeN (n := 32) g42 z32 z32 (pubL_one _) (by omega), ret_cell (n := 32) (Heap.get_put_same H4 H.next _) z32]
    have hn : pubW w = none := by unfold pubW; rw [if_neg c]
    exact ⟨_, false, _, rfl, by simp, U8L.zero 32, by rw [hn]; rfl, fun q' h => by rw [hn] at h; (cases h), own _ (Keep.put _ _ _ (Nat.le_refl _))⟩
end Go.Proofs.YthphbdkhbaijlaaDoor.dec
