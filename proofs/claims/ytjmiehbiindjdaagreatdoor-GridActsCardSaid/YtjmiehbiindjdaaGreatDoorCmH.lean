/-
  A function that is known by a contract, as one step: strings.IndexByte.
  And: Functions without a text, by the model's own table: what abi.NoEscape, bytealg.IndexByteString, bytealg.CountString are here. strings.Split as one step, by the contract that the kit has of it. A buffer of bytes that grows, and is read as a string at last (strings.Builder). Slices that look at a part of a block; copies; what lies in such a part. Nothing of a program is proved here.
-/
import Derived.Test.YtjmiehbiindjdaaGreatDoorCmG
import Derived.Lib.Bytealg
import Derived.Lib.Builder
import Derived.Laws.Externs
import Derived.Lib.Split
import Derived.Lib.SplitLaws
namespace Go.Cm
open Go Go.RowKit

end Go.Cm

namespace Go.Cm
open Go Go.RowKit

end Go.Cm

namespace Go.Cm
open Go Go.RowKit

end Go.Cm

namespace Go.Cm
open Go

/-- bytes as cells -/
def bc (l : List UInt8) : List Value := l.map fun b => .int .u8 b.toNat
/-- a buffer of bytes that is no string's yet -/
def Buf (H : Heap) (s : Sl) (l : List UInt8) (e : TypeId) : Prop :=
  (s = ⟨none, 0, 0⟩ ∧ l = []) ∨ ∃ b n, s = ⟨some ⟨b, 0, none⟩, n, n⟩ ∧ l.length = n ∧ 0 < n ∧ b < H.next ∧ ∃ o, H.get b = some (.cells (bc l) e o 0 false)

theorem Buf.keep {S : Nat → Prop} {H H' : Heap} {s : Sl} {l : List UInt8} {e : TypeId} (h : Buf H s l e) (hk : Keep S H H') (hn : ∀ k, s.at k → ¬ S k) : Buf H' s l e := by
  rcases h with h | ⟨b, n, rfl, h1, h0, h2, o, h3⟩
  · exact .inl h
  · exact .inr ⟨b, n, rfl, h1, h0, Nat.lt_of_lt_of_le h2 hk.1, o, (hk.2 b h2 (hn b ⟨_, rfl, rfl⟩)).trans h3⟩
theorem Buf.len {H : Heap} {s : Sl} {l : List UInt8} {e : TypeId} (h : Buf H s l e) : s.n = l.length := by
  rcases h with ⟨rfl, rfl⟩ | ⟨b, n, rfl, h1, _⟩
  · rfl
  · exact h1.symm
theorem Buf.lt {H : Heap} {s : Sl} {l : List UInt8} {e : TypeId} (h : Buf H s l e) {k : Nat} (hk : s.at k) : k < H.next := by
  obtain ⟨a, h1, rfl⟩ := hk
  rcases h with ⟨rfl, _⟩ | ⟨b, n, rfl, _, _, h2, _⟩
  · cases h1
  · cases h1; exact h2

/-- a strings.Builder at p that holds the bytes l in the buffer s -/
def Bld (T e : TypeId) (H : Heap) (p : Nat) (s : Sl) (l : List UInt8) : Prop :=
  p < H.next ∧ (∃ pa, H.get p = some (.cells [.pointer pa, s.v] T false 0 false) ∧ (pa = none ∨ pa = some ⟨p, 0, none⟩)) ∧ Buf H s l e ∧ ¬ s.at p

theorem Bld.keep {T e : TypeId} {S : Nat → Prop} {H H' : Heap} {p : Nat} {s : Sl} {l : List UInt8} (h : Bld T e H p s l) (hk : Keep S H H') (hp : ¬ S p) (hn : ∀ k, s.at k → ¬ S k) : Bld T e H' p s l := by
  obtain ⟨h1, ⟨pa, h2, h3⟩, h4, h5⟩ := h
  exact ⟨Nat.lt_of_lt_of_le h1 hk.1, ⟨pa, (hk.2 p h1 hp).trans h2, h3⟩, h4.keep hk hn, h5⟩

theorem Bld.new (T e : TypeId) (H : Heap) : Bld T e (H.new (.cells [.pointer none, .slice none 0 0] T false 0 false)) H.next Sl.nil [] :=
  ⟨by simp, ⟨none, by simp, .inl rfl⟩, .inl ⟨rfl, rfl⟩, Sl.at_nil⟩
end Go.Cm

namespace Go.Cm
open Go

abbrev Keep0 := Keep fun _ => False
theorem Keep0.trans {H H' H'' : Heap} (h : Keep0 H H') (h' : Keep0 H' H'') : Keep0 H H'' := Keep.trans h h' fun _ _ h => h
theorem Keep0.to {S : Nat → Prop} {H H' : Heap} (h : Keep0 H H') : Keep S H H' := Keep.mono h fun _ _ h => h.elim
theorem Keep0.get {H H' : Heap} (h : Keep0 H H') {b : Nat} {o : CObj} (hb : b < H.next) (hg : H.get b = some o) : H'.get b = some o := (h.2 b hb id).trans hg
/-- a change of new blocks alone is none -/
theorem Keep.fresh {S : Nat → Prop} {H H1 H2 : Heap} (h : Keep0 H H1) (h' : Keep S H1 H2) (hs : ∀ k, S k → H.next ≤ k) : Keep0 H H2 :=
  ⟨Nat.le_trans h.1 h'.1, fun k hk _ => (h'.2 k (Nat.lt_of_lt_of_le hk h.1) (fun e => by have := hs k e; omega)).trans (h.2 k hk id)⟩
theorem asSL_k {α : Type} (s : Sl) (K : Sl → Option α) : asSL s.v K = K s := rfl
theorem asSL_k2 {α : Type} (a : Option Addr) (n c : Nat) (K : Sl → Option α) : asSL (.slice a n c) K = K ⟨a, n, c⟩ := rfl

/-- a slice over a part of block b: A lies ahead, cs is in it, Z lies behind -/
structure Vw (H : Heap) (s : Sl) (b : Nat) (A cs Z : List Value) (e : TypeId) (sz : Nat) : Prop where
  sa : s.a = some ⟨b, A.length, none⟩
  hn : cs.length = s.n * sz
  hc : s.n ≤ s.c
  lt : b < H.next
  get : ∃ o st, H.get b = some (.cells (A ++ (cs ++ Z)) e o 0 st)

theorem Vw.keep {S : Nat → Prop} {H H' : Heap} {s : Sl} {b : Nat} {A cs Z : List Value} {e : TypeId} {sz : Nat} (h : Vw H s b A cs Z e sz) (hk : Keep S H H') (hs : ¬ S b) : Vw H' s b A cs Z e sz := by
  obtain ⟨h1, h2, h3, h4, o, st, h5⟩ := h
  exact ⟨h1, h2, h3, Nat.lt_of_lt_of_le h4 hk.1, o, st, (hk.2 b h4 hs).trans h5⟩
theorem Vw.of {H : Heap} {s : Sl} {cs : List Value} {e : TypeId} {sz : Nat} (h : Whole H s cs e sz) (hne : s.a ≠ none) : ∃ b, Vw H s b [] cs [] e sz ∧ s.at b := by
  rcases h with ⟨rfl, _⟩ | ⟨b, n, rfl, h1, h2, o, st, h3⟩
  · exact absurd rfl hne
  · exact ⟨b, ⟨rfl, h1, Nat.le_refl _, h2, o, st, by simpa using h3⟩, _, rfl, rfl⟩
theorem Whole.vw {H : Heap} {b n : Nat} {cs : List Value} {e : TypeId} {sz : Nat} (h : Whole H ⟨some ⟨b, 0, none⟩, n, n⟩ cs e sz) : Vw H ⟨some ⟨b, 0, none⟩, n, n⟩ b [] cs [] e sz := by
  rcases h with ⟨h, _⟩ | ⟨b, n, h, h1, h2, o, st, h3⟩
  · cases h
  · cases h; exact ⟨rfl, h1, Nat.le_refl _, h2, o, st, by simpa using h3⟩

/-- a part of it -/
def subS (s : Sl) (l h sz : Nat) : Sl := ⟨s.a.map fun a => ⟨a.block, a.off + l * sz, none⟩, h - l, s.c - l⟩
theorem Vw.sub {H : Heap} {s : Sl} {b : Nat} {A cs Z : List Value} {e : TypeId} {sz : Nat} (v : Vw H s b A cs Z e sz) {l h : Nat} (h1 : l ≤ h) (h2 : h ≤ s.n) :
    Vw H (subS s l h sz) b (A ++ cs.take (l * sz)) ((cs.drop (l * sz)).take ((h - l) * sz)) (cs.drop (h * sz) ++ Z) e sz := by
  obtain ⟨a1, a2, a3, a4, o, st, a5⟩ := v
  have hm : l * sz ≤ cs.length := by rw [a2]; exact Nat.mul_le_mul_right _ (by omega)
  have hm2 : h * sz ≤ cs.length := by rw [a2]; exact Nat.mul_le_mul_right _ (by omega)
  have hlh : l * sz + (h - l) * sz = h * sz := by rw [← Nat.add_mul]; congr 1; omega
  refine ⟨?_, ?_, ?_, a4, o, st, ?_⟩
  · simp only [subS, a1, Option.map_some, List.length_append, List.length_take, Nat.min_eq_left hm]
  · simp only [subS, List.length_take, List.length_drop]; omega
  · show h - l ≤ s.c - l; omega
  · rw [a5]
    have : A ++ cs.take (l * sz) ++ ((cs.drop (l * sz)).take ((h - l) * sz) ++ (cs.drop (h * sz) ++ Z)) = A ++ (cs ++ Z) := by
      rw [List.append_assoc]
      congr 1
      rw [← List.append_assoc, ← List.append_assoc]
      congr 1
      rw [List.append_assoc]
      have e1 : (cs.drop (l * sz)).take ((h - l) * sz) ++ cs.drop (h * sz) = cs.drop (l * sz) := by
        conv => rhs; rw [← List.take_append_drop ((h - l) * sz) (cs.drop (l * sz))]
        rw [List.drop_drop, hlh]
      rw [e1, List.take_append_drop]
    rw [this]

theorem Vw.opn {H : Heap} {s : Sl} {b : Nat} {A cs Z : List Value} {e : TypeId} {sz : Nat} (v : Vw H s b A cs Z e sz) : H.opnOk b e = true := by
  obtain ⟨_, _, _, _, o, st, h⟩ := v
  simp [Heap.opnOk, h]
theorem sub_addr {a : Addr} (ha : a.spot = none) (l sz : Nat) : (if l = 0 then a else ap a (l * sz)) = ⟨a.block, a.off + l * sz, none⟩ := by
  split
  · rename_i h; subst h
    obtain ⟨b, o, s⟩ := a
    simp only at ha
    subst ha
    simp
  · rfl
section
variable {H : Heap} {s : Sl} {b : Nat} {A cs Z : List Value} {e : TypeId} {sz : Nat} (v : Vw H s b A cs Z e sz)
include v
theorem Vw.s_lh {l h : Nat} {k k' : IntKind} (h1 : l ≤ h) (h2 : h ≤ s.n) : readD (.subSl e sz true true false) [s.v, .int k (l : Int), .int k' (h : Int)] H = some (subS s l h sz).v := by
  have hc := v.hc
  have ho := v.opn
  simp only [readD, Sl.v, asSl, bnds, asN_s, v.sa]
  rw [if_pos (by omega)]
  simp only [Int.toNat_natCast, ho, Bool.or_true, chk, subS, Option.map_some, v.sa]
  rw [sub_addr rfl]
theorem Vw.s_l {l : Nat} {k : IntKind} (h1 : l ≤ s.n) : readD (.subSl e sz true false false) [s.v, .int k (l : Int)] H = some (subS s l s.n sz).v := by
  have ho := v.opn
  simp only [readD, Sl.v, asSl, bnds, asN_s, v.sa]
  rw [if_pos (by omega)]
  simp only [Int.toNat_natCast, ho, Bool.or_true, chk, subS, Option.map_some, v.sa]
  rw [sub_addr rfl]
theorem Vw.s_h {h : Nat} {k : IntKind} (h1 : h ≤ s.n) : readD (.subSl e sz false true false) [s.v, .int k (h : Int)] H = some (subS s 0 h sz).v := by
  have hc := v.hc
  have ho := v.opn
  simp only [readD, Sl.v, asSl, bnds, asN_s, v.sa]
  rw [if_pos (by omega)]
  simp only [Int.toNat_natCast, ho, Bool.or_true, chk, subS, Option.map_some, v.sa]
  simp only [if_true, Nat.zero_mul, Nat.add_zero]
theorem Vw.src {n : Nat} (hn : n ≤ s.n) : srcCells H sz n s.v = some (cs.take (n * sz)) := by
  obtain ⟨a1, a2, a3, a4, o, st, a5⟩ := v
  simp only [srcCells, Sl.v, a1]
  have hm : n * sz ≤ cs.length := by rw [a2]; exact Nat.mul_le_mul_right _ hn
  by_cases h0 : n = 0
  · subst h0; simp
  · rw [if_neg h0, ldN_s a5 (by simp only [List.length_append]; omega), List.drop_left' rfl, List.take_append_of_le_length hm]
theorem Vw.ld {i : Nat} {x : Value} (hx : cs[i]? = some x) : Heap.ld1 H ⟨b, A.length + i, none⟩ = some x := by
  obtain ⟨a1, a2, a3, a4, o, st, a5⟩ := v
  have hi := (List.getElem?_eq_some_iff.1 hx).1
  rw [ld1_s a5, List.getElem?_append_right (by omega), Nat.add_sub_cancel_left, List.getElem?_append_left hi, hx]
/-- a write into it -/
theorem Vw.stN {new : List Value} {i : Nat} (hi : i + new.length ≤ cs.length) : ∃ H', H.stN ⟨b, A.length + i, none⟩ new = some H' ∧ Vw H' s b A (cs.take i ++ (new ++ cs.drop (i + new.length))) Z e sz ∧ Keep (fun k => k = b) H H' ∧ H'.next = H.next := by
  obtain ⟨a1, a2, a3, a4, o, st, a5⟩ := v
  have hs : splice (A ++ (cs ++ Z)) (A.length + i) new = A ++ ((cs.take i ++ (new ++ cs.drop (i + new.length))) ++ Z) := by
    unfold splice
    rw [List.take_append, List.take_of_length_le (by omega), Nat.add_sub_cancel_left, List.take_append_of_le_length (by omega), Nat.add_assoc, List.drop_append, List.drop_eq_nil_of_le (by omega), Nat.add_sub_cancel_left, List.drop_append_of_le_length (by omega)]
    simp
  refine ⟨H.put b (.cells (A ++ ((cs.take i ++ (new ++ cs.drop (i + new.length))) ++ Z)) e o 0 st), ?_, ⟨a1, ?_, a3, a4, o, st, by simp⟩, Keep.put _ _ _ rfl, rfl⟩
  · simp only [Heap.stN, a5]
    rw [if_pos (by simp only [List.length_append]; omega), hs]
  · simp only [List.length_append, List.length_take, List.length_drop]; omega
theorem Vw.st1 {x : Value} {i : Nat} (hi : i < cs.length) : ∃ H', H.st1 ⟨b, A.length + i, none⟩ x = some H' ∧ Vw H' s b A (cs.set i x) Z e sz ∧ Keep (fun k => k = b) H H' ∧ H'.next = H.next := by
  obtain ⟨a1, a2, a3, a4, o, st, a5⟩ := v
  refine ⟨H.put b (.cells (A ++ (cs.set i x ++ Z)) e o 0 st), ?_, ⟨a1, by simpa using a2, a3, a4, o, st, by simp⟩, Keep.put _ _ _ rfl, rfl⟩
  rw [st1_s a5 (by simp only [List.length_append]; omega) (by omega), List.set_append_right _ _ (by omega), Nat.add_sub_cancel_left, List.set_append_left _ _ hi]
/-- a copy into it -/
theorem Vw.copy {x : Value} {m : Nat} {str : Bool} (new : List Value) (h0 : 0 < sz) (h1 : srcN str x = some m) (h2 : srcCells H sz (min m s.n) x = some new) (h3 : new.length = min m s.n * sz) :
    ∃ H', (∀ K, effK (.copy sz str) [s.v, x] H K = K (.int .i64 ((min m s.n : Nat) : Int)) H') ∧ Vw H' s b A (new ++ cs.drop new.length) Z e sz ∧ Keep (fun k => k = b) H H' ∧ H'.next = H.next := by
  have hn := v.hn
  have hle : new.length ≤ cs.length := by rw [h3, hn]; exact Nat.mul_le_mul_right _ (Nat.min_le_right _ _)
  by_cases hz : min m s.n = 0
  · have hnil : new = [] := List.eq_nil_of_length_eq_zero (by rw [h3, hz]; simp)
    subst hnil
    refine ⟨H, fun K => ?_, by simpa using v, Keep.refl _, rfl⟩
    simp only [effK, asSl, h1, optK]
    rw [if_pos hz, hz]; rfl
  · obtain ⟨H', e1, e2, e3, e4⟩ := v.stN (new := new) (i := 0) (by omega)
    refine ⟨H', fun K => ?_, by simpa using e2, e3, e4⟩
    rw [Nat.add_zero] at e1
    have hsa := v.sa
    simp only [effK, asSl, h1, optK]
    rw [if_neg hz, if_pos h0]
    have h2' := h2
    rw [h2']
    simp only [hsa, e1]
end

/-- a slice's block -/
theorem Vw.at {H : Heap} {s : Sl} {b : Nat} {A cs Z : List Value} {e : TypeId} {sz : Nat} (v : Vw H s b A cs Z e sz) : s.at b := ⟨_, v.sa, rfl⟩

/-! ### runs of parts of the same size -/
section
variable {α : Type} (f : α → List Value) (n : Nat) (hf : ∀ a, (f a).length = n)
include hf
theorem fm_len (L : List α) : (L.flatMap f).length = L.length * n := by
  induction L with
  | nil => simp
  | cons a L ih => simp only [List.flatMap_cons, List.length_append, hf, ih, List.length_cons, Nat.add_mul]; omega
theorem fm_drop (L : List α) (i : Nat) : (L.flatMap f).drop (i * n) = (L.drop i).flatMap f := by
  induction L generalizing i with
  | nil => simp
  | cons a L ih =>
    cases i with
    | zero => simp
    | succ i =>
      rw [List.flatMap_cons, List.drop_succ_cons, ← ih i, List.drop_append, hf, List.drop_eq_nil_of_le (by rw [hf, Nat.add_mul]; omega), Nat.add_mul]
      simp
theorem fm_take (L : List α) (i : Nat) : (L.flatMap f).take (i * n) = (L.take i).flatMap f := by
  induction L generalizing i with
  | nil => simp
  | cons a L ih =>
    cases i with
    | zero => simp
    | succ i =>
      rw [List.flatMap_cons, List.take_succ_cons, List.flatMap_cons, ← ih i, List.take_append, hf, List.take_of_length_le (by rw [hf, Nat.add_mul]; omega), Nat.add_mul]
      congr 2; omega
theorem fm_at {L : List α} {i : Nat} {a : α} (h : L[i]? = some a) : ((L.flatMap f).drop (i * n)).take n = f a := by
  rw [fm_drop f n hf]
  obtain ⟨hlt, e⟩ := List.getElem?_eq_some_iff.1 h
  rw [List.drop_eq_getElem_cons hlt, e, List.flatMap_cons, List.take_left' (hf a)]
end
end Go.Cm
