/-
  A function that is known by a contract, as one step: strings.Join; numbers of one and two digits.
  And: A closed call that answers true, as one step, over code with prims. A closed call over tables that are laid: by evaluation. A function that is known by a contract, as one step: strings.IndexByte. Functions without a text, by the model's own table: what abi.NoEscape, bytealg.IndexByteString, bytealg.CountString are here. strings.Split as one step, by the contract that the kit has of it. A buffer of bytes that grows, and is read as a string at last (strings.Builder). Slices that look at a part of a block; copies; what lies in such a part. Nothing of a program is proved here. slices.Sorted(maps.Keys(m)) as two steps, by the contracts that the kit has of them.
-/
import Derived.Test.YtkkhljcjjhcnhaaGreatDoorCmG
import Derived.Below
import Derived.Lib.Join
import Derived.Lib.Bytealg
import Derived.Lib.Builder
import Derived.Laws.Externs
import Derived.Lib.Split
import Derived.Lib.SplitLaws
import Derived.Sort.KeysCollected
import Derived.CallsIn
import Derived.Laws.AppendOwn
namespace Go.Cm
open Go Go.RowKit

/-- the strings that lie from here on -/
def strsAt (H : Heap) (b : Nat) : Nat → Nat → Option (List ByteArray)
  | _, 0 => some []
  | o, n + 1 => match H.ld1 ⟨b, o, none⟩ with
    | some (.string s) => (strsAt H b (o + 1) n).map (s :: ·)
    | _ => none

theorem strsAt_get {H : Heap} {b : Nat} : ∀ {n o : Nat} {l : List ByteArray}, strsAt H b o n = some l → l.length = n ∧ ∀ (j : Nat) x, l[j]? = some x → H.ld1 ⟨b, o + j, none⟩ = some (.string x) := by
  intro n
  induction n with
  | zero => intro o l h; simp only [strsAt, Option.some.injEq] at h; subst h; exact ⟨rfl, fun j x h => by simp at h⟩
  | succ n ih =>
    intro o l h
    simp only [strsAt] at h
    split at h
    · rename_i s hs
      obtain ⟨r, h1, rfl⟩ := Option.map_eq_some_iff.1 h
      obtain ⟨h2, h3⟩ := ih h1
      refine ⟨by simp [h2], fun j x hx => ?_⟩
      cases j with
      | zero => simp only [List.getElem?_cons_zero, Option.some.injEq] at hx; subst hx; exact hs
      | succ j =>
        have := h3 j x (by simpa using hx)
        rw [show o + (j + 1) = o + 1 + j by omega]; exact this
    · cases h

/-- strings.Join as one step -/
def joinP (vs : List Value) (H : Heap) : Res := match vs with
  | [.slice a n _, .string sep] => if n = 0 then some (.string ⟨#[]⟩, H) else (match a with
    | some x => if x.spot = none then (match strsAt H x.block x.off n with
      | some l => if (Lib.join (l.map (·.data.toList)) sep.data.toList).length ≤ 140737488355328 ∧ n ≤ 140737488355328 then some (.string ⟨(Lib.join (l.map (·.data.toList)) sep.data.toList).toArray⟩, H) else none
      | none => none) else none
    | none => none)
  | _ => none

theorem calls_ok {P : Program} {w0 : Start} {f : Nat} (hen : ∀ args w, (callFunc f args).run P w = .ok (.enter f args) w) {vs' : Array Value} {H' : Heap} {μ : Mu} {w : World} {v : Value} (R : RR P w0 μ H' w) (hc : Calls P f vs' w fun e w' => e = .returned v ∧ Below w.heap.size w w')
    {o : Oper} {a : Act} {next : Act → World → Prop} {Q : Exit → Act → World → Prop} (hn : ∀ w', RR P w0 μ H' w' → next (a.put o.dst v) w') : o.upon P a next Q ((callFunc f vs').run P w) := by
  rw [hen, Oper.upon_enter]
  refine hc.mono ?_
  rintro e w' ⟨rfl, hb⟩
  exact hn w' (R.later hb.size hb.block ⟨hb.os, hb.output⟩)

theorem join_ok {P : Program} {w0 : Start} {f : Nat} (hen : ∀ args w, (callFunc f args).run P w = .ok (.enter f args) w)
    (h0 : ∀ (a : Option Addr) (c : Nat) (sep : ByteArray) (w : World), Calls P f #[.slice a 0 c, .string sep] w fun e w' => e = .returned (.string ⟨#[]⟩) ∧ w' = w)
    (h1 : ∀ (bk o c : Nat) (xs : List ByteArray) (sep : ByteArray) (w : World), (∀ (j : Nat) x, xs[j]? = some x → w.cell? ⟨bk, o + j, none⟩ = some (.string x)) → bk < w.heap.size → xs.length ≤ 140737488355328 → xs.length ≤ c →
      (Lib.join (xs.map (·.data.toList)) sep.data.toList).length ≤ 140737488355328 → Calls P f #[.slice (some ⟨bk, o, none⟩) xs.length c, .string sep] w fun e w' => e = .returned (.string ⟨(Lib.join (xs.map (·.data.toList)) sep.data.toList).toArray⟩) ∧ Below w.heap.size w w') :
    CallOK P w0 (fun g vs H => if g = f then joinP vs H else none) := by
  intro g vs vs' H v H' μ w h R hvs o a next Q hn
  dsimp only at h
  split at h
  case isFalse => cases h
  rename_i e
  subst e
  unfold joinP at h
  split at h
  case h_2 => cases h
  rename_i sa n c sep
  match vs', hvs with
  | [v1, v2], hvs =>
    obtain ⟨r1, r2, _⟩ := hvs
    have e2 := r2.string_inv
    subst e2
    have fin : ∀ w', RR P w0 μ H w' → next (a.put o.dst v) w' → True := fun _ _ _ => trivial
    split at h
    · rename_i hz
      subst hz
      simp only [Option.some.injEq, Prod.mk.injEq] at h
      obtain ⟨rfl, rfl⟩ := h
      have hv1 : ∃ a' c', v1 = .slice a' 0 c' := by
        cases sa with
        | none => obtain ⟨_, _, e⟩ := r1.slN_inv; exact ⟨_, _, e⟩
        | some x => obtain ⟨a', c', e, _⟩ := r1.sl_inv; exact ⟨_, _, e⟩
      obtain ⟨a', c', rfl⟩ := hv1
      refine calls_ok hen R ((h0 a' c' sep w).mono ?_) (fun w' R' => hn _ μ w' (.string _) R' (Ext.refl _ _))
      rintro e w' ⟨rfl, rfl⟩
      exact ⟨rfl, Below.refl _ _⟩
    · rename_i hz
      split at h
      case h_2 => cases h
      rename_i x
      split at h
      case isFalse => cases h
      rename_i hx
      split at h
      case h_2 => cases h
      rename_i l hl
      split at h
      case isFalse => cases h
      rename_i hlen
      simp only [Option.some.injEq, Prod.mk.injEq] at h
      obtain ⟨rfl, rfl⟩ := h
      obtain ⟨a', c', rfl, hnc, hs⟩ := r1.sl_inv
      obtain ⟨hll, hget⟩ := strsAt_get hl
      have hs0 : SR0 μ x a' n c c' := by
        rcases hs with hs | ⟨_, h2, _⟩
        · exact hs
        · exact absurd h2 hz
      obtain ⟨_, hsp, m, hm, hb, hs3⟩ := hs0
      have hoff : a'.off = x.off + m.sh ∧ c ≤ c' := by
        rcases hs3 with ⟨q1, q2⟩ | ⟨_, q1, q2, _⟩ | ⟨q1, _⟩
        · exact ⟨q1, by omega⟩
        · exact ⟨q1, q2⟩
        · exact absurd q1 hz
      have ea : a' = ⟨m.blk, x.off + m.sh, none⟩ := by
        obtain ⟨ab, ao, as⟩ := a'
        simp only at hsp hb hoff
        rw [hsp, hb, hoff.1]
      subst ea
      subst hll
      refine calls_ok hen R (h1 m.blk (x.off + m.sh) c' l sep w ?_ (R.blk _ _ hm) hlen.2 (by omega) hlen.1) (fun w' R' => hn _ μ w' (.string _) R' (Ext.refl _ _))
      intro j y hy
      have hc := hget j y hy
      obtain ⟨v', q1, q2, _⟩ := cell_ok R (a := ⟨x.block, x.off + j, none⟩) (a' := ⟨m.blk, x.off + m.sh + j, none⟩) ⟨rfl, rfl, m, hm, rfl, by simp only; omega⟩ hc
      rw [q2.string_inv] at q1
      exact q1

end Go.Cm

namespace Go.Cm
open Go

end Go.Cm

namespace Go.Cm
open Go

end Go.Cm

namespace Go.Cm
open Go Go.RowKit

end Go.Cm

namespace Go.Cm
open Go Go.RowKit

end Go.Cm

namespace Go.Cm
open Go Go.RowKit

end Go.Cm

namespace Go.Cm
open Go

/-- bytes as cells -/
def bc (l : List UInt8) : List Value := l.map fun b => .int .u8 b.toNat
theorem bc_len (l : List UInt8) : (bc l).length = l.length := by simp [bc]
theorem bc_append (a b : List UInt8) : bc (a ++ b) = bc a ++ bc b := by simp [bc]
theorem bytesOf_bc : ∀ l : List UInt8, bytesOf (bc l) = some l
  | [] => rfl
  | b :: l => by
    have := bytesOf_bc l
    simp only [bc, List.map_cons] at this ⊢
    simp only [bytesOf, this, Option.some.injEq, List.cons.injEq, and_true]
    simp

/-- a buffer of bytes that is no string's yet -/
def Buf (H : Heap) (s : Sl) (l : List UInt8) (e : TypeId) : Prop :=
  (s = ⟨none, 0, 0⟩ ∧ l = []) ∨ ∃ b n, s = ⟨some ⟨b, 0, none⟩, n, n⟩ ∧ l.length = n ∧ 0 < n ∧ b < H.next ∧ ∃ o, H.get b = some (.cells (bc l) e o 0 false)

theorem Buf.keep {S : Nat → Prop} {H H' : Heap} {s : Sl} {l : List UInt8} {e : TypeId} (h : Buf H s l e) (hk : Keep S H H') (hn : ∀ k, s.at k → ¬ S k) : Buf H' s l e := by
  rcases h with h | ⟨b, n, rfl, h1, h0, h2, o, h3⟩
  · exact .inl h
  · exact .inr ⟨b, n, rfl, h1, h0, Nat.lt_of_lt_of_le h2 hk.1, o, (hk.2 b h2 (hn b ⟨_, rfl, rfl⟩)).trans h3⟩
theorem Buf.len {H : Heap} {s : Sl} {l : List UInt8} {e : TypeId} (h : Buf H s l e) : s.n = l.length := by
  rcases h with ⟨rfl, rfl⟩ | ⟨b, n, rfl, h1, _⟩
  · rfl
  · exact h1.symm
theorem Buf.lt {H : Heap} {s : Sl} {l : List UInt8} {e : TypeId} (h : Buf H s l e) {k : Nat} (hk : s.at k) : k < H.next := by
  obtain ⟨a, h1, rfl⟩ := hk
  rcases h with ⟨rfl, _⟩ | ⟨b, n, rfl, _, _, h2, _⟩
  · cases h1
  · cases h1; exact h2

/-- a strings.Builder at p that holds the bytes l in the buffer s -/
def Bld (T e : TypeId) (H : Heap) (p : Nat) (s : Sl) (l : List UInt8) : Prop :=
  p < H.next ∧ (∃ pa, H.get p = some (.cells [.pointer pa, s.v] T false 0 false) ∧ (pa = none ∨ pa = some ⟨p, 0, none⟩)) ∧ Buf H s l e ∧ ¬ s.at p

theorem Bld.keep {T e : TypeId} {S : Nat → Prop} {H H' : Heap} {p : Nat} {s : Sl} {l : List UInt8} (h : Bld T e H p s l) (hk : Keep S H H') (hp : ¬ S p) (hn : ∀ k, s.at k → ¬ S k) : Bld T e H' p s l := by
  obtain ⟨h1, ⟨pa, h2, h3⟩, h4, h5⟩ := h
  exact ⟨Nat.lt_of_lt_of_le h1 hk.1, ⟨pa, (hk.2 p h1 hp).trans h2, h3⟩, h4.keep hk hn, h5⟩

theorem Bld.new (T e : TypeId) (H : Heap) : Bld T e (H.new (.cells [.pointer none, .slice none 0 0] T false 0 false)) H.next Sl.nil [] :=
  ⟨by simp, ⟨none, by simp, .inl rfl⟩, .inl ⟨rfl, rfl⟩, Sl.at_nil⟩
end Go.Cm

namespace Go.Cm
open Go

abbrev Keep0 := Keep fun _ => False
theorem Keep0.trans {H H' H'' : Heap} (h : Keep0 H H') (h' : Keep0 H' H'') : Keep0 H H'' := Keep.trans h h' fun _ _ h => h
theorem Keep0.to {S : Nat → Prop} {H H' : Heap} (h : Keep0 H H') : Keep S H H' := Keep.mono h fun _ _ h => h.elim
theorem Keep0.get {H H' : Heap} (h : Keep0 H H') {b : Nat} {o : CObj} (hb : b < H.next) (hg : H.get b = some o) : H'.get b = some o := (h.2 b hb id).trans hg
/-- a change of new blocks alone is none -/
theorem Keep.fresh {S : Nat → Prop} {H H1 H2 : Heap} (h : Keep0 H H1) (h' : Keep S H1 H2) (hs : ∀ k, S k → H.next ≤ k) : Keep0 H H2 :=
  ⟨Nat.le_trans h.1 h'.1, fun k hk _ => (h'.2 k (Nat.lt_of_lt_of_le hk h.1) (fun e => by have := hs k e; omega)).trans (h.2 k hk id)⟩
theorem asSL_k {α : Type} (s : Sl) (K : Sl → Option α) : asSL s.v K = K s := rfl
theorem asSL_k2 {α : Type} (a : Option Addr) (n c : Nat) (K : Sl → Option α) : asSL (.slice a n c) K = K ⟨a, n, c⟩ := rfl

/-- a slice over a part of block b: A lies ahead, cs is in it, Z lies behind -/
structure Vw (H : Heap) (s : Sl) (b : Nat) (A cs Z : List Value) (e : TypeId) (sz : Nat) : Prop where
  sa : s.a = some ⟨b, A.length, none⟩
  hn : cs.length = s.n * sz
  hc : s.n ≤ s.c
  lt : b < H.next
  get : ∃ o st, H.get b = some (.cells (A ++ (cs ++ Z)) e o 0 st)

theorem Vw.keep {S : Nat → Prop} {H H' : Heap} {s : Sl} {b : Nat} {A cs Z : List Value} {e : TypeId} {sz : Nat} (h : Vw H s b A cs Z e sz) (hk : Keep S H H') (hs : ¬ S b) : Vw H' s b A cs Z e sz := by
  obtain ⟨h1, h2, h3, h4, o, st, h5⟩ := h
  exact ⟨h1, h2, h3, Nat.lt_of_lt_of_le h4 hk.1, o, st, (hk.2 b h4 hs).trans h5⟩
theorem Vw.of {H : Heap} {s : Sl} {cs : List Value} {e : TypeId} {sz : Nat} (h : Whole H s cs e sz) (hne : s.a ≠ none) : ∃ b, Vw H s b [] cs [] e sz ∧ s.at b := by
  rcases h with ⟨rfl, _⟩ | ⟨b, n, rfl, h1, h2, o, st, h3⟩
  · exact absurd rfl hne
  · exact ⟨b, ⟨rfl, h1, Nat.le_refl _, h2, o, st, by simpa using h3⟩, _, rfl, rfl⟩
theorem Whole.vw {H : Heap} {b n : Nat} {cs : List Value} {e : TypeId} {sz : Nat} (h : Whole H ⟨some ⟨b, 0, none⟩, n, n⟩ cs e sz) : Vw H ⟨some ⟨b, 0, none⟩, n, n⟩ b [] cs [] e sz := by
  rcases h with ⟨h, _⟩ | ⟨b, n, h, h1, h2, o, st, h3⟩
  · cases h
  · cases h; exact ⟨rfl, h1, Nat.le_refl _, h2, o, st, by simpa using h3⟩

/-- a part of it -/
def subS (s : Sl) (l h sz : Nat) : Sl := ⟨s.a.map fun a => ⟨a.block, a.off + l * sz, none⟩, h - l, s.c - l⟩
theorem Vw.sub {H : Heap} {s : Sl} {b : Nat} {A cs Z : List Value} {e : TypeId} {sz : Nat} (v : Vw H s b A cs Z e sz) {l h : Nat} (h1 : l ≤ h) (h2 : h ≤ s.n) :
    Vw H (subS s l h sz) b (A ++ cs.take (l * sz)) ((cs.drop (l * sz)).take ((h - l) * sz)) (cs.drop (h * sz) ++ Z) e sz := by
  obtain ⟨a1, a2, a3, a4, o, st, a5⟩ := v
  have hm : l * sz ≤ cs.length := by rw [a2]; exact Nat.mul_le_mul_right _ (by omega)
  have hm2 : h * sz ≤ cs.length := by rw [a2]; exact Nat.mul_le_mul_right _ (by omega)
  have hlh : l * sz + (h - l) * sz = h * sz := by rw [← Nat.add_mul]; congr 1; omega
  refine ⟨?_, ?_, ?_, a4, o, st, ?_⟩
  · simp only [subS, a1, Option.map_some, List.length_append, List.length_take, Nat.min_eq_left hm]
  · simp only [subS, List.length_take, List.length_drop]; omega
  · show h - l ≤ s.c - l; omega
  · rw [a5]
    have : A ++ cs.take (l * sz) ++ ((cs.drop (l * sz)).take ((h - l) * sz) ++ (cs.drop (h * sz) ++ Z)) = A ++ (cs ++ Z) := by
      rw [List.append_assoc]
      congr 1
      rw [← List.append_assoc, ← List.append_assoc]
      congr 1
      rw [List.append_assoc]
      have e1 : (cs.drop (l * sz)).take ((h - l) * sz) ++ cs.drop (h * sz) = cs.drop (l * sz) := by
        conv => rhs; rw [← List.take_append_drop ((h - l) * sz) (cs.drop (l * sz))]
        rw [List.drop_drop, hlh]
      rw [e1, List.take_append_drop]
    rw [this]

theorem Vw.opn {H : Heap} {s : Sl} {b : Nat} {A cs Z : List Value} {e : TypeId} {sz : Nat} (v : Vw H s b A cs Z e sz) : H.opnOk b e = true := by
  obtain ⟨_, _, _, _, o, st, h⟩ := v
  simp [Heap.opnOk, h]
theorem sub_addr {a : Addr} (ha : a.spot = none) (l sz : Nat) : (if l = 0 then a else ap a (l * sz)) = ⟨a.block, a.off + l * sz, none⟩ := by
  split
  · rename_i h; subst h
    obtain ⟨b, o, s⟩ := a
    simp only at ha
    subst ha
    simp
  · rfl
section
variable {H : Heap} {s : Sl} {b : Nat} {A cs Z : List Value} {e : TypeId} {sz : Nat} (v : Vw H s b A cs Z e sz)
include v
theorem Vw.s_lh {l h : Nat} {k k' : IntKind} (h1 : l ≤ h) (h2 : h ≤ s.n) : readD (.subSl e sz true true false) [s.v, .int k (l : Int), .int k' (h : Int)] H = some (subS s l h sz).v := by
  have hc := v.hc
  have ho := v.opn
  simp only [readD, Sl.v, asSl, bnds, asN_s, v.sa]
  rw [if_pos (by omega)]
  simp only [Int.toNat_natCast, ho, Bool.or_true, chk, subS, Option.map_some, v.sa]
  rw [sub_addr rfl]
theorem Vw.s_l {l : Nat} {k : IntKind} (h1 : l ≤ s.n) : readD (.subSl e sz true false false) [s.v, .int k (l : Int)] H = some (subS s l s.n sz).v := by
  have ho := v.opn
  simp only [readD, Sl.v, asSl, bnds, asN_s, v.sa]
  rw [if_pos (by omega)]
  simp only [Int.toNat_natCast, ho, Bool.or_true, chk, subS, Option.map_some, v.sa]
  rw [sub_addr rfl]
theorem Vw.s_h {h : Nat} {k : IntKind} (h1 : h ≤ s.n) : readD (.subSl e sz false true false) [s.v, .int k (h : Int)] H = some (subS s 0 h sz).v := by
  have hc := v.hc
  have ho := v.opn
  simp only [readD, Sl.v, asSl, bnds, asN_s, v.sa]
  rw [if_pos (by omega)]
  simp only [Int.toNat_natCast, ho, Bool.or_true, chk, subS, Option.map_some, v.sa]
  simp only [if_true, Nat.zero_mul, Nat.add_zero]
theorem Vw.src {n : Nat} (hn : n ≤ s.n) : srcCells H sz n s.v = some (cs.take (n * sz)) := by
  obtain ⟨a1, a2, a3, a4, o, st, a5⟩ := v
  simp only [srcCells, Sl.v, a1]
  have hm : n * sz ≤ cs.length := by rw [a2]; exact Nat.mul_le_mul_right _ hn
  by_cases h0 : n = 0
  · subst h0; simp
  · rw [if_neg h0, ldN_s a5 (by simp only [List.length_append]; omega), List.drop_left' rfl, List.take_append_of_le_length hm]
theorem Vw.ld {i : Nat} {x : Value} (hx : cs[i]? = some x) : Heap.ld1 H ⟨b, A.length + i, none⟩ = some x := by
  obtain ⟨a1, a2, a3, a4, o, st, a5⟩ := v
  have hi := (List.getElem?_eq_some_iff.1 hx).1
  rw [ld1_s a5, List.getElem?_append_right (by omega), Nat.add_sub_cancel_left, List.getElem?_append_left hi, hx]
/-- a write into it -/
theorem Vw.stN {new : List Value} {i : Nat} (hi : i + new.length ≤ cs.length) : ∃ H', H.stN ⟨b, A.length + i, none⟩ new = some H' ∧ Vw H' s b A (cs.take i ++ (new ++ cs.drop (i + new.length))) Z e sz ∧ Keep (fun k => k = b) H H' ∧ H'.next = H.next := by
  obtain ⟨a1, a2, a3, a4, o, st, a5⟩ := v
  have hs : splice (A ++ (cs ++ Z)) (A.length + i) new = A ++ ((cs.take i ++ (new ++ cs.drop (i + new.length))) ++ Z) := by
    unfold splice
    rw [List.take_append, List.take_of_length_le (by omega), Nat.add_sub_cancel_left, List.take_append_of_le_length (by omega), Nat.add_assoc, List.drop_append, List.drop_eq_nil_of_le (by omega), Nat.add_sub_cancel_left, List.drop_append_of_le_length (by omega)]
    simp
  refine ⟨H.put b (.cells (A ++ ((cs.take i ++ (new ++ cs.drop (i + new.length))) ++ Z)) e o 0 st), ?_, ⟨a1, ?_, a3, a4, o, st, by simp⟩, Keep.put _ _ _ rfl, rfl⟩
  · simp only [Heap.stN, a5]
    rw [if_pos (by simp only [List.length_append]; omega), hs]
  · simp only [List.length_append, List.length_take, List.length_drop]; omega
theorem Vw.st1 {x : Value} {i : Nat} (hi : i < cs.length) : ∃ H', H.st1 ⟨b, A.length + i, none⟩ x = some H' ∧ Vw H' s b A (cs.set i x) Z e sz ∧ Keep (fun k => k = b) H H' ∧ H'.next = H.next := by
  obtain ⟨a1, a2, a3, a4, o, st, a5⟩ := v
  refine ⟨H.put b (.cells (A ++ (cs.set i x ++ Z)) e o 0 st), ?_, ⟨a1, by simpa using a2, a3, a4, o, st, by simp⟩, Keep.put _ _ _ rfl, rfl⟩
  rw [st1_s a5 (by simp only [List.length_append]; omega) (by omega), List.set_append_right _ _ (by omega), Nat.add_sub_cancel_left, List.set_append_left _ _ hi]
/-- a copy into it -/
theorem Vw.copy {x : Value} {m : Nat} {str : Bool} (new : List Value) (h0 : 0 < sz) (h1 : srcN str x = some m) (h2 : srcCells H sz (min m s.n) x = some new) (h3 : new.length = min m s.n * sz) :
    ∃ H', (∀ K, effK (.copy sz str) [s.v, x] H K = K (.int .i64 ((min m s.n : Nat) : Int)) H') ∧ Vw H' s b A (new ++ cs.drop new.length) Z e sz ∧ Keep (fun k => k = b) H H' ∧ H'.next = H.next := by
  have hn := v.hn
  have hle : new.length ≤ cs.length := by rw [h3, hn]; exact Nat.mul_le_mul_right _ (Nat.min_le_right _ _)
  by_cases hz : min m s.n = 0
  · have hnil : new = [] := List.eq_nil_of_length_eq_zero (by rw [h3, hz]; simp)
    subst hnil
    refine ⟨H, fun K => ?_, by simpa using v, Keep.refl _, rfl⟩
    simp only [effK, asSl, h1, optK]
    rw [if_pos hz, hz]; rfl
  · obtain ⟨H', e1, e2, e3, e4⟩ := v.stN (new := new) (i := 0) (by omega)
    refine ⟨H', fun K => ?_, by simpa using e2, e3, e4⟩
    rw [Nat.add_zero] at e1
    have hsa := v.sa
    simp only [effK, asSl, h1, optK]
    rw [if_neg hz, if_pos h0]
    have h2' := h2
    rw [h2']
    simp only [hsa, e1]
end

/-- a slice's block -/
theorem Vw.at {H : Heap} {s : Sl} {b : Nat} {A cs Z : List Value} {e : TypeId} {sz : Nat} (v : Vw H s b A cs Z e sz) : s.at b := ⟨_, v.sa, rfl⟩

/-! ### runs of parts of the same size -/
section
variable {α : Type} (f : α → List Value) (n : Nat) (hf : ∀ a, (f a).length = n)
include hf
theorem fm_len (L : List α) : (L.flatMap f).length = L.length * n := by
  induction L with
  | nil => simp
  | cons a L ih => simp only [List.flatMap_cons, List.length_append, hf, ih, List.length_cons, Nat.add_mul]; omega
theorem fm_drop (L : List α) (i : Nat) : (L.flatMap f).drop (i * n) = (L.drop i).flatMap f := by
  induction L generalizing i with
  | nil => simp
  | cons a L ih =>
    cases i with
    | zero => simp
    | succ i =>
      rw [List.flatMap_cons, List.drop_succ_cons, ← ih i, List.drop_append, hf, List.drop_eq_nil_of_le (by rw [hf, Nat.add_mul]; omega), Nat.add_mul]
      simp
theorem fm_take (L : List α) (i : Nat) : (L.flatMap f).take (i * n) = (L.take i).flatMap f := by
  induction L generalizing i with
  | nil => simp
  | cons a L ih =>
    cases i with
    | zero => simp
    | succ i =>
      rw [List.flatMap_cons, List.take_succ_cons, List.flatMap_cons, ← ih i, List.take_append, hf, List.take_of_length_le (by rw [hf, Nat.add_mul]; omega), Nat.add_mul]
      congr 2; omega
theorem fm_at {L : List α} {i : Nat} {a : α} (h : L[i]? = some a) : ((L.flatMap f).drop (i * n)).take n = f a := by
  rw [fm_drop f n hf]
  obtain ⟨hlt, e⟩ := List.getElem?_eq_some_iff.1 h
  rw [List.drop_eq_getElem_cons hlt, e, List.flatMap_cons, List.take_left' (hf a)]
end
end Go.Cm

namespace Go.Cm
open Go Go.RowKit Go.Maps Go.MapKept
open Go.WideElems (Fit rd rg)
open Go.Proofs (encStr)

/-- maps.Keys: its iterator over one new block, which holds the map -/
def keysP (g : Nat) (t : TypeId) (vs : List Value) (H : Heap) : Res := match vs with
  | [.map r] => some (.func (.func g) #[] #[.pointer (some ⟨H.next, 0, none⟩)], H.new (.cells [.map r] t false 0 false))
  | _ => none

theorem keys_ok {P : Program} {w0 : Start} {f g : Nat} {t : TypeId} (hen : ∀ args w, (callFunc f args).run P w = .ok (.enter f args) w)
    (h1 : ∀ (mb : Option Nat) (W : World), Calls P f #[.map mb] W fun e w' => e = .returned (.func (.func g) #[] #[.pointer (some ⟨W.heap.size, 0, none⟩)]) ∧ w' = W.alloc (.cells #[.map mb] t)) :
    CallOK P w0 (fun k vs H => if k = f then keysP g t vs H else none) := by
  intro k vs vs' H v H' μ w h R hvs o a next Q hn
  dsimp only at h
  split at h
  case isFalse => cases h
  rename_i e
  subst e
  unfold keysP at h
  split at h
  case h_2 => cases h
  rename_i r
  simp only [Option.some.injEq, Prod.mk.injEq] at h
  obtain ⟨rfl, rfl⟩ := h
  match vs', hvs with
  | [v1], hvs =>
    obtain ⟨r1, _⟩ := hvs
    obtain ⟨mb, rfl⟩ : ∃ mb, v1 = .map mb := by cases r1 <;> exact ⟨_, rfl⟩
    rw [hen, Oper.upon_enter]
    refine (h1 mb w).mono ?_
    rintro e w' ⟨rfl, rfl⟩
    have hor : OR P μ ⟨w.heap.size, 0, 1, 1, P.cellsOf t, false⟩ (.cells [.map r] t false 0 false) (.cells #[.map mb] t) :=
      OR.closed (P := P) (μ := μ) (blk := w.heap.size) (e := t) (l := [.map r]) (l' := [.map mb]) ⟨r1, trivial⟩ (fun v hv => by rw [List.mem_singleton.1 hv]; rfl)
    have hnew := R.new (w' := w.alloc (.cells #[.map mb] t)) rfl hor rfl ⟨rfl, rfl⟩
    refine hn _ (μ.add H.next ⟨w.heap.size, 0, 1, 1, P.cellsOf t, false⟩) _ ?_ hnew.1 hnew.2
    refine .func _ rfl (fun i hi => absurd hi (Nat.not_lt_zero _)) rfl fun i hi hi' => ?_
    have hi0 : i = 0 := by simp at hi; omega
    subst hi0
    exact .ptr (AR.new rfl)

def strV : Value → Option (List UInt8)
  | .string s => some (lst s)
  | _ => none
/-- a map's keys, if all are strings, and none stands twice -/
def keysL (es : List (Value × Value × Nat)) (clk : Nat) : Option (List (List UInt8)) := match es.mapM (fun e => strV e.1) with
  | some ks => if ks.Nodup ∧ (es.map (·.2.2)).Nodup ∧ (∀ e ∈ es, e.2.2 < clk) ∧ es.length ≤ 100000 ∧ (∀ k ∈ ks, k.length ≤ 100000) then some ks else none
  | none => none
def insS (x : List UInt8) : List (List UInt8) → List (List UInt8)
  | [] => [x]
  | y :: l => if decide (x ≤ y) = true then x :: y :: l else y :: insS x l
/-- sorted, so that the kernel can compute it -/
def sortS : List (List UInt8) → List (List UInt8)
  | [] => []
  | x :: l => insS x (sortS l)
theorem insS_perm (x : List UInt8) : ∀ l, (insS x l).Perm (x :: l)
  | [] => List.Perm.refl _
  | y :: l => by
    unfold insS
    split
    · exact List.Perm.refl _
    · exact ((insS_perm x l).cons y).trans (List.Perm.swap x y l)
theorem sortS_perm : ∀ l, (sortS l).Perm l
  | [] => List.Perm.refl _
  | x :: l => (insS_perm x _).trans ((sortS_perm l).cons x)
theorem insS_sorted (x : List UInt8) : ∀ l : List (List UInt8), l.Pairwise (fun a b => leB a b = true) → (insS x l).Pairwise (fun a b => leB a b = true)
  | [], _ => by simp [insS]
  | y :: l, h => by
    obtain ⟨h1, h2⟩ := List.pairwise_cons.1 h
    unfold insS
    split
    · rename_i hxy
      refine List.pairwise_cons.2 ⟨fun z hz => ?_, h⟩
      rcases List.mem_cons.1 hz with rfl | hz
      · exact hxy
      · have h3 := h1 z hz
        simp only [leB, decide_eq_true_eq] at hxy h3 ⊢
        exact List.le_trans hxy h3
    · rename_i hxy
      refine List.pairwise_cons.2 ⟨fun z hz => ?_, insS_sorted x l h2⟩
      rcases List.mem_cons.1 ((insS_perm x l).mem_iff.1 hz) with rfl | hz
      · simp only [leB, decide_eq_true_eq] at hxy ⊢
        rcases List.le_total z y with e | e
        · exact absurd e hxy
        · exact e
      · exact h1 z hz
theorem sortS_sorted : ∀ l : List (List UInt8), (sortS l).Pairwise (fun a b => leB a b = true)
  | [] => List.Pairwise.nil
  | x :: l => insS_sorted x _ (sortS_sorted l)
theorem sortS_eq {ss ks : List (List UInt8)} (h : ss.Perm ks) : ss.mergeSort (fun x y => decide (x ≤ y)) = sortS ks := by
  have tr : ∀ a b c : List UInt8, leB a b = true → leB b c = true → leB a c = true := fun a b c h1 h2 => by simp only [leB, decide_eq_true_eq] at *; exact List.le_trans h1 h2
  have to : ∀ a b : List UInt8, (leB a b || leB b a) = true := fun a b => by simp only [leB, Bool.or_eq_true, decide_eq_true_eq]; exact List.le_total a b
  refine List.Perm.eq_of_pairwise (le := fun a b => leB a b = true) (fun a b _ _ h1 h2 => ?_) (List.pairwise_mergeSort tr to ss) (sortS_sorted ks) (((List.mergeSort_perm ss leB).trans h).trans (sortS_perm ks).symm)
  simp only [leB, decide_eq_true_eq] at h1 h2
  exact List.le_antisymm h1 h2

/-- slices.Sorted over what maps.Keys gave for a map that is not nil: a new slice of the keys, sorted -/
def sortedP (g : Nat) (t : TypeId) (vs : List Value) (H : Heap) : Res := match vs with
  | [.func (.func g') f c] => if g' = g ∧ f.size = 0 then (match c.toList with
    | [.pointer (some ⟨b, 0, none⟩)] => match H.get b with
      | some (.cells [.map (some m)] _ false 0 false) => match H.get m with
        | some (.map es clk) => match keysL es clk with
          | some ks => if ks = [] then some (.slice none 0 0, H) else
              some (.slice (some ⟨H.next, 0, none⟩) ks.length ks.length, H.new (.cells ((sortS ks).map fun k => .string (S k)) t true 0 false))
          | none => none
        | _ => none
      | _ => none
    | _ => none) else none
  | _ => none

theorem keysL_inv {es : List (Value × Value × Nat)} {clk : Nat} {ks : List (List UInt8)} (h : keysL es clk = some ks) : es.mapM (fun e => strV e.1) = some ks ∧ ks.Nodup ∧ (es.map (·.2.2)).Nodup ∧ (∀ e ∈ es, e.2.2 < clk) ∧ es.length ≤ 100000 ∧ (∀ k ∈ ks, k.length ≤ 100000) := by
  unfold keysL at h
  split at h
  · rename_i l hl
    split at h
    · rename_i hc
      simp only [Option.some.injEq] at h
      subst h
      exact ⟨hl, hc⟩
    · cases h
  · cases h

theorem sorted_ok {P : Program} {w0 : Start} {f g : Nat} {t : TypeId} (hc1 : P.cellsOf t = 1) (hen : ∀ args w, (callFunc f args).run P w = .ok (.enter f args) w) (ht : P.underlying t = some .string)
    (h1 : ∀ (Bm b nn : Nat) (D0 : DataW Unit) (Rr : Value → Option (DataW Unit × List MemPlace)) (w : World), Bm < w.heap.size → w.cell? ⟨Bm, 0, none⟩ = some (.map (some b)) → w.ownsMap P t Rr b nn D0 → Maps.size D0 ≤ maxLen → Maps.size D0 * 16 ≤ 140737488355328 →
      Calls P f #[.func (.func g) #[] #[.pointer (some ⟨Bm, 0, none⟩)]] w fun e w' => ∃ (v : Value) (ss : List (List UInt8)), e = .returned v ∧ ss.Perm (strKeys D0) ∧ w'.ownsRow w.heap.size t 1 v ss.length ((ss.mergeSort (fun x y => decide (x ≤ y))).map encStr) ∧ (v = .slice none 0 0 ↔ ss = []) ∧ Below w.heap.size w w') :
    CallOK P w0 (fun k vs H => if k = f then sortedP g t vs H else none) := by
  intro k vs vs' H v H' μ w h R hvs o a next Q hn
  dsimp only at h
  split at h
  case isFalse => cases h
  rename_i e
  subst e
  unfold sortedP at h
  split at h
  case h_2 => cases h
  rename_i g' ff cc
  split at h
  case isFalse => cases h
  rename_i hg
  obtain ⟨rfl, hff⟩ := hg
  split at h
  case h_2 => cases h
  rename_i b hcc
  split at h
  case h_2 => cases h
  rename_i m ty hgb
  split at h
  case h_2 => cases h
  rename_i es clk hgm
  split at h
  case h_2 => cases h
  rename_i ks hks
  obtain ⟨k1, k2, k3, k4, k5, k6⟩ := keysL_inv hks
  match vs', hvs with
  | [v1], hvs =>
    obtain ⟨r1, _⟩ := hvs
    obtain ⟨a', rfl, ha⟩ : ∃ a', v1 = .func (.func g') #[] #[.pointer (some a')] ∧ AR μ ⟨b, 0, none⟩ a' := by
      cases r1
      rename_i f' c' hf hf' hc hc'
      have e0 : cc = #[.pointer (some ⟨b, 0, none⟩)] := Array.toList_inj.1 (by simpa using hcc)
      subst e0
      have e1 : f' = #[] := Array.eq_empty_of_size_eq_zero (by omega)
      have hcs : c'.size = 1 := by simpa using hc.symm
      have hv := hc' 0 (by simp) (by omega)
      have e2 : c' = #[c'[0]] := by
        apply Array.ext
        · simp [hcs]
        · intro i h1 h2
          have : i = 0 := by omega
          subst this; simp
      rw [e1, e2]
      generalize c'[0] = z at hv
      simp only [List.getElem_toArray, List.getElem_cons_zero] at hv
      cases hv with
      | ptr h => exact ⟨_, rfl, h⟩
    obtain ⟨v', hcell, hvr, _⟩ := cell_ok R ha (show H.ld1 ⟨b, 0, none⟩ = some (.map (some m)) from (ld1_s hgb).trans rfl)
    obtain ⟨mm, rfl, hmm, hsh⟩ : ∃ mm : MB, v' = .map (some mm.blk) ∧ μ m = some mm ∧ mm.sh = 0 := by
      cases hvr
      exact ⟨_, rfl, ‹_›, ‹_›⟩
    obtain ⟨ha1, ha2, mb, ha3, ha4, ha5⟩ := ha
    obtain ⟨c1, fr1, g1, g2⟩ := lookup_cells R ha3 hgb
    have hsh0 : mb.sh = 0 := (g2.2.2.2.2.2.2.1 g2.2.2.1.symm rfl).1
    have ea : a' = ⟨mb.blk, 0, none⟩ := by
      obtain ⟨x1, x2, x3⟩ := a'
      simp only at ha2 ha4 ha5
      subst ha2 ha4
      simp only [Addr.mk.injEq, and_true, true_and]
      omega
    subst ea
    obtain ⟨o1, q1, q2⟩ := R.obj m mm _ hmm hgm
    obtain ⟨es', clk', rfl⟩ : ∃ es' clk', o1 = .map es' clk' := by
      cases o1 <;> simp only [OR] at q2
      exact ⟨_, _, rfl⟩
    obtain ⟨_, rfl, q3, q4⟩ := q2
    have hkl := (mapM_some k1).1
    have hent : ∀ (i : Nat) (x : MapEntry), es'.toList[i]? = some x → ∃ e kk, es[i]? = some e ∧ ks[i]? = some kk ∧ x.key = .string (S kk) ∧ x.born = e.2.2 := by
      intro i x hx
      have hi : i < es.length := by
        have := (List.getElem?_eq_some_iff.1 hx).1
        rw [Array.length_toList] at this; omega
      obtain ⟨e', w1, w2, _, w4⟩ := q4 i es[i] (List.getElem?_eq_getElem hi)
      have hk : ks[i]? = some (ks[i]'(by omega)) := List.getElem?_eq_getElem (by omega)
      have hst := (mapM_some k1).2 i _ _ (List.getElem?_eq_getElem hi) hk
      rw [← Array.getElem?_toList, hx] at w1
      cases w1
      refine ⟨es[i], ks[i]'(by omega), List.getElem?_eq_getElem hi, hk, ?_, w4.symm⟩
      generalize es[i].1 = kv at w2 hst
      unfold strV at hst
      split at hst
      · rename_i s
        rw [w2.string_inv]
        simp only [Option.some.injEq] at hst
        rw [← hst]
        rfl
      · cases hst
    have hkeys : es'.toList.map (·.key) = ks.map fun k => Value.string (S k) := by
      apply List.ext_getElem?
      intro i
      rw [List.getElem?_map, List.getElem?_map]
      cases hx : es'.toList[i]? with
      | none =>
        have h1 : es'.size ≤ i := by simpa using hx
        rw [List.getElem?_eq_none (by omega)]; rfl
      | some x =>
        obtain ⟨e, kk, _, h2, h3, _⟩ := hent i x hx
        rw [h2]; simp [h3]
    have hborn : es'.toList.map (·.born) = es.map (·.2.2) := by
      apply List.ext_getElem?
      intro i
      rw [List.getElem?_map, List.getElem?_map]
      cases hx : es'.toList[i]? with
      | none =>
        have h1 : es'.size ≤ i := by simpa using hx
        rw [List.getElem?_eq_none (by omega)]; rfl
      | some x =>
        obtain ⟨e, kk, h1, _, _, h4⟩ := hent i x hx
        rw [h1]; simp [h4]
    let Rr : Value → Option (DataW Unit × List MemPlace) := fun _ => some (.nil, [])
    have hrd : ∀ x ∈ es'.toList, ∃ kk, kk.length ≤ 100000 ∧ x.key = .string (S kk) ∧ rd P t Rr x = some (.string kk, .nil) := by
      intro x hx
      obtain ⟨i, hi⟩ := List.getElem?_of_mem hx
      obtain ⟨e, kk, _, h2, h3, _⟩ := hent i x hi
      have hl := k6 kk (List.mem_of_getElem? h2)
      refine ⟨kk, hl, h3, ?_⟩
      have hml : (S kk).size ≤ maxLen := by
        have : (S kk).size = kk.length := rfl
        rw [this]; unfold maxLen; omega
      simp only [rd, keyOf, ht, h3, mapKey]
      rw [if_pos hml]
      rfl
    have hfit : Fit P t Rr es' clk := by
      refine ⟨by unfold maxLen; omega, ⟨fun x hx => ?_, by rw [hborn]; exact k3, ?_⟩, fun x hx => ?_⟩
      · obtain ⟨i, hi⟩ := List.getElem?_of_mem hx
        obtain ⟨e, kk, h1, _, _, h4⟩ := hent i x hi
        rw [h4]; exact k4 e (List.mem_of_getElem? h1)
      · rw [hkeys]
        refine List.pairwise_map.2 (k2.imp fun {a b} hne e => hne ?_)
        simpa [S] using e
      · obtain ⟨kk, _, _, h⟩ := hrd x hx
        exact ⟨_, h⟩
    have hown : w.ownsMap P t Rr mm.blk es'.size (.map ((es'.toList.map (rg P t Rr)).foldr DataW.insert [])) := ⟨es', clk, q1, hfit, Nat.le_refl _, rfl⟩
    have hperm0 : ((es'.toList.map (rg P t Rr)).foldr DataW.insert []).Perm (es'.toList.map (rg P t Rr)) := Go.WideShapes.sorted_perm _
    have hsize : Maps.size (DataW.map ((es'.toList.map (rg P t Rr)).foldr DataW.insert [])) = es.length := by
      rw [Maps.size_eq, hperm0.length_eq, List.length_map, Array.length_toList, q3]
    have hstr : (strKeys (DataW.map ((es'.toList.map (rg P t Rr)).foldr DataW.insert []))).Perm ks := by
      refine (hperm0.map _).trans ?_
      rw [List.map_map]
      have : es'.toList.map ((fun p : Lit × DataW Unit => strOf p.1) ∘ rg P t Rr) = ks := by
        apply List.ext_getElem?
        intro i
        rw [List.getElem?_map]
        cases hx : es'.toList[i]? with
        | none =>
          have h1 : es'.size ≤ i := by simpa using hx
          rw [List.getElem?_eq_none (by omega)]; rfl
        | some x =>
          obtain ⟨e, kk, _, h2, h3, _⟩ := hent i x hx
          obtain ⟨kk', _, h5, h6⟩ := hrd x (List.mem_of_getElem? hx)
          rw [h2]
          have : kk' = kk := by rw [h3] at h5; simpa [S] using h5.symm
          subst this
          simp [rg, h6, strOf]
      rw [this]
    rw [hen, Oper.upon_enter]
    refine (h1 mb.blk mm.blk es'.size _ Rr w (R.blk _ _ ha3) hcell hown (by rw [hsize]; unfold maxLen; omega) (by rw [hsize]; omega)).mono ?_
    rintro e w' ⟨v, ss, rfl, hp, hrow, hnil, hb⟩
    have hpk : ss.Perm ks := hp.trans hstr
    have hb' : ∀ k, k < w.heap.size → w'.heap[k]? = w.heap[k]? := hb.block
    by_cases hk0 : ks = []
    · rw [if_pos hk0] at h
      simp only [Option.some.injEq, Prod.mk.injEq] at h
      obtain ⟨rfl, rfl⟩ := h
      have : ss = [] := by rw [hk0] at hpk; exact hpk.eq_nil
      rw [hnil.2 this]
      exact hn _ μ w' .slN (R.later hb.size hb' ⟨hb.os, hb.output⟩) (Ext.refl _ _)
    · rw [if_neg hk0] at h
      simp only [Option.some.injEq, Prod.mk.injEq] at h
      obtain ⟨rfl, rfl⟩ := h
      have hss : ss ≠ [] := fun e => hk0 (by rw [e] at hpk; exact hpk.symm.eq_nil)
      rcases hrow.2 with ⟨rfl, hz⟩ | ⟨gb, cap, cur, rfl, hbase, hgb2, hcap1, hcap2, hcur, htake⟩
      · exact absurd (hnil.1 rfl) hss
      · have hsl := hpk.length_eq
        have hsort : ss.mergeSort (fun x y => decide (x ≤ y)) = sortS ks := sortS_eq hpk
        have hslen : (sortS ks).length = ks.length := (sortS_perm ks).length_eq
        rw [hsort, Nat.mul_one] at htake
        have hvrs : VRs μ ((sortS ks).map fun k => Value.string (S k)) ((sortS ks).map encStr) := by
          generalize sortS ks = L
          induction L with
          | nil => trivial
          | cons x L ih => exact ⟨.string _, ih⟩
        have hor := OR.opened (P := P) (μ := μ) (blk := gb) (e := t) (l := (sortS ks).map fun k => Value.string (S k)) (l' := (sortS ks).map encStr) (rest := cur.toList.drop ss.length) (fr := (0, 0)) (s := false) (fz := 0) hvrs (fun v hv => by obtain ⟨x, _, rfl⟩ := List.mem_map.1 hv; rfl) (Nat.zero_le _) (.inl rfl)
        rw [← htake, List.take_append_drop] at hor
        have hnew := R.newAt (w' := w') hor (Nat.le_trans R.size hbase) (fun b1 m1 o1 z1 _ => by have := R.blk _ _ z1; show m1.blk ≠ gb; omega) hb.size hgb2 (fun k _ hk => hb' k hk) ⟨hb.os, hb.output⟩
        refine hn _ _ w' ?_ hnew.1 hnew.2
        rw [hsl]
        refine .sl (Nat.le_refl _) (.inl ⟨rfl, rfl, _, Mu.add_same _ _ _, rfl, .inr (.inl ⟨rfl, rfl, by omega, ?_, ?_⟩)⟩)
        · simp [hc1, hslen]
        · simp [hc1, hcur]
end Go.Cm
