/-
  A closed call over tables that are laid: by evaluation.
  And: A function that is known by a contract, as one step: strings.IndexByte. Functions without a text, by the model's own table: what abi.NoEscape, bytealg.IndexByteString, bytealg.CountString are here. strings.Split as one step, by the contract that the kit has of it. A buffer of bytes that grows, and is read as a string at last (strings.Builder). Slices that look at a part of a block; copies; what lies in such a part. Nothing of a program is proved here.
-/
import Derived.Test.YtjmiehbiindjdaaDoorCmG
import Derived.Lib.Bytealg
import Derived.Lib.Builder
import Derived.Laws.Externs
import Derived.Lib.Split
import Derived.Lib.SplitLaws
namespace Go.Cm
open Go

def flatL (f : DataW Unit → Option (List Value)) : List (DataW Unit) → Option (List Value)
  | [] => some []
  | d :: r => match f d, flatL f r with
    | some a, some b => some (a ++ b)
    | _, _ => none
/-- the cells of a datum that leads nowhere -/
def flatD : Nat → DataW Unit → Option (List Value)
  | 0, _ => none
  | n + 1, d => match d with
    | .lit (.bool b) => some [.bool b]
    | .lit (.int k m) => some [.int k m]
    | .lit (.string s) => some [.string ⟨s.toArray⟩]
    | .agg ds => flatL (flatD n) ds
    | _ => none

theorem flatL_eq {f : DataW Unit → Option (List Value)} : ∀ {ds : List (DataW Unit)} {ps : List (List Value)} {l : List Value}, flatL f ds = some l → ps.length = ds.length → (∀ (i : Nat) d p, ds[i]? = some d → ps[i]? = some p → ∀ q, f d = some q → p = q) → ps.flatten = l
  | [], [], l, h, _, _ => by simp only [flatL, Option.some.injEq] at h; subst h; rfl
  | [], _ :: _, _, _, h, _ => by simp at h
  | _ :: _, [], _, _, h, _ => by simp at h
  | d :: ds, p :: ps, l, h, hl, hi => by
    simp only [flatL] at h
    split at h
    · rename_i a b ha hb
      simp only [Option.some.injEq] at h
      subst h
      rw [List.flatten_cons, flatL_eq hb (by simpa using hl) (fun i d p h1 h2 => hi (i + 1) d p (by simpa using h1) (by simpa using h2)), hi 0 d p rfl rfl a ha]
    · cases h

theorem pieces (cs : List Value) (ce : Nat) : ∀ n, ((List.range n).map fun i => (cs.drop (i * ce)).take ce).flatten = cs.take (n * ce) := by
  intro n
  induction n with
  | zero => simp
  | succ n ih => rw [List.range_succ, List.map_append, List.flatten_append, ih, Nat.succ_mul, List.take_add]; simp

theorem trod_flat {P : Program} {w : World} {base : Nat} {hd : Bool} : ∀ (k : Nat) (t : TypeId) (cs : List Value) (d : DataW Unit) (ps : List MemPlace) (fuel dep : Nat), plainT P dep t = true → DataW.trod (fun _ => ()) P w base (fun _ => true) hd fuel t cs = some (d, ps) → ∀ l, flatD k d = some l → cs = l := by
  intro k
  induction k with
  | zero => intro t cs d ps fuel dep _ _ l h; cases h
  | succ k ih =>
    intro t cs d ps fuel dep hp h l hf
    obtain ⟨dep, rfl⟩ : ∃ f, dep = f + 1 := by
      cases dep with
      | zero => cases hp
      | succ f => exact ⟨f, rfl⟩
    obtain ⟨fuel, rfl⟩ : ∃ f, fuel = f + 1 := by
      cases fuel with
      | zero => cases h
      | succ f => exact ⟨f, rfl⟩
    unfold DataW.trod at h
    split at h
    case h_1 b hu =>
      simp only [Option.some.injEq, Prod.mk.injEq] at h
      obtain ⟨rfl, rfl⟩ := h
      simp only [flatD, Option.some.injEq] at hf
      exact hf
    case h_2 k' k'' n hu =>
      split at h
      · rename_i hk
        simp only [Option.some.injEq, Prod.mk.injEq] at h
        obtain ⟨rfl, rfl⟩ := h
        obtain ⟨rfl, hw⟩ := hk
        simp only [flatD, Option.some.injEq] at hf
        exact hf
      · cases h
    case h_4 s hu =>
      split at h
      · simp only [Option.some.injEq, Prod.mk.injEq] at h
        obtain ⟨rfl, rfl⟩ := h
        simp only [flatD, Option.some.injEq] at hf
        rw [← hf]
      · cases h
    case h_7 e hu =>
      simp only [Option.some.injEq, Prod.mk.injEq] at h
      obtain ⟨rfl, rfl⟩ := h
      simp [flatD] at hf
    case h_8 e a len cap hu =>
      split at h
      rotate_left
      · cases h
      simp only [if_true] at h
      obtain ⟨es, h1, h2⟩ := Option.bind_eq_some_iff.1 h
      obtain ⟨rest, h3, h4⟩ := Option.map_eq_some_iff.1 h2
      simp only [Prod.mk.injEq] at h4
      obtain ⟨rfl, rfl⟩ := h4
      simp [flatD] at hf
    case h_9 cs _ _ fs hu =>
      simp only [plainT, hu, Bool.and_eq_true, beq_iff_eq, List.all_eq_true] at hp
      split at h
      rotate_left
      · cases h
      rename_i hlen
      obtain ⟨xs, h1, h2⟩ := Option.map_eq_some_iff.1 h
      simp only [Prod.mk.injEq] at h2
      obtain ⟨rfl, rfl⟩ := h2
      obtain ⟨l1, g1⟩ := mapM_some h1
      simp only [flatD] at hf
      have hs := inRow_split cs hp.1
      rw [List.drop_zero, Nat.sub_zero, List.take_of_length_le (by omega)] at hs
      rw [← hs]
      refine flatL_eq hf (by simp [l1]) (fun i dd p hdd hpp q hq => ?_)
      rw [List.getElem?_map] at hdd hpp
      obtain ⟨x, hx, rfl⟩ := Option.map_eq_some_iff.1 hdd
      obtain ⟨fl, hfl, rfl⟩ := Option.map_eq_some_iff.1 hpp
      exact ih fl.type _ x.1 x.2 fuel dep (hp.2 fl (List.mem_of_getElem? hfl)) (g1 i fl x hfl hx) q hq
    case h_10 cs _ _ n e hu =>
      simp only [plainT, hu, Bool.and_eq_true, decide_eq_true_eq] at hp
      split at h
      rotate_left
      · cases h
      rename_i hlen
      obtain ⟨xs, h1, h2⟩ := Option.map_eq_some_iff.1 h
      simp only [Prod.mk.injEq] at h2
      obtain ⟨rfl, rfl⟩ := h2
      obtain ⟨l1, g1⟩ := mapM_some h1
      simp only [List.length_range] at l1
      simp only [flatD] at hf
      have hs := pieces cs (P.cellsOf e) n
      rw [List.take_of_length_le (by omega)] at hs
      rw [← hs]
      refine flatL_eq hf (by simp [l1]) (fun i dd p hdd hpp q hq => ?_)
      rw [List.getElem?_map] at hdd hpp
      obtain ⟨x, hx, rfl⟩ := Option.map_eq_some_iff.1 hdd
      obtain ⟨j, hj, rfl⟩ := Option.map_eq_some_iff.1 hpp
      exact ih e _ x.1 x.2 fuel dep hp.2 (g1 i j x hj hx) q hq
    all_goals first | (cases h; done) | skip
    all_goals
      rename_i hu
      simp only [plainT, hu] at hp
      cases hp

def flatV : Value → Bool
  | .bool _ | .int _ _ | .string _ => true
  | _ => false
theorem flatV_one {v : Value} (h : flatV v = true) : one v = true := by cases v <;> first | rfl | cases h
theorem flatV_vr {v : Value} (h : flatV v = true) (μ : Mu) : VR μ v v := by cases v <;> first | exact .bool _ | exact .int _ _ | exact .string _ | cases h

/-- a table's cells, off the list of the row -/
theorem win_of_laid {P : Program} {w : World} {laid : List (String × DataW Unit)} (hh : (laid.filter fun x => x.2.handleName?.isSome) = []) (hL : laidMetH P laid w) (hsh : w.ShapedOpen P) {n : String} {d : DataW Unit} {g k dep : Nat} {t e : TypeId} {l : List Value}
    (hm : (n, d) ∈ laid) (hg : P.globalNamed n = some g) (ht : (P.globals[g]?).map (·.type) = some t) (hp : plainT P dep t = true) (hf : flatD k d = some l) (hlt : g < P.globals.size)
    (hrow : (((begin P (fun _ _ => 0) default).world.heap[g]?).bind Obj.row?).map (·.2) = some e) : ∃ c fr, w.heap[g]? = some (.cells c e fr) ∧ c.toList = l := by
  have hL' : laidMet P laid w := by unfold laidMetH at hL; rw [hh] at hL; exact hL
  obtain ⟨ps, hv, _, _⟩ := hL'
  obtain ⟨x, hx, rfl⟩ := Option.map_eq_some_iff.1 hrow
  obtain ⟨cs, h1, _⟩ := hsh.1 g x.1 x.2 hlt hx
  obtain ⟨g2, t2, cs2, fuel, p, q1, q2, q3, q4⟩ := laidVars_mem hv n d hm
  rw [hg] at q1
  cases q1
  rw [ht] at q2
  cases q2
  refine ⟨_, _, h1, ?_⟩
  unfold World.var? at q3
  rw [hg] at q3
  simp only [Option.bind_some, h1, Option.some.injEq] at q3
  subst q3
  exact trod_flat k t _ d p fuel dep hp q4 l hf

/-- a closed call that answers true over tables -/
theorem closed_ok {P : Program} {w : World} {gl : List Nat} {C : CProg} {W0 : List Win} {f N d n0 ng : Nat} {H1 : Heap} (hC : ∀ w', ProgOK P (startG W0.length W0.length w') gl C)
    (hW : ∀ (g : Nat) x, W0[g]? = some x → x.blk = g ∧ x.off = 0 ∧ (∀ v ∈ x.cells, flatV v = true) ∧ ∃ c fr, w.heap[g]? = some (.cells c x.elem fr) ∧ (x.cells = [] ∨ c.toList = x.cells))
    (hev : callD C N d f [] (heapW W0) = some (.bool true, H1)) : CallOK P (startG ng n0 w) (sure f) := by
  intro g vs vs' H v H' μ w' h R hvs o a next Q hn
  unfold sure at h
  split at h
  · rename_i e
    subst e
    match vs, hvs, h with
    | [], hvs, h =>
      simp only [Option.some.injEq, Prod.mk.injEq] at h
      obtain ⟨rfl, rfl⟩ := h
      match vs', hvs with
      | [], _ =>
        have hheap : ∀ (b : Nat) (c : Array Value) (e : TypeId) (fr : Nat × Nat), w.heap[b]? = some (Obj.cells c e fr) → w'.heap[b]? = some (Obj.cells c e fr) := fun b c e fr hb => by
          rw [R.base b (Array.getElem?_eq_some_iff.1 hb).1]
          exact hb
        have R' : RR P (startG W0.length W0.length w') (muW P w' W0) (heapW W0) w' := by
          refine RR.winsG (Nat.le_refl _) (fun b hb => ?_) (fun x hx => ?_)
          · obtain ⟨h1, h2, _⟩ := hW b _ (List.getElem?_eq_getElem hb)
            refine ⟨W0[b].cells, W0[b].elem, ?_⟩
            rw [List.getElem?_eq_getElem hb]
            generalize W0[b] = x at *
            obtain ⟨x1, x2, x3, x4⟩ := x
            simp only at h1 h2
            subst h1 h2
            rfl
          · obtain ⟨b, hb⟩ := List.getElem?_of_mem hx
            obtain ⟨h1, h2, h3, c, fr, h4, h5⟩ := hW b x hb
            refine ⟨c, fr, by rw [h1]; exact hheap _ _ _ _ h4, ?_, fun i v hv => ⟨flatV_one (h3 v (List.mem_of_getElem? hv)), v, ?_, flatV_vr (h3 v (List.mem_of_getElem? hv)) _⟩⟩
            · rw [h2]
              rcases h5 with h5 | h5
              · rw [h5]; simp
              · rw [← h5]; simp
            · rcases h5 with h5 | h5
              · rw [h5] at hv; simp at hv
              · rw [h2, Nat.add_zero, ← Array.getElem?_toList, h5]; exact hv
        refine callD_ok (hC w') d g [] [] _ _ H1 _ w' hev R' trivial o a next Q ?_
        intro v' μ' w'' hv hR hE
        rw [hv.bool_inv]
        exact hn _ μ w'' (.bool true) (R.later hR.size (fun b h => hR.base b h) hR.io) (Ext.refl _ _)
    | _ :: _, _, h => cases h
  · cases h
end Go.Cm

namespace Go.Cm
open Go Go.RowKit

end Go.Cm

namespace Go.Cm
open Go Go.RowKit

end Go.Cm

namespace Go.Cm
open Go Go.RowKit

end Go.Cm

namespace Go.Cm
open Go

/-- bytes as cells -/
def bc (l : List UInt8) : List Value := l.map fun b => .int .u8 b.toNat
/-- a buffer of bytes that is no string's yet -/
def Buf (H : Heap) (s : Sl) (l : List UInt8) (e : TypeId) : Prop :=
  (s = ⟨none, 0, 0⟩ ∧ l = []) ∨ ∃ b n, s = ⟨some ⟨b, 0, none⟩, n, n⟩ ∧ l.length = n ∧ 0 < n ∧ b < H.next ∧ ∃ o, H.get b = some (.cells (bc l) e o 0 false)

theorem Buf.keep {S : Nat → Prop} {H H' : Heap} {s : Sl} {l : List UInt8} {e : TypeId} (h : Buf H s l e) (hk : Keep S H H') (hn : ∀ k, s.at k → ¬ S k) : Buf H' s l e := by
  rcases h with h | ⟨b, n, rfl, h1, h0, h2, o, h3⟩
  · exact .inl h
  · exact .inr ⟨b, n, rfl, h1, h0, Nat.lt_of_lt_of_le h2 hk.1, o, (hk.2 b h2 (hn b ⟨_, rfl, rfl⟩)).trans h3⟩
theorem Buf.len {H : Heap} {s : Sl} {l : List UInt8} {e : TypeId} (h : Buf H s l e) : s.n = l.length := by
  rcases h with ⟨rfl, rfl⟩ | ⟨b, n, rfl, h1, _⟩
  · rfl
  · exact h1.symm
theorem Buf.lt {H : Heap} {s : Sl} {l : List UInt8} {e : TypeId} (h : Buf H s l e) {k : Nat} (hk : s.at k) : k < H.next := by
  obtain ⟨a, h1, rfl⟩ := hk
  rcases h with ⟨rfl, _⟩ | ⟨b, n, rfl, _, _, h2, _⟩
  · cases h1
  · cases h1; exact h2

/-- a strings.Builder at p that holds the bytes l in the buffer s -/
def Bld (T e : TypeId) (H : Heap) (p : Nat) (s : Sl) (l : List UInt8) : Prop :=
  p < H.next ∧ (∃ pa, H.get p = some (.cells [.pointer pa, s.v] T false 0 false) ∧ (pa = none ∨ pa = some ⟨p, 0, none⟩)) ∧ Buf H s l e ∧ ¬ s.at p

theorem Bld.keep {T e : TypeId} {S : Nat → Prop} {H H' : Heap} {p : Nat} {s : Sl} {l : List UInt8} (h : Bld T e H p s l) (hk : Keep S H H') (hp : ¬ S p) (hn : ∀ k, s.at k → ¬ S k) : Bld T e H' p s l := by
  obtain ⟨h1, ⟨pa, h2, h3⟩, h4, h5⟩ := h
  exact ⟨Nat.lt_of_lt_of_le h1 hk.1, ⟨pa, (hk.2 p h1 hp).trans h2, h3⟩, h4.keep hk hn, h5⟩

theorem Bld.new (T e : TypeId) (H : Heap) : Bld T e (H.new (.cells [.pointer none, .slice none 0 0] T false 0 false)) H.next Sl.nil [] :=
  ⟨by simp, ⟨none, by simp, .inl rfl⟩, .inl ⟨rfl, rfl⟩, Sl.at_nil⟩
end Go.Cm

namespace Go.Cm
open Go

abbrev Keep0 := Keep fun _ => False
theorem Keep0.trans {H H' H'' : Heap} (h : Keep0 H H') (h' : Keep0 H' H'') : Keep0 H H'' := Keep.trans h h' fun _ _ h => h
theorem Keep0.to {S : Nat → Prop} {H H' : Heap} (h : Keep0 H H') : Keep S H H' := Keep.mono h fun _ _ h => h.elim
theorem Keep0.get {H H' : Heap} (h : Keep0 H H') {b : Nat} {o : CObj} (hb : b < H.next) (hg : H.get b = some o) : H'.get b = some o := (h.2 b hb id).trans hg
/-- a change of new blocks alone is none -/
theorem Keep.fresh {S : Nat → Prop} {H H1 H2 : Heap} (h : Keep0 H H1) (h' : Keep S H1 H2) (hs : ∀ k, S k → H.next ≤ k) : Keep0 H H2 :=
  ⟨Nat.le_trans h.1 h'.1, fun k hk _ => (h'.2 k (Nat.lt_of_lt_of_le hk h.1) (fun e => by have := hs k e; omega)).trans (h.2 k hk id)⟩
theorem asSL_k {α : Type} (s : Sl) (K : Sl → Option α) : asSL s.v K = K s := rfl
theorem asSL_k2 {α : Type} (a : Option Addr) (n c : Nat) (K : Sl → Option α) : asSL (.slice a n c) K = K ⟨a, n, c⟩ := rfl

/-- a slice over a part of block b: A lies ahead, cs is in it, Z lies behind -/
structure Vw (H : Heap) (s : Sl) (b : Nat) (A cs Z : List Value) (e : TypeId) (sz : Nat) : Prop where
  sa : s.a = some ⟨b, A.length, none⟩
  hn : cs.length = s.n * sz
  hc : s.n ≤ s.c
  lt : b < H.next
  get : ∃ o st, H.get b = some (.cells (A ++ (cs ++ Z)) e o 0 st)

theorem Vw.keep {S : Nat → Prop} {H H' : Heap} {s : Sl} {b : Nat} {A cs Z : List Value} {e : TypeId} {sz : Nat} (h : Vw H s b A cs Z e sz) (hk : Keep S H H') (hs : ¬ S b) : Vw H' s b A cs Z e sz := by
  obtain ⟨h1, h2, h3, h4, o, st, h5⟩ := h
  exact ⟨h1, h2, h3, Nat.lt_of_lt_of_le h4 hk.1, o, st, (hk.2 b h4 hs).trans h5⟩
theorem Vw.of {H : Heap} {s : Sl} {cs : List Value} {e : TypeId} {sz : Nat} (h : Whole H s cs e sz) (hne : s.a ≠ none) : ∃ b, Vw H s b [] cs [] e sz ∧ s.at b := by
  rcases h with ⟨rfl, _⟩ | ⟨b, n, rfl, h1, h2, o, st, h3⟩
  · exact absurd rfl hne
  · exact ⟨b, ⟨rfl, h1, Nat.le_refl _, h2, o, st, by simpa using h3⟩, _, rfl, rfl⟩
theorem Whole.vw {H : Heap} {b n : Nat} {cs : List Value} {e : TypeId} {sz : Nat} (h : Whole H ⟨some ⟨b, 0, none⟩, n, n⟩ cs e sz) : Vw H ⟨some ⟨b, 0, none⟩, n, n⟩ b [] cs [] e sz := by
  rcases h with ⟨h, _⟩ | ⟨b, n, h, h1, h2, o, st, h3⟩
  · cases h
  · cases h; exact ⟨rfl, h1, Nat.le_refl _, h2, o, st, by simpa using h3⟩

/-- a part of it -/
def subS (s : Sl) (l h sz : Nat) : Sl := ⟨s.a.map fun a => ⟨a.block, a.off + l * sz, none⟩, h - l, s.c - l⟩
theorem Vw.sub {H : Heap} {s : Sl} {b : Nat} {A cs Z : List Value} {e : TypeId} {sz : Nat} (v : Vw H s b A cs Z e sz) {l h : Nat} (h1 : l ≤ h) (h2 : h ≤ s.n) :
    Vw H (subS s l h sz) b (A ++ cs.take (l * sz)) ((cs.drop (l * sz)).take ((h - l) * sz)) (cs.drop (h * sz) ++ Z) e sz := by
  obtain ⟨a1, a2, a3, a4, o, st, a5⟩ := v
  have hm : l * sz ≤ cs.length := by rw [a2]; exact Nat.mul_le_mul_right _ (by omega)
  have hm2 : h * sz ≤ cs.length := by rw [a2]; exact Nat.mul_le_mul_right _ (by omega)
  have hlh : l * sz + (h - l) * sz = h * sz := by rw [← Nat.add_mul]; congr 1; omega
  refine ⟨?_, ?_, ?_, a4, o, st, ?_⟩
  · simp only [subS, a1, Option.map_some, List.length_append, List.length_take, Nat.min_eq_left hm]
  · simp only [subS, List.length_take, List.length_drop]; omega
  · show h - l ≤ s.c - l; omega
  · rw [a5]
    have : A ++ cs.take (l * sz) ++ ((cs.drop (l * sz)).take ((h - l) * sz) ++ (cs.drop (h * sz) ++ Z)) = A ++ (cs ++ Z) := by
      rw [List.append_assoc]
      congr 1
      rw [← List.append_assoc, ← List.append_assoc]
      congr 1
      rw [List.append_assoc]
      have e1 : (cs.drop (l * sz)).take ((h - l) * sz) ++ cs.drop (h * sz) = cs.drop (l * sz) := by
        conv => rhs; rw [← List.take_append_drop ((h - l) * sz) (cs.drop (l * sz))]
        rw [List.drop_drop, hlh]
      rw [e1, List.take_append_drop]
    rw [this]

theorem Vw.opn {H : Heap} {s : Sl} {b : Nat} {A cs Z : List Value} {e : TypeId} {sz : Nat} (v : Vw H s b A cs Z e sz) : H.opnOk b e = true := by
  obtain ⟨_, _, _, _, o, st, h⟩ := v
  simp [Heap.opnOk, h]
theorem sub_addr {a : Addr} (ha : a.spot = none) (l sz : Nat) : (if l = 0 then a else ap a (l * sz)) = ⟨a.block, a.off + l * sz, none⟩ := by
  split
  · rename_i h; subst h
    obtain ⟨b, o, s⟩ := a
    simp only at ha
    subst ha
    simp
  · rfl
section
variable {H : Heap} {s : Sl} {b : Nat} {A cs Z : List Value} {e : TypeId} {sz : Nat} (v : Vw H s b A cs Z e sz)
include v
theorem Vw.s_lh {l h : Nat} {k k' : IntKind} (h1 : l ≤ h) (h2 : h ≤ s.n) : readD (.subSl e sz true true false) [s.v, .int k (l : Int), .int k' (h : Int)] H = some (subS s l h sz).v := by
  have hc := v.hc
  have ho := v.opn
  simp only [readD, Sl.v, asSl, bnds, asN_s, v.sa]
  rw [if_pos (by omega)]
  simp only [Int.toNat_natCast, ho, Bool.or_true, chk, subS, Option.map_some, v.sa]
  rw [sub_addr rfl]
theorem Vw.s_l {l : Nat} {k : IntKind} (h1 : l ≤ s.n) : readD (.subSl e sz true false false) [s.v, .int k (l : Int)] H = some (subS s l s.n sz).v := by
  have ho := v.opn
  simp only [readD, Sl.v, asSl, bnds, asN_s, v.sa]
  rw [if_pos (by omega)]
  simp only [Int.toNat_natCast, ho, Bool.or_true, chk, subS, Option.map_some, v.sa]
  rw [sub_addr rfl]
theorem Vw.s_h {h : Nat} {k : IntKind} (h1 : h ≤ s.n) : readD (.subSl e sz false true false) [s.v, .int k (h : Int)] H = some (subS s 0 h sz).v := by
  have hc := v.hc
  have ho := v.opn
  simp only [readD, Sl.v, asSl, bnds, asN_s, v.sa]
  rw [if_pos (by omega)]
  simp only [Int.toNat_natCast, ho, Bool.or_true, chk, subS, Option.map_some, v.sa]
  simp only [if_true, Nat.zero_mul, Nat.add_zero]
theorem Vw.src {n : Nat} (hn : n ≤ s.n) : srcCells H sz n s.v = some (cs.take (n * sz)) := by
  obtain ⟨a1, a2, a3, a4, o, st, a5⟩ := v
  simp only [srcCells, Sl.v, a1]
  have hm : n * sz ≤ cs.length := by rw [a2]; exact Nat.mul_le_mul_right _ hn
  by_cases h0 : n = 0
  · subst h0; simp
  · rw [if_neg h0, ldN_s a5 (by simp only [List.length_append]; omega), List.drop_left' rfl, List.take_append_of_le_length hm]
theorem Vw.ld {i : Nat} {x : Value} (hx : cs[i]? = some x) : Heap.ld1 H ⟨b, A.length + i, none⟩ = some x := by
  obtain ⟨a1, a2, a3, a4, o, st, a5⟩ := v
  have hi := (List.getElem?_eq_some_iff.1 hx).1
  rw [ld1_s a5, List.getElem?_append_right (by omega), Nat.add_sub_cancel_left, List.getElem?_append_left hi, hx]
/-- a write into it -/
theorem Vw.stN {new : List Value} {i : Nat} (hi : i + new.length ≤ cs.length) : ∃ H', H.stN ⟨b, A.length + i, none⟩ new = some H' ∧ Vw H' s b A (cs.take i ++ (new ++ cs.drop (i + new.length))) Z e sz ∧ Keep (fun k => k = b) H H' ∧ H'.next = H.next := by
  obtain ⟨a1, a2, a3, a4, o, st, a5⟩ := v
  have hs : splice (A ++ (cs ++ Z)) (A.length + i) new = A ++ ((cs.take i ++ (new ++ cs.drop (i + new.length))) ++ Z) := by
    unfold splice
    rw [List.take_append, List.take_of_length_le (by omega), Nat.add_sub_cancel_left, List.take_append_of_le_length (by omega), Nat.add_assoc, List.drop_append, List.drop_eq_nil_of_le (by omega), Nat.add_sub_cancel_left, List.drop_append_of_le_length (by omega)]
    simp
  refine ⟨H.put b (.cells (A ++ ((cs.take i ++ (new ++ cs.drop (i + new.length))) ++ Z)) e o 0 st), ?_, ⟨a1, ?_, a3, a4, o, st, by simp⟩, Keep.put _ _ _ rfl, rfl⟩
  · simp only [Heap.stN, a5]
    rw [if_pos (by simp only [List.length_append]; omega), hs]
  · simp only [List.length_append, List.length_take, List.length_drop]; omega
theorem Vw.st1 {x : Value} {i : Nat} (hi : i < cs.length) : ∃ H', H.st1 ⟨b, A.length + i, none⟩ x = some H' ∧ Vw H' s b A (cs.set i x) Z e sz ∧ Keep (fun k => k = b) H H' ∧ H'.next = H.next := by
  obtain ⟨a1, a2, a3, a4, o, st, a5⟩ := v
  refine ⟨H.put b (.cells (A ++ (cs.set i x ++ Z)) e o 0 st), ?_, ⟨a1, by simpa using a2, a3, a4, o, st, by simp⟩, Keep.put _ _ _ rfl, rfl⟩
  rw [st1_s a5 (by simp only [List.length_append]; omega) (by omega), List.set_append_right _ _ (by omega), Nat.add_sub_cancel_left, List.set_append_left _ _ hi]
/-- a copy into it -/
theorem Vw.copy {x : Value} {m : Nat} {str : Bool} (new : List Value) (h0 : 0 < sz) (h1 : srcN str x = some m) (h2 : srcCells H sz (min m s.n) x = some new) (h3 : new.length = min m s.n * sz) :
    ∃ H', (∀ K, effK (.copy sz str) [s.v, x] H K = K (.int .i64 ((min m s.n : Nat) : Int)) H') ∧ Vw H' s b A (new ++ cs.drop new.length) Z e sz ∧ Keep (fun k => k = b) H H' ∧ H'.next = H.next := by
  have hn := v.hn
  have hle : new.length ≤ cs.length := by rw [h3, hn]; exact Nat.mul_le_mul_right _ (Nat.min_le_right _ _)
  by_cases hz : min m s.n = 0
  · have hnil : new = [] := List.eq_nil_of_length_eq_zero (by rw [h3, hz]; simp)
    subst hnil
    refine ⟨H, fun K => ?_, by simpa using v, Keep.refl _, rfl⟩
    simp only [effK, asSl, h1, optK]
    rw [if_pos hz, hz]; rfl
  · obtain ⟨H', e1, e2, e3, e4⟩ := v.stN (new := new) (i := 0) (by omega)
    refine ⟨H', fun K => ?_, by simpa using e2, e3, e4⟩
    rw [Nat.add_zero] at e1
    have hsa := v.sa
    simp only [effK, asSl, h1, optK]
    rw [if_neg hz, if_pos h0]
    have h2' := h2
    rw [h2']
    simp only [hsa, e1]
end

/-- a slice's block -/
theorem Vw.at {H : Heap} {s : Sl} {b : Nat} {A cs Z : List Value} {e : TypeId} {sz : Nat} (v : Vw H s b A cs Z e sz) : s.at b := ⟨_, v.sa, rfl⟩

/-! ### runs of parts of the same size -/
section
variable {α : Type} (f : α → List Value) (n : Nat) (hf : ∀ a, (f a).length = n)
include hf
theorem fm_len (L : List α) : (L.flatMap f).length = L.length * n := by
  induction L with
  | nil => simp
  | cons a L ih => simp only [List.flatMap_cons, List.length_append, hf, ih, List.length_cons, Nat.add_mul]; omega
theorem fm_drop (L : List α) (i : Nat) : (L.flatMap f).drop (i * n) = (L.drop i).flatMap f := by
  induction L generalizing i with
  | nil => simp
  | cons a L ih =>
    cases i with
    | zero => simp
    | succ i =>
      rw [List.flatMap_cons, List.drop_succ_cons, ← ih i, List.drop_append, hf, List.drop_eq_nil_of_le (by rw [hf, Nat.add_mul]; omega), Nat.add_mul]
      simp
theorem fm_take (L : List α) (i : Nat) : (L.flatMap f).take (i * n) = (L.take i).flatMap f := by
  induction L generalizing i with
  | nil => simp
  | cons a L ih =>
    cases i with
    | zero => simp
    | succ i =>
      rw [List.flatMap_cons, List.take_succ_cons, List.flatMap_cons, ← ih i, List.take_append, hf, List.take_of_length_le (by rw [hf, Nat.add_mul]; omega), Nat.add_mul]
      congr 2; omega
theorem fm_at {L : List α} {i : Nat} {a : α} (h : L[i]? = some a) : ((L.flatMap f).drop (i * n)).take n = f a := by
  rw [fm_drop f n hf]
  obtain ⟨hlt, e⟩ := List.getElem?_eq_some_iff.1 h
  rw [List.drop_eq_getElem_cons hlt, e, List.flatMap_cons, List.take_left' (hf a)]
end
end Go.Cm
