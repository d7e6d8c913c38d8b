/-
  The clean machine's memory: a heap of blocks with its laws, and the relation between clean and real values and heaps; nothing of a program is proved here.
  And: The clean machine: its code (types resolved), and what it does, in continuation style; nothing of a program is proved here. The clean machine's code is made of the model's: 'compile'; its conditions are closed facts of a program. The clean machine's pure instructions do what the model's operations do. The clean machine's pure instructions do what the model's operations do: numbers, strings, comparisons, conversions. The clean machine's pure instructions: '==' on plain structs and arrays. The clean machine's pure instructions do what the model's operations do: all of them. The clean machine's pure instructions do what the model's operations do: the theorem. The clean machine's pure instructions do what the model's operations do: the theorem, joined. The clean machine's pure instructions do what the model's operations do: every operation. The clean machine's instructions that read memory do what the model's operations do.
-/
import Derived.Tactics
import Derived.Orders
import GoSem.Core.Utf8
import GoSem.Builtin.Append
import GoSem.Dispatch
import Derived.Laws.Entries
import Derived.Laws.Concat
import Derived.Laws.StructEq
import Derived.Laws.Slices
import Derived.Laws.Build
namespace Go.Cm
open Go

/-- Is it the value of one cell? -/
def one : Value → Bool
  | .agg _ | .tuple _ => false
  | _ => true

/-- What a clean block holds: cells (element type, may the real block be longer, how many first cells are frozen, is it marked as a string's bytes), a map, a string's iterator. -/
inductive CObj where
  | cells (c : List Value) (elem : TypeId) (opn : Bool) (fz : Nat) (str : Bool)
  | map (es : List (Value × Value × Nat)) (clock : Nat)
  | iter (s : ByteArray) (pos : Nat)

inductive Tr where
  | leaf
  | node (l : Tr) (v : Option (Option CObj)) (r : Tr)

def Tr.get : Tr → Nat → Option (Option CObj)
  | .leaf, _ => none
  | .node l v r, n => match n with
    | 0 => v
    | m + 1 => if m % 2 = 0 then l.get (m / 2) else r.get (m / 2)

def Tr.left : Tr → Tr
  | .leaf => .leaf
  | .node l _ _ => l
def Tr.right : Tr → Tr
  | .leaf => .leaf
  | .node _ _ r => r
def Tr.val : Tr → Option (Option CObj)
  | .leaf => none
  | .node _ v _ => v

def Tr.setA : Nat → Tr → Nat → Option CObj → Tr
  | 0, t, _, _ => t
  | f + 1, t, n, x => match n with
    | 0 => .node t.left (some x) t.right
    | m + 1 => if m % 2 = 0 then .node (Tr.setA f t.left (m / 2) x) t.val t.right else .node t.left t.val (Tr.setA f t.right (m / 2) x)

theorem Tr.get_leaf (n : Nat) : Tr.get .leaf n = none := by cases n <;> rfl
theorem Tr.get_zero (t : Tr) : t.get 0 = t.val := by cases t <;> rfl
theorem Tr.get_succ (t : Tr) (m : Nat) : t.get (m + 1) = if m % 2 = 0 then t.left.get (m / 2) else t.right.get (m / 2) := by
  cases t with
  | leaf => simp [Tr.left, Tr.right, Tr.get_leaf]
  | node l v r => simp [Tr.get, Tr.left, Tr.right]

theorem Tr.get_setA (x : Option CObj) : ∀ (f : Nat) (t : Tr) (n k : Nat), n < f → (Tr.setA f t n x).get k = if k = n then some x else t.get k := by
  intro f
  induction f with
  | zero => intro t n k h; omega
  | succ f ih =>
    intro t n k h
    cases n with
    | zero =>
      simp only [Tr.setA]
      cases k with
      | zero => simp [Tr.get_zero, Tr.val]
      | succ k => rw [Tr.get_succ, Tr.get_succ]; simp [Tr.left, Tr.right]
    | succ m =>
      simp only [Tr.setA]
      by_cases hm : m % 2 = 0
      · rw [if_pos hm]
        cases k with
        | zero => simp [Tr.get_zero, Tr.val]
        | succ k =>
          rw [Tr.get_succ, Tr.get_succ]
          simp only [Tr.left, Tr.right]
          by_cases hk : k % 2 = 0
          · rw [if_pos hk, if_pos hk, ih _ _ _ (by omega)]
            have : (k / 2 = m / 2) ↔ (k + 1 = m + 1) := by omega
            simp only [this]
          · rw [if_neg hk, if_neg hk]
            have : ¬ (k + 1 = m + 1) := by omega
            rw [if_neg this]
      · rw [if_neg hm]
        cases k with
        | zero => simp [Tr.get_zero, Tr.val]
        | succ k =>
          rw [Tr.get_succ, Tr.get_succ]
          simp only [Tr.left, Tr.right]
          by_cases hk : k % 2 = 0
          · rw [if_pos hk, if_pos hk]
            have : ¬ (k + 1 = m + 1) := by omega
            rw [if_neg this]
          · rw [if_neg hk, if_neg hk, ih _ _ _ (by omega)]
            have : (k / 2 = m / 2) ↔ (k + 1 = m + 1) := by omega
            simp only [this]

structure Heap where
  tr : Tr
  next : Nat
  base : Nat → Option CObj

namespace Heap
def get (H : Heap) (b : Nat) : Option CObj := match H.tr.get b with
  | some x => x
  | none => H.base b
def setO (H : Heap) (b : Nat) (x : Option CObj) : Heap := { H with tr := Tr.setA (b + 1) H.tr b x }
def put (H : Heap) (b : Nat) (o : CObj) : Heap := H.setO b (some o)
def kill (H : Heap) (b : Nat) : Heap := H.setO b none
def new (H : Heap) (o : CObj) : Heap := { H with tr := Tr.setA (H.next + 1) H.tr H.next (some o), next := H.next + 1 }

variable (H : Heap) (b k : Nat) (o : CObj) (x : Option CObj)
theorem get_setO : (H.setO b x).get k = if k = b then x else H.get k := by
  unfold get setO
  simp only [Tr.get_setA x (b + 1) H.tr b k (by omega)]
  by_cases h : k = b <;> simp [h]
theorem get_put : (H.put b o).get k = if k = b then some o else H.get k := get_setO _ _ _ _
theorem get_kill : (H.kill b).get k = if k = b then none else H.get k := get_setO _ _ _ _
theorem get_new : (H.new o).get k = if k = H.next then some o else H.get k := by
  unfold get new
  simp only [Tr.get_setA (some o) (H.next + 1) H.tr H.next k (by omega)]
  by_cases h : k = H.next <;> simp [h]
@[simp] theorem get_put_same : (H.put b o).get b = some o := by rw [get_put, if_pos rfl]
theorem get_put_ne {b k : Nat} (h : k ≠ b) : (H.put b o).get k = H.get k := by rw [get_put, if_neg h]
@[simp] theorem get_new_same : (H.new o).get H.next = some o := by rw [get_new, if_pos rfl]
theorem get_new_ne {k : Nat} (h : k ≠ H.next) : (H.new o).get k = H.get k := by rw [get_new, if_neg h]
@[simp] theorem get_kill_same : (H.kill b).get b = none := by rw [get_kill, if_pos rfl]
theorem get_kill_ne {b k : Nat} (h : k ≠ b) : (H.kill b).get k = H.get k := by rw [get_kill, if_neg h]
@[simp] theorem next_put : (H.put b o).next = H.next := rfl
@[simp] theorem next_kill : (H.kill b).next = H.next := rfl
@[simp] theorem next_new : (H.new o).next = H.next + 1 := rfl
end Heap

/-- Where a clean block lies in the real memory: the real block, the shift, how many cells are known, how many there are, the element's cells, may there be more. -/
structure MB where
  blk : Nat
  sh : Nat
  n : Nat
  rs : Nat
  esz : Nat
  opn : Bool

abbrev Mu := Nat → Option MB

def AR (μ : Mu) (a a' : Addr) : Prop :=
  a.spot = none ∧ a'.spot = none ∧ ∃ m, μ a.block = some m ∧ a'.block = m.blk ∧ a'.off = a.off + m.sh

/-- A clean slice (a, len, cc) and a real one (a', len, rc). -/
def SR0 (μ : Mu) (a a' : Addr) (len cc rc : Nat) : Prop :=
  a.spot = none ∧ a'.spot = none ∧ ∃ m, μ a.block = some m ∧ a'.block = m.blk ∧
    ((a'.off = a.off + m.sh ∧ rc = cc) ∨
     (m.opn = true ∧ a'.off = a.off + m.sh ∧ cc ≤ rc ∧ a.off + cc * m.esz = m.n ∧ a'.off + rc * m.esz ≤ m.rs) ∨
     (len = 0 ∧ cc = 0 ∧ (rc = 0 ∨ (m.opn = true ∧ m.n + m.sh ≤ a'.off ∧ a'.off + rc * m.esz ≤ m.rs))))
/-- where an empty slice lies of whose place nothing is known -/
def dang : Addr := ⟨0, 0, some 0⟩
def SR (μ : Mu) (a a' : Addr) (len cc rc : Nat) : Prop := SR0 μ a a' len cc rc ∨ (a = dang ∧ len = 0 ∧ cc = 0 ∧ rc = 0)

inductive VR (μ : Mu) : Value → Value → Prop where
  | bool (b : Bool) : VR μ (.bool b) (.bool b)
  | int (k : IntKind) (n : Int) : VR μ (.int k n) (.int k n)
  | string (s : ByteArray) : VR μ (.string s) (.string s)
  | ptrN : VR μ (.pointer none) (.pointer none)
  | ptr {a a' : Addr} (h : AR μ a a') : VR μ (.pointer (some a)) (.pointer (some a'))
  | slN : VR μ (.slice none 0 0) (.slice none 0 0)
  | sl {a a' : Addr} {n c c' : Nat} (hl : n ≤ c) (h : SR μ a a' n c c') : VR μ (.slice (some a) n c) (.slice (some a') n c')
  | mapN : VR μ (.map none) (.map none)
  | map {r : Nat} {m : MB} (h : μ r = some m) (hs : m.sh = 0) : VR μ (.map (some r)) (.map (some m.blk))
  | func (fn : Fn) {f f' c c' : Array Value} (hf : f.size = f'.size) (hf' : ∀ (i : Nat) (h : i < f.size) (h' : i < f'.size), VR μ f[i] f'[i])
      (hc : c.size = c'.size) (hc' : ∀ (i : Nat) (h : i < c.size) (h' : i < c'.size), VR μ c[i] c'[i]) : VR μ (.func fn f c) (.func fn f' c')
  | nilFunc : VR μ .nilFunc .nilFunc
  | iface (t : TypeId) {v v' : Value} (h : VR μ v v') : VR μ (.iface t v) (.iface t v')
  | nilIface : VR μ .nilIface .nilIface
  | agg {c c' : Array Value} (hs : c.size = c'.size) (h : ∀ (i : Nat) (h : i < c.size) (h' : i < c'.size), VR μ c[i] c'[i])
      (ho : ∀ (i : Nat) (h : i < c.size), one c[i] = true) : VR μ (.agg c) (.agg c')
  | tuple {c c' : Array Value} (hs : c.size = c'.size) (h : ∀ (i : Nat) (h : i < c.size) (h' : i < c'.size), VR μ c[i] c'[i]) : VR μ (.tuple c) (.tuple c')

theorem VR.one_eq {μ : Mu} {v v' : Value} (h : VR μ v v') : one v' = one v := by cases h <;> rfl

/-- μ' knows what μ knows. -/
def Mu.le (μ μ' : Mu) : Prop := ∀ b m, μ b = some m → μ' b = some m
theorem Mu.le_refl (μ : Mu) : μ.le μ := fun _ _ h => h
theorem Mu.le_trans {μ μ' μ'' : Mu} (h : μ.le μ') (h' : μ'.le μ'') : μ.le μ'' := fun b m e => h' b m (h b m e)

theorem AR.mono {μ μ' : Mu} (hm : μ.le μ') {a a' : Addr} (h : AR μ a a') : AR μ' a a' := by
  obtain ⟨h1, h2, m, h3, h4⟩ := h
  exact ⟨h1, h2, m, hm _ _ h3, h4⟩
theorem SR.mono {μ μ' : Mu} (hm : μ.le μ') {a a' : Addr} {n c c' : Nat} (h : SR μ a a' n c c') : SR μ' a a' n c c' := by
  rcases h with ⟨h1, h2, m, h3, h4⟩ | h
  · exact .inl ⟨h1, h2, m, hm _ _ h3, h4⟩
  · exact .inr h

theorem VR.mono {μ μ' : Mu} (hm : μ.le μ') {v v' : Value} (h : VR μ v v') : VR μ' v v' := by
  induction h with
  | bool b => exact .bool b
  | int k n => exact .int k n
  | string s => exact .string s
  | ptrN => exact .ptrN
  | ptr h => exact .ptr (h.mono hm)
  | slN => exact .slN
  | sl hl h => exact .sl hl (h.mono hm)
  | mapN => exact .mapN
  | map h hs => exact .map (hm _ _ h) hs
  | func fn hf _ hc _ ih1 ih2 => exact .func fn hf ih1 hc ih2
  | nilFunc => exact .nilFunc
  | iface t _ ih => exact .iface t ih
  | nilIface => exact .nilIface
  | agg hs _ ho ih => exact .agg hs ih ho
  | tuple hs _ ih => exact .tuple hs ih

/-- What a clean block says of a real one. -/
def OR (P : Program) (μ : Mu) (m : MB) : CObj → Obj → Prop
  | .cells c elem opn fz str, .cells c' elem' fr =>
      elem = elem' ∧ (c.length = m.n ∧ fz ≤ c.length) ∧ opn = m.opn ∧ m.esz = P.cellsOf elem ∧ c'.size = m.rs ∧ m.n + m.sh ≤ m.rs ∧ (m.opn = false → str = false → m.sh = 0 ∧ m.rs = m.n) ∧
      (∀ i v, c[i]? = some v → one v = true ∧ ∃ v', c'[i + m.sh]? = some v' ∧ VR μ v v') ∧
      (∀ j, j < m.rs → m.sh + fz ≤ j → (m.opn = false → j < m.sh + m.n) → ¬ (fr.1 ≤ j ∧ j < fr.2)) ∧ (str = false → fr.1 ≤ fr.2 ∧ fr.2 ≤ m.sh + fz)
  | .map es clock, .map es' clock' => m.sh = 0 ∧ clock = clock' ∧ es.length = es'.size ∧
      ∀ (i : Nat) (e : Value × Value × Nat), es[i]? = some e → ∃ e' : MapEntry, es'[i]? = some e' ∧ VR μ e.1 e'.key ∧ VR μ e.2.1 e'.val ∧ e.2.2 = e'.born
  | .iter s pos, .stringIter s' pos' => m.sh = 0 ∧ s = s' ∧ pos = pos'
  | _, _ => False

theorem OR.mono {P : Program} {μ μ' : Mu} (hm : μ.le μ') {m : MB} {o : CObj} {o' : Obj} (h : OR P μ m o o') : OR P μ' m o o' := by
  cases o <;> cases o' <;> simp only [OR] at h ⊢
  · obtain ⟨h1, h2, h3, h4, h5, h6, h7, h8, h9, h10⟩ := h
    exact ⟨h1, h2, h3, h4, h5, h6, h7, fun i v hv => let ⟨a, v', b, c⟩ := h8 i v hv; ⟨a, v', b, c.mono hm⟩, h9, h10⟩
  · obtain ⟨h1, h2, h3, h4⟩ := h
    exact ⟨h1, h2, h3, fun i e he => let ⟨e', a, b, c, d⟩ := h4 i e he; ⟨e', a, b.mono hm, c.mono hm, d⟩⟩
  · exact h

/-- What a call found when it began: its memory, none of which is ever written. The clean machine's first n0 blocks are windows into it; the first ng of these are its first blocks themselves (the package-level variables). -/
structure Start where
  heap : Array Obj
  os : Os
  output : Array (Nat × ByteArray)
  n0 : Nat
  ng : Nat

/-- The relation of memories. -/
structure RR (P : Program) (w0 : Start) (μ : Mu) (H : Heap) (w : World) : Prop where
  obj : ∀ b m o, μ b = some m → H.get b = some o → ∃ o', w.heap[m.blk]? = some o' ∧ OR P μ m o o'
  inj : ∀ b1 b2 m1 m2 o1 o2, w0.n0 ≤ b1 → w0.n0 ≤ b2 → μ b1 = some m1 → μ b2 = some m2 → H.get b1 = some o1 → H.get b2 = some o2 → m1.blk = m2.blk → b1 = b2
  fresh : ∀ b, H.next ≤ b → μ b = none
  blk : ∀ b m, μ b = some m → m.blk < w.heap.size
  size : w0.heap.size ≤ w.heap.size
  nle : w0.ng ≤ w0.n0
  idn : ∀ b, b < w0.ng → ∃ m, μ b = some m ∧ m.blk = b ∧ m.sh = 0
  low : ∀ b m, μ b = some m → (b < w0.n0 ∧ m.blk < w0.heap.size) ∨ (w0.n0 ≤ b ∧ w0.heap.size ≤ m.blk)
  lown : w0.n0 ≤ H.next
  base : ∀ b, b < w0.heap.size → w.heap[b]? = w0.heap[b]?
  still : ∀ b o, b < w0.n0 → H.get b = some o → ∃ c e, o = .cells c e false c.length true
  io : w.os = w0.os ∧ w.output = w0.output

/-- a block of the call's own -/
theorem RR.high {P : Program} {w0 : Start} {μ : Mu} {H : Heap} {w : World} (R : RR P w0 μ H w) {b : Nat} {m : MB} (h : μ b = some m) : w0.n0 ≤ b ↔ w0.heap.size ≤ m.blk := by
  rcases R.low b m h with h | h <;> omega
theorem RR.inj' {P : Program} {w0 : Start} {μ : Mu} {H : Heap} {w : World} (R : RR P w0 μ H w) {b1 b2 : Nat} {m1 m2 : MB} {o1 o2 : CObj} (h1 : μ b1 = some m1) (h2 : μ b2 = some m2) (h3 : H.get b1 = some o1) (h4 : H.get b2 = some o2) (h5 : m1.blk = m2.blk)
    (hl : w0.heap.size ≤ m2.blk) : b1 = b2 :=
  R.inj _ _ _ _ _ _ ((R.high h1).2 (by omega)) ((R.high h2).2 hl) h1 h2 h3 h4 h5
/-- a block that is no window -/
theorem RR.own {P : Program} {w0 : Start} {μ : Mu} {H : Heap} {w : World} (R : RR P w0 μ H w) {b : Nat} {m : MB} {o : CObj} (h : μ b = some m) (hg : H.get b = some o) (hn : ∀ c e, o ≠ .cells c e false c.length true) : w0.heap.size ≤ m.blk := by
  rcases R.low b m h with ⟨hb, _⟩ | ⟨_, h⟩
  · obtain ⟨c, e, rfl⟩ := R.still b o hb hg
    exact absurd rfl (hn c e)
  · exact h

/-- How things go on: what is known stays known; a block that is not mapped stays so, and as it was. -/
structure Ext (μ : Mu) (H : Heap) (μ' : Mu) (H' : Heap) : Prop where
  le : μ.le μ'
  keep : ∀ b, b < H.next → μ b = none → μ' b = none ∧ H'.get b = H.get b
  next : H.next ≤ H'.next

theorem Ext.refl (μ : Mu) (H : Heap) : Ext μ H μ H := ⟨Mu.le_refl μ, fun _ _ h => ⟨h, rfl⟩, Nat.le_refl _⟩
theorem Ext.trans {μ μ' μ'' : Mu} {H H' H'' : Heap} (h : Ext μ H μ' H') (h' : Ext μ' H' μ'' H'') : Ext μ H μ'' H'' :=
  ⟨Mu.le_trans h.le h'.le, fun b hb hm => by
    obtain ⟨h1, h2⟩ := h.keep b hb hm
    obtain ⟨h3, h4⟩ := h'.keep b (Nat.lt_of_lt_of_le hb h.next) h1
    exact ⟨h3, h4.trans h2⟩, Nat.le_trans h.next h'.next⟩

end Go.Cm

namespace Go.Cm
open Go

abbrev Res := Option (Value × Heap)

/-! ### strings as lists of bytes -/
def S (l : List UInt8) : ByteArray := ⟨⟨l⟩⟩
def lst (s : ByteArray) : List UInt8 := s.data.toList
@[simp] theorem lst_S (l : List UInt8) : lst (S l) = l := rfl
@[simp] theorem S_lst (s : ByteArray) : S (lst s) = s := rfl
def slen (s : ByteArray) : Nat := (lst s).length
@[simp] theorem slen_S (l : List UInt8) : slen (S l) = l.length := rfl
def sCat (x y : ByteArray) : ByteArray := S (lst x ++ lst y)
@[simp] theorem sCat_S (a b : List UInt8) : sCat (S a) (S b) = S (a ++ b) := rfl
def sSub (x : ByteArray) (l h : Nat) : ByteArray := S (((lst x).take h).drop l)
@[simp] theorem sSub_S (a : List UInt8) (l h : Nat) : sSub (S a) l h = S ((a.take h).drop l) := rfl
def bt (s : ByteArray) (i : Nat) : Int := ((lst s).getD i 0).toNat
def sEq (x y : ByteArray) : Bool := lst x == lst y

/-! ### kinds and casts -/
inductive Kd0 where
  | any | int (k : IntKind) | bool | str | ptr | sl | map | agg

inductive Kd where
  | one (k : Kd0)
  | tup (ks : List Kd0)

def asI (k : IntKind) {α : Type} (v : Value) (K : Int → Option α) : Option α := match v with
  | .int k' n => if k' = k then K n else none
  | _ => none
def asB {α : Type} (v : Value) (K : Bool → Option α) : Option α := match v with
  | .bool b => K b
  | _ => none
def asS {α : Type} (v : Value) (K : ByteArray → Option α) : Option α := match v with
  | .string s => K s
  | _ => none
def asP {α : Type} (v : Value) (K : Option Addr → Option α) : Option α := match v with
  | .pointer a => K a
  | _ => none
def asSl {α : Type} (v : Value) (K : Option Addr → Nat → Nat → Option α) : Option α := match v with
  | .slice a n c => K a n c
  | _ => none
def asM {α : Type} (v : Value) (K : Option Nat → Option α) : Option α := match v with
  | .map r => K r
  | _ => none
def asA {α : Type} (v : Value) (K : Array Value → Option α) : Option α := match v with
  | .agg cs => K cs
  | _ => none
/-- an int of whatever kind (an index) -/
def asN {α : Type} (v : Value) (K : Int → Option α) : Option α := match v with
  | .int _ n => K n
  | _ => none

def cast0 (d : Kd0) (v : Value) (K : Value → Res) : Res := match d with
  | .any => K v
  | .int k => asI k v fun n => K (.int k n)
  | .bool => asB v fun b => K (.bool b)
  | .str => asS v fun s => K (.string s)
  | .ptr => asP v fun a => K (.pointer a)
  | .sl => asSl v fun a n c => K (.slice a n c)
  | .map => asM v fun r => K (.map r)
  | .agg => asA v fun cs => K (.agg cs)

def castL : List Kd0 → List Value → (List Value → Res) → Res
  | [], [], K => K []
  | d :: ds, v :: vs, K => cast0 d v fun x => castL ds vs fun l => K (x :: l)
  | _, _, _ => none

def cast (d : Kd) (v : Value) (K : Value → Res) : Res := match d with
  | .one d => cast0 d v K
  | .tup ds => match v with
    | .tuple vs => castL ds vs.toList fun l => K (.tuple ⟨l⟩)
    | _ => none

def optK {α β : Type} (o : Option α) (K : α → Option β) : Option β := match o with
  | some x => K x
  | none => none
def callK (r : Res) (K : Value → Heap → Res) : Res := match r with
  | some (v, H) => K v H
  | none => none
/-- a test that must hold -/
def chk {α : Type} (b : Bool) (r : Option α) : Option α := match b with
  | true => r
  | false => none

/-! ### frames -/
abbrev Fr := List (Nat × Value)
def Fr.get : Fr → Nat → Option Value
  | [], _ => none
  | (u, v) :: fr, t => if t = u then some v else Fr.get fr t
def Fr.del : Fr → Nat → Fr
  | [], _ => []
  | (u, v) :: fr, t => if t = u then Fr.del fr t else (u, v) :: Fr.del fr t
def Fr.setO (fr : Fr) (d : Option Nat) (v : Value) : Fr := match d with
  | some t => (t, v) :: fr
  | none => fr
def Fr.delO (fr : Fr) (d : Option Nat) : Fr := match d with
  | some t => (t, undef) :: fr
  | none => fr
/-- the live slots alone, typed -/
def liveK : List (Nat × Kd0) → Fr → (Fr → Res) → Res
  | [], _, K => K []
  | (t, d) :: l, fr, K => optK (fr.get t) fun v => cast0 d v fun x => liveK l fr fun r => K ((t, x) :: r)

/-! ### the code -/
inductive COpd where
  | tmp (t : Nat)
  | const (v : Value)
  | glob (g : Nat)
  | fn (f : Nat)

def ev (fr : Fr) : COpd → Option Value
  | .tmp t => fr.get t
  | .const v => some v
  | .glob g => some (.pointer (some ⟨g, 0, none⟩))
  | .fn f => some (.func (.func f) #[] #[])
def evs (fr : Fr) : List COpd → Option (List Value)
  | [] => some []
  | x :: xs => match ev fr x with
    | some v => match evs fr xs with
      | some vs => some (v :: vs)
      | none => none
    | none => none

/-- kinds of values that may be nil -/
inductive NK where
  | p | s | m | f | i

/-- pure instructions -/
inductive PI where
  | mov
  | movS
  | arith (op : BinOp) (k : IntKind)
  | cmp (op : BinOp) (k : IntKind)
  | bits (op : BinOp) (k : IntKind)
  | div (op : BinOp) (k : IntKind)
  | shift (op : BinOp) (k : IntKind)
  | sadd
  | scmp (op : BinOp)
  | eqB (neg : Bool)
  | eqN (neg : Bool) (k : NK)
  | eqA (neg : Bool) (ks : List Kd0)
  | notB
  | negI (k : IntKind)
  | xorI (k : IntKind)
  | convI (k : IntKind)
  | convIS
  | idxS
  | idxA (n size : Nat) (agg : Bool)
  | field (off size : Nat) (agg : Bool)
  | extract (i : Nat)
  | build (zero : List Value) (parts : List (Nat × Nat))
  | subS (lo hi : Bool)
  | subAp (n size : Nat) (lo hi mx : Bool)
  | fieldAddr (off : Nat)
  | idxAddrSl (size : Nat)
  | idxAddrAp (n size : Nat)
  | nilCk
  | lenS
  | lenSl
  | lenArr (n : Nat)
  | mm (mx : Bool) (k : IntKind)
  | mkFunc (fn : Fn) (nfirst : Nat)
  | mkIface (t : TypeId)

/-- instructions that read memory -/
inductive RI where
  | load (n : Nat) (agg : Bool)
  | bytesStr
  | runesStr
  | eqP (neg : Bool)
  | subSl (elem : TypeId) (size : Nat) (lo hi mx : Bool)

/-- instructions that turn memory -/
inductive EI where
  | alloc (elem : TypeId) (zero : List Value)
  | box (elem : TypeId)
  | buildSl (elem : TypeId) (len : Nat) (zs : List Value) (parts : List (Nat × Nat))
  | mkSl (elem : TypeId) (size bytes : Nat) (zero : List Value)
  | store (n : Nat)
  | append (elem : TypeId) (size bytes : Nat) (str : Bool)
  | copy (size : Nat) (str : Bool)
  | clearSl (size : Nat) (zero : List Value)
  | rangeS
  | nextS
  | strBytes (elem : TypeId)
  | strRunes (elem : TypeId)
  | slData
  | unsStr (elem : TypeId)
  | markStr

inductive CIns where
  | bad
  | pure (p : PI)
  | pick
  | read (r : RI)
  | eff (e : EI)
  | call (f : Nat)
  | callv

structure COp where
  dst : Option Nat
  kd : Kd
  guard : Option (Nat × Bool)
  ins : CIns
  args : List COpd

inductive CCode where
  | skip
  | seq (a b : CCode)
  | reg (ops : List COp)
  | regD (allocs : List COp) (ops : List (COp × Nat × Nat))
  | cond (c : COpd) (a b : CCode)
  | block (id : Nat) (c : CCode)
  | loop (c : CCode)
  | exit (id : Nat)
  | ret
  | bad
  | cut (live : List (Nat × Kd0)) (c : CCode)
  | loopC (live : List (Nat × Kd0)) (c : CCode)

inductive CRes where
  | tmp (t : Nat)
  | cell (t n : Nat) (agg : Bool)

structure CFunc where
  body : CCode
  results : List CRes

/-! ### what the instructions do -/
def cellsL : Value → List Value
  | .agg cs => cs.toList
  | v => [v]

def ap (a : Addr) (n : Nat) : Addr := ⟨a.block, a.off + n, none⟩

def cmpI (op : BinOp) (a b : Int) (K : Bool → Res) : Res := match op with
  | .eql => K (decide (a = b))
  | .neq => K (!decide (a = b))
  | .lss => K (decide (a < b))
  | .leq => K (decide (a ≤ b))
  | .gtr => K (decide (b < a))
  | .geq => K (decide (b ≤ a))
  | _ => none

def bitsI (op : BinOp) (k : IntKind) (x y : Int) : Int :=
  let a := BitVec.ofInt k.bits x
  let b := BitVec.ofInt k.bits y
  match op with
  | .and => k.wrap (a &&& b).toNat
  | .or => k.wrap (a ||| b).toNat
  | .xor => k.wrap (a ^^^ b).toNat
  | .andNot => k.wrap (a &&& ~~~b).toNat
  | _ => 0

def isBits : BinOp → Bool
  | .and | .or | .xor | .andNot => true
  | _ => false

def sLess : List UInt8 → List UInt8 → Bool
  | _, [] => false
  | [], _ :: _ => true
  | a :: x, b :: y => decide (a.toNat < b.toNat) || (a.toNat == b.toNat && sLess x y)

def scmpB (op : BinOp) (x y : ByteArray) (K : Bool → Res) : Res := match op with
  | .eql => K (sEq x y)
  | .neq => K (!sEq x y)
  | .lss => K (sLess (lst x) (lst y))
  | .leq => K (sLess (lst x) (lst y) || sEq x y)
  | .gtr => K (!(sLess (lst x) (lst y) || sEq x y))
  | .geq => K (!sLess (lst x) (lst y))
  | _ => none

/-- are two cells without addresses equal? -/
def eqC : Kd0 → Value → Value → Option Bool
  | .int k, .int k1 a, .int k2 b => if k1 = k ∧ k2 = k then some (decide (a = b)) else none
  | .str, .string a, .string b => some (sEq a b)
  | .bool, .bool a, .bool b => some (a == b)
  | _, _, _ => none
def eqL : List Kd0 → List Value → List Value → Option Bool
  | [], [], [] => some true
  | k :: ks, a :: as, b :: bs => match eqC k a b with
    | some true => eqL ks as bs
    | some false => some false
    | none => none
  | _, _, _ => none

/-- the value at a place of an aggregate -/
def partL (cs : List Value) (off size : Nat) (agg : Bool) : Option Value :=
  if agg then (if off + size ≤ cs.length then some (.agg ((cs.drop off).take size).toArray) else none) else cs[off]?

def splice (c : List Value) (off : Nat) (vs : List Value) : List Value := c.take off ++ vs ++ c.drop (off + vs.length)

/-- lay parts into cells -/
def fillL : List (Nat × Nat) → List Value → List Value → Option (List Value)
  | [], [], cs => some cs
  | (off, size) :: ps, v :: vs, cs =>
    if (cellsL v).length = size ∧ off + size ≤ cs.length ∧ (cellsL v).all one = true then fillL ps vs (splice cs off (cellsL v)) else none
  | _, _, _ => none

/-- the bounds of a slice expression over (len, cap): the operands that are there, in order -/
def bnds (len cap : Nat) (lo hi mx : Bool) {α : Type} (vs : List Value) (K : Nat → Nat → Nat → Option α) : Option α :=
  match lo, hi, mx, vs with
  | false, false, false, [] => K 0 len cap
  | true, false, false, [l] => asN l fun l => if 0 ≤ l ∧ l ≤ len then K l.toNat len cap else none
  | false, true, false, [h] => asN h fun h => if 0 ≤ h ∧ h ≤ cap then K 0 h.toNat cap else none
  | true, true, false, [l, h] => asN l fun l => asN h fun h => if 0 ≤ l ∧ l ≤ h ∧ h ≤ cap then K l.toNat h.toNat cap else none
  | false, true, true, [h, m] => asN h fun h => asN m fun m => if 0 ≤ h ∧ h ≤ m ∧ m ≤ cap then K 0 h.toNat m.toNat else none
  | true, true, true, [l, h, m] => asN l fun l => asN h fun h => asN m fun m => if 0 ≤ l ∧ l ≤ h ∧ h ≤ m ∧ m ≤ cap then K l.toNat h.toNat m.toNat else none
  | _, _, _, _ => none

def isNil : NK → Value → Option Bool
  | .p, .pointer a => some a.isNone
  | .s, .slice a _ _ => some a.isNone
  | .m, .map r => some r.isNone
  | .f, .func _ _ _ => some false
  | .f, .nilFunc => some true
  | .i, .iface _ _ => some false
  | .i, .nilIface => some true
  | _, _ => none

def mmL (mx : Bool) (k : IntKind) : List Value → Int → (Int → Res) → Res
  | [], a, K => K a
  | v :: vs, a, K => asI k v fun b => mmL mx k vs (if mx then (if a < b then b else a) else (if b < a then b else a)) K

def pureK (p : PI) (vs : List Value) (K : Value → Res) : Res := match p, vs with
  | .mov, [v] => K v
  | .movS, [v] => asS v fun s => K (.string s)
  | .arith op k, [x, y] => asI k x fun a => asI k y fun b => match op with
    | .add => K (.int k (k.wrap (a + b)))
    | .sub => K (.int k (k.wrap (a - b)))
    | .mul => K (.int k (k.wrap (a * b)))
    | _ => none
  | .cmp op k, [x, y] => asI k x fun a => asI k y fun b => cmpI op a b fun r => K (.bool r)
  | .bits op k, [x, y] => asI k x fun a => asI k y fun b => chk (isBits op) (K (.int k (bitsI op k a b)))
  | .div op k, [x, y] => asI k x fun a => asI k y fun b => if b = 0 then none else match op with
    | .quo => K (.int k (k.wrap (a.tdiv b)))
    | .rem => K (.int k (a.tmod b))
    | _ => none
  | .shift op k, [x, y] => asI k x fun a => asN y fun b => if b < 0 then none else match op with
    | .shl => K (.int k (k.wrap (a * 2 ^ (min b.toNat k.bits))))
    | .shr => K (.int k (a.fdiv (2 ^ (min b.toNat k.bits))))
    | _ => none
  | .sadd, [x, y] => asS x fun a => asS y fun b => if slen a + slen b ≤ 9223372036854775807 then K (.string (sCat a b)) else none
  | .scmp op, [x, y] => asS x fun a => asS y fun b => scmpB op a b fun r => K (.bool r)
  | .eqB neg, [x, y] => asB x fun a => asB y fun b => K (.bool (if neg then !(a == b) else a == b))
  | .eqN neg k, [x] => optK (isNil k x) fun b => K (.bool (if neg then !b else b))
  | .eqA neg ks, [x, y] => asA x fun a => asA y fun b => chk (a.size == ks.length && b.size == ks.length) (optK (eqL ks a.toList b.toList) fun r => K (.bool (if neg then !r else r)))
  | .notB, [x] => asB x fun a => K (.bool (!a))
  | .negI k, [x] => asI k x fun a => K (.int k (k.wrap (0 - a)))
  | .xorI k, [x] => asI k x fun a => K (.int k (bitsI .xor k (if k.signed then -1 else k.max) a))
  | .convI k, [x] => asN x fun a => K (.int k (k.wrap a))
  | .convIS, [x] => asN x fun a => K (.string (Utf8.encode a))
  | .idxS, [x, i] => asS x fun s => asN i fun n => if 0 ≤ n ∧ n < slen s then K (.int .u8 (bt s n.toNat)) else none
  | .idxA n size agg, [x, i] => asA x fun cs => asN i fun j => if 0 ≤ j ∧ j < n then optK (partL cs.toList (j.toNat * size) size agg) K else none
  | .field off size agg, [x] => asA x fun cs => optK (partL cs.toList off size agg) K
  | .extract i, [x] => match x with
    | .tuple l => optK l.toList[i]? K
    | _ => none
  | .build zero parts, vs => optK (fillL parts vs zero) fun cs => K (.agg cs.toArray)
  | .subS lo hi, x :: vs => asS x fun s => bnds (slen s) (slen s) lo hi false vs fun l h _ => K (.string (sSub s l h))
  | .subAp n size lo hi mx, x :: vs => asP x fun a => match a with
    | some a => bnds n n lo hi mx vs fun l h m => K (.slice (some (ap a (l * size))) (h - l) (m - l))
    | none => none
  | .fieldAddr off, [x] => asP x fun a => match a with
    | some a => K (.pointer (some (ap a off)))
    | none => none
  | .idxAddrSl size, [x, i] => asSl x fun a n _ => asN i fun j => match a with
    | some a => if 0 ≤ j ∧ j < n then K (.pointer (some (ap a (j.toNat * size)))) else none
    | none => none
  | .idxAddrAp n size, [x, i] => asP x fun a => asN i fun j => match a with
    | some a => if 0 ≤ j ∧ j < n then K (.pointer (some (ap a (j.toNat * size)))) else none
    | none => none
  | .nilCk, [x] => match x with
    | .pointer (some a) => K (.pointer (some a))
    | .iface t v => K (.iface t v)
    | _ => none
  | .lenS, [x] => asS x fun s => K (.int .i64 (slen s))
  | .lenSl, [x] => asSl x fun _ n _ => K (.int .i64 n)
  | .lenArr n, [_] => K (.int .i64 n)
  | .mm mx k, x :: vs => asI k x fun a => mmL mx k vs a fun r => K (.int k r)
  | .mkFunc fn nf, vs => K (.func fn (vs.take nf).toArray (vs.drop nf).toArray)
  | .mkIface t, [x] => K (.iface t x)
  | _, _ => none

namespace Heap
/-- the cells of a block -/
def row (H : Heap) (b : Nat) : Option (List Value) := match H.get b with
  | some (.cells c _ _ _ _) => some c
  | _ => none
def ld1 (H : Heap) (a : Addr) : Option Value := match H.get a.block with
  | some (.cells c _ _ _ _) => c[a.off]?
  | _ => none
def ldN (H : Heap) (a : Addr) (n : Nat) : Option (List Value) := match H.get a.block with
  | some (.cells c _ _ _ _) => if a.off + n ≤ c.length then some ((c.drop a.off).take n) else none
  | _ => none
/-- cells written; a block's frozen cells are not -/
def stN (H : Heap) (a : Addr) (vs : List Value) : Option Heap := match H.get a.block with
  | some (.cells c e o fz s) => if a.off + vs.length ≤ c.length ∧ fz ≤ a.off then some (H.put a.block (.cells (splice c a.off vs) e o fz s)) else none
  | _ => none
def st1 (H : Heap) (a : Addr) (v : Value) : Option Heap := match H.get a.block with
  | some (.cells c e o fz s) => if a.off < c.length ∧ fz ≤ a.off then some (H.put a.block (.cells (c.set a.off v) e o fz s)) else none
  | _ => none
end Heap

def bytesOf : List Value → Option (List UInt8)
  | [] => some []
  | .int .u8 n :: l => match bytesOf l with
    | some r => some (UInt8.ofNat n.toNat :: r)
    | none => none
  | _ => none
def runesOf : List Value → Option (List UInt8)
  | [] => some []
  | .int .i32 n :: l => match runesOf l with
    | some r => some (lst (Utf8.encode n) ++ r)
    | none => none
  | _ => none

/-- is the block there? -/
def Heap.alive (H : Heap) (b : Nat) : Bool := (H.get b).isSome

/-- a block that is no string's bytes, and not empty -/
def Heap.clear (H : Heap) (b : Nat) : Bool := match H.get b with
  | some (.cells c _ _ fz s) => !c.isEmpty && fz == 0 && !s
  | _ => false

/-- a slice that may hold more than is known is of its block's element type -/
def Heap.opnOk (H : Heap) (b : Nat) (elem : TypeId) : Bool := match H.get b with
  | some (.cells _ e o _ _) => !o || e == elem
  | _ => false

def readD (r : RI) (vs : List Value) (H : Heap) : Option Value := match r, vs with
  | .load n agg, [.pointer (some a)] => if agg then (match H.ldN a n with
      | some l => some (.agg l.toArray)
      | none => none) else H.ld1 a
  | .bytesStr, [.slice a n _] => match a with
    | none => some (.string (S []))
    | some a => if n = 0 then some (.string (S [])) else match H.ldN a n with
      | some l => match bytesOf l with
        | some r => some (.string (S r))
        | none => none
      | none => none
  | .runesStr, [.slice a n _] => match a with
    | none => some (.string (S []))
    | some a => if n = 0 then some (.string (S [])) else match H.ldN a n with
      | some l => match runesOf l with
        | some r => some (.string (S r))
        | none => none
      | none => none
  | .subSl elem size lo hi mx, x :: vs => asSl x fun a n c => bnds n c lo hi mx vs fun l h m => match a with
    | some a => chk (l == 0 || mx || H.opnOk a.block elem) (some (.slice (some (if l = 0 then a else ap a (l * size))) (h - l) (m - l)))
    | none => some (.slice none (h - l) (m - l))
  | .eqP neg, [.pointer a, .pointer b] => match a, b with
    | none, b => some (.bool (if neg then !b.isNone else b.isNone))
    | some _, none => some (.bool neg)
    | some a, some b => chk (if a.block = b.block then H.alive a.block else H.clear a.block && H.clear b.block)
      (some (.bool (if neg then !(decide (a.block = b.block ∧ a.off = b.off)) else decide (a.block = b.block ∧ a.off = b.off))))
  | _, _ => none

/-- the cells of an append's or a copy's source -/
def srcN : Bool → Value → Option Nat
  | false, .slice _ n _ => some n
  | true, .string s => some (slen s)
  | _, _ => none
def srcCells (H : Heap) (size n : Nat) : Value → Option (List Value)
  | .slice none _ _ => some []
  | .slice (some a) _ _ => if n = 0 then some [] else H.ldN a (n * size)
  | .string s => some (((lst s).take n).map fun b => .int .u8 b.toNat)
  | _ => none

/-- may the real slice hold more than the clean one knows? -/
def exact (esz n off cc : Nat) (opn : Bool) : Bool := !opn || (cc != 0 && off + cc * esz != n)

def appendK (elem : TypeId) (size bytes : Nat) (str : Bool) (s x : Value) (H : Heap) (K : Value → Heap → Res) : Res :=
  asSl s fun a len cc => optK (srcN str x) fun n => optK (srcCells H size n x) fun new =>
    if len + n ≤ cc then
      (if n = 0 then K (.slice a len cc) H else if size = 0 then none else match a with
        | some ad => optK (H.stN (ap ad (len * size)) new) fun H' => K (.slice a (len + n) cc) H'
        | none => none)
    else if (len + n) * bytes ≤ 70368744177664 ∧ 0 < bytes ∧ 0 < size then
      match a with
      | none => K (.slice (some ⟨H.next, 0, none⟩) (len + n) (len + n)) (H.new (.cells new elem true 0 false))
      | some ad => match ad.spot with
        | some _ => if len = 0 then K (.slice (some ⟨H.next, 0, none⟩) (len + n) (len + n)) (H.new (.cells new elem true 0 false)) else none
        | none => match H.get ad.block with
        | some (.cells c e o fz st) =>
          if ad.off + len * size ≤ c.length then
            (if exact size c.length ad.off cc o = true ∧ (o = false ∨ e = elem) then
              K (.slice (some ⟨H.next, 0, none⟩) (len + n) (len + n)) (H.new (.cells ((c.drop ad.off).take (len * size) ++ new) elem true 0 false))
            else if e = elem ∧ fz ≤ ad.off + len * size then
              K (.slice (some ⟨H.next, 0, none⟩) (len + n) (len + n)) ((H.kill ad.block).new (.cells ((c.drop ad.off).take (len * size) ++ new) elem true (fz - ad.off) st))
            else none)
          else none
        | _ => none
    else none

def rep (z : List Value) : Nat → List Value
  | 0 => []
  | n + 1 => z ++ rep z n

def effK (e : EI) (vs : List Value) (H : Heap) (K : Value → Heap → Res) : Res := match e, vs with
  | .alloc elem zero, [] => K (.pointer (some ⟨H.next, 0, none⟩)) (H.new (.cells zero elem false 0 false))
  | .box elem, [v] => if (cellsL v).all one = true then K (.pointer (some ⟨H.next, 0, none⟩)) (H.new (.cells (cellsL v) elem false 0 false)) else none
  | .buildSl elem len zs parts, vs => optK (fillL parts vs zs) fun cs => K (.slice (some ⟨H.next, 0, none⟩) len len) (H.new (.cells cs elem false 0 false))
  | .mkSl elem _ bytes zero, [l, c] => asN l fun l => asN c fun c => if 0 ≤ l ∧ l ≤ c ∧ c * bytes ≤ 140737488355328 ∧ c ≤ 140737488355328 then
      K (.slice (some ⟨H.next, 0, none⟩) l.toNat c.toNat) (H.new (.cells (rep zero c.toNat) elem false 0 false)) else none
  | .store n, [.pointer (some a), v] => if n = 1 then (match cellsL v with
      | [x] => if one x = true then optK (H.st1 a x) fun H' => K (.tuple #[]) H' else none
      | _ => none) else
      if (cellsL v).length = n ∧ (cellsL v).all one = true ∧ 0 < n then optK (H.stN a (cellsL v)) fun H' => K (.tuple #[]) H' else none
  | .append elem size bytes str, [s, x] => appendK elem size bytes str s x H K
  | .copy size str, [d, x] => asSl d fun a len _ => optK (srcN str x) fun m => let n := min m len
      if n = 0 then K (.int .i64 0) H else if 0 < size then optK (srcCells H size n x) fun new => match a with
        | some ad => optK (H.stN ad new) fun H' => K (.int .i64 n) H'
        | none => none
      else none
  | .clearSl size zero, [d] => asSl d fun a len _ => if len = 0 ∨ size = 0 then K (.tuple #[]) H else match a with
        | some ad => if zero.length = size then optK (H.stN ad (rep zero len)) fun H' => K (.tuple #[]) H' else none
        | none => none
  | .rangeS, [.string s] => K (.pointer (some ⟨H.next, 0, none⟩)) (H.new (.iter s 0))
  | .nextS, [.pointer (some a)] => match H.get a.block with
    | some (.iter s pos) => if a.off = 0 then (if pos < slen s then
        K (.tuple #[.bool true, .int .i64 pos, .int .i32 (Utf8.decode s pos).1]) (H.put a.block (.iter s (pos + (Utf8.decode s pos).2)))
        else K (.tuple #[.bool false]) H) else none
    | _ => none
  | .strBytes elem, [.string s] => K (.slice (some ⟨H.next, 0, none⟩) (slen s) (slen s)) (H.new (.cells ((lst s).map fun b => .int .u8 b.toNat) elem true 0 true))
  | .strRunes elem, [.string s] =>
      let l := (Conv.runesFrom s (slen s) 0 #[]).toList
      K (.slice (some ⟨H.next, 0, none⟩) l.length l.length) (H.new (.cells l elem true 0 false))
  | .slData, [.slice a _ c] => match a with
    | none => K (.pointer none) H
    | some a => if c = 0 then none else K (.pointer (some a)) H
  | .markStr, [.slice a n c] => match a with
    | none => none
    | some a => match (if a.spot.isSome then none else H.get a.block) with
      | some (.cells l e o fz st) => if o = false ∧ fz = 0 ∧ st = false then K (.slice (some a) n c) (H.put a.block (.cells l e o 0 true)) else none
      | _ => none
  | .unsStr elem, [.pointer a, .int _ n] => match a with
    | none => if n = 0 then K (.string (S [])) H else none
    | some a => if n = 0 then K (.string (S [])) H else if 0 < n ∧ n ≤ 9223372036854775807 then (match H.get a.block with
      | some (.cells c e o fz st) => if a.off + n.toNat ≤ c.length ∧ st = false ∧ e = elem then optK (bytesOf ((c.drop a.off).take n.toNat)) fun l =>
          K (.string (S l)) (H.put a.block (.cells c e o (max fz (a.off + n.toNat)) st)) else none
      | _ => none) else none
  | _, _ => none

/-! ### how code runs -/
abbrev CallF := Nat → List Value → Heap → Res

def insK (call : CallF) (o : COp) (fr : Fr) (H : Heap) (K : Value → Heap → Res) : Res := match o.ins with
  | .bad => none
  | .pure p => optK (evs fr o.args) fun vs => pureK p vs fun v => cast o.kd v fun v => K v H
  | .pick => match o.args with
    | [c, a, b] => optK (ev fr c) fun c => asB c fun c => optK (ev fr (if c then a else b)) fun v => cast o.kd v fun v => K v H
    | _ => none
  | .read r => optK (evs fr o.args) fun vs => optK (readD r vs H) fun v => cast o.kd v fun v => K v H
  | .eff e => optK (evs fr o.args) fun vs => effK e vs H fun v H => cast o.kd v fun v => K v H
  | .call f => optK (evs fr o.args) fun vs => callK (call f vs H) fun v H => cast o.kd v fun v => K v H
  | .callv => optK (evs fr o.args) fun vs => match vs with
    | .func (.func f) first cap :: vs => callK (call f (first.toList ++ vs ++ cap.toList) H) fun v H => cast o.kd v fun v => K v H
    | _ => none

/-- a truth, or none was come to -/
def gB (v : Value) (K : Bool → Res) (E : Res) : Res := match v with
  | .bool b => K b
  | _ => E

/-- a guard: the operation is carried out, or it is not; either way the guard's slot is known from here on -/
def guardK (g : Option (Nat × Bool)) (fr : Fr) (yes no : Fr → Res) : Res := match g with
  | none => yes fr
  | some (t, w) => optK (fr.get t) fun v => gB v (fun b => if b = true then (if w then yes else no) ((t, .bool true) :: fr) else (if w then no else yes) ((t, .bool false) :: fr)) (no fr)

def runOps (call : CallF) : List COp → Fr → Heap → (Fr → Heap → Res) → Res
  | [], fr, H, K => K fr H
  | o :: os, fr, H, K => guardK o.guard fr (fun fr => insK call o fr H fun v H => runOps call os (fr.setO o.dst v) H K) (fun fr => runOps call os (fr.delO o.dst) H K)

/-- two values, the same to the sign -/
def same0 : Value → Value → Bool
  | .bool a, .bool b => a == b
  | .int k a, .int k' b => decide (k = k') && decide (a = b)
  | .string a, .string b => sEq a b
  | .pointer a, .pointer b => decide (a = b)
  | .slice a n c, .slice a' n' c' => decide (a = a') && decide (n = n') && decide (c = c')
  | .map a, .map b => decide (a = b)
  | .nilIface, .nilIface => true
  | .nilFunc, .nilFunc => true
  | _, _ => false
def sameL : List Value → List Value → Bool
  | [], [] => true
  | a :: as, b :: bs => same0 a b && sameL as bs
  | _, _ => false
def same : Value → Value → Bool
  | .agg a, .agg b => sameL a.toList b.toList
  | a, b => same0 a b

structure Rd where
  r : RI
  vs : List Value
  v : Value
  lo : Nat
  hi : Nat

def rdOk (hs : List Heap) (d : Rd) : Nat → Nat → Bool
  | _, 0 => true
  | k, n + 1 => (match hs[k]? with
    | some H => (match readD d.r d.vs H with
      | some v => same d.v v
      | none => false)
    | none => false) && rdOk hs d (k + 1) n
def rdsOk (hs : List Heap) : List Rd → Bool
  | [] => true
  | d :: ds => rdOk hs d d.lo (d.hi + 1 - d.lo) && rdsOk hs ds

/-- A region that draws its order: the allocations first; then the operations in the order of the text; 'hs': the memories so far, the newest first; the reads that may come at several times are held against each of these. -/
def runD (call : CallF) : List (COp × Nat × Nat) → Fr → Heap → List Heap → List Rd → (Fr → Heap → Res) → Res
  | [], fr, H, hs, rds, K => chk (rdsOk hs.reverse rds) (K fr H)
  | (o, lo, hi) :: os, fr, H, hs, rds, K => guardK o.guard fr
      (fun fr => match o.ins with
        | .read r => optK (evs fr o.args) fun vs => optK (readD r vs H) fun v => cast o.kd v fun x =>
            runD call os (fr.setO o.dst x) H hs (if lo < hi then ⟨r, vs, v, lo, hi⟩ :: rds else rds) K
        | .pure _ | .pick => insK call o fr H fun v H => runD call os (fr.setO o.dst v) H hs rds K
        | _ => insK call o fr H fun v H => runD call os (fr.setO o.dst v) H (H :: hs) rds K)
      (fun fr => match o.ins with
        | .read _ | .pure _ | .pick => runD call os (fr.delO o.dst) H hs rds K
        | _ => runD call os (fr.delO o.dst) H (H :: hs) rds K)

abbrev Kt := Fr → Heap → Res

def look (ke : List (Nat × Kt)) (id : Nat) : Kt := match ke with
  | [] => fun _ _ => none
  | (i, k) :: ke => if id = i then k else look ke id

def iter (body : Kt → Kt) : Nat → Kt
  | 0 => fun _ _ => none
  | n + 1 => body (iter body n)

/-- the live slots alone, and on -/
def backK (live : List (Nat × Kd0)) (k : Kt) : Kt := fun fr H => liveK live fr fun fr => k fr H

/-- a continuation behind a name that nothing unfolds -/
noncomputable def opq (k : Kt) : Kt := Classical.choose (⟨k, rfl⟩ : ∃ k' : Kt, k' = k)
theorem opq_eq (k : Kt) : opq k = k := Classical.choose_spec (⟨k, rfl⟩ : ∃ k' : Kt, k' = k)
theorem opq_app (k : Kt) (fr : Fr) (H : Heap) : opq k fr H = k fr H := by rw [opq_eq]

noncomputable def run (call : CallF) (N : Nat) : CCode → Kt → List (Nat × Kt) → Kt → Kt
  | .skip, kn, _, _ => kn
  | .seq a b, kn, ke, kr => run call N a (run call N b kn ke kr) ke kr
  | .reg ops, kn, _, _ => fun fr H => runOps call ops fr H kn
  | .regD al ops, kn, _, _ => fun fr H => runOps call al fr H fun fr H => runD call ops fr H [H] [] kn
  | .cond c a b, kn, ke, kr => fun fr H => optK (ev fr c) fun v => asB v fun t => if t = true then run call N a kn ke kr fr H else run call N b kn ke kr fr H
  | .block id c, kn, ke, kr => run call N c kn ((id, kn) :: ke) kr
  | .loop c, _, ke, kr => iter (fun k => run call N c k ke kr) N
  | .exit id, _, ke, _ => look ke id
  | .ret, _, _, kr => kr
  | .bad, _, _, _ => fun _ _ => none
  | .cut live c, kn, ke, kr => backK live (opq (run call N c kn ke kr))
  | .loopC live c, _, ke, kr => backK live (opq (iter (fun k => run call N c (backK live (opq k)) ke kr) N))

def resL (H : Heap) (fr : Fr) : List CRes → Option (List Value)
  | [] => some []
  | .tmp t :: l => match fr.get t with
    | some v => match resL H fr l with
      | some r => some (v :: r)
      | none => none
    | none => none
  | .cell t n agg :: l => match fr.get t with
    | some v => match readD (.load n agg) [v] H with
      | some x => match resL H fr l with
        | some r => some (x :: r)
        | none => none
      | none => none
    | none => none
def retK (rs : List CRes) (fr : Fr) (H : Heap) : Res := match resL H fr rs with
  | some [v] => some (v, H)
  | some vs => some (.tuple vs.toArray, H)
  | none => none

def frame0 : Nat → List Value → Fr
  | _, [] => []
  | i, v :: vs => (i, v) :: frame0 (i + 1) vs

/-- The functions: code, or what is done at once. -/
structure CProg where
  fn : Nat → Option CFunc
  prim : Nat → Option (List Value → Heap → Res)

noncomputable def callD (C : CProg) (N : Nat) : Nat → CallF
  | 0 => fun _ _ _ => none
  | d + 1 => fun f vs H => match C.prim f with
    | some p => p vs H
    | none => match C.fn f with
      | some c => run (callD C N d) N c.body (retK c.results) [] (retK c.results) (frame0 0 vs) H
      | none => none

end Go.Cm

namespace Go.Cm
open Go

/-- a value without addresses, as constants are -/
def plain : Value → Bool
  | .bool _ | .int _ _ | .string _ | .pointer none | .slice none 0 0 | .map none | .nilFunc | .nilIface => true
  | _ => false

def plainV : Value → Bool
  | .agg cs => cs.toList.all plain
  | v => plain v

/-- 'gl': the variables that may be named -/
def copd (gl : List Nat) : Operand → Option COpd
  | .tmp t => some (.tmp t)
  | .const v => if plainV v then some (.const v) else none
  | .global g => if gl.contains g then some (.glob g) else none
  | .func f => some (.fn f)
def copds (gl : List Nat) : List Operand → Option (List COpd)
  | [] => some []
  | x :: xs => match copd gl x, copds gl xs with
    | some y, some ys => some (y :: ys)
    | _, _ => none

def okElem (P : Program) (e : TypeId) : Bool := (P.underlying e).isSome

def isAggT (P : Program) (t : TypeId) : Bool := match P.underlying t with
  | some (.struct _) | some (.array _ _) => true
  | _ => false

def isNilC : NK → Operand → Bool
  | .p, .const (.pointer none) => true
  | .s, .const (.slice none 0 0) => true
  | .m, .const (.map none) => true
  | .f, .const .nilFunc => true
  | .i, .const .nilIface => true
  | _, _ => false

def nkOf : TypeDesc → Option NK
  | .pointer _ => some .p
  | .slice _ => some .s
  | .map _ _ => some .m
  | .func _ _ _ => some .f
  | .interface _ => some .i
  | _ => none

/-- the kinds of a type's cells, all plain, one part behind the other -/
def flat (P : Program) : Nat → TypeId → Option (List Kd0)
  | 0, _ => none
  | d + 1, t => match P.underlying t with
    | some (.int k) => some [.int k]
    | some .bool => some [.bool]
    | some .string => some [.str]
    | some (.array len e) => match flat P d e with
      | some ks => if P.cellsOf e = ks.length then some (List.replicate len ks).flatten else none
      | none => none
    | some (.struct fs) => if P.stoodInHeld t then none else flatF P (flat P d) fs.toList 0
    | _ => none
where
  flatF (P : Program) (fl : TypeId → Option (List Kd0)) : List Field → Nat → Option (List Kd0)
    | [], _ => some []
    | f :: fs, a => match fl f.type with
      | some ks => if f.offset = a ∧ P.cellsOf f.type = ks.length ∧ f.name ≠ "_" then (match flatF P fl fs (a + ks.length) with
        | some r => some (ks ++ r)
        | none => none) else none
      | none => none

def isCmp : BinOp → Bool
  | .eql | .neq | .lss | .leq | .gtr | .geq => true
  | _ => false

def cEq (P : Program) (op : BinOp) (t : TypeId) (d : TypeDesc) (x y : Operand) : Option (CIns × List Operand) :=
  match nkOf d with
  | some k => if isNilC k y then some (.pure (.eqN (op == .neq) k), [x]) else if isNilC k x then some (.pure (.eqN (op == .neq) k), [y]) else (match d with
    | .pointer e => if okElem P e = true ∧ P.cellsOf e ≠ 0 then some (.read (.eqP (op == .neq)), [x, y]) else none
    | _ => none)
  | none => match d with
    | .bool => some (.pure (.eqB (op == .neq)), [x, y])
    | .struct _ | .array _ _ => match flat P 20 t with
      | some ks => if P.eqGuardType P.depth t then none else some (.pure (.eqA (op == .neq) ks), [x, y])
      | none => none
    | _ => none

def cBin (P : Program) (op : BinOp) (t : TypeId) (x y : Operand) : Option (CIns × List Operand) :=
  match P.underlying t with
  | some (.int k) => match op with
    | .add | .sub | .mul => some (.pure (.arith op k), [x, y])
    | .quo | .rem => some (.pure (.div op k), [x, y])
    | .and | .or | .xor | .andNot => some (.pure (.bits op k), [x, y])
    | .shl | .shr => some (.pure (.shift op k), [x, y])
    | _ => some (.pure (.cmp op k), [x, y])
  | some .string => match op with
    | .add => some (.pure .sadd, [x, y])
    | .eql | .neq | .lss | .leq | .gtr | .geq => some (.pure (.scmp op), [x, y])
    | _ => none
  | some d => match op with
    | .eql | .neq => cEq P op t d x y
    | _ => none
  | none => none

def cConv0 (P : Program) (src dst : TypeId) (x : Operand) : Option (CIns × List Operand) :=
  match P.underlying src, P.underlying dst with
  | some (.int _), some (.int k) => some (.pure (.convI k), [x])
  | some (.int _), some .string => some (.pure .convIS, [x])
  | some .string, some .string => some (.pure .movS, [x])
  | some .string, some (.slice e) => match P.underlying e with
    | some (.int .u8) => if P.cellsOf e = 1 then some (.eff (.strBytes e), [x]) else none
    | some (.int .i32) => if P.cellsOf e = 1 then some (.eff (.strRunes e), [x]) else none
    | _ => none
  | some (.slice e), some .string => match P.underlying e with
    | some (.int .u8) => some (.read .bytesStr, [x])
    | some (.int .i32) => some (.read .runesStr, [x])
    | _ => none
  | _, _ => none

/-- bytes that are a text's, as they stand -/
def isMark (P : Program) (src dst : TypeId) : Bool := match P.underlying dst with
  | some (.slice e) => src == dst && (match P.underlying e with
    | some (.int .u8) => true
    | _ => false)
  | _ => false
def cConv (P : Program) (src dst : TypeId) (x : Operand) : Option (CIns × List Operand) := if isMark P src dst then some (.eff .markStr, [x]) else cConv0 P src dst x

def isAggV : Value → Bool
  | .agg _ => true
  | _ => false

/-- the cells of a type's zero value, all plain -/
def zeroL (P : Program) (t : TypeId) : Option (List Value) := match P.info? t with
  | some i => match i.zero with
    | some z => if (cellsL z).all plain = true ∧ (cellsL z).length = i.size ∧ isAggT P t = isAggV z then some (cellsL z) else none
    | none => none
  | none => none

def fieldOf (P : Program) (t : TypeId) (f : Nat) : Option (Nat × Nat × Bool) := match P.underlying t with
  | some (.struct fs) => match fs[f]? with
    | some x => if okElem P x.type then some (x.offset, P.cellsOf x.type, isAggT P x.type) else none
    | none => none
  | _ => none

def partsOf (P : Program) (fs : Array Field) : List (Nat × Operand) → Option (List (Nat × Nat) × List Operand)
  | [] => some ([], [])
  | (i, x) :: l => match fs[i]?, partsOf P fs l with
    | some f, some (ps, xs) => some ((f.offset, P.cellsOf f.type) :: ps, x :: xs)
    | _, _ => none

def rowParts (size : Nat) (l : List (Nat × Operand)) : List (Nat × Nat) × List Operand := (l.map fun p => (p.1 * size, size), l.map (·.2))

def cSlice (P : Program) (t : TypeId) (x : Operand) (lo hi mx : Option Operand) : Option (CIns × List Operand) :=
  let xs := x :: (lo.toList ++ hi.toList ++ mx.toList)
  match P.underlying t with
  | some .string => if mx.isNone then some (.pure (.subS lo.isSome hi.isSome), xs) else none
  | some (.slice e) => if okElem P e then some (.read (.subSl e (P.cellsOf e) lo.isSome hi.isSome mx.isSome), xs) else none
  | some (.array n e) => if okElem P e then some (.pure (.subAp n (P.cellsOf e) lo.isSome hi.isSome mx.isSome), xs) else none
  | some (.pointer arr) => match P.underlying arr with
    | some (.array n e) => if okElem P e then some (.pure (.subAp n (P.cellsOf e) lo.isSome hi.isSome mx.isSome), xs) else none
    | _ => none
  | _ => none

def cBuiltin (P : Program) (b : Builtin) (argTypes : Array TypeId) (args : List Operand) : Option (CIns × List Operand) :=
  match b, argTypes.toList, args with
  | .len, [t], [x] => match P.underlying t with
    | some .string => some (.pure .lenS, [x])
    | some (.array n _) => some (.pure (.lenArr n), [x])
    | some (.slice _) => some (.pure .lenSl, [x])
    | some (.pointer arr) => match P.underlying arr with
      | some (.array n _) => some (.pure (.lenArr n), [x])
      | _ => none
    | _ => none
  | .min, t :: _, xs => match P.underlying t with
    | some (.int k) => some (.pure (.mm false k), xs)
    | _ => none
  | .max, t :: _, xs => match P.underlying t with
    | some (.int k) => some (.pure (.mm true k), xs)
    | _ => none
  | .append, [t, u], [s, x] => match P.underlying t, P.underlying u with
    | some (.slice e), some (.slice _) => if okElem P e && (zeroL P e).isSome then some (.eff (.append e (P.cellsOf e) (P.bytesOf e) false), [s, x]) else none
    | some (.slice e), some .string => if okElem P e && (zeroL P e).isSome && decide (P.cellsOf e = 1) then some (.eff (.append e 1 (P.bytesOf e) true), [s, x]) else none
    | _, _ => none
  | .copy, [t, u], [d, x] => match P.underlying t, P.underlying u with
    | some (.slice e), some (.slice _) => if okElem P e then some (.eff (.copy (P.cellsOf e) false), [d, x]) else none
    | some (.slice e), some .string => if okElem P e && decide (P.cellsOf e = 1) then some (.eff (.copy 1 true), [d, x]) else none
    | _, _ => none
  | .clear, [t], [d] => match P.underlying t with
    | some (.slice e) => match zeroL P e with
      | some z => some (.eff (.clearSl (P.cellsOf e) z), [d])
      | none => none
    | _ => none
  | .unsafeSliceData, [_], [_] => none
  | .unsafeString, [_, _], [_, _] => none
  | _, _, _ => none

/-- may this function's code be entered? -/
def hasCode (P : Program) (f : Nat) : Bool := match P.funcs[f]? with
  | some fn => fn.body.isSome && !(fn.name == "runtime.NumGoroutine")
  | none => false

def cOp (P : Program) (o : Oper) : Option (CIns × List Operand) :=
  match o.op with
  | .move x | .assign x => some (.pure .mov, [x])
  | .pick c a b => some (.pick, [c, a, b])
  | .alloc e => match zeroL P e with
    | some z => some (.eff (.alloc e z), [])
    | none => none
  | .box e x => some (.eff (.box e), [x])
  | .build t ps => match zeroL P t, P.underlying t with
    | some z, some (.struct fs) => match partsOf P fs ps.toList with
      | some (pl, xs) => if (ps.toList.all fun p => match fs[p.1]? with | some f => okElem P f.type | none => false) && (fs.toList.all fun f => okElem P f.type) then some (.pure (.build z pl), xs) else none
      | none => none
    | some z, some (.array _ e) => if okElem P e then some (.pure (.build z (rowParts (P.cellsOf e) ps.toList).1), (rowParts (P.cellsOf e) ps.toList).2) else none
    | _, _ => none
  | .buildSlice t len ps => match P.underlying t with
    | some (.slice e) => match zeroL P e with
      | some z => if len * P.cellsOf e ≤ 16777216 ∧ 0 < P.cellsOf e then some (.eff (.buildSl e len (rep z len) (rowParts (P.cellsOf e) ps.toList).1), (rowParts (P.cellsOf e) ps.toList).2) else none
      | none => none
    | _ => none
  | .load t a => if okElem P t then some (.read (.load (P.cellsOf t) (isAggT P t)), [a]) else none
  | .store t a v => if okElem P t then some (.eff (.store (P.cellsOf t)), [a, v]) else none
  | .nilCheck x => some (.pure .nilCk, [x])
  | .binOp op t x y _ => cBin P op t x y
  | .unOp op _ x => match op, P.underlying o.type with
    | .not, _ => some (.pure .notB, [x])
    | .neg, some (.int k) => some (.pure (.negI k), [x])
    | .xor, some (.int k) => some (.pure (.xorI k), [x])
    | _, _ => none
  | .convert s d x => cConv P s d x
  | .makeInterface t x => match P.underlying t with
    | some (.interface _) => none
    | some _ => some (.pure (.mkIface t), [x])
    | none => none
  | .makeFunc fn first cap => some (.pure (.mkFunc fn first.size), first.toList ++ cap.toList)
  | .makeSlice t l c => match P.underlying t with
    | some (.slice e) => match zeroL P e with
      | some z => if 0 < P.cellsOf e then some (.eff (.mkSl e (P.cellsOf e) (P.bytesOf e) z), [l, c]) else none
      | none => none
    | _ => none
  | .slice t x lo hi mx => cSlice P t x lo hi mx
  | .fieldAddr s x f => match fieldOf P s f with
    | some (off, n, _) => if 0 < n then some (.pure (.fieldAddr off), [x]) else none
    | none => none
  | .field t x f => match fieldOf P t f with
    | some (off, n, agg) => some (.pure (.field off n agg), [x])
    | none => none
  | .indexAddr t x i => match P.underlying t with
    | some (.array n e) => if okElem P e then some (.pure (.idxAddrAp n (P.cellsOf e)), [x, i]) else none
    | some (.slice e) => if okElem P e then some (.pure (.idxAddrSl (P.cellsOf e)), [x, i]) else none
    | _ => none
  | .index t x i => match P.underlying t with
    | some (.array n e) => if okElem P e then some (.pure (.idxA n (P.cellsOf e) (isAggT P e)), [x, i]) else none
    | some .string => some (.pure .idxS, [x, i])
    | _ => none
  | .range t x => match P.underlying t with
    | some .string => some (.eff .rangeS, [x])
    | _ => none
  | .next it isS => if isS then some (.eff .nextS, [it]) else none
  | .extract x i => some (.pure (.extract i), [x])
  | .call c => match c.callee with
    | .builtin b => cBuiltin P b c.argTypes c.args.toList
    | .value (.func f) => some (.call f, c.args.toList)
    | .value f => some (.callv, f :: c.args.toList)
    | _ => none
  | _ => none

/-- the slot that a guard asks -/
def guardOf (ops : Array Oper) (g : Option (Nat × Bool)) : Option (Option (Nat × Bool)) := match g with
  | none => some none
  | some (j, w) => match (ops[j]?).bind (·.dst) with
    | some t => some (some (t, w))
    | none => none

def strip0 : Kd := .one .any

def badOp (d : Option Nat) (g : Option (Nat × Bool)) : COp := ⟨d, strip0, g, .bad, []⟩

def dstOk (nt : Nat) : Option Nat → Bool
  | some d => decide (d < nt)
  | none => true

def cOper (gl : List Nat) (nt : Nat) (P : Program) (ops : Array Oper) (o : Oper) : Option COp := match guardOf ops o.guard with
  | some g => if dstOk nt o.dst then (match cOp P o with
    | some (i, xs) => match copds gl xs with
      | some ys => some ⟨o.dst, strip0, g, i, ys⟩
      | none => some (badOp o.dst g)
    | none => some (badOp o.dst g)) else none
  | none => none

def cOpers (gl : List Nat) (nt : Nat) (P : Program) (ops : Array Oper) : List Oper → Option (List COp)
  | [] => some []
  | o :: l => match cOper gl nt P ops o, cOpers gl nt P ops l with
    | some c, some cs => some (c :: cs)
    | _, _ => none

/-! ### regions that draw their order -/
/-- what must have come before an operation -/
def ancs : List Oper → List (List Nat) → List (List Nat)
  | [], acc => acc
  | o :: l, acc => ancs l (acc ++ [(o.after.toList.flatMap fun e => if Region.binds .any e then e.on :: acc.getD e.on [] else []).eraseDups])

/-- does it leave memory alone? -/
def CIns.still : CIns → Bool
  | .pure _ | .pick | .read _ => true
  | _ => false
def CIns.isAlloc : CIns → Bool
  | .eff (.alloc _ _) => true
  | _ => false

/-- the slots that an operation looks at -/
def COp.looks (c : COp) : List Nat := (c.args.filterMap fun | .tmp t => some t | _ => none) ++ (match c.guard with
  | some (t, _) => [t]
  | none => [])

/-- does x write a slot that y names? -/
def COp.clash (x y : COp) : Bool := match x.dst with
  | some d => y.looks.contains d || y.dst == some d
  | none => false

def posOp (cs : List COp) (i : Nat) : COp := cs.getD i (badOp none none)
/-- the allocations' places, and the others' -/
def ordA (cs : List COp) : List Nat := (List.range cs.length).filter fun i => (posOp cs i).ins.isAlloc
def ordR (cs : List COp) : List Nat := (List.range cs.length).filter fun i => !(posOp cs i).ins.isAlloc
/-- the effects' places, in order; how many come before the q-th of the others -/
def effs (cs : List COp) : List Nat := (ordR cs).filter fun i => !(posOp cs i).ins.still
def eAt (cs : List COp) (q : Nat) : Nat := (((ordR cs).take q).filter fun i => !(posOp cs i).ins.still).length

def dAll (n : Nat) (p : Nat → Bool) : Bool := (List.range n).all p

def anc (an : List (List Nat)) (x j : Nat) : Bool := (an.getD j []).contains x

/-- how many effects come before operation i at least, and at most -/
def loOf (an : List (List Nat)) (eff : List Nat) (i : Nat) : Nat := (eff.takeWhile fun j => anc an j i).length
def hiOf (an : List (List Nat)) (eff : List Nat) (i : Nat) : Nat := (eff.takeWhile fun j => !anc an i j).length

def afterOk (ops : List Oper) : Bool := dAll ops.length fun i => match ops[i]? with
  | some o => o.after.all fun e => !Region.binds .any e || decide (e.on < i)
  | none => true

def anOk (ops : List Oper) (an : List (List Nat)) : Bool := dAll ops.length fun j => (an.getD j []).all fun x => match ops[j]? with
  | some o => o.after.any fun e => Region.binds .any e && (e.on == x || anc an x e.on)
  | none => false

def slotsOk (cs : List COp) (an : List (List Nat)) (od : List Nat) : Bool := dAll od.length fun p => dAll od.length fun q =>
  p == q || !(posOp cs (od.getD p 0)).clash (posOp cs (od.getD q 0)) || (decide (p < q) && anc an (od.getD p 0) (od.getD q 0)) || (decide (q < p) && anc an (od.getD q 0) (od.getD p 0))

def chainOk (an : List (List Nat)) (eff : List Nat) : Bool := dAll eff.length fun y => dAll y fun x => anc an (eff.getD x 0) (eff.getD y 0)

def timesOk (cs : List COp) (an : List (List Nat)) (eff : List Nat) : Bool := dAll (ordR cs).length fun q =>
  let i := (ordR cs).getD q 0
  let lo := loOf an eff i
  let hi := hiOf an eff i
  decide (lo ≤ eAt cs q) && decide (eAt cs q ≤ hi) && decide (hi ≤ eff.length) && dAll lo (fun x => anc an (eff.getD x 0) i) && (hi == eff.length || anc an i (eff.getD hi 0))

def drawOk (ops : List Oper) (cs : List COp) (an : List (List Nat)) : Bool :=
  afterOk ops && anOk ops an && decide (ordA cs ++ ordR cs).Nodup && dAll cs.length (fun i => (ordA cs ++ ordR cs).contains i)
  && slotsOk cs an (ordA cs ++ ordR cs) && chainOk an (effs cs) && decide (effs cs).Nodup && timesOk cs an (effs cs) && cs.all (fun c => !c.ins.isAlloc || c.guard.isNone)

def cDraw (gl : List Nat) (nt : Nat) (P : Program) (ops : Array Oper) : Option CCode := match cOpers gl nt P ops ops.toList with
  | some cs =>
    let an := ancs ops.toList []
    if drawOk ops.toList cs an then
      some (.regD ((ordA cs).map (posOp cs)) ((ordR cs).map fun i => (posOp cs i, loOf an (effs cs) i, hiOf an (effs cs) i)))
    else none
  | none => none

def compile (gl : List Nat) (nt : Nat) (P : Program) : Code → Option CCode
  | .skip => some .skip
  | .seq a b => match compile gl nt P a, compile gl nt P b with
    | some x, some y => some (.seq x y)
    | _, _ => none
  | .region _ ops draw => if draw then cDraw gl nt P ops else match cOpers gl nt P ops ops.toList with
    | some cs => some (.reg cs)
    | none => none
  | .cond c a b => match copd gl c, compile gl nt P a, compile gl nt P b with
    | some c, some x, some y => some (.cond c x y)
    | _, _, _ => none
  | .block id c => match compile gl nt P c with
    | some x => some (.block id x)
    | none => none
  | .loop c => match compile gl nt P c with
    | some x => some (.loop x)
    | none => none
  | .exit id => some (.exit id)
  | .ret => some .ret
  | _ => some .bad

def stripOp (c : COp) : COp := { c with kd := strip0 }
def strip : CCode → CCode
  | .seq a b => .seq (strip a) (strip b)
  | .reg ops => .reg (ops.map stripOp)
  | .regD al ops => .regD (al.map stripOp) (ops.map fun (c, l, h) => (stripOp c, l, h))
  | .cond c a b => .cond c (strip a) (strip b)
  | .block id c => .block id (strip c)
  | .loop c => .loop (strip c)
  | .cut _ c => strip c
  | .loopC _ c => .loop (strip c)
  | c => c

def cRess (P : Program) : List ResultVar → Option (List CRes)
  | [] => some []
  | .tmp t :: l => match cRess P l with
    | some r => some (.tmp t :: r)
    | none => none
  | .cell a t :: l => match cRess P l with
    | some r => if okElem P t then some (.cell a (P.cellsOf t) (isAggT P t) :: r) else none
    | none => none

/-- this clean code is the function's -/
def cFunc (gl : List Nat) (P : Program) (f : Nat) (c : CFunc) : Prop := ∃ fn body, P.funcs[f]? = some fn ∧ fn.body = some body ∧ compile gl fn.ntmps P body = some (strip c.body) ∧ cRess P fn.results.toList = some c.results ∧ (fn.name == "runtime.NumGoroutine") = false

end Go.Cm

namespace Go.Cm
open Go

def VRs (μ : Mu) : List Value → List Value → Prop
  | [], [] => True
  | a :: as, b :: bs => VR μ a b ∧ VRs μ as bs
  | _, _ => False

theorem VRs.mono {μ μ' : Mu} (hm : μ.le μ') : ∀ {a b : List Value}, VRs μ a b → VRs μ' a b
  | [], [], _ => trivial
  | _ :: _, _ :: _, h => ⟨h.1.mono hm, VRs.mono hm h.2⟩
theorem VRs.length {μ : Mu} : ∀ {a b : List Value}, VRs μ a b → a.length = b.length
  | [], [], _ => rfl
  | _ :: _, _ :: _, h => by simp [VRs.length h.2]
theorem VRs.get {μ : Mu} : ∀ {a b : List Value}, VRs μ a b → ∀ (i : Nat) (v : Value), a[i]? = some v → ∃ v', b[i]? = some v' ∧ VR μ v v'
  | [], [], _, i, v, h => by simp at h
  | x :: _, y :: _, h, i, v, e => by
    cases i with
    | zero => simp at e; subst e; exact ⟨y, by simp, h.1⟩
    | succ i => simp at e; obtain ⟨v', h1, h2⟩ := VRs.get h.2 i v e; exact ⟨v', by simpa using h1, h2⟩
theorem VRs.of {μ : Mu} : ∀ {a b : List Value}, a.length = b.length → (∀ (i : Nat) (v v' : Value), a[i]? = some v → b[i]? = some v' → VR μ v v') → VRs μ a b
  | [], [], _, _ => trivial
  | x :: as, y :: bs, hl, h => ⟨h 0 x y (by simp) (by simp), VRs.of (by simpa using hl) fun i v v' h1 h2 => h (i + 1) v v' (by simpa using h1) (by simpa using h2)⟩
  | [], _ :: _, hl, _ => by simp at hl
  | _ :: _, [], hl, _ => by simp at hl
theorem VRs.append {μ : Mu} : ∀ {a b c d : List Value}, VRs μ a b → VRs μ c d → VRs μ (a ++ c) (b ++ d)
  | [], [], _, _, _, h => h
  | _ :: _, _ :: _, _, _, h, h' => ⟨h.1, VRs.append h.2 h'⟩
theorem VRs.take {μ : Mu} {a b : List Value} (h : VRs μ a b) (n : Nat) : VRs μ (a.take n) (b.take n) :=
  VRs.of (by simp [h.length]) fun i v v' h1 h2 => by
    simp only [List.getElem?_take] at h1 h2
    by_cases hi : i < n
    · rw [if_pos hi] at h1 h2; obtain ⟨x, hx, hv⟩ := h.get i v h1; rw [hx] at h2; cases h2; exact hv
    · rw [if_neg hi] at h1; cases h1
theorem VRs.drop {μ : Mu} {a b : List Value} (h : VRs μ a b) (n : Nat) : VRs μ (a.drop n) (b.drop n) :=
  VRs.of (by simp [h.length]) fun i v v' h1 h2 => by
    simp only [List.getElem?_drop] at h1 h2
    obtain ⟨x, hx, hv⟩ := h.get _ v h1; rw [hx] at h2; cases h2; exact hv

section inv
variable {μ : Mu} {v' : Value}
theorem VR.int_inv {k : IntKind} {n : Int} (h : VR μ (.int k n) v') : v' = .int k n := by cases h; rfl
theorem VR.bool_inv {b : Bool} (h : VR μ (.bool b) v') : v' = .bool b := by cases h; rfl
theorem VR.string_inv {s : ByteArray} (h : VR μ (.string s) v') : v' = .string s := by cases h; rfl
theorem VR.ptr_inv {a : Addr} (h : VR μ (.pointer (some a)) v') : ∃ a', v' = .pointer (some a') ∧ AR μ a a' := by cases h with | ptr h => exact ⟨_, rfl, h⟩
theorem VR.sl_inv {a : Addr} {n c : Nat} (h : VR μ (.slice (some a) n c) v') : ∃ a' c', v' = .slice (some a') n c' ∧ n ≤ c ∧ SR μ a a' n c c' := by cases h with | sl hl h => exact ⟨_, _, rfl, hl, h⟩
theorem VR.slN_inv {n c : Nat} (h : VR μ (.slice none n c) v') : n = 0 ∧ c = 0 ∧ v' = .slice none 0 0 := by cases h; exact ⟨rfl, rfl, rfl⟩
theorem VR.agg_inv {c : Array Value} (h : VR μ (.agg c) v') : ∃ c', v' = .agg c' ∧ VRs μ c.toList c'.toList ∧ (∀ v ∈ c.toList, one v = true) := by
  cases h with
  | agg hs h ho =>
    refine ⟨_, rfl, VRs.of (by simpa using hs) fun i v v' h1 h2 => ?_, fun v hv => ?_⟩
    · simp only [Array.getElem?_toList] at h1 h2
      obtain ⟨h1', rfl⟩ := Array.getElem?_eq_some_iff.1 h1
      obtain ⟨h2', rfl⟩ := Array.getElem?_eq_some_iff.1 h2
      exact h i h1' h2'
    · obtain ⟨i, hi, rfl⟩ := Array.mem_iff_getElem.1 (Array.mem_toList_iff.1 hv)
      exact ho i hi
theorem VR.tuple_inv {c : Array Value} (h : VR μ (.tuple c) v') : ∃ c', v' = .tuple c' ∧ VRs μ c.toList c'.toList := by
  cases h with
  | tuple hs h =>
    refine ⟨_, rfl, VRs.of (by simpa using hs) fun i v v' h1 h2 => ?_⟩
    simp only [Array.getElem?_toList] at h1 h2
    obtain ⟨h1', rfl⟩ := Array.getElem?_eq_some_iff.1 h1
    obtain ⟨h2', rfl⟩ := Array.getElem?_eq_some_iff.1 h2
    exact h i h1' h2'
end inv

theorem VR.agg_of {μ : Mu} {l l' : List Value} (h : VRs μ l l') (ho : ∀ v ∈ l, one v = true) : VR μ (.agg l.toArray) (.agg l'.toArray) :=
  .agg (by simpa using h.length) (fun i h1 h2 => by
    have h1' : l[i]? = some l[i] := by simp
    obtain ⟨v', h3, h4⟩ := h.get i _ h1'
    have : v' = l'[i] := by simpa using (List.getElem?_eq_some_iff.1 h3).2.symm
    subst this
    simpa using h4) (fun i h1 => ho _ (by simp))
theorem VR.tuple_of {μ : Mu} {l l' : List Value} (h : VRs μ l l') : VR μ (.tuple l.toArray) (.tuple l'.toArray) :=
  .tuple (by simpa using h.length) (fun i h1 h2 => by
    have h1' : l[i]? = some l[i] := by simp
    obtain ⟨v', h3, h4⟩ := h.get i _ h1'
    have : v' = l'[i] := by simpa using (List.getElem?_eq_some_iff.1 h3).2.symm
    subst this
    simpa using h4)

theorem VR.of_plain {μ : Mu} {v : Value} (h : plain v = true) : VR μ v v := by
  cases v <;> simp only [plain] at h
  case bool b => exact .bool b
  case int k n => exact .int k n
  case string s => exact .string s
  case pointer a => cases a with
    | none => exact .ptrN
    | some a => cases h
  case slice a n c => cases a with
    | none => cases n <;> cases c <;> first | exact .slN | cases h
    | some a => cases h
  case map r => cases r with
    | none => exact .mapN
    | some r => cases h
  case nilFunc => exact .nilFunc
  case nilIface => exact .nilIface
  all_goals cases h
theorem one_of_plain {v : Value} (h : plain v = true) : one v = true := by cases v <;> simp_all [plain, one]
theorem VRs.of_plain {μ : Mu} : ∀ {l : List Value}, l.all plain = true → VRs μ l l
  | [], _ => trivial
  | v :: l, h => by simp only [List.all_cons, Bool.and_eq_true] at h; exact ⟨VR.of_plain h.1, VRs.of_plain h.2⟩
theorem VR.of_plainV {μ : Mu} {v : Value} (h : plainV v = true) : VR μ v v := by
  cases v
  case agg cs =>
    simp only [plainV] at h
    have := VR.agg_of (μ := μ) (VRs.of_plain h) (fun v hv => one_of_plain (by simpa using List.all_eq_true.1 h v hv))
    simpa using this
  all_goals exact VR.of_plain h

section casts
variable {v : Value} {γ : Type} {r : γ}
theorem asI_some {k : IntKind} {K : Int → Option γ} (h : asI k v K = some r) : ∃ n, v = .int k n ∧ K n = some r := by
  unfold asI at h
  split at h
  · split at h
    · rename_i hk; subst hk; exact ⟨_, rfl, h⟩
    · cases h
  · cases h
theorem asB_some {K : Bool → Option γ} (h : asB v K = some r) : ∃ b, v = .bool b ∧ K b = some r := by
  unfold asB at h; split at h <;> first | exact ⟨_, rfl, h⟩ | cases h
theorem asS_some {K : ByteArray → Option γ} (h : asS v K = some r) : ∃ b, v = .string b ∧ K b = some r := by
  unfold asS at h; split at h <;> first | exact ⟨_, rfl, h⟩ | cases h
theorem asP_some {K : Option Addr → Option γ} (h : asP v K = some r) : ∃ b, v = .pointer b ∧ K b = some r := by
  unfold asP at h; split at h <;> first | exact ⟨_, rfl, h⟩ | cases h
theorem asSl_some {K : Option Addr → Nat → Nat → Option γ} (h : asSl v K = some r) : ∃ a n c, v = .slice a n c ∧ K a n c = some r := by
  unfold asSl at h; split at h <;> first | exact ⟨_, _, _, rfl, h⟩ | cases h
theorem asM_some {K : Option Nat → Option γ} (h : asM v K = some r) : ∃ b, v = .map b ∧ K b = some r := by
  unfold asM at h; split at h <;> first | exact ⟨_, rfl, h⟩ | cases h
theorem asA_some {K : Array Value → Option γ} (h : asA v K = some r) : ∃ b, v = .agg b ∧ K b = some r := by
  unfold asA at h; split at h <;> first | exact ⟨_, rfl, h⟩ | cases h
theorem asN_some {K : Int → Option γ} (h : asN v K = some r) : ∃ k n, v = .int k n ∧ K n = some r := by
  unfold asN at h; split at h <;> first | exact ⟨_, _, rfl, h⟩ | cases h
theorem optK_some {α : Type} {o : Option α} {K : α → Option γ} (h : optK o K = some r) : ∃ x, o = some x ∧ K x = some r := by
  unfold optK at h; split at h <;> first | exact ⟨_, rfl, h⟩ | cases h
theorem chk_some {b : Bool} {x : Option γ} (h : chk b x = some r) : b = true ∧ x = some r := by
  unfold chk at h; split at h <;> first | exact ⟨rfl, h⟩ | cases h
end casts
section casts2
variable {v : Value} {r : Value × Heap}
theorem cast0_some {d : Kd0} {K : Value → Res} (h : cast0 d v K = some r) : K v = some r := by
  unfold cast0 at h
  split at h
  · exact h
  · obtain ⟨n, rfl, h2⟩ := asI_some h; exact h2
  · obtain ⟨n, rfl, h2⟩ := asB_some h; exact h2
  · obtain ⟨n, rfl, h2⟩ := asS_some h; exact h2
  · obtain ⟨n, rfl, h2⟩ := asP_some h; exact h2
  · obtain ⟨_, _, _, rfl, h2⟩ := asSl_some h; exact h2
  · obtain ⟨n, rfl, h2⟩ := asM_some h; exact h2
  · obtain ⟨n, rfl, h2⟩ := asA_some h; exact h2
theorem castL_some : ∀ {ds : List Kd0} {vs : List Value} {K : List Value → Res}, castL ds vs K = some r → K vs = some r
  | [], [], _, h => h
  | d :: ds, v :: vs, K, h => by
    simp only [castL] at h
    have h2 := cast0_some h
    exact castL_some (K := fun l => K (v :: l)) h2
  | [], _ :: _, _, h => by simp [castL] at h
  | _ :: _, [], _, h => by simp [castL] at h
theorem cast_some {d : Kd} {K : Value → Res} (h : cast d v K = some r) : K v = some r := by
  unfold cast at h
  split at h
  · exact cast0_some h
  · split at h
    · exact castL_some h
    · cases h
end casts2

/-- what is shown of a pure instruction -/
def PureOK (P : Program) (o : Oper) (p : PI) (xs : List Operand) : Prop :=
  ∀ (μ : Mu) (ρ : Operand → Value) (vs : List Value) (w : World) (K : Value → Res) (r : Value × Heap), (∀ v, ρ (.const v) = v) → VRs μ vs (xs.map ρ) → pureK p vs K = some r →
    ∃ v v', K v = some r ∧ (execOp ρ o).run P w = .ok (.value v') w ∧ VR μ v v'

theorem VRs.inv1 {μ : Mu} {vs : List Value} {a : Value} (h : VRs μ vs [a]) : ∃ x, vs = [x] ∧ VR μ x a := by
  match vs, h with
  | [x], h => exact ⟨x, rfl, h.1⟩
theorem VRs.inv2 {μ : Mu} {vs : List Value} {a b : Value} (h : VRs μ vs [a, b]) : ∃ x y, vs = [x, y] ∧ VR μ x a ∧ VR μ y b := by
  match vs, h with
  | [x, y], h => exact ⟨x, y, rfl, h.1, h.2.1⟩

end Go.Cm

namespace Go.Cm
open Go

section
variable {P : Program} {μ : Mu} {w : World}

/-- the two halves of a binary operation -/
def binS (op : BinOp) (t : TypeId) (x y : Operand) (u v : Value) : Sem Value := do eqGuard op t x y u v; binOp op t u v

theorem run_intBits {op : BinOp} {k : IntKind} {a b : Int} (h : isBits op = true) : (Op.intBits op k a b).run P w = .ok (.int k (bitsI op k a b)) w := by
  cases op <;> first | rfl | cases h

theorem bin_arith {k : IntKind} {t : TypeId} {x y : Operand} {a b : Int} :
    (binS .add t x y (.int k a) (.int k b)).run P w = .ok (.int k (k.wrap (a + b))) w ∧
    (binS .sub t x y (.int k a) (.int k b)).run P w = .ok (.int k (k.wrap (a - b))) w ∧
    (binS .mul t x y (.int k a) (.int k b)).run P w = .ok (.int k (k.wrap (a * b))) w := by
  refine ⟨?_, ?_, ?_⟩ <;> simp [binS, eqGuard, binOp, Op.intArith]

theorem eqGuard_int {op : BinOp} {k k' : IntKind} {t : TypeId} {x y : Operand} {a b : Int} : eqGuard op t x y (.int k a) (.int k' b) = pure () := by
  cases op <;> rfl

theorem beq_dec (a b : Int) : (a == b) = decide (a = b) := by
  by_cases h : a = b <;> simp [h]

theorem cmp_ok {op : BinOp} {k : IntKind} {t : TypeId} {x y : Operand} {a b : Int} {K : Value → Res} {r : Value × Heap}
    (h : cmpI op a b (fun r => K (.bool r)) = some r) :
    ∃ v, K v = some r ∧ (binS op t x y (.int k a) (.int k b)).run P w = .ok v w ∧ VR μ v v := by
  cases op <;> simp only [cmpI] at h
  case eql => exact ⟨_, h, by simp [binS, eqGuard_int, binOp, Op.intCmp, beq_dec], .bool _⟩
  case neq => exact ⟨_, h, by simp [binS, eqGuard_int, binOp, Op.intCmp, bne, beq_dec], .bool _⟩
  case lss => exact ⟨_, h, by simp [binS, eqGuard_int, binOp, Op.intCmp], .bool _⟩
  case leq => exact ⟨_, h, by simp [binS, eqGuard_int, binOp, Op.intCmp], .bool _⟩
  case gtr => exact ⟨_, h, by simp [binS, eqGuard_int, binOp, Op.intCmp], .bool _⟩
  case geq => exact ⟨_, h, by simp [binS, eqGuard_int, binOp, Op.intCmp], .bool _⟩
  all_goals cases h

theorem toList_eq (s : ByteArray) : s.toList = lst s := by
  rw [ByteArray.toList_eq]; rfl

theorem slen_size (s : ByteArray) : slen s = s.size := by simp [slen, lst]

theorem sCat_eq (a b : ByteArray) : sCat a b = a ++ b := by
  apply ByteArray.ext
  simp [sCat, S, lst, ByteArray.data_append]

theorem sLess_eq : ∀ (a b : List UInt8), sLess a b = Op.bytesLess a b
  | [], [] => rfl
  | [], _ :: _ => rfl
  | _ :: _, [] => rfl
  | a :: x, b :: y => by
    simp only [sLess, Op.bytesLess, sLess_eq x y]
    congr 1
    congr 1
    rw [Bool.eq_iff_iff]
    simp [UInt8.toNat_inj]

theorem sadd_ok {t : TypeId} {x y : Operand} {a b : ByteArray} (h : slen a + slen b ≤ 9223372036854775807) :
    (binS .add t x y (.string a) (.string b)).run P w = .ok (.string (sCat a b)) w := by
  have h' : ¬ (((a.size + b.size : Nat) : Int) > IntKind.i64.max) := by
    rw [slen_size, slen_size] at h
    have : IntKind.i64.max = 9223372036854775807 := by decide
    omega
  simp only [binS, eqGuard, binOp, Op.stringOp]
  simp only [if_neg h', sCat_eq]
  simp

theorem eqGuard_string {op : BinOp} {t : TypeId} {x y : Operand} {a b : ByteArray} : eqGuard op t x y (.string a) (.string b) = pure () := by
  cases op <;> rfl

theorem scmp_ok {op : BinOp} {t : TypeId} {x y : Operand} {a b : ByteArray} {K : Value → Res} {r : Value × Heap}
    (h : scmpB op a b (fun r => K (.bool r)) = some r) :
    ∃ v, K v = some r ∧ (binS op t x y (.string a) (.string b)).run P w = .ok v w ∧ VR μ v v := by
  cases op <;> simp only [scmpB] at h
  case eql => exact ⟨_, h, by simp [binS, eqGuard_string, binOp, Op.stringOp, sEq, toList_eq], .bool _⟩
  case neq => exact ⟨_, h, by simp [binS, eqGuard_string, binOp, Op.stringOp, sEq, toList_eq], .bool _⟩
  case lss => exact ⟨_, h, by simp [binS, eqGuard_string, binOp, Op.stringOp, sLess_eq, toList_eq], .bool _⟩
  case leq => exact ⟨_, h, by simp [binS, eqGuard_string, binOp, Op.stringOp, sEq, sLess_eq, toList_eq], .bool _⟩
  case gtr => exact ⟨_, h, by simp [binS, eqGuard_string, binOp, Op.stringOp, sEq, sLess_eq, toList_eq], .bool _⟩
  case geq => exact ⟨_, h, by simp [binS, eqGuard_string, binOp, Op.stringOp, sLess_eq, toList_eq], .bool _⟩
  all_goals cases h

theorem div_ok {k : IntKind} {t : TypeId} {x y : Operand} {a b : Int} (hb : b ≠ 0) :
    (binS .quo t x y (.int k a) (.int k b)).run P w = .ok (.int k (k.wrap (a.tdiv b))) w ∧
    (binS .rem t x y (.int k a) (.int k b)).run P w = .ok (.int k (a.tmod b)) w := by
  refine ⟨?_, ?_⟩ <;> simp [binS, eqGuard, binOp, Op.intDiv, hb]

theorem shift_ok {k k' : IntKind} {t : TypeId} {x y : Operand} {a b : Int} (hb : ¬ b < 0) :
    (binS .shl t x y (.int k a) (.int k' b)).run P w = .ok (.int k (k.wrap (a * 2 ^ (min b.toNat k.bits)))) w ∧
    (binS .shr t x y (.int k a) (.int k' b)).run P w = .ok (.int k (a.fdiv (2 ^ (min b.toNat k.bits)))) w := by
  refine ⟨?_, ?_⟩ <;> simp only [binS, eqGuard, binOp, Op.shift, if_neg hb] <;> rfl

theorem bits_ok {op : BinOp} {k : IntKind} {t : TypeId} {x y : Operand} {a b : Int} (h : isBits op = true) :
    (binS op t x y (.int k a) (.int k b)).run P w = .ok (.int k (bitsI op k a b)) w := by
  cases op <;> first | (cases h; done) | (simp only [binS, eqGuard_int, binOp]; simp; exact run_intBits (P := P) (w := w) rfl)

/-! ### equality of plain aggregates -/
theorem eqL_append : ∀ (ks : List Kd0) (a b c d : List Value) (ks2 : List Kd0), a.length = ks.length → c.length = ks.length → eqL (ks ++ ks2) (a ++ b) (c ++ d) = match eqL ks a c with
    | some true => eqL ks2 b d
    | some false => some false
    | none => none
  | [], [], b, [], d, _, _, _ => by simp [eqL]
  | k :: ks, x :: a, b, y :: c, d, ks2, h, h' => by
    simp only [List.cons_append, eqL]
    cases eqC k x y with
    | none => rfl
    | some r => cases r
                · rfl
                · exact eqL_append ks a b c d ks2 (by simpa using h) (by simpa using h')
  | [], _ :: _, _, _, _, _, h, _ => by simp at h
  | [], [], _, _ :: _, _, _, _, h => by simp at h
  | _ :: _, [], _, _, _, _, h, _ => by simp at h
  | _ :: _, _ :: _, _, [], _, _, _, h => by simp at h

theorem eqC_real {k : Kd0} {a b a' b' : Value} (ha : VR μ a a') (hb : VR μ b b') {r : Bool} (h : eqC k a b = some r) : eqC k a' b' = some r := by
  cases ha <;> cases hb <;> first | exact h | (cases k <;> simp [eqC] at h)
theorem eqL_real : ∀ {ks : List Kd0} {a b a' b' : List Value}, VRs μ a a' → VRs μ b b' → ∀ {r : Bool}, eqL ks a b = some r → eqL ks a' b' = some r
  | [], [], [], [], [], _, _, _, h => h
  | k :: ks, x :: a, y :: b, x' :: a', y' :: b', ha, hb, r, h => by
    simp only [eqL] at h ⊢
    cases hc : eqC k x y with
    | none => rw [hc] at h; cases h
    | some c =>
      rw [hc] at h
      rw [eqC_real ha.1 hb.1 hc]
      cases c
      · exact h
      · exact eqL_real ha.2 hb.2 h
  | [], _ :: _, _, _ :: _, _, _, _, _, h => by simp [eqL] at h
  | [], [], _ :: _, [], _ :: _, _, _, _, h => by simp [eqL] at h
  | _ :: _, [], _, [], _, _, _, _, h => by simp [eqL] at h
  | _ :: _, _ :: _, [], _ :: _, [], _, _, _, h => by simp [eqL] at h

/-- a value of a type out of its cells -/
def valT (P : Program) (t : TypeId) (l : List Value) : Value := if isAggT P t then .agg l.toArray else l.headD undef

theorem run_isAgg {t : TypeId} (h : (P.underlying t).isSome = true) : (isAgg t).run P w = .ok (isAggT P t) w := by
  obtain ⟨d, hd⟩ := Option.isSome_iff_exists.1 h
  simp only [isAgg, Sem.run_bind, run_underlying hd, Result.andThen_ok, isAggT, hd]
  cases d <;> rfl

theorem run_sizeOf {t : TypeId} {i : TypeInfo} (h : P.info? t = some i) : (sizeOf t).run P w = .ok i.size w := by
  simp [sizeOf, typeInfo, h]
theorem run_sizeOf' {t : TypeId} (h : (P.info? t).isSome = true) : (sizeOf t).run P w = .ok (P.cellsOf t) w := by
  obtain ⟨i, hi⟩ := Option.isSome_iff_exists.1 h
  rw [run_sizeOf hi]; simp [Program.cellsOf, hi]

theorem info_of_underlying {t : TypeId} {d : TypeDesc} (h : P.underlying t = some d) : (P.info? t).isSome = true := by
  unfold Program.underlying at h
  split at h <;> simp_all

theorem run_part {t : TypeId} {cs : List Value} {off : Nat} (h : (P.underlying t).isSome = true) (hn : off + P.cellsOf t ≤ cs.length) (h1 : isAggT P t = true ∨ P.cellsOf t = 1) :
    (part t cs.toArray off).run P w = .ok (valT P t ((cs.drop off).take (P.cellsOf t))) w := by
  obtain ⟨d, hd⟩ := Option.isSome_iff_exists.1 h
  unfold part valT
  simp only [Sem.run_bind, run_isAgg h, Result.andThen_ok]
  by_cases ha : isAggT P t = true
  · simp only [ha, if_true, Sem.run_bind, run_sizeOf' (info_of_underlying hd), Result.andThen_ok, Sem.run_pure]
    simp
  · simp only [ha]
    have h1 : P.cellsOf t = 1 := h1.resolve_left ha
    have hlt : off < cs.length := by omega
    simp only [h1, List.getElem?_toArray, List.getElem?_eq_getElem hlt]
    have : (List.drop off cs).take 1 = [cs[off]] := by
      rw [List.drop_eq_getElem_cons hlt]; rfl
    simp [this]
end
end Go.Cm

namespace Go.Cm
open Go

section
variable {P : Program} {μ : Mu} {w : World}

theorem valT_agg {t : TypeId} {l : List Value} (h : isAggT P t = true) : valT P t l = .agg l.toArray := by simp [valT, h]
theorem valT_one {t : TypeId} {v : Value} (h : isAggT P t = false) : valT P t [v] = v := by simp [valT, h]

/-- the loop over an array's elements -/
theorem run_eqArr (d : Nat) (elem : TypeId) (ks : List Kd0) (he : (P.underlying elem).isSome = true) (hc : P.cellsOf elem = ks.length) (h1 : isAggT P elem = true ∨ P.cellsOf elem = 1)
    (ih : ∀ (xs ys : List Value) (r : Bool) (w : World), xs.length = ks.length → ys.length = ks.length → eqL ks xs ys = some r → (Op.equalIn d elem (valT P elem xs) (valT P elem ys)).run P w = .ok r w)
    (XS YS : List Value) : ∀ (n i : Nat) (r : Bool) (w : World), XS.length = (i + n) * ks.length → YS.length = (i + n) * ks.length →
      eqL (List.replicate n ks).flatten (XS.drop (i * ks.length)) (YS.drop (i * ks.length)) = some r →
      ((forIn (List.range' i n) (none, PUnit.unit) fun i (__s : Option Bool × PUnit) => do
            let a ← part elem XS.toArray (i * P.cellsOf elem)
            let b ← part elem YS.toArray (i * P.cellsOf elem)
            let c ← Op.equalIn d elem a b
            if (!c) = true then pure (ForInStep.done (some false, PUnit.unit)) else pure (ForInStep.yield (none, PUnit.unit)) : Sem (Option Bool × PUnit)).run P w) = .ok ((if r then none else some false), PUnit.unit) w
  | 0, i, r, w, hx, hy, h => by
    have h1 : XS.drop (i * ks.length) = [] := List.drop_eq_nil_of_le (by rw [hx]; simp)
    have h2 : YS.drop (i * ks.length) = [] := List.drop_eq_nil_of_le (by rw [hy]; simp)
    rw [h1, h2] at h
    simp [eqL] at h
    subst h
    simp
  | n + 1, i, r, w, hx, hy, h => by
    have e : (i + (n + 1)) * ks.length = i * ks.length + (ks.length + n * ks.length) := by rw [Nat.add_mul, Nat.add_mul]; omega
    have e2 : (i + 1 + n) * ks.length = (i + (n + 1)) * ks.length := by congr 1; omega
    rw [List.range'_succ, List.forIn_cons]
    have p1 := run_part (P := P) (w := w) (t := elem) (cs := XS) (off := i * P.cellsOf elem) he (by rw [hc, hx, e]; omega) h1
    have p2 := run_part (P := P) (w := w) (t := elem) (cs := YS) (off := i * P.cellsOf elem) he (by rw [hc, hy, e]; omega) h1
    have hX : (XS.drop (i * ks.length)).length = ks.length + n * ks.length := by rw [List.length_drop, hx, e]; omega
    have hY : (YS.drop (i * ks.length)).length = ks.length + n * ks.length := by rw [List.length_drop, hy, e]; omega
    simp only [Sem.run_bind, p1, p2, Result.andThen_ok]
    rw [hc]
    rw [← List.take_append_drop ks.length (XS.drop (i * ks.length)), ← List.take_append_drop ks.length (YS.drop (i * ks.length)), List.replicate_succ, List.flatten_cons,
      eqL_append _ _ _ _ _ _ (by rw [List.length_take, hX]; omega) (by rw [List.length_take, hY]; omega)] at h
    cases hq : eqL ks ((XS.drop (i * ks.length)).take ks.length) ((YS.drop (i * ks.length)).take ks.length) with
    | none => rw [hq] at h; cases h
    | some c =>
      rw [hq] at h
      rw [ih _ _ c w (by rw [List.length_take, hX]; omega) (by rw [List.length_take, hY]; omega) hq]
      cases c
      · simp only [Option.some.injEq] at h
        subst h
        simp
      · simp only [List.drop_drop] at h
        have e3 : i * ks.length + ks.length = (i + 1) * ks.length := by rw [Nat.add_mul]; omega
        rw [e3] at h
        have := run_eqArr d elem ks he hc h1 ih XS YS n (i + 1) r w (by rw [e2]; exact hx) (by rw [e2]; exact hy) h
        rw [hc] at this
        simpa using this

theorem flat_isSome : ∀ {d : Nat} {t : TypeId} {ks : List Kd0}, flat P d t = some ks → (P.underlying t).isSome = true ∧ (isAggT P t = true ∨ ks.length = 1)
  | 0, _, _, h => by simp [flat] at h
  | d + 1, t, ks, h => by
    unfold flat at h
    split at h <;> rename_i e <;> (try cases h) <;> simp [isAggT, e]

theorem run_eqFields (d : Nat) (fl : TypeId → Option (List Kd0)) (hfl : ∀ t ks, fl t = some ks → (P.underlying t).isSome = true ∧ (isAggT P t = true ∨ ks.length = 1) ∧
      ∀ (xs ys : List Value) (r : Bool) (w : World), xs.length = ks.length → ys.length = ks.length → eqL ks xs ys = some r → (Op.equalIn d t (valT P t xs) (valT P t ys)).run P w = .ok r w) (XS YS : List Value) :
    ∀ (fs : List Field) (a : Nat) (ks : List Kd0) (r : Bool) (w : World), flat.flatF P fl fs a = some ks → XS.length = a + ks.length → YS.length = a + ks.length →
      eqL ks (XS.drop a) (YS.drop a) = some r → (Op.eqFields d XS.toArray YS.toArray fs).run P w = .ok r w
  | [], a, ks, r, w, hf, hx, hy, h => by
    simp only [flat.flatF, Option.some.injEq] at hf
    subst hf
    rw [List.drop_eq_nil_of_le (by simpa using Nat.le_of_eq hx), List.drop_eq_nil_of_le (by simpa using Nat.le_of_eq hy)] at h
    simp [eqL] at h
    subst h
    simp [Op.eqFields]
  | f :: fs, a, ks, r, w, hf, hx, hy, h => by
    unfold flat.flatF at hf
    split at hf
    · rename_i k1 hk1
      split at hf
      · rename_i hcond
        obtain ⟨ho, hc, hn⟩ := hcond
        split at hf
        · rename_i k2 hk2
          simp only [Option.some.injEq] at hf
          subst hf
          obtain ⟨h1, h2, h3⟩ := hfl _ _ hk1
          rw [List.length_append] at hx hy
          have hX : (XS.drop a).length = k1.length + k2.length := by rw [List.length_drop]; omega
          have hY : (YS.drop a).length = k1.length + k2.length := by rw [List.length_drop]; omega
          have p1 := run_part (P := P) (w := w) (t := f.type) (cs := XS) (off := f.offset) h1 (by rw [hc, ho]; omega) (by rw [hc]; exact h2)
          have p2 := run_part (P := P) (w := w) (t := f.type) (cs := YS) (off := f.offset) h1 (by rw [hc, ho]; omega) (by rw [hc]; exact h2)
          simp only [Op.eqFields, if_pos hn, Sem.run_bind, p1, p2, Result.andThen_ok]
          rw [hc, ho]
          rw [← List.take_append_drop k1.length (XS.drop a), ← List.take_append_drop k1.length (YS.drop a),
            eqL_append _ _ _ _ _ _ (by rw [List.length_take, hX]; omega) (by rw [List.length_take, hY]; omega)] at h
          cases hq : eqL k1 ((XS.drop a).take k1.length) ((YS.drop a).take k1.length) with
          | none => rw [hq] at h; cases h
          | some c =>
            rw [hq] at h
            rw [h3 _ _ c w (by rw [List.length_take, hX]; omega) (by rw [List.length_take, hY]; omega) hq]
            cases c
            · simp only [Option.some.injEq] at h
              subst h
              simp
            · simp only [List.drop_drop] at h
              have := run_eqFields d fl hfl XS YS fs (a + k1.length) k2 r w hk2 (by omega) (by omega) h
              simpa using this
        · cases hf
      · cases hf
    · cases hf

theorem eq_flat : ∀ (d : Nat) (t : TypeId) (ks : List Kd0), flat P d t = some ks → ∀ (dd : Nat), d ≤ dd → ∀ (xs ys : List Value) (r : Bool) (w : World),
    xs.length = ks.length → ys.length = ks.length → eqL ks xs ys = some r → (Op.equalIn dd t (valT P t xs) (valT P t ys)).run P w = .ok r w
  | 0, _, _, h => by simp [flat] at h
  | d + 1, t, ks, hf => by
    intro dd hd xs ys r w hx hy h
    obtain ⟨dd, rfl⟩ : ∃ m, dd = m + 1 := ⟨dd - 1, by omega⟩
    have hS := flat_isSome hf
    unfold flat at hf
    split at hf
    · rename_i k e
      simp only [Option.some.injEq] at hf; subst hf
      obtain ⟨x, rfl⟩ := List.length_eq_one_iff.1 hx
      obtain ⟨y, rfl⟩ := List.length_eq_one_iff.1 hy
      rw [valT_one (by simp [isAggT, e]), valT_one (by simp [isAggT, e])]
      simp only [eqL] at h
      cases x <;> cases y <;> simp only [eqC] at h <;> try (cases h; done)
      rename_i k1 a k2 b
      by_cases hk : k1 = k ∧ k2 = k
      · rw [if_pos hk] at h
        obtain ⟨rfl, rfl⟩ := hk
        rw [run_equalIn_int w dd t _ _ a b e]
        cases hab : decide (a = b) <;> rw [hab] at h <;> simp_all
      · rw [if_neg hk] at h; cases h
    · rename_i e
      simp only [Option.some.injEq] at hf; subst hf
      obtain ⟨x, rfl⟩ := List.length_eq_one_iff.1 hx
      obtain ⟨y, rfl⟩ := List.length_eq_one_iff.1 hy
      rw [valT_one (by simp [isAggT, e]), valT_one (by simp [isAggT, e])]
      simp only [eqL] at h
      cases x <;> cases y <;> simp only [eqC] at h <;> try (cases h; done)
      rename_i a b
      rw [run_equalIn_bool' w dd t a b e]
      cases hab : (a == b) <;> rw [hab] at h <;> simp_all
    · rename_i e
      simp only [Option.some.injEq] at hf; subst hf
      obtain ⟨x, rfl⟩ := List.length_eq_one_iff.1 hx
      obtain ⟨y, rfl⟩ := List.length_eq_one_iff.1 hy
      rw [valT_one (by simp [isAggT, e]), valT_one (by simp [isAggT, e])]
      simp only [eqL] at h
      cases x <;> cases y <;> simp only [eqC] at h <;> try (cases h; done)
      rename_i a b
      rw [run_equalIn_string w dd t a b e, toList_eq, toList_eq]
      unfold sEq at h
      cases hab : (lst a == lst b) <;> rw [hab] at h <;> simp_all
    · rename_i len elem e
      split at hf
      · rename_i k1 hk1
        split at hf
        · rename_i hc
          simp only [Option.some.injEq] at hf; subst hf
          obtain ⟨h1, h2⟩ := flat_isSome hk1
          have hA : isAggT P t = true := by simp [isAggT, e]
          rw [valT_agg hA, valT_agg hA]
          have hlen : (List.replicate len k1).flatten.length = (0 + len) * k1.length := by simp
          simp only [Op.equalIn, Sem.run_bind, run_underlying e, Result.andThen_ok, run_sizeOf' (info_of_underlying (Option.eq_some_of_isSome h1))]
          rw [Std.Legacy.Range.forIn_eq_forIn_range']
          have := run_eqArr (P := P) dd elem k1 h1 hc (by rw [hc]; exact h2) (fun xs ys r w a b c => eq_flat d elem k1 hk1 dd (by omega) xs ys r w a b c) xs ys len 0 r w
            (by rw [hx, hlen]) (by rw [hy, hlen]) (by simpa using h)
          simp only [Std.Legacy.Range.size, Nat.sub_zero, Nat.add_sub_cancel, Nat.div_one]
          rw [this]
          cases r <;> simp
        · cases hf
      · cases hf
    · rename_i fs e
      split at hf
      · cases hf
      · rename_i hst
        have hA : isAggT P t = true := by simp [isAggT, e]
        rw [valT_agg hA, valT_agg hA]
        rw [run_equalIn_struct w dd t xs.toArray ys.toArray (by simp [Program.fieldsOf, e]) (by simpa using hst)]
        have : P.fieldsOf t = fs := by simp [Program.fieldsOf, e]
        rw [this]
        exact run_eqFields dd (flat P d) (fun t ks hk => ⟨(flat_isSome hk).1, (flat_isSome hk).2, fun xs ys r w a b c => eq_flat d t ks hk dd (by omega) xs ys r w a b c⟩) xs ys fs.toList 0 ks r w hf
          (by simpa using hx) (by simpa using hy) (by simpa using h)
    · cases hf
end
end Go.Cm

namespace Go.Cm
open Go

section
variable {P : Program}

theorem info_some {t : TypeId} (h : okElem P t = true) : (P.info? t).isSome = true := by
  obtain ⟨d, hd⟩ := Option.isSome_iff_exists.1 h
  exact info_of_underlying hd

theorem run_isAgg' {t : TypeId} {w : World} {b : Bool} {w' : World} (h : (isAgg t).run P w = .ok b w') : b = isAggT P t ∧ w' = w := by
  simp only [isAgg, Sem.run_bind] at h
  cases hu : P.underlying t with
  | none => simp [underlying, hu] at h
  | some d =>
    rw [run_underlying hu] at h
    simp only [Result.andThen_ok] at h
    simp only [isAggT, hu]
    cases d <;> simp at h <;> (obtain ⟨rfl, rfl⟩ := h; exact ⟨rfl, rfl⟩)

/-- a part of an aggregate, clean and real -/
theorem part_ok {μ : Mu} {w : World} {t : TypeId} {cs cs' : List Value} {off : Nat} {v : Value} (hu : (P.underlying t).isSome = true) (hcs : VRs μ cs cs') (ho : ∀ v ∈ cs, one v = true)
    (h : partL cs off (P.cellsOf t) (isAggT P t) = some v) : ∃ v', (part t cs'.toArray off).run P w = .ok v' w ∧ VR μ v v' := by
  obtain ⟨d, hd⟩ := Option.isSome_iff_exists.1 hu
  unfold partL at h
  unfold part
  simp only [Sem.run_bind, run_isAgg hu, Result.andThen_ok]
  by_cases ha : isAggT P t = true
  · simp only [ha, if_true] at h ⊢
    split at h
    · simp only [Option.some.injEq] at h; subst h
      refine ⟨_, ?_, VR.agg_of ((hcs.drop off).take (P.cellsOf t)) (fun v hv => ho v (List.mem_of_mem_drop (List.mem_of_mem_take hv)))⟩
      simp [run_sizeOf' (info_of_underlying hd)]
    · cases h
  · simp only [ha] at h ⊢
    obtain ⟨v', h1, h2⟩ := hcs.get off v (by simpa using h)
    refine ⟨v', ?_, h2⟩
    simp [h1]

theorem bnds_ok {μ : Mu} {w : World} {α : Type} {K : Nat → Nat → Nat → Option α} {r : α} {len cc rc : Nat} {isS : Bool} {lo hi mx : Option Value} {vs : List Value}
    (hl : len ≤ cc) (hc : cc ≤ rc) (hv : VRs μ vs (lo.toList ++ hi.toList ++ mx.toList)) (h : bnds len cc lo.isSome hi.isSome mx.isSome vs K = some r) :
    ∃ l hh m, K l hh m = some r ∧ l ≤ hh ∧ hh ≤ m ∧ m ≤ cc ∧ (mx = none → m = cc) ∧
      (Instr.sliceBounds isS len rc lo hi mx).run P w = .ok (l, hh, if mx.isSome then m else rc) w := by
  cases lo <;> cases hi <;> cases mx <;> simp only [Option.isSome_none, Option.isSome_some, Option.toList_none, Option.toList_some, List.nil_append, List.append_nil, List.cons_append] at h hv
  · match vs, hv with
    | [], _ =>
      refine ⟨0, len, cc, h, by omega, by omega, by omega, fun _ => rfl, ?_⟩
      simp [Instr.sliceBounds]
  · simp [bnds] at h
  · obtain ⟨x, rfl, hx⟩ := hv.inv1
    simp only [bnds] at h
    obtain ⟨k, n, rfl, hA⟩ := asN_some h
    rw [hx.int_inv]
    split at hA
    · rename_i hc1
      refine ⟨_, _, _, hA, by omega, by omega, by omega, fun _ => rfl, ?_⟩
      simp [Instr.sliceBounds, run_sliceBound_if, hc1.1, (by omega : n ≤ (rc : Int))]
    · cases hA
  · obtain ⟨x, y, rfl, hx, hy⟩ := hv.inv2
    simp only [bnds] at h
    obtain ⟨k, n, rfl, hA⟩ := asN_some h
    obtain ⟨k2, m, rfl, hB⟩ := asN_some hA
    rw [hx.int_inv, hy.int_inv]
    split at hB
    · rename_i hc1
      obtain ⟨h1, h2, h3⟩ := hc1
      refine ⟨_, _, _, hB, by omega, by omega, by omega, fun e => (by cases e), ?_⟩
      simp [Instr.sliceBounds, run_sliceBound_if, h1, (by omega : 0 ≤ m), (by omega : m ≤ (rc : Int)), (by omega : n ≤ max m 0)]
    · cases hB
  · obtain ⟨x, rfl, hx⟩ := hv.inv1
    simp only [bnds] at h
    obtain ⟨k, n, rfl, hA⟩ := asN_some h
    rw [hx.int_inv]
    split at hA
    · rename_i hc1
      refine ⟨_, _, _, hA, by omega, by omega, by omega, fun _ => rfl, ?_⟩
      simp [Instr.sliceBounds, run_sliceBound_if, hc1.1, hc1.2]
    · cases hA
  · simp [bnds] at h
  · obtain ⟨x, y, rfl, hx, hy⟩ := hv.inv2
    simp only [bnds] at h
    obtain ⟨k, n, rfl, hA⟩ := asN_some h
    obtain ⟨k2, m, rfl, hB⟩ := asN_some hA
    rw [hx.int_inv, hy.int_inv]
    split at hB
    · rename_i hc1
      obtain ⟨h1, h2, h3⟩ := hc1
      refine ⟨_, _, _, hB, by omega, by omega, by omega, fun _ => rfl, ?_⟩
      simp [Instr.sliceBounds, run_sliceBound_if, h1, (by omega : 0 ≤ m), (by omega : m ≤ (rc : Int)), (by omega : n ≤ max m 0)]
    · cases hB
  · match vs, hv with
    | [x, y, z], hv =>
      obtain ⟨hx, hy, hz, _⟩ := hv
      simp only [bnds] at h
      obtain ⟨k, n, rfl, hA⟩ := asN_some h
      obtain ⟨k2, m, rfl, hB⟩ := asN_some hA
      obtain ⟨k3, q, rfl, hC⟩ := asN_some hB
      rw [hx.int_inv, hy.int_inv, hz.int_inv]
      split at hC
      · rename_i hc1
        obtain ⟨h1, h2, h3, h4⟩ := hc1
        refine ⟨_, _, _, hC, by omega, by omega, by omega, fun e => (by cases e), ?_⟩
        simp [Instr.sliceBounds, run_sliceBound_if, h1, (by omega : 0 ≤ m), (by omega : 0 ≤ q), (by omega : q ≤ (rc : Int)), (by omega : n ≤ max m 0), (by omega : m ≤ max q 0)]
      · cases hC

theorem ap_eq {a : Addr} (h : a.spot = none) (n : Nat) : a.add n = ap a n := by
  cases a with
  | mk b o s =>
    simp only at h
    subst h
    unfold Addr.add ap
    split
    · rename_i h; subst h; rfl
    · rfl

theorem AR.ap {μ : Mu} {a a' : Addr} (h : AR μ a a') (n : Nat) : AR μ (Cm.ap a n) (a'.add n) := by
  obtain ⟨h1, h2, m, h3, h4, h5⟩ := h
  rw [ap_eq h2]
  exact ⟨rfl, rfl, m, h3, h4, by simp only [Cm.ap]; omega⟩

/-- an element's address -/
theorem SR.elem {μ : Mu} {a a' : Addr} {n c c' : Nat} (h : SR μ a a' n c c') (hn : 0 < n) (k : Nat) : AR μ (Cm.ap a k) (a'.add k) := by
  rcases h with ⟨h1, h2, m, h3, h4, h5⟩ | ⟨_, h, _⟩
  rotate_left
  · omega
  rw [ap_eq h2]
  refine ⟨rfl, rfl, m, h3, h4, ?_⟩
  simp only [Cm.ap]
  omega
theorem SR.base {μ : Mu} {a a' : Addr} {n c c' : Nat} (h : SR μ a a' n c c') (hn : 0 < n) : AR μ a a' := by
  rcases h with ⟨h1, h2, m, h3, h4, h5⟩ | ⟨_, h, _⟩
  · exact ⟨h1, h2, m, h3, h4, by omega⟩
  · omega

theorem run_zeroValue {t : TypeId} {w : World} {z : List Value} (h : zeroL P t = some z) :
    (zeroValue t).run P w = .ok (valT P t z) w ∧ z.all plain = true ∧ z.length = P.cellsOf t ∧ (isAggT P t = true ∨ z.length = 1) ∧ (P.info? t).isSome = true := by
  unfold zeroL at h
  split at h
  · rename_i i hi
    split at h
    · rename_i v hv
      split at h
      · rename_i hc
        obtain ⟨h1, h2, h3⟩ := hc
        simp only [Option.some.injEq] at h
        subst h
        refine ⟨?_, h1, by simp [Program.cellsOf, hi, h2], ?_, by simp [hi]⟩
        · simp only [zeroValue, typeInfo, Sem.run_bind, run_program, Result.andThen_ok, hi, Sem.run_pure, hv]
          cases v <;> simp_all [valT, cellsL, isAggV]
        · cases v <;> simp_all [cellsL, isAggV]
      · cases h
    · cases h
  · cases h

theorem cells_valT {t : TypeId} {z : List Value} (h : isAggT P t = true ∨ z.length = 1) (ho : ∀ v ∈ z, one v = true) : (valT P t z).cells = z.toArray := by
  unfold valT
  by_cases ha : isAggT P t = true
  · simp [ha, Value.cells]
  · simp only [ha]
    obtain ⟨x, rfl⟩ := List.length_eq_one_iff.1 (h.resolve_left ha)
    have := ho x (by simp)
    cases x <;> simp_all [Value.cells, one]

theorem cells_eq (v : Value) : v.cells = (cellsL v).toArray := by cases v <;> simp [Value.cells, cellsL]

theorem VR.cellsL {μ : Mu} {v v' : Value} (h : VR μ v v') : VRs μ (Cm.cellsL v) (Cm.cellsL v') := by
  by_cases ha : ∃ c, v = .agg c
  · obtain ⟨c, rfl⟩ := ha
    obtain ⟨c', rfl, h1, _⟩ := h.agg_inv
    exact h1
  · have e1 : Cm.cellsL v = [v] := by cases v <;> first | rfl | exact absurd ⟨_, rfl⟩ ha
    have e2 : Cm.cellsL v' = [v'] := by cases h <;> first | rfl | exact absurd ⟨_, rfl⟩ ha
    rw [e1, e2]
    exact ⟨h, trivial⟩

theorem splice_cons (cs : List Value) (k : Nat) (v : Value) (vs : List Value) (h : k < cs.length) : splice (cs.set k v) (k + 1) vs = splice cs k (v :: vs) := by
  have e1 : (cs.set k v).take (k + 1) = cs.take k ++ [v] := by
    rw [List.take_succ_eq_append_getElem (by simpa using h)]
    congr 1
    · rw [List.take_set_of_le (Nat.le_refl k)]
    · simp
  have e2 : (cs.set k v).drop (k + 1 + vs.length) = cs.drop (k + 1 + vs.length) := by
    rw [List.drop_set_of_lt (by omega)]
  unfold splice
  rw [e1, e2, List.length_cons]
  have : k + 1 + vs.length = k + (vs.length + 1) := by omega
  rw [this]
  simp

/-- cells set one by one: a splice -/
theorem foldl_set (vs : List Value) : ∀ (cs : Array Value) (off j : Nat), off + j + vs.length ≤ cs.size →
    (vs.zipIdx j).foldl (fun cs (p : Value × Nat) => cs.setIfInBounds (off + p.2) p.1) cs = (splice cs.toList (off + j) vs).toArray := by
  induction vs with
  | nil => intro cs off j _; simp [splice]
  | cons v vs ih =>
    intro cs off j h
    simp only [List.length_cons] at h
    rw [List.zipIdx_cons, List.foldl_cons, ih _ _ _ (by simp; omega)]
    congr 1
    rw [Array.toList_setIfInBounds]
    exact splice_cons _ _ _ _ (by simp; omega)

theorem VRs.splice {μ : Mu} {a b c d : List Value} (h : VRs μ a b) (h' : VRs μ c d) (off : Nat) : VRs μ (Cm.splice a off c) (Cm.splice b off d) := by
  unfold Cm.splice
  rw [h'.length]
  exact ((h.take off).append h').append (h.drop _)

theorem splice_length {c vs : List Value} {off : Nat} (h : off + vs.length ≤ c.length) : (splice c off vs).length = c.length := by
  unfold splice; simp; omega
theorem splice_get {x y : List Value} {off k : Nat} (hxy : off + y.length ≤ x.length) : (splice x off y)[k]? = if k < off then x[k]? else if k < off + y.length then y[k - off]? else x[k]? := by
  unfold splice
  have l1 : (x.take off).length = off := by simp; omega
  by_cases hk : k < off
  · rw [if_pos hk, List.append_assoc, List.getElem?_append_left (by omega), List.getElem?_take_of_lt hk]
  · rw [if_neg hk, List.append_assoc, List.getElem?_append_right (by omega), l1]
    by_cases hk2 : k < off + y.length
    · rw [if_pos hk2, List.getElem?_append_left (by omega)]
    · rw [if_neg hk2, List.getElem?_append_right (by omega), List.getElem?_drop]
      congr 1
      omega

theorem splice_mem {c vs : List Value} {off : Nat} {v : Value} (h : v ∈ splice c off vs) : v ∈ c ∨ v ∈ vs := by
  unfold splice at h
  simp only [List.mem_append] at h
  rcases h with (h | h) | h
  · exact .inl (List.mem_of_mem_take h)
  · exact .inr h
  · exact .inl (List.mem_of_mem_drop h)

theorem fill_ok {μ : Mu} {place : Nat → Option (Nat × Nat)} : ∀ {ps : List (Nat × Nat)} {is : List Nat} {vs vs' : List Value} {cs cs' r : List Value}, VRs μ vs vs' → VRs μ cs cs' → (∀ v ∈ cs, one v = true) →
    is.length = ps.length → (∀ (k i : Nat), is[k]? = some i → place i = ps[k]?) → fillL ps vs cs = some r →
    ∃ r', Instr.fill place cs'.toArray (is.zip vs') = some r'.toArray ∧ VRs μ r r' ∧ (∀ v ∈ r, one v = true) ∧ r.length = cs.length
  | [], [], [], [], cs, cs', r, _, hc, ho, _, _, h => by
    simp only [fillL, Option.some.injEq] at h; subst h
    exact ⟨cs', by simp [Instr.fill], hc, ho, rfl⟩
  | (off, size) :: ps, i :: is, v :: vs, v' :: vs', cs, cs', r, hv, hc, ho, hl, hp, h => by
    simp only [fillL] at h
    split at h
    · rename_i hh
      obtain ⟨h1, h2, h3⟩ := hh
      have hcl := hv.1.cellsL
      have hlen : (cellsL v').length = size := by rw [← hcl.length]; exact h1
      have hp0 : place i = some (off, size) := by simpa using hp 0 i (by simp)
      obtain ⟨r', e1, e2, e3, e4⟩ := fill_ok (place := place) hv.2 (hc.splice hcl off) (fun x hx => by
        rcases splice_mem hx with hx | hx
        · exact ho x hx
        · exact List.all_eq_true.1 h3 x hx) (by simpa using hl) (fun k j hk => by simpa using hp (k + 1) j (by simpa using hk)) h
      refine ⟨r', ?_, e2, e3, by rw [e4, splice_length (by rw [h1]; exact h2)]⟩
      simp only [List.zip_cons_cons, Instr.fill, hp0, cells_eq]
      have hcs : cs'.length = cs.length := hc.length.symm
      have c1 : ((cellsL v').toArray.size ≠ size || off + (cellsL v').toArray.size > cs'.toArray.size) = false := by
        simp [hlen]; omega
      rw [if_neg (by rw [c1]; simp)]
      have := foldl_set (cellsL v') cs'.toArray off 0 (by simp [hlen]; omega)
      rw [← e1]
      congr 1
      simpa using this
    · cases h
  | [], _ :: _, _, _, _, _, _, _, _, _, hl, _, _ => by simp at hl
  | _ :: _, [], _, _, _, _, _, _, _, _, hl, _, _ => by simp at hl
  | [], [], _ :: _, _, _, _, _, _, _, _, _, _, h => by simp [fillL] at h
  | [], [], [], _ :: _, _, _, _, hv, _, _, _, _, _ => hv.elim
  | _ :: _, _ :: _, [], _, _, _, _, _, _, _, _, _, h => by simp [fillL] at h
  | _ :: _, _ :: _, _ :: _, [], _, _, _, hv, _, _, _, _, _ => hv.elim
end
end Go.Cm

namespace Go.Cm
open Go

section
variable {P : Program}

/-- A pure instruction, once its operands are there. -/
def PO (P : Program) (μ : Mu) (w : World) (K : Value → Res) (r : Value × Heap) (s : Sem Value) : Prop :=
  ∃ v v', K v = some r ∧ s.run P w = .ok v' w ∧ VR μ v v'

theorem run_v {s : Sem Value} {v : Value} {w w' : World} (h : s.run P w = .ok v w') : (do pure (Next.value (← s)) : Sem Next).run P w = .ok (.value v) w' := by
  simp [h]

theorem PO.to {μ : Mu} {w : World} {K : Value → Res} {r : Value × Heap} {s : Sem Value} (h : PO P μ w K r s) {x : Sem Next} (hx : x = (do pure (Next.value (← s)) : Sem Next)) :
    ∃ v v', K v = some r ∧ x.run P w = .ok (.value v') w ∧ VR μ v v' := by
  obtain ⟨v, v', h1, h2, h3⟩ := h
  exact ⟨v, v', h1, by rw [hx]; exact run_v h2, h3⟩

theorem nk_inv {k : NK} {x : Value} {b : Bool} {x' : Value} {μ : Mu} (h : isNil k x = some b) (hv : VR μ x x') : isNil k x' = some b := by
  cases hv <;> cases k <;> simp_all [isNil]

theorem nil_eq (dd : Nat) {w : World} {k : NK} {d : TypeDesc} {t : TypeId} (hd : P.underlying t = some d) (hk : nkOf d = some k) {x z : Value} {b : Bool} (hx : isNil k x = some b) (hz : isNil k z = some true)
    (hz' : z = .pointer none ∨ z = .slice none 0 0 ∨ z = .map none ∨ z = .nilFunc ∨ z = .nilIface) :
    (Op.equalIn (dd + 1) t x z).run P w = .ok b w ∧ (Op.equalIn (dd + 1) t z x).run P w = .ok b w := by
  unfold Op.equalIn
  simp only [Sem.run_bind, run_underlying hd, Result.andThen_ok]
  rcases hz' with rfl | rfl | rfl | rfl | rfl <;> cases k <;> simp only [isNil, reduceCtorEq] at hz <;> cases d <;> simp only [nkOf, reduceCtorEq, Option.some.injEq] at hk <;>
    (cases x <;> simp only [isNil, reduceCtorEq, Option.some.injEq] at hx <;> subst hx)
  · rename_i a; cases a <;> exact ⟨rfl, rfl⟩
  · rename_i a n c; cases a <;> exact ⟨rfl, rfl⟩
  · rename_i a; cases a <;> exact ⟨rfl, rfl⟩
  all_goals exact ⟨rfl, rfl⟩

theorem isNilC_inv {k : NK} {y : Operand} (h : isNilC k y = true) : ∃ z, y = .const z ∧ isNil k z = some true ∧ (z = .pointer none ∨ z = .slice none 0 0 ∨ z = .map none ∨ z = .nilFunc ∨ z = .nilIface) := by
  unfold isNilC at h
  split at h
  · exact ⟨_, rfl, rfl, .inl rfl⟩
  · exact ⟨_, rfl, rfl, .inr (.inl rfl)⟩
  · exact ⟨_, rfl, rfl, .inr (.inr (.inl rfl))⟩
  · exact ⟨_, rfl, rfl, .inr (.inr (.inr (.inl rfl)))⟩
  · exact ⟨_, rfl, rfl, .inr (.inr (.inr (.inr rfl)))⟩
  · cases h

/-- '==' and '!=' by Op.equal, where no guard of nil interfaces bites -/
theorem eqOp_run {w : World} {op : BinOp} {t : TypeId} {x y : Operand} {u v : Value} {b : Bool} (hop : op = .eql ∨ op = .neq) (hg : (eqGuard op t x y u v).run P w = .ok () w)
    (hi : ∀ k a k' b, ¬ (u = .int k a ∧ v = .int k' b)) (hs : ∀ a b, ¬ (u = .string a ∧ v = .string b)) (hf : ∀ k a k' b, ¬ (u = .float k a ∧ v = .float k' b)) (hc : ∀ k a b k' c d, ¬ (u = .complex k a b ∧ v = .complex k' c d))
    (he : (Op.equalIn (9999 + 1) t u v).run P w = .ok b w) :
    (binS op t x y u v).run P w = .ok (.bool (if (op == .neq) then !b else b)) w := by
  have e1 : binOp .eql t u v = (do pure (.bool (← Op.equal t u v))) := by
    unfold binOp
    split <;> first | rfl | (rename_i h1 h2; exfalso; first | exact hi _ _ _ _ ⟨rfl, rfl⟩ | exact hs _ _ ⟨rfl, rfl⟩ | exact hf _ _ _ _ ⟨rfl, rfl⟩ | exact hc _ _ _ _ _ _ ⟨rfl, rfl⟩ | (cases h1; done)) | simp_all
  have e2 : binOp .neq t u v = (do pure (.bool (!(← Op.equal t u v)))) := by
    unfold binOp
    split <;> first | rfl | (rename_i h1 h2; exfalso; first | exact hi _ _ _ _ ⟨rfl, rfl⟩ | exact hs _ _ ⟨rfl, rfl⟩ | exact hf _ _ _ _ ⟨rfl, rfl⟩ | exact hc _ _ _ _ _ _ ⟨rfl, rfl⟩ | (cases h1; done)) | simp_all
  rcases hop with rfl | rfl
  · simp only [binS, Sem.run_bind, hg, Result.andThen_ok, e1, Op.equal, Op.maxDepth]
    simp only [he, Result.andThen_ok, Sem.run_pure]
    rfl
  · simp only [binS, Sem.run_bind, hg, Result.andThen_ok, e2, Op.equal, Op.maxDepth]
    simp only [he, Result.andThen_ok, Sem.run_pure]
    rfl
end
end Go.Cm

namespace Go.Cm
open Go

section
variable {P : Program}

theorem guard_at {w : World} {op : BinOp} {t : TypeId} {x y : Operand} {u v : Value} (hu : ∀ c, u ≠ .agg c) (hn : u ≠ .nilIface ∨ v ≠ .nilIface ∨ (∃ z, x = .const z) ∨ (∃ z, y = .const z)) :
    (eqGuard op t x y u v).run P w = .ok () w := by
  unfold eqGuard
  cases op
  case eql | neq =>
    simp only [Bool.not_true, Bool.false_eq_true, if_false]
    split
    · rcases hn with hn | hn | ⟨z, rfl⟩ | ⟨z, rfl⟩
      · exact absurd rfl hn
      · exact absurd rfl hn
      · simp
      · simp
    · exact absurd rfl (hu _)
    · rfl
  all_goals rfl

theorem bin_int {op : BinOp} {t : TypeId} {x y : Operand} {k : IntKind} {u v u' v' : Value} {μ : Mu} {w : World} {K : Value → Res} {r : Value × Heap} (hu : VR μ u u') (hu2 : VR μ v v') :
    (pureK (.arith .add k) [u, v] K = some r → PO P μ w K r (binS .add t x y u' v')) ∧ (pureK (.arith .sub k) [u, v] K = some r → PO P μ w K r (binS .sub t x y u' v')) ∧
    (pureK (.arith .mul k) [u, v] K = some r → PO P μ w K r (binS .mul t x y u' v')) ∧ (pureK (.div .quo k) [u, v] K = some r → PO P μ w K r (binS .quo t x y u' v')) ∧
    (pureK (.div .rem k) [u, v] K = some r → PO P μ w K r (binS .rem t x y u' v')) ∧ (pureK (.shift .shl k) [u, v] K = some r → PO P μ w K r (binS .shl t x y u' v')) ∧
    (pureK (.shift .shr k) [u, v] K = some r → PO P μ w K r (binS .shr t x y u' v')) ∧ (pureK (.bits op k) [u, v] K = some r → PO P μ w K r (binS op t x y u' v')) ∧
    (pureK (.cmp op k) [u, v] K = some r → PO P μ w K r (binS op t x y u' v')) := by
  have two : ∀ {G : Int → Int → Res} {Q : Prop}, (∀ a b, u' = .int k a → v' = .int k b → G a b = some r → Q) → (asI k u fun a => asI k v fun b => G a b) = some r → Q := by
    intro G Q hQ h
    obtain ⟨a, rfl, h1⟩ := asI_some h
    obtain ⟨b, rfl, h2⟩ := asI_some h1
    exact hQ a b hu.int_inv hu2.int_inv h2
  have two' : ∀ {G : Int → Int → Res} {Q : Prop}, (∀ a k' b, u' = .int k a → v' = .int k' b → G a b = some r → Q) → (asI k u fun a => asN v fun b => G a b) = some r → Q := by
    intro G Q hQ h
    obtain ⟨a, rfl, h1⟩ := asI_some h
    obtain ⟨k', b, rfl, h2⟩ := asN_some h1
    exact hQ a k' b hu.int_inv hu2.int_inv h2
  refine ⟨fun h => ?_, fun h => ?_, fun h => ?_, fun h => ?_, fun h => ?_, fun h => ?_, fun h => ?_, fun h => ?_, fun h => ?_⟩
  · exact two (fun a b e1 e2 h2 => by rw [e1, e2]; exact ⟨_, _, h2, bin_arith.1, .int _ _⟩) h
  · exact two (fun a b e1 e2 h2 => by rw [e1, e2]; exact ⟨_, _, h2, bin_arith.2.1, .int _ _⟩) h
  · exact two (fun a b e1 e2 h2 => by rw [e1, e2]; exact ⟨_, _, h2, bin_arith.2.2, .int _ _⟩) h
  · refine two (fun a b e1 e2 h2 => ?_) h
    rw [e1, e2]
    split at h2
    · cases h2
    · rename_i hb; exact ⟨_, _, h2, (div_ok hb).1, .int _ _⟩
  · refine two (fun a b e1 e2 h2 => ?_) h
    rw [e1, e2]
    split at h2
    · cases h2
    · rename_i hb; exact ⟨_, _, h2, (div_ok hb).2, .int _ _⟩
  · refine two' (fun a k' b e1 e2 h2 => ?_) h
    rw [e1, e2]
    split at h2
    · cases h2
    · rename_i hb; exact ⟨_, _, h2, (shift_ok hb).1, .int _ _⟩
  · refine two' (fun a k' b e1 e2 h2 => ?_) h
    rw [e1, e2]
    split at h2
    · cases h2
    · rename_i hb; exact ⟨_, _, h2, (shift_ok hb).2, .int _ _⟩
  · refine two (fun a b e1 e2 h2 => ?_) h
    rw [e1, e2]
    obtain ⟨h3, h4⟩ := chk_some h2
    exact ⟨_, _, h4, bits_ok h3, .int _ _⟩
  · refine two (fun a b e1 e2 h2 => ?_) h
    rw [e1, e2]
    obtain ⟨v, h3, h4, h5⟩ := cmp_ok (P := P) (μ := μ) (w := w) (k := k) (t := t) (x := x) (y := y) h2
    exact ⟨v, v, h3, h4, h5⟩

theorem bin_str {op : BinOp} {t : TypeId} {x y : Operand} {u v u' v' : Value} {μ : Mu} {w : World} {K : Value → Res} {r : Value × Heap} (hu : VR μ u u') (hu2 : VR μ v v') :
    (pureK .sadd [u, v] K = some r → PO P μ w K r (binS .add t x y u' v')) ∧ (pureK (.scmp op) [u, v] K = some r → PO P μ w K r (binS op t x y u' v')) := by
  have two : ∀ {G : ByteArray → ByteArray → Res} {Q : Prop}, (∀ a b, u' = .string a → v' = .string b → G a b = some r → Q) → (asS u fun a => asS v fun b => G a b) = some r → Q := by
    intro G Q hQ h
    obtain ⟨a, rfl, h1⟩ := asS_some h
    obtain ⟨b, rfl, h2⟩ := asS_some h1
    exact hQ a b hu.string_inv hu2.string_inv h2
  refine ⟨fun h => ?_, fun h => ?_⟩
  · refine two (fun a b e1 e2 h2 => ?_) h
    rw [e1, e2]
    split at h2
    · rename_i hb; exact ⟨_, _, h2, sadd_ok hb, .string _⟩
    · cases h2
  · refine two (fun a b e1 e2 h2 => ?_) h
    rw [e1, e2]
    obtain ⟨v, h3, h4, h5⟩ := scmp_ok (P := P) (μ := μ) (w := w) (t := t) (x := x) (y := y) h2
    exact ⟨v, v, h3, h4, h5⟩

theorem bin_ok {op : BinOp} {t : TypeId} {x y : Operand} {p : PI} {xs : List Operand} (hc : cBin P op t x y = some (.pure p, xs))
    {μ : Mu} {ρ : Operand → Value} {vs : List Value} {w : World} {K : Value → Res} {r : Value × Heap} (hρ : ∀ v, ρ (.const v) = v) (hv : VRs μ vs (xs.map ρ)) (h : pureK p vs K = some r) :
    PO P μ w K r (binS op t x y (ρ x) (ρ y)) := by
  unfold cBin at hc
  split at hc
  · -- ints
    rename_i k e
    split at hc <;> simp only [Option.some.injEq, Prod.mk.injEq, CIns.pure.injEq] at hc <;> obtain ⟨rfl, rfl⟩ := hc <;>
      obtain ⟨u, v, rfl, hu, hu2⟩ := VRs.inv2 hv
    · exact (bin_int (op := .add) hu hu2).1 h
    · exact (bin_int (op := .add) hu hu2).2.1 h
    · exact (bin_int (op := .add) hu hu2).2.2.1 h
    · exact (bin_int (op := .add) hu hu2).2.2.2.1 h
    · exact (bin_int (op := .add) hu hu2).2.2.2.2.1 h
    · exact (bin_int (op := .and) hu hu2).2.2.2.2.2.2.2.1 h
    · exact (bin_int (op := .or) hu hu2).2.2.2.2.2.2.2.1 h
    · exact (bin_int (op := .xor) hu hu2).2.2.2.2.2.2.2.1 h
    · exact (bin_int (op := .andNot) hu hu2).2.2.2.2.2.2.2.1 h
    · exact (bin_int (op := .add) hu hu2).2.2.2.2.2.1 h
    · exact (bin_int (op := .add) hu hu2).2.2.2.2.2.2.1 h
    · exact (bin_int hu hu2).2.2.2.2.2.2.2.2 h
  · -- strings
    rename_i e
    split at hc <;> simp only [Option.some.injEq, Prod.mk.injEq, CIns.pure.injEq, reduceCtorEq] at hc <;> obtain ⟨rfl, rfl⟩ := hc <;>
      obtain ⟨u, v, rfl, hu, hu2⟩ := VRs.inv2 hv
    · exact (bin_str (op := .add) hu hu2).1 h
    all_goals exact (bin_str hu hu2).2 h
  · rename_i d hnI hnS e
    have hmain : (op = .eql ∨ op = .neq) → cEq P op t d x y = some (.pure p, xs) → PO P μ w K r (binS op t x y (ρ x) (ρ y)) := by
      intro hop hc
      unfold cEq at hc
      split at hc
      · rename_i k hk
        split at hc
        · rename_i hy
          simp only [Option.some.injEq, Prod.mk.injEq, CIns.pure.injEq] at hc
          obtain ⟨rfl, rfl⟩ := hc
          obtain ⟨u, rfl, hu⟩ := VRs.inv1 hv
          obtain ⟨z, rfl, hz, hz'⟩ := isNilC_inv hy
          simp only [pureK] at h
          obtain ⟨b, hb, h1⟩ := optK_some h
          have hb' := nk_inv hb hu
          rw [hρ]
          refine ⟨_, _, h1, eqOp_run hop (guard_at ?_ (.inr (.inr (.inr ⟨_, rfl⟩)))) ?_ ?_ ?_ ?_ (nil_eq 9999 e hk hb' hz hz').1, .bool _⟩
          · intro c hc; rw [hc] at hb'; cases k <;> simp [isNil] at hb'
          · rintro k1 a k2 b ⟨h1, h2⟩; rw [h1] at hb'; cases k <;> simp [isNil] at hb'
          · rintro a b ⟨h1, h2⟩; rw [h1] at hb'; cases k <;> simp [isNil] at hb'
          · rintro k1 a k2 b ⟨h1, h2⟩; rw [h1] at hb'; cases k <;> simp [isNil] at hb'
          · rintro k1 a1 a2 k2 b1 b2 ⟨h1, h2⟩; rw [h1] at hb'; cases k <;> simp [isNil] at hb'
        · split at hc
          · rename_i hx
            simp only [Option.some.injEq, Prod.mk.injEq, CIns.pure.injEq] at hc
            obtain ⟨rfl, rfl⟩ := hc
            obtain ⟨u, rfl, hu⟩ := VRs.inv1 hv
            obtain ⟨z, rfl, hz, hz'⟩ := isNilC_inv hx
            simp only [pureK] at h
            obtain ⟨b, hb, h1⟩ := optK_some h
            have hb' := nk_inv hb hu
            rw [hρ]
            refine ⟨_, _, h1, eqOp_run hop (guard_at ?_ (.inr (.inr (.inl ⟨_, rfl⟩)))) ?_ ?_ ?_ ?_ (nil_eq 9999 e hk hb' hz hz').2, .bool _⟩
            · intro c hc; rw [hc] at hz; cases k <;> simp [isNil] at hz
            · rintro k1 a k2 b ⟨h1, h2⟩; rw [h1] at hz; cases k <;> simp [isNil] at hz
            · rintro a b ⟨h1, h2⟩; rw [h1] at hz; cases k <;> simp [isNil] at hz
            · rintro k1 a k2 b ⟨h1, h2⟩; rw [h1] at hz; cases k <;> simp [isNil] at hz
            · rintro k1 a1 a2 k2 b1 b2 ⟨h1, h2⟩; rw [h1] at hz; cases k <;> simp [isNil] at hz
          · split at hc
            · split at hc <;> simp at hc
            · cases hc
      · have agg : ∀ ks, flat P 20 t = some ks → (if P.eqGuardType P.depth t then none else some (CIns.pure (.eqA (op == .neq) ks), [x, y])) = some (.pure p, xs) → isAggT P t = true →
            PO P μ w K r (binS op t x y (ρ x) (ρ y)) := by
          intro ks hks hc hA
          split at hc
          · cases hc
          · rename_i hg
            simp only [Option.some.injEq, Prod.mk.injEq, CIns.pure.injEq] at hc
            obtain ⟨rfl, rfl⟩ := hc
            obtain ⟨u, v, rfl, hu, hu2⟩ := VRs.inv2 hv
            simp only [pureK] at h
            obtain ⟨a, rfl, h1⟩ := asA_some h
            obtain ⟨b, rfl, h2⟩ := asA_some h1
            obtain ⟨h3, h4⟩ := chk_some h2
            simp only [Bool.and_eq_true, beq_iff_eq] at h3
            obtain ⟨q, hq, h5⟩ := optK_some h4
            obtain ⟨a', e1, ha, _⟩ := hu.agg_inv
            obtain ⟨b', e2, hb, _⟩ := hu2.agg_inv
            rw [e1, e2]
            have hq' := eqL_real ha hb hq
            have := eq_flat (P := P) 20 t ks hks (9999 + 1) (by omega) a'.toList b'.toList q w (by rw [← ha.length]; simpa using h3.1) (by rw [← hb.length]; simpa using h3.2) hq'
            rw [valT_agg hA, valT_agg hA] at this
            refine ⟨_, _, h5, eqOp_run hop (run_eqGuard_agg w op t x y a' b' (by simpa using hg)) ?_ ?_ ?_ ?_ (by simpa using this), .bool _⟩
            · rintro k1 a k2 b ⟨h1, h2⟩; cases h1
            · rintro a b ⟨h1, h2⟩; cases h1
            · rintro k1 a k2 b ⟨h1, h2⟩; cases h1
            · rintro k1 a1 a2 k2 b1 b2 ⟨h1, h2⟩; cases h1
        cases d
        case bool =>
          simp only [Option.some.injEq, Prod.mk.injEq, CIns.pure.injEq] at hc
          obtain ⟨rfl, rfl⟩ := hc
          obtain ⟨u, v, rfl, hu, hu2⟩ := VRs.inv2 hv
          simp only [pureK] at h
          obtain ⟨a, rfl, h1⟩ := asB_some h
          obtain ⟨b, rfl, h2⟩ := asB_some h1
          rw [hu.bool_inv, hu2.bool_inv]
          refine ⟨_, _, h2, eqOp_run hop (guard_at (by intro c hc; cases hc) (.inl (by intro hc; cases hc))) ?_ ?_ ?_ ?_ (run_equalIn_bool' w 9999 t a b e), .bool _⟩
          · rintro k1 a k2 b ⟨h1, h2⟩; cases h1
          · rintro a b ⟨h1, h2⟩; cases h1
          · rintro k1 a k2 b ⟨h1, h2⟩; cases h1
          · rintro k1 a1 a2 k2 b1 b2 ⟨h1, h2⟩; cases h1
        case struct fs =>
          simp only at hc
          split at hc
          · rename_i hks; exact agg _ hks hc (by simp [isAggT, e])
          · cases hc
        case array n el =>
          simp only at hc
          split at hc
          · rename_i hks; exact agg _ hks hc (by simp [isAggT, e])
          · cases hc
        all_goals cases hc
    split at hc
    · exact hmain (.inl rfl) hc
    · exact hmain (.inr rfl) hc
    · cases hc
  · cases hc
end
end Go.Cm

namespace Go.Cm
open Go

section
variable {P : Program}

theorem mm_ok {mx : Bool} {k : IntKind} {w : World} {K : Int → Res} {r : Value × Heap} {μ : Mu} : ∀ {vs vs' : List Value} {a : Int}, VRs μ vs vs' → mmL mx k vs a K = some r →
    ∃ b, K b = some r ∧ (vs'.foldlM (if mx then Builtin.max2 else Builtin.min2) (.int k a)).run P w = .ok (.int k b) w
  | [], [], a, _, h => ⟨a, by simpa [mmL] using h, by simp⟩
  | v :: vs, v' :: vs', a, hv, h => by
    simp only [mmL] at h
    obtain ⟨b, rfl, h1⟩ := asI_some h
    obtain ⟨c, h2, h3⟩ := mm_ok (w := w) hv.2 h1
    refine ⟨c, h2, ?_⟩
    rw [hv.1.int_inv, List.foldlM_cons]
    cases mx
    · simp only [Bool.false_eq_true, if_false] at h3 ⊢
      simp only [Sem.run_bind, Builtin.min2, Sem.run_pure, Result.andThen_ok, h3]
    · simp only [if_true] at h3 ⊢
      have : (if b > a then b else a) = (if a < b then b else a) := rfl
      simp only [Sem.run_bind, Builtin.max2, Sem.run_pure, Result.andThen_ok, this, h3]

theorem partsOf_ok {fs : Array Field} : ∀ {l : List (Nat × Operand)} {ps : List (Nat × Nat)} {xs : List Operand}, partsOf P fs l = some (ps, xs) →
    xs = l.map (·.2) ∧ ps.length = l.length ∧ ∀ (k i : Nat), (l.map (·.1))[k]? = some i → (fs.map fun f => (f.offset, P.cellsOf f.type))[i]? = ps[k]?
  | [], _, _, h => by simp only [partsOf, Option.some.injEq, Prod.mk.injEq] at h; obtain ⟨rfl, rfl⟩ := h; exact ⟨rfl, rfl, by simp⟩
  | (i, x) :: l, ps, xs, h => by
    unfold partsOf at h
    split at h
    · rename_i f ps' xs' h1 h2
      simp only [Option.some.injEq, Prod.mk.injEq] at h
      obtain ⟨rfl, rfl⟩ := h
      obtain ⟨e1, e2, e3⟩ := partsOf_ok h2
      refine ⟨by simp [e1], by simp [e2], ?_⟩
      intro k j hk
      cases k with
      | zero => simp at hk; subst hk; simp [h1]
      | succ k => simpa using e3 k j (by simpa using hk)
    · cases h

theorem run_mapM_sizes {w : World} (l : List Field) (h : ∀ f ∈ l, okElem P f.type = true) :
    (l.mapM fun f => do pure (f.offset, ← sizeOf f.type) : Sem (List (Nat × Nat))).run P w = .ok (l.map fun f => (f.offset, P.cellsOf f.type)) w := by
  induction l with
  | nil => simp
  | cons f l ih =>
    rw [List.mapM_cons]
    simp only [Sem.run_bind, run_sizeOf' (info_some (h f (by simp))), Result.andThen_ok, Sem.run_pure, ih (fun g hg => h g (by simp [hg])), List.map_cons]

theorem rowParts_ok {size : Nat} {l : List (Nat × Operand)} : (rowParts size l).2 = l.map (·.2) ∧ (rowParts size l).1.length = l.length ∧
    ∀ (k i : Nat), (l.map (·.1))[k]? = some i → some (i * size, size) = (rowParts size l).1[k]? := by
  refine ⟨rfl, by simp [rowParts], ?_⟩
  intro k i h
  simp only [rowParts, List.getElem?_map, Option.map_eq_some_iff] at h ⊢
  obtain ⟨p, h1, rfl⟩ := h
  simp [h1]

theorem zip_map (l : List (Nat × Operand)) (ρ : Operand → Value) : (l.map fun (p : Nat × Operand) => (p.1, ρ p.2)) = (l.map (·.1)).zip ((l.map (·.2)).map ρ) := by
  induction l with
  | nil => rfl
  | cons p l ih => simp [ih]

theorem field_ok {t : TypeId} {f off n : Nat} {agg : Bool} (h : fieldOf P t f = some (off, n, agg)) : ∃ fs x, P.underlying t = some (.struct fs) ∧ fs[f]? = some x ∧ okElem P x.type = true ∧ off = x.offset ∧ n = P.cellsOf x.type ∧ agg = isAggT P x.type := by
  unfold fieldOf at h
  split at h
  · rename_i fs e
    split at h
    · rename_i x hx
      split at h
      · rename_i ho
        simp only [Option.some.injEq, Prod.mk.injEq] at h
        exact ⟨fs, x, e, hx, ho, h.1.symm, h.2.1.symm, h.2.2.symm⟩
      · cases h
    · cases h
  · cases h

theorem run_fieldPlace {x : Field} {a : Addr} {w : World} (h : okElem P x.type = true) (hn : 0 < P.cellsOf x.type) : (fieldPlace a x).run P w = .ok (a.add x.offset) w := by
  simp only [fieldPlace, Sem.run_bind, run_sizeOf' (info_some h), Result.andThen_ok]
  rw [if_neg (by omega)]
  rfl

theorem sSub_eq (s : ByteArray) (l h : Nat) : sSub s l h = s.extract l h := by
  apply ByteArray.ext
  apply Array.toList_inj.1
  simp [sSub, S, lst, List.drop_take]

theorem idxS_ok {w : World} {t : TypeId} {s : ByteArray} {k : IntKind} {n : Int} (e : P.underlying t = some .string) (h : 0 ≤ n ∧ n < slen s) :
    (Instr.index t (.string s) (.int k n)).run P w = .ok (.int .u8 (bt s n.toNat)) w := by
  have hlt : n.toNat < s.size := by rw [← slen_size]; omega
  simp only [Instr.index, asIntOf, Sem.run_bind, Sem.run_pure, Result.andThen_ok, run_underlying e, if_pos h.1]
  rw [getElem?_pos s n.toNat hlt]
  simp only [Sem.run_pure]
  have : bt s n.toNat = (s[n.toNat].toNat : Int) := by
    unfold bt lst
    rw [List.getD_eq_getElem?_getD, Array.getElem?_toList, Array.getElem?_eq_getElem (by simpa using hlt)]
    rfl
  rw [this]

theorem subAp_sl {μ : Mu} {a a' : Addr} (ha : AR μ a a') {mx : Bool} {size l h m rc : Nat} (h1 : l ≤ h) (h2 : h ≤ m) (_h3 : m ≤ rc) (h4 : mx = false → m = rc) :
    VR μ (.slice (some (ap a (l * size))) (h - l) (m - l)) (.slice (some (if (if mx = true then m else rc) = l then a' else a'.add (l * size))) (h - l) ((if mx = true then m else rc) - l)) := by
  have e : (if mx = true then m else rc) = m := by
    cases mx
    · simp [h4 rfl]
    · simp
  rw [e]
  refine .sl (by omega) (.inl ?_)
  obtain ⟨e1, e2, mb, e3, e4, e5⟩ := ha
  by_cases hml : m = l
  · rw [if_pos hml]
    exact ⟨rfl, e2, mb, e3, e4, .inr (.inr ⟨by omega, by omega, .inl (by omega)⟩)⟩
  · rw [if_neg hml, ap_eq e2]
    exact ⟨rfl, rfl, mb, e3, e4, .inl ⟨by simp only [ap]; omega, rfl⟩⟩

/-- EVERY PURE INSTRUCTION. -/
theorem pure_ok {o : Oper} {p : PI} {xs : List Operand} (hc : cOp P o = some (.pure p, xs)) : PureOK P o p xs := by
  intro μ ρ vs w K r hρ hv h
  obtain ⟨dst, op, type, pos, after, guard⟩ := o
  cases op <;> simp only [cOp] at hc
  case move x =>
    simp only [Option.some.injEq, Prod.mk.injEq, CIns.pure.injEq] at hc; obtain ⟨rfl, rfl⟩ := hc
    obtain ⟨u, rfl, hu⟩ := VRs.inv1 hv
    exact ⟨u, _, h, rfl, hu⟩
  case assign x =>
    simp only [Option.some.injEq, Prod.mk.injEq, CIns.pure.injEq] at hc; obtain ⟨rfl, rfl⟩ := hc
    obtain ⟨u, rfl, hu⟩ := VRs.inv1 hv
    exact ⟨u, _, h, rfl, hu⟩
  case pick => cases hc
  case alloc e => split at hc <;> cases hc
  case box => cases hc
  case build t ps =>
    split at hc
    · rename_i z fs hz e
      split at hc
      · rename_i pl xs' hp
        split at hc
        · rename_i hcond
          simp only [Bool.and_eq_true] at hcond
          simp only [Option.some.injEq, Prod.mk.injEq, CIns.pure.injEq] at hc; obtain ⟨rfl, rfl⟩ := hc
          obtain ⟨e1, e2, e3⟩ := partsOf_ok hp
          simp only [pureK] at h
          obtain ⟨cs, h1, h2⟩ := optK_some h
          obtain ⟨z1, z2, z3, z4, z5⟩ := run_zeroValue (w := w) hz
          have ho : ∀ v ∈ z, one v = true := fun v hv => one_of_plain (List.all_eq_true.1 z2 v hv)
          rw [e1] at hv
          obtain ⟨r', f1, f2, f3, f4⟩ := fill_ok (is := ps.toList.map (·.1)) hv (VRs.of_plain z2) ho (by simp [e2]) e3 h1
          refine ⟨_, .agg r'.toArray, h2, run_v ?_, VR.agg_of f2 f3⟩
          have hm : (fs.mapM fun f => do pure (f.offset, ← sizeOf f.type) : Sem (Array (Nat × Nat))).run P w = .ok (fs.map fun f => (f.offset, P.cellsOf f.type)) w := by
            have := run_mapM_sizes (P := P) (w := w) fs.toList (fun f hf => List.all_eq_true.1 hcond.2 f hf)
            rw [Array.mapM_eq_mapM_toList]
            simp only [Sem.run_map, this, Result.andThen_ok]
            rw [← Array.toList_map]
          simp only [Instr.build, Sem.run_bind, z1, Result.andThen_ok, run_underlying e, hm]
          have f1' : Instr.fill (fun x => (fs.map fun f => (f.offset, P.cellsOf f.type))[x]?) z.toArray ((ps.map fun (p : Nat × Operand) => (p.1, ρ p.2)).toList) = some r'.toArray := by
            rw [Array.toList_map, zip_map]; exact f1
          rw [cells_valT z4 ho]
          simp only [f1', Sem.run_pure]
        · cases hc
      · cases hc
    · rename_i z n el hz e
      split at hc
      · rename_i hok
        simp only [Option.some.injEq, Prod.mk.injEq, CIns.pure.injEq] at hc; obtain ⟨rfl, rfl⟩ := hc
        obtain ⟨e1, e2, e3⟩ := rowParts_ok (size := P.cellsOf el) (l := ps.toList)
        simp only [pureK] at h
        obtain ⟨cs, h1, h2⟩ := optK_some h
        obtain ⟨z1, z2, z3, z4, z5⟩ := run_zeroValue (w := w) hz
        have ho : ∀ v ∈ z, one v = true := fun v hv => one_of_plain (List.all_eq_true.1 z2 v hv)
        rw [e1] at hv
        obtain ⟨r', f1, f2, f3, f4⟩ := fill_ok (place := fun i => some (i * P.cellsOf el, P.cellsOf el)) (is := ps.toList.map (·.1)) hv (VRs.of_plain z2) ho (by simp [e2]) e3 h1
        refine ⟨_, .agg r'.toArray, h2, run_v ?_, VR.agg_of f2 f3⟩
        simp only [Instr.build, Sem.run_bind, z1, Result.andThen_ok, run_underlying e, run_sizeOf' (info_some hok)]
        have f1' : Instr.fill (fun i => some (i * P.cellsOf el, P.cellsOf el)) z.toArray ((ps.map fun (p : Nat × Operand) => (p.1, ρ p.2)).toList) = some r'.toArray := by
          rw [Array.toList_map, zip_map]; exact f1
        rw [cells_valT z4 ho]
        simp only [f1', Sem.run_pure]
      · cases hc
    · cases hc
  case buildSlice => split at hc <;> (try split at hc) <;> (try split at hc) <;> cases hc
  case load => split at hc <;> cases hc
  case store => split at hc <;> cases hc
  case nilCheck x =>
    simp only [Option.some.injEq, Prod.mk.injEq, CIns.pure.injEq] at hc; obtain ⟨rfl, rfl⟩ := hc
    obtain ⟨u, rfl, hu⟩ := VRs.inv1 hv
    simp only [pureK] at h
    split at h
    · obtain ⟨a', e, ha⟩ := hu.ptr_inv
      refine ⟨_, _, h, ?_, .ptr ha⟩
      simp only [execOp, e, Sem.run_pure]
    · generalize hz : ρ x = z at hu
      cases hu with
      | iface t hu =>
        refine ⟨_, _, h, ?_, .iface _ hu⟩
        simp only [execOp, hz, Sem.run_pure]
    · cases h
  case binOp op t x y yt =>
    have := bin_ok hc (w := w) hρ hv h
    exact this.to rfl
  case unOp op t x =>
    split at hc
    · simp only [Option.some.injEq, Prod.mk.injEq, CIns.pure.injEq] at hc; obtain ⟨rfl, rfl⟩ := hc
      obtain ⟨u, rfl, hu⟩ := VRs.inv1 hv
      simp only [pureK] at h
      obtain ⟨a, rfl, h1⟩ := asB_some h
      exact ⟨_, _, h1, run_v (by rw [hu.bool_inv]; rfl), .bool _⟩
    · simp only [Option.some.injEq, Prod.mk.injEq, CIns.pure.injEq] at hc; obtain ⟨rfl, rfl⟩ := hc
      obtain ⟨u, rfl, hu⟩ := VRs.inv1 hv
      simp only [pureK] at h
      obtain ⟨a, rfl, h1⟩ := asI_some h
      exact ⟨_, _, h1, run_v (by rw [hu.int_inv]; rfl), .int _ _⟩
    · simp only [Option.some.injEq, Prod.mk.injEq, CIns.pure.injEq] at hc; obtain ⟨rfl, rfl⟩ := hc
      obtain ⟨u, rfl, hu⟩ := VRs.inv1 hv
      simp only [pureK] at h
      obtain ⟨a, rfl, h1⟩ := asI_some h
      exact ⟨_, _, h1, run_v (by rw [hu.int_inv]; exact run_intBits (op := .xor) (P := P) (w := w) rfl), .int _ _⟩
    · cases hc
  case convert s d x =>
    unfold cConv at hc
    split at hc
    case isTrue => cases hc
    unfold cConv0 at hc
    split at hc
    · rename_i k1 k2 e1 e2
      simp only [Option.some.injEq, Prod.mk.injEq, CIns.pure.injEq] at hc; obtain ⟨rfl, rfl⟩ := hc
      obtain ⟨u, rfl, hu⟩ := VRs.inv1 hv
      simp only [pureK] at h
      obtain ⟨k, a, rfl, h1⟩ := asN_some h
      refine ⟨_, _, h1, run_v ?_, .int _ _⟩
      rw [hu.int_inv]
      simp [convert, run_underlying e1, run_underlying e2, Conv.intToInt]
    · rename_i k1 e1 e2
      simp only [Option.some.injEq, Prod.mk.injEq, CIns.pure.injEq] at hc; obtain ⟨rfl, rfl⟩ := hc
      obtain ⟨u, rfl, hu⟩ := VRs.inv1 hv
      simp only [pureK] at h
      obtain ⟨k, a, rfl, h1⟩ := asN_some h
      refine ⟨_, _, h1, run_v ?_, .string _⟩
      rw [hu.int_inv]
      simp [convert, run_underlying e1, run_underlying e2, Conv.intToString]
    · rename_i e1 e2
      simp only [Option.some.injEq, Prod.mk.injEq, CIns.pure.injEq] at hc; obtain ⟨rfl, rfl⟩ := hc
      obtain ⟨u, rfl, hu⟩ := VRs.inv1 hv
      simp only [pureK] at h
      obtain ⟨a, rfl, h1⟩ := asS_some h
      refine ⟨_, _, h1, run_v ?_, .string _⟩
      rw [hu.string_inv]
      simp [convert, run_underlying e1, run_underlying e2]
    · split at hc <;> (try split at hc) <;> cases hc
    · split at hc <;> cases hc
    · cases hc
  case sliceToArrayPointer => cases hc
  case makeInterface t x =>
    split at hc
    · cases hc
    · rename_i d hd e
      simp only [Option.some.injEq, Prod.mk.injEq, CIns.pure.injEq] at hc; obtain ⟨rfl, rfl⟩ := hc
      obtain ⟨u, rfl, hu⟩ := VRs.inv1 hv
      refine ⟨_, _, h, run_v (run_makeInterface w t (ρ x) ?_), .iface _ hu⟩
      unfold Program.concrete
      rw [e]
      cases d <;> first | rfl | exact absurd rfl (hd _)
    · cases hc
  case makeFunc fn first cap =>
    simp only [Option.some.injEq, Prod.mk.injEq, CIns.pure.injEq] at hc; obtain ⟨rfl, rfl⟩ := hc
    simp only [pureK] at h
    refine ⟨_, _, h, rfl, ?_⟩
    rw [List.map_append] at hv
    have h1 := hv.take first.size
    have h2 := hv.drop first.size
    rw [List.take_left' (by simp)] at h1
    rw [List.drop_left' (by simp)] at h2
    have hl1 := h1.length
    have hl2 := h2.length
    refine .func fn (by simpa using hl1) (fun i hi hi' => ?_) (by simpa using hl2) (fun i hi hi' => ?_)
    · obtain ⟨v', e1, e2⟩ := h1.get i _ (List.getElem?_eq_getElem (by simpa using hi))
      have : v' = (first.map ρ)[i] := by
        rw [List.getElem?_map, Array.getElem?_toList, Array.getElem?_eq_getElem (by simpa using hi')] at e1
        simpa using e1.symm
      rw [this] at e2
      simpa using e2
    · obtain ⟨v', e1, e2⟩ := h2.get i _ (List.getElem?_eq_getElem (by simpa using hi))
      have : v' = (cap.map ρ)[i] := by
        rw [List.getElem?_map, Array.getElem?_toList, Array.getElem?_eq_getElem (by simpa using hi')] at e1
        simpa using e1.symm
      rw [this] at e2
      simpa using e2
  case makeMap => cases hc
  case makeChan => cases hc
  case makeSlice => split at hc <;> (try split at hc) <;> (try split at hc) <;> cases hc
  case slice t x lo hi mx =>
    unfold cSlice at hc
    have e3 : (x :: (lo.toList ++ hi.toList ++ mx.toList)).map ρ = ρ x :: ((lo.map ρ).toList ++ (hi.map ρ).toList ++ (mx.map ρ).toList) := by
      cases lo <;> cases hi <;> cases mx <;> rfl
    simp only at hc
    split at hc
    · rename_i e
      split at hc
      · rename_i hm
        simp only [Option.some.injEq, Prod.mk.injEq, CIns.pure.injEq] at hc; obtain ⟨rfl, rfl⟩ := hc
        rw [e3] at hv
        obtain rfl : mx = none := by simpa using hm
        match vs, hv with
        | u :: vs, hv =>
          simp only [pureK] at h
          obtain ⟨s, rfl, h1⟩ := asS_some h
          have hb := bnds_ok (P := P) (w := w) (lo := lo.map ρ) (hi := hi.map ρ) (mx := (none : Option Value)) (rc := slen s) (isS := false) (Nat.le_refl _) (Nat.le_refl _) hv.2 (by simpa using h1)
          obtain ⟨l, hh, m, h2, h3, h4, h5, h6, h7⟩ := hb
          refine ⟨_, _, h2, run_v ?_, .string _⟩
          rw [hv.1.string_inv]
          simp only [Instr.sliceAt, Sem.run_bind, run_underlying e, Result.andThen_ok, Instr.slice, Option.map_none, Option.isSome_none, Bool.false_eq_true, if_false, ← slen_size, h7, Sem.run_pure, sSub_eq]
      · cases hc
    · split at hc <;> cases hc
    · rename_i n el e
      split at hc
      · rename_i hok
        simp only [Option.some.injEq, Prod.mk.injEq, CIns.pure.injEq] at hc; obtain ⟨rfl, rfl⟩ := hc
        rw [e3] at hv
        match vs, hv with
        | u :: vs, hv =>
          simp only [pureK] at h
          obtain ⟨a, rfl, h1⟩ := asP_some h
          cases a with
          | none => cases h1
          | some a =>
            simp only at h1
            have hb := bnds_ok (P := P) (w := w) (lo := lo.map ρ) (hi := hi.map ρ) (mx := mx.map ρ) (rc := n) (isS := false) (Nat.le_refl _) (Nat.le_refl _) hv.2 (by simpa using h1)
            obtain ⟨l, hh, m, h2, h3, h4, h5, h6, h7⟩ := hb
            obtain ⟨a', e', ha⟩ := hv.1.ptr_inv
            refine ⟨_, _, h2, run_v ?_, subAp_sl ha (mx := (mx.map ρ).isSome) (rc := n) (size := P.cellsOf el) h3 h4 h5 (fun hm => h6 (by simpa using hm))⟩
            rw [e']
            simp only [Instr.sliceAt, Sem.run_bind, run_underlying e, Result.andThen_ok, Instr.sureAddr, Sem.run_pure, h7, run_sizeOf' (info_some hok)]
      · cases hc
    · rename_i arr e
      split at hc
      · rename_i n el e1
        split at hc
        · rename_i hok
          simp only [Option.some.injEq, Prod.mk.injEq, CIns.pure.injEq] at hc; obtain ⟨rfl, rfl⟩ := hc
          rw [e3] at hv
          match vs, hv with
          | u :: vs, hv =>
            simp only [pureK] at h
            obtain ⟨a, rfl, h1⟩ := asP_some h
            cases a with
            | none => cases h1
            | some a =>
              simp only at h1
              have hb := bnds_ok (P := P) (w := w) (lo := lo.map ρ) (hi := hi.map ρ) (mx := mx.map ρ) (rc := n) (isS := false) (Nat.le_refl _) (Nat.le_refl _) hv.2 (by simpa using h1)
              obtain ⟨l, hh, m, h2, h3, h4, h5, h6, h7⟩ := hb
              obtain ⟨a', e', ha⟩ := hv.1.ptr_inv
              refine ⟨_, _, h2, run_v ?_, subAp_sl ha (mx := (mx.map ρ).isSome) (rc := n) (size := P.cellsOf el) h3 h4 h5 (fun hm => h6 (by simpa using hm))⟩
              rw [e']
              simp only [Instr.sliceAt, Sem.run_bind, run_underlying e, Result.andThen_ok, Instr.slice, asAddr, Sem.run_pure, run_underlying e1, h7, run_sizeOf' (info_some hok)]
        · cases hc
      · cases hc
    · cases hc
  case fieldAddr s x f =>
    split at hc
    · rename_i off n agg hf
      split at hc
      · rename_i hn
        simp only [Option.some.injEq, Prod.mk.injEq, CIns.pure.injEq] at hc; obtain ⟨rfl, rfl⟩ := hc
        obtain ⟨fs, fx, e, hx, hok, rfl, rfl, rfl⟩ := field_ok hf
        obtain ⟨u, rfl, hu⟩ := VRs.inv1 hv
        simp only [pureK] at h
        obtain ⟨a, rfl, h1⟩ := asP_some h
        cases a with
        | none => cases h1
        | some a =>
          obtain ⟨a', e', ha⟩ := hu.ptr_inv
          refine ⟨_, _, h1, run_v ?_, .ptr (ha.ap fx.offset)⟩
          rw [e']
          simp only [Instr.fieldAt, Sem.run_bind, run_underlying e, Result.andThen_ok, hx, Instr.sureAddr, Sem.run_pure, run_fieldPlace hok hn]
      · cases hc
    · cases hc
  case field t x f =>
    split at hc
    · rename_i off n agg hf
      simp only [Option.some.injEq, Prod.mk.injEq, CIns.pure.injEq] at hc; obtain ⟨rfl, rfl⟩ := hc
      obtain ⟨fs, fx, e, hx, hok, rfl, rfl, rfl⟩ := field_ok hf
      obtain ⟨u, rfl, hu⟩ := VRs.inv1 hv
      simp only [pureK] at h
      obtain ⟨cs, rfl, h1⟩ := asA_some h
      obtain ⟨y, h2, h3⟩ := optK_some h1
      obtain ⟨cs', e', hcs, ho⟩ := hu.agg_inv
      obtain ⟨y', h4, h5⟩ := part_ok (w := w) hok hcs ho h2
      refine ⟨_, _, h3, run_v ?_, h5⟩
      rw [e']
      simp only [Instr.field, Sem.run_bind, run_underlying e, Result.andThen_ok, hx, asAgg, Sem.run_pure]
      simpa using h4
    · cases hc
  case indexAddr t x i =>
    split at hc
    · rename_i n el e
      split at hc
      · rename_i hok
        simp only [Option.some.injEq, Prod.mk.injEq, CIns.pure.injEq] at hc; obtain ⟨rfl, rfl⟩ := hc
        obtain ⟨u, v, rfl, hu, hu2⟩ := VRs.inv2 hv
        simp only [pureK] at h
        obtain ⟨a, rfl, h1⟩ := asP_some h
        obtain ⟨k, j, rfl, h2⟩ := asN_some h1
        cases a with
        | none => cases h2
        | some a =>
          simp only at h2
          split at h2
          · rename_i hj
            obtain ⟨a', e', ha⟩ := hu.ptr_inv
            refine ⟨_, _, h2, run_v ?_, .ptr (ha.ap _)⟩
            rw [e', hu2.int_inv]
            simp only [Instr.indexAt, asIntOf, Sem.run_bind, Sem.run_pure, Result.andThen_ok, run_underlying e, Instr.sureAddr, if_pos hj, run_sizeOf' (info_some hok)]
          · cases h2
      · cases hc
    · rename_i el e
      split at hc
      · rename_i hok
        simp only [Option.some.injEq, Prod.mk.injEq, CIns.pure.injEq] at hc; obtain ⟨rfl, rfl⟩ := hc
        obtain ⟨u, v, rfl, hu, hu2⟩ := VRs.inv2 hv
        simp only [pureK] at h
        obtain ⟨a, n, c, rfl, h1⟩ := asSl_some h
        obtain ⟨k, j, rfl, h2⟩ := asN_some h1
        cases a with
        | none => cases h2
        | some a =>
          simp only at h2
          split at h2
          · rename_i hj
            obtain ⟨a', c', e', hl, ha⟩ := hu.sl_inv
            refine ⟨_, _, h2, run_v ?_, .ptr (ha.elem (by omega) _)⟩
            rw [e', hu2.int_inv]
            simp only [Instr.indexAt, asIntOf, Sem.run_bind, Sem.run_pure, Result.andThen_ok, run_underlying e, if_pos hj, run_sizeOf' (info_some hok)]
          · cases h2
      · cases hc
    · cases hc
  case index t x i =>
    split at hc
    · rename_i n el e
      split at hc
      · rename_i hok
        simp only [Option.some.injEq, Prod.mk.injEq, CIns.pure.injEq] at hc; obtain ⟨rfl, rfl⟩ := hc
        obtain ⟨u, v, rfl, hu, hu2⟩ := VRs.inv2 hv
        simp only [pureK] at h
        obtain ⟨cs, rfl, h1⟩ := asA_some h
        obtain ⟨k, j, rfl, h2⟩ := asN_some h1
        split at h2
        · rename_i hj
          obtain ⟨y, h3, h4⟩ := optK_some h2
          obtain ⟨cs', e', hcs, ho⟩ := hu.agg_inv
          obtain ⟨y', h5, h6⟩ := part_ok (w := w) hok hcs ho h3
          refine ⟨_, _, h4, run_v ?_, h6⟩
          rw [e', hu2.int_inv]
          simp only [Instr.index, asIntOf, Sem.run_bind, Sem.run_pure, Result.andThen_ok, run_underlying e, if_pos hj, run_sizeOf' (info_some hok)]
          simpa using h5
        · cases h2
      · cases hc
    · rename_i e
      simp only [Option.some.injEq, Prod.mk.injEq, CIns.pure.injEq] at hc; obtain ⟨rfl, rfl⟩ := hc
      obtain ⟨u, v, rfl, hu, hu2⟩ := VRs.inv2 hv
      simp only [pureK] at h
      obtain ⟨s, rfl, h1⟩ := asS_some h
      obtain ⟨k, j, rfl, h2⟩ := asN_some h1
      split at h2
      · rename_i hj
        refine ⟨_, _, h2, run_v ?_, .int _ _⟩
        rw [hu.string_inv, hu2.int_inv]
        exact idxS_ok e hj
      · cases h2
    · cases hc
  case range t x => split at hc <;> cases hc
  case next it isS => split at hc <;> cases hc
  case extract x i =>
    simp only [Option.some.injEq, Prod.mk.injEq, CIns.pure.injEq] at hc; obtain ⟨rfl, rfl⟩ := hc
    obtain ⟨u, rfl, hu⟩ := VRs.inv1 hv
    simp only [pureK] at h
    split at h
    · obtain ⟨y, h1, h2⟩ := optK_some h
      obtain ⟨c', e', hcs⟩ := hu.tuple_inv
      obtain ⟨y', h3, h4⟩ := hcs.get i y h1
      refine ⟨_, _, h2, run_v ?_, h4⟩
      rw [e']
      rw [Array.getElem?_toList] at h3
      simp only [Instr.extract, h3, Sem.run_pure]
    · cases h
  case call c =>
    obtain ⟨callee, args, argTypes⟩ := c
    cases callee with
    | value f => cases f <;> simp at hc
    | invoke r m => cases hc
    | builtin b =>
      simp only at hc
      unfold cBuiltin at hc
      split at hc
      · rename_i t x ht hargs
        have hA : argTypes = #[t] := by rw [← Array.toList_inj]; simpa using ht
        have hB : args = #[x] := by rw [← Array.toList_inj]; simpa using hargs
        subst hA hB
        have hex : ∀ {s : Sem Value} {v v' : Value}, K v = some r → VR μ v v' → s = Builtin.len_ #[t] type #[ρ x] → s.run P w = .ok v' w →
            ∃ v v', K v = some r ∧ (execOp ρ ⟨dst, .call ⟨.builtin .len, #[x], #[t]⟩, type, pos, after, guard⟩).run P w = .ok (.value v') w ∧ VR μ v v' := by
          intro s v v' h1 h2 h3 h4
          refine ⟨v, v', h1, ?_, h2⟩
          rw [h3] at h4
          simp only [execOp, resolve, Sem.run_bind, Sem.run_pure, Result.andThen_ok, invoke, builtin]
          simp [h4]
        split at hc
        · rename_i e
          simp only [Option.some.injEq, Prod.mk.injEq, CIns.pure.injEq] at hc; obtain ⟨rfl, rfl⟩ := hc
          obtain ⟨u, rfl, hu⟩ := VRs.inv1 hv
          simp only [pureK] at h
          obtain ⟨s, rfl, h1⟩ := asS_some h
          refine hex h1 (.int _ _) rfl ?_
          rw [hu.string_inv]
          simp [Builtin.len_, run_underlying e, goInt, slen_size]
        · rename_i n el e
          simp only [Option.some.injEq, Prod.mk.injEq, CIns.pure.injEq] at hc; obtain ⟨rfl, rfl⟩ := hc
          obtain ⟨u, rfl, hu⟩ := VRs.inv1 hv
          refine hex h (.int _ _) rfl ?_
          simp [Builtin.len_, run_underlying e, goInt]
        · rename_i el e
          simp only [Option.some.injEq, Prod.mk.injEq, CIns.pure.injEq] at hc; obtain ⟨rfl, rfl⟩ := hc
          obtain ⟨u, rfl, hu⟩ := VRs.inv1 hv
          simp only [pureK] at h
          obtain ⟨a, n, c, rfl, h1⟩ := asSl_some h
          cases a with
          | none =>
            obtain ⟨rfl, rfl, e'⟩ := hu.slN_inv
            refine hex h1 (.int _ _) rfl ?_
            rw [e']
            simp [Builtin.len_, run_underlying e, goInt]
          | some a =>
            obtain ⟨a', c', e', _, _⟩ := hu.sl_inv
            refine hex h1 (.int _ _) rfl ?_
            rw [e']
            simp [Builtin.len_, run_underlying e, goInt]
        · rename_i arr e
          split at hc
          · rename_i n el e1
            simp only [Option.some.injEq, Prod.mk.injEq, CIns.pure.injEq] at hc; obtain ⟨rfl, rfl⟩ := hc
            obtain ⟨u, rfl, hu⟩ := VRs.inv1 hv
            refine hex h (.int _ _) rfl ?_
            simp [Builtin.len_, run_underlying e, run_underlying e1, goInt]
          · cases hc
        · cases hc
      · rename_i t ts xs' ht hargs
        split at hc
        · rename_i k e
          simp only [Option.some.injEq, Prod.mk.injEq, CIns.pure.injEq] at hc; obtain ⟨rfl, rfl⟩ := hc
          match vs, args, hargs, hv, h with
          | [], _, _, _, h => simp [pureK] at h
          | u :: vs, args, _, hv, h =>
            obtain ⟨args⟩ := args
            match args, hv with
            | x :: xs, hv =>
              simp only [List.map_cons] at hv
              simp only [pureK] at h
              obtain ⟨a, rfl, h1⟩ := asI_some h
              obtain ⟨b, h2, h3⟩ := mm_ok (P := P) (w := w) hv.2 h1
              refine ⟨_, .int k b, h2, ?_, .int _ _⟩
              simp only [execOp, resolve, Sem.run_bind, Sem.run_pure, Result.andThen_ok, invoke, builtin]
              simp only [Bool.false_eq_true, if_false] at h3
              simp [Builtin.min_, hv.1.int_inv, h3]
        · cases hc
      · rename_i t ts xs' ht hargs
        split at hc
        · rename_i k e
          simp only [Option.some.injEq, Prod.mk.injEq, CIns.pure.injEq] at hc; obtain ⟨rfl, rfl⟩ := hc
          match vs, args, hargs, hv, h with
          | [], _, _, _, h => simp [pureK] at h
          | u :: vs, args, _, hv, h =>
            obtain ⟨args⟩ := args
            match args, hv with
            | x :: xs, hv =>
              simp only [List.map_cons] at hv
              simp only [pureK] at h
              obtain ⟨a, rfl, h1⟩ := asI_some h
              obtain ⟨b, h2, h3⟩ := mm_ok (P := P) (w := w) hv.2 h1
              refine ⟨_, .int k b, h2, ?_, .int _ _⟩
              simp only [execOp, resolve, Sem.run_bind, Sem.run_pure, Result.andThen_ok, invoke, builtin]
              simp only [if_true] at h3
              simp [Builtin.max_, hv.1.int_inv, h3]
        · cases hc
      · split at hc <;> (try split at hc) <;> cases hc
      · split at hc <;> (try split at hc) <;> cases hc
      · split at hc <;> (try split at hc) <;> cases hc
      · cases hc
      · cases hc
      · cases hc
  all_goals cases hc
end
end Go.Cm

namespace Go.Cm
open Go

section
variable {P : Program} {w0 : Start} {μ : Mu} {H : Heap} {w : World}

theorem lookup_cells (R : RR P w0 μ H w) {b : Nat} {m : MB} {c : List Value} {e : TypeId} {o : Bool} {fz : Nat} {s : Bool} (hm : μ b = some m) (hg : H.get b = some (.cells c e o fz s)) :
    ∃ c' fr, w.heap[m.blk]? = some (.cells c' e fr) ∧ OR P μ m (.cells c e o fz s) (.cells c' e fr) := by
  obtain ⟨o', h1, h2⟩ := R.obj b m _ hm hg
  cases o' <;> simp only [OR] at h2
  have := h2.1
  subst this
  exact ⟨_, _, h1, h2⟩

theorem cell_ok (R : RR P w0 μ H w) {a a' : Addr} {v : Value} (ha : AR μ a a') (h : H.ld1 a = some v) : ∃ v', w.cell? a' = some v' ∧ VR μ v v' ∧ one v = true := by
  obtain ⟨h1, h2, m, h3, h4, h5⟩ := ha
  unfold Heap.ld1 at h
  split at h
  · rename_i c e o fz s hg
    obtain ⟨c', fr, g1, g2⟩ := lookup_cells R h3 hg
    obtain ⟨_, _, _, _, _, _, _, g3, _⟩ := g2
    obtain ⟨o1, v', e1, e2⟩ := g3 _ _ h
    refine ⟨v', ?_, e2, o1⟩
    unfold World.cell?
    rw [h4, g1]
    simp only [h2, Option.isSome_none, Bool.false_eq_true, if_false, h5]
    exact e1
  · cases h

theorem cells_ok (R : RR P w0 μ H w) {a a' : Addr} {n : Nat} {l : List Value} (ha : AR μ a a') (h : H.ldN a n = some l) :
    ∃ l', VRs μ l l' ∧ (∀ v ∈ l, one v = true) ∧ l.length = n ∧ ∀ k v', l'[k]? = some v' → w.cell? (a'.add k) = some v' := by
  obtain ⟨h1, h2, m, h3, h4, h5⟩ := ha
  unfold Heap.ldN at h
  split at h
  · rename_i c e o fz s hg
    split at h
    · rename_i hlen
      simp only [Option.some.injEq] at h
      subst h
      obtain ⟨c', fr, g1, g2⟩ := lookup_cells R h3 hg
      obtain ⟨_, ⟨gl, _⟩, _, _, gs, gi, _, g3, _⟩ := g2
      refine ⟨((c'.toList.drop (a.off + m.sh)).take n), VRs.of ?_ ?_, ?_, by simp; omega, ?_⟩
      · simp only [List.length_take, List.length_drop, Array.length_toList, gs]; omega
      · intro i v v' e1 e2
        simp only [List.getElem?_take, List.getElem?_drop] at e1 e2
        by_cases hi : i < n
        · rw [if_pos hi] at e1 e2
          obtain ⟨_, v2, e3, e4⟩ := g3 _ _ e1
          rw [Array.getElem?_toList] at e2
          have : a.off + i + m.sh = a.off + m.sh + i := by omega
          rw [this, e2] at e3
          cases e3
          exact e4
        · rw [if_neg hi] at e1; cases e1
      · intro v hv
        obtain ⟨i, hi, rfl⟩ := List.mem_iff_getElem.1 (List.mem_of_mem_drop (List.mem_of_mem_take hv))
        exact (g3 i _ (List.getElem?_eq_getElem hi)).1
      · intro k v' hk
        simp only [List.getElem?_take, List.getElem?_drop, Array.getElem?_toList] at hk
        split at hk
        · rw [ap_eq h2]
          unfold World.cell?
          simp only [ap, h4, g1, Option.isSome_none, Bool.false_eq_true, if_false, h5]
          exact hk
        · cases hk
    · cases h
  · cases h

theorem run_loadCells : ∀ (n i : Nat) (a : Addr) (l' : List Value) (acc : Array Value) (w : World), l'.length = n → (∀ k v', l'[k]? = some v' → w.cell? (a.add (i + k)) = some v') →
    (loadCellsFrom a i n acc).run P w = .ok (acc ++ l'.toArray) w
  | 0, i, a, l', acc, w, hl, _ => by
    have : l' = [] := List.length_eq_zero_iff.1 hl
    subst this
    simp [loadCellsFrom]
  | n + 1, i, a, [], acc, w, hl, _ => by simp at hl
  | n + 1, i, a, v :: l', acc, w, hl, h => by
    have h0 := h 0 v (by simp)
    simp only [Nat.add_zero] at h0
    simp only [loadCellsFrom, Sem.run_bind, run_load, h0, Result.andThen_ok]
    rw [run_loadCells n (i + 1) a l' (acc.push v) w (by simpa using hl) (fun k v' hk => by
      have := h (k + 1) v' (by simpa using hk)
      rw [show i + 1 + k = i + (k + 1) by omega]; exact this)]
    simp

theorem loadCells_ok (R : RR P w0 μ H w) {a a' : Addr} {n : Nat} {l : List Value} (ha : AR μ a a') (h : H.ldN a n = some l) :
    ∃ l', VRs μ l l' ∧ (∀ v ∈ l, one v = true) ∧ (loadCells a' n).run P w = .ok l'.toArray w := by
  obtain ⟨l', h1, h2, h3, h4⟩ := cells_ok R ha h
  refine ⟨l', h1, h2, ?_⟩
  have := run_loadCells (P := P) n 0 a' l' #[] w (by rw [← h1.length, h3]) (fun k v' hk => by simpa using h4 k v' hk)
  simpa [loadCells] using this

theorem loadVar_ok (R : RR P w0 μ H w) {t : TypeId} (ht : okElem P t = true) {a a' : Addr} {v : Value} (ha : AR μ a a') (h : readD (.load (P.cellsOf t) (isAggT P t)) [.pointer (some a)] H = some v) :
    ∃ v', (loadVar t a').run P w = .ok v' w ∧ VR μ v v' := by
  simp only [readD] at h
  unfold loadVar
  simp only [Sem.run_bind, run_isAgg ht, Result.andThen_ok]
  by_cases hA : isAggT P t = true
  · simp only [hA, if_true] at h ⊢
    split at h
    · rename_i l hl
      simp only [Option.some.injEq] at h
      subst h
      obtain ⟨l', h1, h2, h3⟩ := loadCells_ok R ha hl
      refine ⟨.agg l'.toArray, ?_, VR.agg_of h1 h2⟩
      simp only [Sem.run_bind, run_sizeOf' (info_some ht), Result.andThen_ok, h3, Sem.run_pure]
    · cases h
  · simp only [hA] at h ⊢
    obtain ⟨v', h1, h2, _⟩ := cell_ok R ha (by simpa using h)
    exact ⟨v', by simp [h1], h2⟩

/-- what is shown of an instruction that reads -/
def ReadOK (P : Program) (o : Oper) (ri : RI) (xs : List Operand) : Prop :=
  ∀ (w0 : Start) (μ : Mu) (H : Heap) (w : World) (ρ : Operand → Value) (vs : List Value) (v : Value), RR P w0 μ H w → (∀ v, ρ (.const v) = v) → VRs μ vs (xs.map ρ) → readD ri vs H = some v →
    ∃ v', (execOp ρ o).run P w = .ok (.value v') w ∧ VR μ v v'

theorem bytes_loop {f : Value → ByteArray → Sem (ForInStep ByteArray)} (hf : ∀ n s, f (.int .u8 n) s = pure (.yield (s.push (UInt8.ofNat n.toNat)))) {w : World} :
    ∀ (l l' : List Value) (r : List UInt8) (s : ByteArray), VRs μ l l' → bytesOf l = some r → (forIn l' s f : Sem ByteArray).run P w = .ok (S (lst s ++ r)) w
  | [], [], r, s, _, h => by
    simp only [bytesOf, Option.some.injEq] at h; subst h
    simp
  | v :: l, v' :: l', r, s, hv, h => by
    unfold bytesOf at h
    split at h
    · rename_i h0; cases h0
    · rename_i heq
      simp only [List.cons.injEq] at heq
      obtain ⟨rfl, rfl⟩ := heq
      split at h
      · rename_i r' hr
        simp only [Option.some.injEq] at h; subst h
        rw [hv.1.int_inv, List.forIn_cons, hf]
        simp only [Sem.run_bind, Sem.run_pure, Result.andThen_ok]
        rw [bytes_loop hf l l' r' _ hv.2 hr]
        congr 1
        simp [lst]
      · cases h
    · cases h

theorem runes_loop {f : Value → ByteArray → Sem (ForInStep ByteArray)} (hf : ∀ n s, f (.int .i32 n) s = pure (.yield (s ++ Utf8.encode n))) {w : World} :
    ∀ (l l' : List Value) (r : List UInt8) (s : ByteArray), VRs μ l l' → runesOf l = some r → (forIn l' s f : Sem ByteArray).run P w = .ok (S (lst s ++ r)) w
  | [], [], r, s, _, h => by
    simp only [runesOf, Option.some.injEq] at h; subst h
    simp
  | v :: l, v' :: l', r, s, hv, h => by
    unfold runesOf at h
    split at h
    · rename_i h0; cases h0
    · rename_i heq
      simp only [List.cons.injEq] at heq
      obtain ⟨rfl, rfl⟩ := heq
      split at h
      · rename_i r' hr
        simp only [Option.some.injEq] at h; subst h
        rw [hv.1.int_inv, List.forIn_cons, hf]
        simp only [Sem.run_bind, Sem.run_pure, Result.andThen_ok]
        rw [runes_loop hf l l' r' _ hv.2 hr, ← sCat_eq]
        congr 1
        simp [lst, sCat, S]
      · cases h
    · cases h

/-- the cells of a slice, clean and real -/
theorem slice_ok (R : RR P w0 μ H w) {a a' : Addr} {n c c' : Nat} {l : List Value} (ha : SR μ a a' n c c') (h : H.ldN a n = some l) :
    ∃ l', VRs μ l l' ∧ (∀ v ∈ l, one v = true) ∧ (loadCells a' n).run P w = .ok l'.toArray w := by
  by_cases hn : n = 0
  · subst hn
    refine ⟨[], ?_, ?_, rfl⟩ <;> (unfold Heap.ldN at h; split at h <;> first | (cases h; done) | (split at h <;> first | (cases h; done) | (simp at h; subst h; simp [VRs])))
  · exact loadCells_ok R (ha.base (by omega)) h

theorem shape_ok (R : RR P w0 μ H w) {a a' : Addr} (ha : AR μ a a') (h : H.clear a.block = true) :
    (∃ e n, w.shape? a'.block = some (e, n) ∧ n ≠ 0 ∧ w.frozen? a' = false ∧ w.frozen? ⟨a'.block, n, none⟩ = false) := by
  obtain ⟨h1, h2, m, h3, h4, h5⟩ := ha
  unfold Heap.clear at h
  split at h
  · rename_i c e o fz s hg
    simp only [Bool.and_eq_true, Bool.not_eq_true', beq_iff_eq] at h
    obtain ⟨⟨h6, h7⟩, h8⟩ := h
    obtain ⟨c', fr, g1, g2⟩ := lookup_cells R h3 hg
    obtain ⟨_, ⟨gl, _⟩, _, _, gs, gi, _, g3, g4, g5⟩ := g2
    have hlen : c.length ≠ 0 := by
      intro hc
      rw [List.length_eq_zero_iff] at hc
      simp [hc] at h6
    refine ⟨e, c'.size, ?_, by omega, ?_, ?_⟩
    · unfold World.shape?; rw [h4, g1]
    · unfold World.frozen?
      rw [h4, g1]
      simp only
      have := g5 h8
      simp only [Bool.and_eq_false_iff, decide_eq_false_iff_not]
      omega
    · unfold World.frozen?
      simp only [h4, g1]
      have := g5 h8
      simp only [Bool.and_eq_false_iff, decide_eq_false_iff_not]
      omega
  · cases h

theorem run_sameAddr (R : RR P w0 μ H w) {a a' b b' : Addr} (ha : AR μ a a') (hb : AR μ b b') (h : (if a.block = b.block then H.alive a.block else H.clear a.block && H.clear b.block) = true) :
    (sameAddr a' b').run P w = .ok (decide (a.block = b.block ∧ a.off = b.off)) w := by
  by_cases e : a.block = b.block
  · rw [if_pos e] at h
    obtain ⟨h1, h2, m, h3, h4, h5⟩ := ha
    obtain ⟨k1, k2, m2, k3, k4, k5⟩ := hb
    rw [e, k3] at h3
    cases h3
    unfold sameAddr
    rw [if_pos (by rw [h4, k4]; simp)]
    simp only [Sem.run_pure]
    congr 1
    obtain ⟨ab, ao, as⟩ := a'
    obtain ⟨bb, bo, bs⟩ := b'
    simp only at *
    subst h2 k2 h4
    subst k4
    rw [Bool.eq_iff_iff]
    simp only [beq_iff_eq, Addr.mk.injEq, decide_eq_true_eq, and_true, true_and, e]
    omega
  · rw [if_neg e] at h
    simp only [Bool.and_eq_true] at h
    obtain ⟨e1, n1, s1, s2, s3, s4⟩ := shape_ok R ha h.1
    obtain ⟨e2, n2, t1, t2, t3, t4⟩ := shape_ok R hb h.2
    have hne : a'.block ≠ b'.block := by
      intro hc
      obtain ⟨_, _, m, h3, h4, _⟩ := ha
      obtain ⟨_, _, m2, k3, k4, _⟩ := hb
      have al : ∀ {x : Nat}, H.clear x = true → ∃ o, H.get x = some o := by
        intro x hx
        unfold Heap.clear at hx
        split at hx
        · rename_i hg; exact ⟨_, hg⟩
        · cases hx
      obtain ⟨o1, g1⟩ := al h.1
      obtain ⟨o2, g2⟩ := al h.2
      have nw : ∀ {x : Nat} {o : CObj}, H.clear x = true → H.get x = some o → ∀ c e, o ≠ .cells c e false c.length true := by
        intro x o hx hg c e ho
        subst ho
        unfold Heap.clear at hx
        rw [hg] at hx
        simp at hx
      exact e (R.inj' h3 k3 g1 g2 (by rw [← h4, ← k4, hc]) (R.own k3 g2 (nw h.2 g2)))
    unfold sameAddr
    rw [if_neg (by simpa using hne)]
    have : decide (a.block = b.block ∧ a.off = b.off) = false := by simp [e]
    rw [this]
    simp [s3, t3, noView, viewAt, s1, t1, mayBeOne, stringish, s4, t4]

theorem convBytes_ok {s d e : TypeId} {x : Value} (e1 : P.underlying s = some (.slice e)) (e2 : P.underlying d = some .string) (e3 : P.underlying e = some (.int .u8)) (hx : ∀ b, x ≠ .string b) (hi : ∀ k b, x ≠ .int k b) :
    (convert s d x).run P w = (Conv.bytesToString x).run P w := by
  simp only [convert, Sem.run_bind, run_underlying e1, run_underlying e2, Result.andThen_ok]
  cases x <;> simp_all [run_underlying e3]

theorem convRunes_ok {s d e : TypeId} {x : Value} (e1 : P.underlying s = some (.slice e)) (e2 : P.underlying d = some .string) (e3 : P.underlying e = some (.int .i32)) (hx : ∀ b, x ≠ .string b) (hi : ∀ k b, x ≠ .int k b) :
    (convert s d x).run P w = (Conv.runesToString x).run P w := by
  simp only [convert, Sem.run_bind, run_underlying e1, run_underlying e2, Result.andThen_ok]
  cases x <;> simp_all [run_underlying e3]

theorem subSl_ok (R : RR P w0 μ H w) {elem : TypeId} {a a' : Addr} {n c c' : Nat} (hn : n ≤ c) (ha : SR μ a a' n c c') {l h m : Nat} {mx : Bool} (h1 : l ≤ h) (h2 : h ≤ m) (h3 : m ≤ c) (h4 : mx = false → m = c)
    (hk : (l == 0 || mx || H.opnOk a.block elem) = true) :
    VR μ (.slice (some (if l = 0 then a else ap a (l * P.cellsOf elem))) (h - l) (m - l)) (.slice (some (if (if mx = true then m else c') = l then a' else a'.add (l * P.cellsOf elem))) (h - l) ((if mx = true then m else c') - l)) := by
  rcases ha with ⟨e1, e2, mb, e3, e4, e5⟩ | ⟨rfl, rfl, rfl, rfl⟩
  rotate_left
  · obtain rfl : m = 0 := by omega
    obtain rfl : h = 0 := by omega
    obtain rfl : l = 0 := by omega
    refine .sl (by omega) (.inr ⟨rfl, rfl, rfl, by cases mx <;> rfl⟩)
  have hc : c ≤ c' := by omega
  have e0 : (if l = 0 then a else ap a (l * P.cellsOf elem)) = ap a (l * P.cellsOf elem) := by
    split
    · rename_i h0
      subst h0
      obtain ⟨ab, ao, as⟩ := a
      simp only at e1
      subst e1
      simp [ap]
    · rfl
  rw [e0]
  refine .sl (by omega) (.inl ?_)
  cases mx with
  | true =>
    simp only [if_true]
    by_cases hml : m = l
    · rw [if_pos hml]
      exact ⟨rfl, e2, mb, e3, e4, .inr (.inr ⟨by omega, by omega, .inl (by omega)⟩)⟩
    · rw [if_neg hml, ap_eq e2]
      exact ⟨rfl, rfl, mb, e3, e4, .inl ⟨by simp only [ap]; omega, rfl⟩⟩
  | false =>
    simp only [Bool.false_eq_true, if_false]
    have hm := h4 rfl
    subst hm
    rcases e5 with ⟨f1, f2⟩ | ⟨f1, f2, f3, f4, f5⟩ | ⟨f1, f2, f3⟩
    · subst f2
      by_cases hml : c' = l
      · rw [if_pos hml]
        exact ⟨rfl, e2, mb, e3, e4, .inr (.inr ⟨by omega, by omega, .inl (by omega)⟩)⟩
      · rw [if_neg hml, ap_eq e2]
        exact ⟨rfl, rfl, mb, e3, e4, .inl ⟨by simp only [ap]; omega, rfl⟩⟩
    · by_cases hml : c' = l
      · rw [if_pos hml]
        exact ⟨rfl, e2, mb, e3, e4, .inr (.inr ⟨by omega, by omega, .inl (by omega)⟩)⟩
      · rw [if_neg hml, ap_eq e2]
        by_cases hl : l = 0
        · subst hl
          refine ⟨rfl, rfl, mb, e3, e4, .inr (.inl ⟨f1, by simp only [ap]; omega, by omega, ?_, ?_⟩)⟩
          · simpa [ap] using f4
          · simpa [ap] using f5
        · have hop : H.opnOk a.block elem = true := by simpa [hl] using hk
          unfold Heap.opnOk at hop
          split at hop
          · rename_i cl e o fz s hg
            obtain ⟨cr, fr, g1, g2⟩ := lookup_cells R e3 hg
            obtain ⟨_, ⟨gl, _⟩, go, ge, _⟩ := g2
            rw [f1] at go
            subst go
            simp only [Bool.not_true, Bool.false_or, beq_iff_eq] at hop
            subst hop
            refine ⟨rfl, rfl, mb, e3, e4, .inr (.inl ⟨f1, by simp only [ap]; omega, by omega, ?_, ?_⟩)⟩
            · simp only [ap]
              rw [← ge]
              have : (m - l) * mb.esz = m * mb.esz - l * mb.esz := Nat.sub_mul _ _ _
              have h5 : l * mb.esz ≤ m * mb.esz := Nat.mul_le_mul_right _ (by omega)
              omega
            · simp only [ap]
              rw [← ge]
              have : (c' - l) * mb.esz = c' * mb.esz - l * mb.esz := Nat.sub_mul _ _ _
              have h5 : l * mb.esz ≤ c' * mb.esz := Nat.mul_le_mul_right _ (by omega)
              omega
          · cases hop
    · subst f1 f2
      have hl : l = 0 := by omega
      have hh : h = 0 := by omega
      subst hl hh
      have e6 : (if c' = 0 then a' else a'.add (0 * P.cellsOf elem)) = a' := by
        split
        · rfl
        · simp [Addr.add]
      rw [e6]
      exact ⟨rfl, e2, mb, e3, e4, .inr (.inr ⟨rfl, rfl, by simpa using f3⟩)⟩

theorem VR.ptrN_inv {v' : Value} (h : VR μ (.pointer none) v') : v' = .pointer none := by cases h; rfl

theorem equal_ptr (dd : Nat) {t e : TypeId} (ht : P.underlying t = some (.pointer e)) (hok : okElem P e = true) (hn : P.cellsOf e ≠ 0) :
    (∀ b : Option Addr, (Op.equalIn (dd + 1) t (.pointer none) (.pointer b)).run P w = .ok b.isNone w) ∧
    (∀ a : Addr, (Op.equalIn (dd + 1) t (.pointer (some a)) (.pointer none)).run P w = .ok false w) ∧
    (∀ a b : Addr, (Op.equalIn (dd + 1) t (.pointer (some a)) (.pointer (some b))).run P w = (sameAddr a b).run P w) := by
  refine ⟨fun b => ?_, fun a => ?_, fun a b => ?_⟩
  · simp only [Op.equalIn, Sem.run_bind, run_underlying ht, Result.andThen_ok, Sem.run_pure]
  · simp only [Op.equalIn, Sem.run_bind, run_underlying ht, Result.andThen_ok, Sem.run_pure]
  · simp only [Op.equalIn, Sem.run_bind, run_underlying ht, Result.andThen_ok, run_sizeOf' (info_some hok)]
    rw [if_pos hn]

theorem read_bin {dst : Option Tmp} {type : TypeId} {pos : String} {after : Array Edge} {guard : Option (Nat × Bool)} {op : BinOp} {t yt : TypeId} {x y : Operand} {ri : RI} {xs : List Operand} (hc : cOp P ⟨dst, .binOp op t x y yt, type, pos, after, guard⟩ = some (.read ri, xs)) : ReadOK P ⟨dst, .binOp op t x y yt, type, pos, after, guard⟩ ri xs := by
  intro w0 μ H w ρ vs v R hρ hv h
  simp only [cOp] at hc
  have key : ∃ e neg, P.underlying t = some (.pointer e) ∧ okElem P e = true ∧ P.cellsOf e ≠ 0 ∧ ri = .eqP neg ∧ xs = [x, y] ∧ (op = .eql ∧ neg = false ∨ op = .neq ∧ neg = true) := by
    unfold cBin at hc
    split at hc
    · split at hc <;> cases hc
    · split at hc <;> cases hc
    · rename_i d _ _ e
      have : ∀ {op : BinOp}, cEq P op t d x y = some (.read ri, xs) → ∃ el, d = .pointer el ∧ okElem P el = true ∧ P.cellsOf el ≠ 0 ∧ ri = .eqP (op == .neq) ∧ xs = [x, y] := by
        intro op hc
        unfold cEq at hc
        split at hc
        · split at hc
          · cases hc
          · split at hc
            · cases hc
            · cases d with
              | pointer el =>
                simp only at hc
                split at hc
                · rename_i hk
                  simp only [Option.some.injEq, Prod.mk.injEq, CIns.read.injEq] at hc
                  exact ⟨el, rfl, hk.1, hk.2, hc.1.symm, hc.2.symm⟩
                · cases hc
              | _ => cases hc
        · split at hc
          · cases hc
          · split at hc <;> (try split at hc) <;> cases hc
          · split at hc <;> (try split at hc) <;> cases hc
          · cases hc
      split at hc
      · obtain ⟨el, rfl, a, b, rfl, rfl⟩ := this hc; exact ⟨el, _, e, a, b, rfl, rfl, .inl ⟨rfl, rfl⟩⟩
      · obtain ⟨el, rfl, a, b, rfl, rfl⟩ := this hc; exact ⟨el, _, e, a, b, rfl, rfl, .inr ⟨rfl, rfl⟩⟩
      · cases hc
    · cases hc
  obtain ⟨el, neg, e, hok, hn, rfl, rfl, hop⟩ := key
  obtain ⟨u, z, rfl, hu, hu2⟩ := VRs.inv2 hv
  match u, z, hu, hu2, h with
  | .pointer a, .pointer b, hu, hu2, h =>
    have done : ∀ {q : Bool} {u' z' : Value}, ρ x = u' → ρ y = z' → (∃ a, u' = .pointer a) → (∃ b, z' = .pointer b) → v = .bool (if neg then !q else q) → (Op.equalIn (9999 + 1) t u' z').run P w = .ok q w →
        ∃ v', (execOp ρ ⟨dst, .binOp op t x y yt, type, pos, after, guard⟩).run P w = .ok (.value v') w ∧ VR μ v v' := by
      intro q u' z' e1 e2 ⟨a, ha⟩ ⟨b, hb⟩ e3 e4
      subst e3
      refine ⟨_, run_v (s := binS op t x y (ρ x) (ρ y)) (eqOp_run (hop.imp (·.1) (·.1)) (guard_at ?_ (.inl ?_)) ?_ ?_ ?_ ?_ (by rw [e1, e2]; exact e4)), ?_⟩
      · rw [e1, ha]; intro c hc; cases hc
      · rw [e1, ha]; intro hc; cases hc
      · rw [e1, ha]; rintro k1 a k2 b ⟨h1, h2⟩; cases h1
      · rw [e1, ha]; rintro a b ⟨h1, h2⟩; cases h1
      · rw [e1, ha]; rintro k1 a k2 b ⟨h1, h2⟩; cases h1
      · rw [e1, ha]; rintro k1 a1 a2 k2 b1 b2 ⟨h1, h2⟩; cases h1
      · rcases hop with ⟨rfl, rfl⟩ | ⟨rfl, rfl⟩ <;> exact .bool _
    have eqs := equal_ptr (P := P) (w := w) 9999 e hok hn
    cases a with
    | none =>
      simp only [readD, Option.some.injEq] at h
      have e1 : ρ x = .pointer none := hu.ptrN_inv
      cases b with
      | none => exact done e1 hu2.ptrN_inv ⟨_, rfl⟩ ⟨_, rfl⟩ h.symm (eqs.1 none)
      | some b =>
        obtain ⟨b', e2, hb⟩ := hu2.ptr_inv
        exact done e1 e2 ⟨_, rfl⟩ ⟨_, rfl⟩ h.symm (eqs.1 (some b'))
    | some a =>
      obtain ⟨a', e1, ha⟩ := hu.ptr_inv
      cases b with
      | none =>
        simp only [readD, Option.some.injEq] at h
        exact done (q := false) e1 hu2.ptrN_inv ⟨_, rfl⟩ ⟨_, rfl⟩ (by rw [← h]; cases neg <;> rfl) (eqs.2.1 a')
      | some b =>
        obtain ⟨b', e2, hb⟩ := hu2.ptr_inv
        simp only [readD] at h
        obtain ⟨h1, h2⟩ := chk_some h
        simp only [Option.some.injEq] at h2
        refine done e1 e2 ⟨_, rfl⟩ ⟨_, rfl⟩ h2.symm ?_
        rw [eqs.2.2]
        exact run_sameAddr R ha hb h1

theorem read_conv {dst : Option Tmp} {type : TypeId} {pos : String} {after : Array Edge} {guard : Option (Nat × Bool)} {s d : TypeId} {x : Operand} {ri : RI} {xs : List Operand} (hc : cOp P ⟨dst, .convert s d x, type, pos, after, guard⟩ = some (.read ri, xs)) : ReadOK P ⟨dst, .convert s d x, type, pos, after, guard⟩ ri xs := by
  intro w0 μ H w ρ vs v R hρ hv h
  simp only [cOp] at hc
  unfold cConv at hc
  split at hc
  case isTrue => cases hc
  unfold cConv0 at hc
  split at hc
  · cases hc
  · cases hc
  · cases hc
  · split at hc <;> (try split at hc) <;> cases hc
  · rename_i el e1 e2
    split at hc
    · rename_i e3
      simp only [Option.some.injEq, Prod.mk.injEq, CIns.read.injEq] at hc; obtain ⟨rfl, rfl⟩ := hc
      obtain ⟨u, rfl, hu⟩ := VRs.inv1 hv
      match u, hu, h with
      | .slice none n c, hu, h =>
        obtain ⟨rfl, rfl, e'⟩ := hu.slN_inv
        simp only [readD, Option.some.injEq] at h
        subst h
        refine ⟨_, run_v ?_, .string _⟩
        rw [e', convBytes_ok e1 e2 e3 (fun b h => by cases h) (fun k b h => by cases h)]
        rfl
      | .slice (some a) n c, hu, h =>
        obtain ⟨a', c', e', hl, ha⟩ := hu.sl_inv
        simp only [readD] at h
        split at h
        · rename_i h0
          subst h0
          simp only [Option.some.injEq] at h
          subst h
          refine ⟨_, run_v ?_, .string _⟩
          rw [e', convBytes_ok e1 e2 e3 (fun b h => by cases h) (fun k b h => by cases h)]
          rfl
        split at h
        · rename_i l hl
          split at h
          · rename_i r hr
            simp only [Option.some.injEq] at h
            subst h
            obtain ⟨l', h1, h2, h3⟩ := slice_ok R ha hl
            refine ⟨_, run_v ?_, .string _⟩
            rw [e', convBytes_ok e1 e2 e3 (fun b h => by cases h) (fun k b h => by cases h)]
            simp only [Conv.bytesToString, Sem.run_bind, h3, Result.andThen_ok, List.forIn_toArray]
            rw [bytes_loop (fun n s => rfl) l l' r _ h1 hr]
            simp only [Result.andThen_ok, Sem.run_pure]
            congr 2
          · cases h
        · cases h
    · rename_i e3
      simp only [Option.some.injEq, Prod.mk.injEq, CIns.read.injEq] at hc; obtain ⟨rfl, rfl⟩ := hc
      obtain ⟨u, rfl, hu⟩ := VRs.inv1 hv
      match u, hu, h with
      | .slice none n c, hu, h =>
        obtain ⟨rfl, rfl, e'⟩ := hu.slN_inv
        simp only [readD, Option.some.injEq] at h
        subst h
        refine ⟨_, run_v ?_, .string _⟩
        rw [e', convRunes_ok e1 e2 e3 (fun b h => by cases h) (fun k b h => by cases h)]
        rfl
      | .slice (some a) n c, hu, h =>
        obtain ⟨a', c', e', hl, ha⟩ := hu.sl_inv
        simp only [readD] at h
        split at h
        · rename_i h0
          subst h0
          simp only [Option.some.injEq] at h
          subst h
          refine ⟨_, run_v ?_, .string _⟩
          rw [e', convRunes_ok e1 e2 e3 (fun b h => by cases h) (fun k b h => by cases h)]
          rfl
        split at h
        · rename_i l hl
          split at h
          · rename_i r hr
            simp only [Option.some.injEq] at h
            subst h
            obtain ⟨l', h1, h2, h3⟩ := slice_ok R ha hl
            refine ⟨_, run_v ?_, .string _⟩
            rw [e', convRunes_ok e1 e2 e3 (fun b h => by cases h) (fun k b h => by cases h)]
            simp only [Conv.runesToString, Sem.run_bind, h3, Result.andThen_ok, List.forIn_toArray]
            rw [runes_loop (fun n s => rfl) l l' r _ h1 hr]
            simp only [Result.andThen_ok, Sem.run_pure]
            congr 2
          · cases h
        · cases h
    · cases hc
  · cases hc

theorem read_slice {dst : Option Tmp} {type : TypeId} {pos : String} {after : Array Edge} {guard : Option (Nat × Bool)} {t : TypeId} {x : Operand} {lo hi mx : Option Operand} {ri : RI} {xs : List Operand} (hc : cOp P ⟨dst, .slice t x lo hi mx, type, pos, after, guard⟩ = some (.read ri, xs)) : ReadOK P ⟨dst, .slice t x lo hi mx, type, pos, after, guard⟩ ri xs := by
  intro w0 μ H w ρ vs v R hρ hv h
  simp only [cOp] at hc
  unfold cSlice at hc
  have e3 : (x :: (lo.toList ++ hi.toList ++ mx.toList)).map ρ = ρ x :: ((lo.map ρ).toList ++ (hi.map ρ).toList ++ (mx.map ρ).toList) := by
    cases lo <;> cases hi <;> cases mx <;> rfl
  simp only at hc
  split at hc
  · split at hc <;> cases hc
  · rename_i el e
    split at hc
    · rename_i hok
      simp only [Option.some.injEq, Prod.mk.injEq, CIns.read.injEq] at hc; obtain ⟨rfl, rfl⟩ := hc
      rw [e3] at hv
      match vs, hv with
      | u :: vs, hv =>
        simp only [readD] at h
        obtain ⟨a, n, c, rfl, h1⟩ := asSl_some h
        cases a with
        | none =>
          obtain ⟨rfl, rfl, e'⟩ := hv.1.slN_inv
          have hb := bnds_ok (P := P) (w := w) (lo := lo.map ρ) (hi := hi.map ρ) (mx := mx.map ρ) (rc := 0) (isS := true) (Nat.le_refl _) (Nat.le_refl _) hv.2 (by simpa using h1)
          obtain ⟨l, hh, m, h2, h3, h4, h5, h6, h7⟩ := hb
          simp only [Option.some.injEq] at h2
          subst h2
          refine ⟨.slice none 0 0, run_v ?_, by rw [show hh - l = 0 by omega, show m - l = 0 by omega]; exact .slN⟩
          rw [e']
          simp only [Instr.sliceAt, Sem.run_bind, run_underlying e, Result.andThen_ok, Instr.slice, h7, run_sizeOf' (info_some hok), Sem.run_pure]
          have e1 : hh - l = 0 := by omega
          have e2 : (if (mx.map ρ).isSome = true then m else 0) - l = 0 := by split <;> omega
          rw [e1, e2]
          simp
        | some a =>
          obtain ⟨a', c', e', hl, ha⟩ := hv.1.sl_inv
          have hcc : c ≤ c' := by
            rcases ha with ⟨_, _, mb, _, _, q⟩ | ⟨_, _, q, q'⟩ <;> omega
          have hb := bnds_ok (P := P) (w := w) (lo := lo.map ρ) (hi := hi.map ρ) (mx := mx.map ρ) (rc := c') (isS := true) hl hcc hv.2 (by simpa using h1)
          obtain ⟨l, hh, m, h2, h3, h4, h5, h6, h7⟩ := hb
          obtain ⟨hk, h2⟩ := chk_some h2
          simp only [Option.some.injEq] at h2
          subst h2
          refine ⟨_, run_v ?_, subSl_ok R hl ha (mx := (mx.map ρ).isSome) h3 h4 h5 (fun hm => h6 (by simpa using hm)) (by simpa using hk)⟩
          rw [e']
          simp only [Instr.sliceAt, Sem.run_bind, run_underlying e, Result.andThen_ok, Instr.slice, h7, run_sizeOf' (info_some hok), Sem.run_pure]
          congr 2
          split <;> split <;> rfl
    · cases hc
  · split at hc <;> cases hc
  · split at hc <;> (try split at hc) <;> cases hc
  · cases hc

/-- EVERY INSTRUCTION THAT READS. -/
theorem read_ok {o : Oper} {ri : RI} {xs : List Operand} (hc : cOp P o = some (.read ri, xs)) : ReadOK P o ri xs := by
  obtain ⟨dst, op, type, pos, after, guard⟩ := o
  cases op
  case load t a =>
    simp only [cOp] at hc
    split at hc
    · rename_i ht
      simp only [Option.some.injEq, Prod.mk.injEq, CIns.read.injEq] at hc; obtain ⟨rfl, rfl⟩ := hc
      intro w0 μ H w ρ vs v R hρ hv h
      obtain ⟨u, rfl, hu⟩ := VRs.inv1 hv
      match u, hu, h with
      | .pointer (some a1), hu, h =>
        obtain ⟨a', e', ha⟩ := hu.ptr_inv
        obtain ⟨v', h1, h2⟩ := loadVar_ok R ht ha h
        refine ⟨v', run_v ?_, h2⟩
        rw [e']
        simp only [Instr.loadAt, Instr.sureAddr, Sem.run_bind, Sem.run_pure, Result.andThen_ok, h1]
    · cases hc
  case binOp => exact read_bin hc
  case convert => exact read_conv hc
  case slice => exact read_slice hc
  all_goals simp only [cOp] at hc
  all_goals first
    | (cases hc; done)
    | (split at hc <;> first | (cases hc; done) | (split at hc <;> first | (cases hc; done) | (split at hc <;> first | (cases hc; done) | (split at hc <;> cases hc))))
    | skip
  split at hc
  · unfold cBuiltin at hc
    repeat' split at hc
    all_goals cases hc
  all_goals cases hc
end
end Go.Cm
