/-
  A program's functions, compiled with the kinds of what the operations yield.
  And: Cuts, laid into a function's code; typed reading; nothing of a program is proved here. Words for printed code; nothing of a program is proved here. How printed code is reasoned about: one step at a time; slices that own a block; what is kept. Nothing of a program is proved here. Arguments of plain types, as windows. Arguments of plain types, as windows: the theorem. What a law's arguments read as, windows show. Package variables that lie as the program's text lays them: windows ahead of the arguments'. A world in which variables lie as data say: for the witness of a row that lists variables. A function that is known by a contract, as one step: strings.Join; numbers of one and two digits. A closed call that answers true, as one step, over code with prims. A closed call over tables that are laid: by evaluation. Code as it is printed: functions' code laid as terms, held against the program once each; a run that evaluates through cuts.
-/
import Derived.Test.YtkkhljcjjhcnhaaGreatDoorCmF
import Derived.KernelRfl
import Derived.Deep.DeepHandedRow
import Derived.Deep.DeepWitnessRowRef
import Derived.Deep.DeepLaidRun
import Derived.Below
import Derived.Lib.Join
namespace Go.Cm
open Go

section
variable {P : Program} {gl : List Nat} {nt : Nat}

end

/-- a piece of code, by its path -/
def sub : CCode → List Nat → CCode
  | c, [] => c
  | .seq a _, 0 :: p => sub a p
  | .seq _ b, _ :: p => sub b p
  | .cond _ a _, 0 :: p => sub a p
  | .cond _ _ b, _ :: p => sub b p
  | .block _ a, _ :: p => sub a p
  | .loop a, _ :: p => sub a p
  | .cut _ a, _ :: p => sub a p
  | _, _ => .bad
end Go.Cm

namespace Go.Cm
open Go

/-- where the frame is cut -/
inductive CT where
  | no
  | cut (live : List (Nat × Kd0)) (t : CT)
  | lp (live : List (Nat × Kd0)) (t : CT)
  | two (t u : CT)
  | one (t : CT)

/-- a slice -/
structure Sl where
  a : Option Addr
  n : Nat
  c : Nat
abbrev Sl.v (s : Sl) : Value := .slice s.a s.n s.c
abbrev Sl.nil : Sl := ⟨none, 0, 0⟩

end Go.Cm

namespace Go.Cm
open Go

end Go.Cm

namespace Go.Cm
open Go

/-! ### the head is looked at first, the rest is left alone -/
section
variable {α β : Type}
end

theorem ld1_s {H : Heap} {b off : Nat} {c : List Value} {e : TypeId} {o : Bool} {fz : Nat} {st : Bool} (h : H.get b = some (.cells c e o fz st)) : H.ld1 ⟨b, off, none⟩ = c[off]? := by
  simp [Heap.ld1, h]
theorem ldN_s {H : Heap} {b off n : Nat} {c : List Value} {e : TypeId} {o : Bool} {fz : Nat} {st : Bool} (h : H.get b = some (.cells c e o fz st)) (hn : off + n ≤ c.length) : H.ldN ⟨b, off, none⟩ n = some ((c.drop off).take n) := by
  simp [Heap.ldN, h, hn]
theorem st1_s {H : Heap} {b off : Nat} {v : Value} {c : List Value} {e : TypeId} {o : Bool} {fz : Nat} {st : Bool} (h : H.get b = some (.cells c e o fz st)) (hn : off < c.length) (hf : fz ≤ off) : H.st1 ⟨b, off, none⟩ v = some (H.put b (.cells (c.set off v) e o fz st)) := by
  simp [Heap.st1, h, hn, hf]

/-! ### what was read early is held against the later memories -/
/-! ### what is kept -/
/-- all blocks but those of S are as they were -/
def Keep (S : Nat → Prop) (H H' : Heap) : Prop := H.next ≤ H'.next ∧ ∀ k, k < H.next → ¬ S k → H'.get k = H.get k
theorem Keep.refl {S : Nat → Prop} (H : Heap) : Keep S H H := ⟨Nat.le_refl _, fun _ _ _ => rfl⟩
theorem Keep.trans {S T : Nat → Prop} {H H' H'' : Heap} (h : Keep S H H') (h' : Keep T H' H'') (hs : ∀ k, k < H.next → T k → S k) : Keep S H H'' :=
  ⟨Nat.le_trans h.1 h'.1, fun k hk hn => (h'.2 k (Nat.lt_of_lt_of_le hk h.1) (fun ht => hn (hs k hk ht))).trans (h.2 k hk hn)⟩
theorem Keep.mono {S T : Nat → Prop} {H H' : Heap} (h : Keep S H H') (hs : ∀ k, k < H.next → S k → T k) : Keep T H H' :=
  ⟨h.1, fun k hk hn => h.2 k hk (fun ht => hn (hs k hk ht))⟩
theorem Keep.new {S : Nat → Prop} (H : Heap) (o : CObj) : Keep S H (H.new o) :=
  ⟨by simp, fun k hk _ => Heap.get_new_ne _ _ (by omega)⟩
theorem Keep.put {S : Nat → Prop} (H : Heap) (b : Nat) (o : CObj) (hb : S b) : Keep S H (H.put b o) :=
  ⟨by simp, fun k _ hn => Heap.get_put_ne _ _ (fun e => hn (e ▸ hb))⟩

/-! ### slices that own a block -/
def Own (H : Heap) (b : Nat) (cs : List Value) (e : TypeId) : Prop := b < H.next ∧ ∃ o st, H.get b = some (.cells cs e o 0 st)
/-- a slice over a whole block -/
def Whole (H : Heap) (s : Sl) (cs : List Value) (e : TypeId) (sz : Nat) : Prop :=
  (s = ⟨none, 0, 0⟩ ∧ cs = []) ∨ ∃ b n, s = ⟨some ⟨b, 0, none⟩, n, n⟩ ∧ cs.length = n * sz ∧ Own H b cs e
/-- its block -/
def Sl.at (s : Sl) (k : Nat) : Prop := ∃ a, s.a = some a ∧ a.block = k

theorem Own.keep {S : Nat → Prop} {H H' : Heap} {b : Nat} {cs : List Value} {e : TypeId} (h : Own H b cs e) (hk : Keep S H H') (hn : ¬ S b) : Own H' b cs e := by
  obtain ⟨h1, o, st, h2⟩ := h
  exact ⟨Nat.lt_of_lt_of_le h1 hk.1, o, st, (hk.2 b h1 hn).trans h2⟩
theorem Whole.keep {S : Nat → Prop} {H H' : Heap} {s : Sl} {cs : List Value} {e : TypeId} {sz : Nat} (h : Whole H s cs e sz) (hk : Keep S H H') (hn : ∀ k, s.at k → ¬ S k) : Whole H' s cs e sz := by
  rcases h with h | ⟨b, n, rfl, h1, h2⟩
  · exact .inl h
  · exact .inr ⟨b, n, rfl, h1, h2.keep hk (hn b ⟨_, rfl, rfl⟩)⟩
theorem Whole.lt {H : Heap} {s : Sl} {cs : List Value} {e : TypeId} {sz : Nat} (h : Whole H s cs e sz) {k : Nat} (hk : s.at k) : k < H.next := by
  obtain ⟨a, h1, rfl⟩ := hk
  rcases h with ⟨rfl, _⟩ | ⟨b, n, rfl, _, h2⟩
  · cases h1
  · cases h1; exact h2.1
theorem Whole.nil (H : Heap) (e : TypeId) (sz : Nat) : Whole H Sl.nil [] e sz := .inl ⟨rfl, rfl⟩
theorem Whole.len {H : Heap} {s : Sl} {cs : List Value} {e : TypeId} {sz : Nat} (h : Whole H s cs e sz) : cs.length = s.n * sz ∧ s.c = s.n := by
  rcases h with ⟨rfl, rfl⟩ | ⟨b, n, rfl, h1, _⟩
  · simp
  · exact ⟨h1, rfl⟩
theorem Sl.at_nil {k : Nat} : ¬ Sl.nil.at k := fun ⟨_, h, _⟩ => by cases h

end Go.Cm

namespace Go.Cm
open Go

/-- fields that lie one behind the other -/
def inRow (P : Program) : List Field → Nat → Option Nat
  | [], n => some n
  | f :: fs, n => if f.offset = n then inRow P fs (n + P.cellsOf f.type) else none

/-- a type of plain data: numbers, truths, texts, slices, structs, arrays -/
def plainT (P : Program) : Nat → TypeId → Bool
  | 0, _ => false
  | d + 1, t => match P.underlying t with
    | some .bool | some (.int _) | some .string => decide (P.cellsOf t = 1)
    | some (.slice e) => decide (P.cellsOf t = 1) && decide (0 < P.cellsOf e) && plainT P d e
    | some (.struct fs) => (inRow P fs.toList 0 == some (P.cellsOf t)) && fs.toList.all fun f => plainT P d f.type
    | some (.array n e) => decide (n * P.cellsOf e = P.cellsOf t) && decide (0 < P.cellsOf e) && plainT P d e
    | _ => false

/-- what cells say, over windows -/
inductive DR {H : Type} (P : Program) (ws : List Win) : TypeId → List Value → DataW H → Prop
  | bool {t : TypeId} (b : Bool) (h : P.underlying t = some .bool) : DR P ws t [.bool b] (.lit (.bool b))
  | int {t : TypeId} (k : IntKind) (n : Int) (h : P.underlying t = some (.int k)) (hw : (Lit.int k n).wf = true) : DR P ws t [.int k n] (.lit (.int k n))
  | string {t : TypeId} (s : ByteArray) (h : P.underlying t = some .string) : DR P ws t [.string s] (.lit (.string s.data.toList))
  | nil {t e : TypeId} (h : P.underlying t = some (.slice e)) : DR P ws t [.slice none 0 0] .nil
  | none {t e : TypeId} (h : P.underlying t = some (.slice e)) : DR P ws t [.slice (some dang) 0 0] (.slice [] [])
  | slice {t e : TypeId} (h : P.underlying t = some (.slice e)) (b : Nat) (x : Win) (es rest : List (DataW H)) (hb : ws[b]? = some x) (hl : x.cells.length = (es ++ rest).length * P.cellsOf e)
      (hd : ∀ (i : Nat) d, (es ++ rest)[i]? = some d → DR P ws e ((x.cells.drop (i * P.cellsOf e)).take (P.cellsOf e)) d) : DR P ws t [.slice (some ⟨b, 0, none⟩) es.length (es ++ rest).length] (.slice es rest)
  | struct {t : TypeId} {fs : Array Field} (h : P.underlying t = some (.struct fs)) (cs : List Value) (ds : List (DataW H)) (hl : cs.length = P.cellsOf t) (hn : ds.length = fs.size)
      (hd : ∀ (i : Nat) f d, fs.toList[i]? = some f → ds[i]? = some d → DR P ws f.type ((cs.drop f.offset).take (P.cellsOf f.type)) d) : DR P ws t cs (.agg ds)
  | array {t e : TypeId} {n : Nat} (h : P.underlying t = some (.array n e)) (cs : List Value) (ds : List (DataW H)) (hl : cs.length = P.cellsOf t) (hn : ds.length = n)
      (hd : ∀ (i : Nat) d, ds[i]? = some d → DR P ws e ((cs.drop (i * P.cellsOf e)).take (P.cellsOf e)) d) : DR P ws t cs (.agg ds)

theorem mapM_some {α β : Type} {f : α → Option β} : ∀ {l : List α} {r : List β}, l.mapM f = some r → r.length = l.length ∧ ∀ (i : Nat) x y, l[i]? = some x → r[i]? = some y → f x = some y
  | [], r, h => by
    simp only [List.mapM_nil, Option.pure_def, Option.some.injEq] at h
    subst h
    exact ⟨rfl, fun i x y h => by simp at h⟩
  | a :: l, r, h => by
    simp only [List.mapM_cons, Option.pure_def, Option.bind_eq_bind, Option.bind_eq_some_iff, Option.some.injEq] at h
    obtain ⟨b, h1, r', h2, rfl⟩ := h
    obtain ⟨h3, h4⟩ := mapM_some h2
    refine ⟨by simp [h3], fun i x y hx hy => ?_⟩
    cases i with
    | zero => simp at hx hy; subst hx hy; exact h1
    | succ i => exact h4 i x y (by simpa using hx) (by simpa using hy)

section
variable {H : Type} {P : Program} {w : World}

/-- it can be laid out as windows, from any number on -/
def Good (P : Program) (w : World) (t : TypeId) (cs : List Value) (d : DataW H) : Prop :=
  ∀ n0 : Nat, ∃ (ws1 : List Win) (cs1 : List Value), ∀ ws0 ws2 : List Win, ws0.length = n0 →
    (∀ x ∈ ws1, WinOK P w (muW P w (ws0 ++ ws1 ++ ws2)) x) ∧ VRs (muW P w (ws0 ++ ws1 ++ ws2)) cs1 cs ∧ DR P (ws0 ++ ws1 ++ ws2) t cs1 d ∧ ∀ v ∈ cs1, one v = true

theorem jobs : ∀ (l : List (TypeId × List Value × DataW H)), (∀ j ∈ l, Good P w j.1 j.2.1 j.2.2) → ∀ n0 : Nat, ∃ (ws1 : List Win) (css : List (List Value)), css.length = l.length ∧ ∀ ws0 ws2 : List Win, ws0.length = n0 →
    (∀ x ∈ ws1, WinOK P w (muW P w (ws0 ++ ws1 ++ ws2)) x) ∧ ∀ (i : Nat) j c, l[i]? = some j → css[i]? = some c → VRs (muW P w (ws0 ++ ws1 ++ ws2)) c j.2.1 ∧ DR P (ws0 ++ ws1 ++ ws2) j.1 c j.2.2 ∧ ∀ v ∈ c, one v = true
  | [], _, n0 => ⟨[], [], rfl, fun ws0 ws2 _ => ⟨by simp, fun i j c h => by simp at h⟩⟩
  | a :: l, h, n0 => by
    obtain ⟨wa, ca, ha⟩ := h a List.mem_cons_self n0
    obtain ⟨wb, cb, hlen, hb⟩ := jobs l (fun j hj => h j (List.mem_cons_of_mem _ hj)) (n0 + wa.length)
    refine ⟨wa ++ wb, ca :: cb, by simp [hlen], fun ws0 ws2 h0 => ?_⟩
    have e1 : ws0 ++ (wa ++ wb) ++ ws2 = ws0 ++ wa ++ (wb ++ ws2) := by simp [List.append_assoc]
    have e2 : ws0 ++ (wa ++ wb) ++ ws2 = (ws0 ++ wa) ++ wb ++ ws2 := by simp [List.append_assoc]
    obtain ⟨a1, a2, a3, a4⟩ := ha ws0 (wb ++ ws2) h0
    obtain ⟨b1, b2⟩ := hb (ws0 ++ wa) ws2 (by simp [h0])
    refine ⟨fun x hx => ?_, fun i j c hi hc => ?_⟩
    · rcases List.mem_append.1 hx with hx | hx
      · rw [e1]; exact a1 x hx
      · rw [e2]; exact b1 x hx
    · cases i with
      | zero =>
        simp at hi hc
        subst hi hc
        rw [e1]; exact ⟨a2, a3, a4⟩
      | succ i =>
        rw [e2]
        exact b2 i j c (by simpa using hi) (by simpa using hc)

theorem VRs.flatten {μ : Mu} : ∀ {a b : List (List Value)}, a.length = b.length → (∀ (i : Nat) x y, a[i]? = some x → b[i]? = some y → VRs μ x y) → VRs μ a.flatten b.flatten
  | [], [], _, _ => trivial
  | [], _ :: _, h, _ => by simp at h
  | _ :: _, [], h, _ => by simp at h
  | x :: a, y :: b, h, hi => by
    simp only [List.flatten_cons]
    exact VRs.append (hi 0 x y rfl rfl) (VRs.flatten (by simpa using h) fun i x y h1 h2 => hi (i + 1) x y (by simpa using h1) (by simpa using h2))

/-- a piece of equal pieces -/
theorem flat_at {α : Type} (sz : Nat) : ∀ (l : List (List α)), (∀ x ∈ l, x.length = sz) → l.flatten.length = l.length * sz ∧ ∀ (i : Nat) x, l[i]? = some x → (l.flatten.drop (i * sz)).take sz = x
  | [], _ => ⟨by simp, fun i x h => by simp at h⟩
  | a :: l, h => by
    have ha := h a List.mem_cons_self
    obtain ⟨h1, h2⟩ := flat_at sz l (fun x hx => h x (List.mem_cons_of_mem _ hx))
    refine ⟨by simp only [List.flatten_cons, List.length_append, h1, ha, List.length_cons, Nat.add_mul, Nat.one_mul]; omega, fun i x hx => ?_⟩
    cases i with
    | zero =>
      simp at hx
      subst hx
      rw [Nat.zero_mul, List.drop_zero, List.flatten_cons, List.take_left' ha]
    | succ i =>
      rw [List.flatten_cons, Nat.add_mul, Nat.one_mul, Nat.add_comm, ← List.drop_drop, List.drop_left' ha]
      exact h2 i x (by simpa using hx)

/-- a row of cells, clean and real -/
theorem win_row {μ : Mu} {a : Addr} {l l' : List Value} (hne : l' ≠ []) (hc : ∀ (i : Nat) v, l'[i]? = some v → w.cell? (a.add i) = some v) (hl : VRs μ l l') (ho : ∀ v ∈ l, one v = true) :
    a.spot = none ∧ ∃ e, WinOK P w μ ⟨a.block, a.off, l, e⟩ := by
  obtain ⟨v0, l2, rfl⟩ : ∃ v0 l2, l' = v0 :: l2 := by cases l' with
    | nil => exact absurd rfl hne
    | cons x y => exact ⟨x, y, rfl⟩
  have h0 := hc 0 v0 rfl
  have hs : a.spot = none := by
    unfold World.cell? at h0
    split at h0
    · split at h0
      · cases h0
      · rename_i h
        simpa [Addr.add] using h
    · cases h0
  have hb : ∃ c e fr, w.heap[a.block]? = some (.cells c e fr) := by
    unfold World.cell? at h0
    split at h0
    · rename_i c e fr h
      exact ⟨c, e, fr, h⟩
    · cases h0
  obtain ⟨c, e, fr, hb⟩ := hb
  have hadd : ∀ i, a.add i = ⟨a.block, a.off + i, none⟩ := by
    intro i
    obtain ⟨ab, ao, as⟩ := a
    simp only at hs
    subst hs
    unfold Addr.add
    split
    · rename_i h; simp [h]
    · rfl
  have hcell : ∀ (i : Nat) v, (v0 :: l2)[i]? = some v → c[i + a.off]? = some v := by
    intro i v hv
    have h1 := hc i v hv
    unfold World.cell? at h1
    rw [hadd i] at h1
    simp only [hb, Option.isSome_none, Bool.false_eq_true, if_false] at h1
    rw [Nat.add_comm]
    exact h1
  have hlen := hl.length
  refine ⟨hs, e, c, fr, hb, ?_, fun i v hv => ⟨ho v (List.mem_of_getElem? hv), ?_⟩⟩
  · have hlast := hcell l2.length ((v0 :: l2)[l2.length]'(by simp)) (List.getElem?_eq_getElem (by simp))
    have := (Array.getElem?_eq_some_iff.1 hlast).1
    simp only [List.length_cons] at hlen
    simp only
    omega
  · obtain ⟨v', h2, h3⟩ := hl.get i v hv
    exact ⟨v', hcell i v' h2, h3⟩
end
end Go.Cm

namespace Go.Cm
open Go

section
variable {H : Type} {enc : TypeId × Value → H} {P : Program} {w : World} {base : Nat} {hd : Bool}

theorem Good.leaf {t : TypeId} {v : Value} {d : DataW H} (h1 : ∀ μ, VR μ v v) (h2 : ∀ ws, DR P ws t [v] d) (h3 : one v = true) : Good P w t [v] d :=
  fun n0 => ⟨[], [v], fun ws0 ws2 _ => ⟨by simp, ⟨h1 _, trivial⟩, h2 _, by simpa using h3⟩⟩

/-- a row of elements, behind a slice's address -/
theorem Good.row {t e : TypeId} (ht : P.underlying t = some (.slice e)) (hsz : 0 < P.cellsOf e) {a : Addr} (es rest : List (DataW H)) (cells : List (List Value)) (hlen : cells.length = (es ++ rest).length)
    (hc : ∀ (i : Nat) c, cells[i]? = some c → w.cells? base (a.add (i * P.cellsOf e)) (P.cellsOf e) = some c) (hg : ∀ (i : Nat) c d, cells[i]? = some c → (es ++ rest)[i]? = some d → Good P w e c d) :
    Good P w t [.slice (some a) es.length (es ++ rest).length] (.slice es rest) := by
  have hclen : ∀ c ∈ cells, c.length = P.cellsOf e := by
    intro c hm
    obtain ⟨i, hi⟩ := List.getElem?_of_mem hm
    have := hc i c hi
    unfold World.cells? at this
    split at this
    · have := (mapM_some this).1
      simpa using this
    · cases this
  by_cases h0 : es ++ rest = []
  · obtain ⟨rfl, rfl⟩ : es = [] ∧ rest = [] := by simpa using h0
    exact fun n0 => ⟨[], [.slice (some dang) 0 0], fun ws0 ws2 _ => ⟨by simp, ⟨.sl (Nat.le_refl _) (.inr ⟨rfl, rfl, rfl, rfl⟩), trivial⟩, .none ht, by simp [one]⟩⟩
  · have hjobs := jobs (P := P) (w := w) ((cells.zip (es ++ rest)).map fun p => (e, p.1, p.2)) (by
      intro j hj
      obtain ⟨p, hp, rfl⟩ := List.mem_map.1 hj
      obtain ⟨i, hi⟩ := List.getElem?_of_mem hp
      rw [List.getElem?_zip_eq_some] at hi
      exact hg i _ _ hi.1 hi.2)
    intro n0
    obtain ⟨ws1, css, hcss, hw⟩ := hjobs n0
    have hl2 : css.length = cells.length := by rw [hcss]; simp [hlen]
    -- the row's address
    have hcell : ∀ (i : Nat) v, cells.flatten[i]? = some v → w.cell? (a.add i) = some v := by
      intro i v hv
      obtain ⟨f1, f2⟩ := flat_at (P.cellsOf e) cells hclen
      have hi := (List.getElem?_eq_some_iff.1 hv).1
      have hq : i / P.cellsOf e < cells.length := by
        rw [f1] at hi
        exact (Nat.div_lt_iff_lt_mul hsz).2 hi
      have hr : i % P.cellsOf e < P.cellsOf e := Nat.mod_lt _ hsz
      have hx := List.getElem?_eq_getElem hq
      have h1 := f2 _ _ hx
      have h2 := hc _ _ hx
      unfold World.cells? at h2
      split at h2
      · have h3 := (mapM_some h2).2 (i % P.cellsOf e) (i % P.cellsOf e) ((cells[i / P.cellsOf e])[i % P.cellsOf e]'(by rw [hclen _ (List.getElem_mem hq)]; exact hr)) (by simp [hr]) (List.getElem?_eq_getElem _)
        have h4 : ((cells[i / P.cellsOf e])[i % P.cellsOf e]'(by rw [hclen _ (List.getElem_mem hq)]; exact hr)) = v := by
          have h5 : (cells[i / P.cellsOf e])[i % P.cellsOf e]? = some v := by
            rw [← h1, List.getElem?_take_of_lt hr, List.getElem?_drop]
            rw [show i / P.cellsOf e * P.cellsOf e + i % P.cellsOf e = i by rw [Nat.mul_comm]; exact Nat.div_add_mod i _]
            exact hv
          exact (List.getElem?_eq_some_iff.1 h5).2
        rw [h4] at h3
        have h6 : (a.add (i / P.cellsOf e * P.cellsOf e)).add (i % P.cellsOf e) = a.add i := by
          have hdm : i / P.cellsOf e * P.cellsOf e + i % P.cellsOf e = i := by rw [Nat.mul_comm]; exact Nat.div_add_mod i _
          obtain ⟨ab, ao, as⟩ := a
          unfold Addr.add
          by_cases q1 : i / P.cellsOf e * P.cellsOf e = 0
          · rw [if_pos q1]
            by_cases q2 : i % P.cellsOf e = 0
            · rw [if_pos q2, if_pos (by omega)]
            · rw [if_neg q2, if_neg (by omega)]
              simp only [Addr.mk.injEq, true_and, and_true]
              omega
          · rw [if_neg q1, if_neg (show ¬ i = 0 by omega)]
            by_cases q2 : i % P.cellsOf e = 0
            · rw [if_pos q2]
              simp only [Addr.mk.injEq, true_and, and_true]
              omega
            · rw [if_neg q2]
              simp only [Addr.mk.injEq, true_and, and_true]
              omega
        rw [h6] at h3
        exact h3
      · cases h2
    have hne : cells.flatten ≠ [] := by
      intro hz
      have f1 := (flat_at (P.cellsOf e) cells hclen).1
      rw [hz] at f1
      simp only [List.length_nil] at f1
      have : (es ++ rest).length ≠ 0 := fun h => h0 (List.eq_nil_of_length_eq_zero h)
      rcases Nat.mul_eq_zero.1 f1.symm with h | h <;> omega
    -- which row
    have helem : ∃ e' : TypeId, ∃ c fr, w.heap[a.block]? = some (.cells c e' fr) := by
      obtain ⟨v0, l2, hv⟩ : ∃ v0 l2, cells.flatten = v0 :: l2 := by
        cases hq : cells.flatten with
        | nil => exact absurd hq hne
        | cons x y => exact ⟨x, y, rfl⟩
      have := hcell 0 v0 (by rw [hv]; rfl)
      unfold World.cell? at this
      split at this
      · rename_i c e' fr h
        exact ⟨e', c, fr, h⟩
      · cases this
    obtain ⟨e', cr, fr', hheap⟩ := helem
    refine ⟨ws1 ++ [⟨a.block, a.off, css.flatten, e'⟩], [.slice (some ⟨n0 + ws1.length, 0, none⟩) es.length (es ++ rest).length], fun ws0 ws2 hz => ?_⟩
    have e1 : ws0 ++ (ws1 ++ [⟨a.block, a.off, css.flatten, e'⟩]) ++ ws2 = ws0 ++ ws1 ++ ([⟨a.block, a.off, css.flatten, e'⟩] ++ ws2) := by simp [List.append_assoc]
    obtain ⟨q1, q2⟩ := hw ws0 ([⟨a.block, a.off, css.flatten, e'⟩] ++ ws2) hz
    rw [← e1] at q1 q2
    generalize hws : ws0 ++ (ws1 ++ [⟨a.block, a.off, css.flatten, e'⟩]) ++ ws2 = ws at q1 q2
    have hget : ws[n0 + ws1.length]? = some ⟨a.block, a.off, css.flatten, e'⟩ := by
      rw [← hws, e1, List.getElem?_append_right (by simp [hz])]
      simp [hz]
    have each : ∀ (i : Nat) c c' d, css[i]? = some c → cells[i]? = some c' → (es ++ rest)[i]? = some d → VRs (muW P w ws) c c' ∧ DR P ws e c d ∧ ∀ v ∈ c, one v = true := by
      intro i c c' d h1 h2 h3
      exact q2 i (e, c', d) c (by rw [List.getElem?_map, show (cells.zip (es ++ rest))[i]? = some (c', d) from List.getElem?_zip_eq_some.2 ⟨h2, h3⟩]; rfl) h1
    have pick : ∀ i, i < css.length → ∃ c c' d, css[i]? = some c ∧ cells[i]? = some c' ∧ (es ++ rest)[i]? = some d := fun i hi =>
      ⟨_, _, _, List.getElem?_eq_getElem hi, List.getElem?_eq_getElem (by omega), List.getElem?_eq_getElem (by omega)⟩
    have hcl : ∀ c ∈ css, c.length = P.cellsOf e := by
      intro c hm
      obtain ⟨i, hi⟩ := List.getElem?_of_mem hm
      obtain ⟨c2, c', d, h1, h2, h3⟩ := pick i (List.getElem?_eq_some_iff.1 hi).1
      rw [hi] at h1
      cases h1
      rw [(each i c c' d hi h2 h3).1.length]
      exact hclen c' (List.mem_of_getElem? h2)
    obtain ⟨f1, f2⟩ := flat_at (P.cellsOf e) css hcl
    have hvr : VRs (muW P w ws) css.flatten cells.flatten := VRs.flatten hl2 (fun i x y hx hy => by
      obtain ⟨c2, c', d, h1, h2, h3⟩ := pick i (List.getElem?_eq_some_iff.1 hx).1
      rw [hx] at h1; rw [hy] at h2
      cases h1; cases h2
      exact (each i x y d hx hy h3).1)
    have hone : ∀ v ∈ css.flatten, one v = true := by
      intro v hv
      obtain ⟨c, hc1, hc2⟩ := List.mem_flatten.1 hv
      obtain ⟨i, hi⟩ := List.getElem?_of_mem hc1
      obtain ⟨c2, c', d, h1, h2, h3⟩ := pick i (List.getElem?_eq_some_iff.1 hi).1
      exact (each i c c' d hi h2 h3).2.2 v hc2
    obtain ⟨hspot, e2, hwin⟩ := win_row (w := w) (P := P) hne hcell hvr hone
    have hwin' : WinOK P w (muW P w ws) ⟨a.block, a.off, css.flatten, e'⟩ := by
      obtain ⟨c3, fr3, g1, g2, g3⟩ := hwin
      simp only at g1
      rw [hheap] at g1
      cases g1
      exact ⟨_, _, hheap, g2, g3⟩
    refine ⟨fun x hx => ?_, ⟨?_, trivial⟩, ?_, by simp [one]⟩
    · rcases List.mem_append.1 hx with hx | hx
      · exact q1 x hx
      · simp only [List.mem_singleton] at hx
        subst hx
        exact hwin'
    · have := VR.win (P := P) (w := w) hget (n := es.length) (c := (es ++ rest).length) (by simp)
      obtain ⟨ab, ao, as⟩ := a
      simp only at hspot
      subst hspot
      exact this
    · refine .slice ht _ _ es rest hget (by simp only; rw [f1, hl2, hlen]) (fun i d hi => ?_)
      have hil := (List.getElem?_eq_some_iff.1 hi).1
      obtain ⟨c2, c', d', h1, h2, h3⟩ := pick i (by omega)
      rw [hi] at h3
      cases h3
      simp only
      rw [f2 i c2 h1]
      exact (each i c2 c' d h1 h2 hi).2.1

theorem inRow_le : ∀ {fs : List Field} {n m : Nat}, inRow P fs n = some m → n ≤ m
  | [], n, m, h => by simp only [inRow, Option.some.injEq] at h; omega
  | f :: fs, n, m, h => by
    simp only [inRow] at h
    split at h
    · have := inRow_le h; omega
    · cases h

theorem inRow_split (X : List Value) : ∀ {fs : List Field} {n m : Nat}, inRow P fs n = some m → (fs.map fun f => (X.drop f.offset).take (P.cellsOf f.type)).flatten = (X.drop n).take (m - n)
  | [], n, m, h => by
    simp only [inRow, Option.some.injEq] at h
    subst h
    simp
  | f :: fs, n, m, h => by
    simp only [inRow] at h
    split at h
    · rename_i ho
      have hle := inRow_le h
      simp only [List.map_cons, List.flatten_cons]
      rw [inRow_split X h, ho, show m - n = P.cellsOf f.type + (m - (n + P.cellsOf f.type)) by omega, List.take_add, List.drop_drop]
    · cases h

theorem inRow_at : ∀ {fs : List Field} {n m : Nat} {css : List (List Value)}, inRow P fs n = some m → (∀ (i : Nat) f c, fs[i]? = some f → css[i]? = some c → c.length = P.cellsOf f.type) →
    ∀ (i : Nat) f c, fs[i]? = some f → css[i]? = some c → n ≤ f.offset ∧ (css.flatten.drop (f.offset - n)).take (P.cellsOf f.type) = c
  | [], n, m, css, _, _, i, f, c, hf, _ => by simp at hf
  | _ :: _, n, m, [], _, _, i, f, c, _, hc => by simp at hc
  | g :: fs, n, m, c0 :: css, h, hl, i, f, c, hf, hc => by
    simp only [inRow] at h
    split at h
    · rename_i ho
      have h0 := hl 0 g c0 rfl rfl
      cases i with
      | zero =>
        simp at hf hc
        subst hf hc
        refine ⟨by omega, ?_⟩
        rw [ho, Nat.sub_self, List.drop_zero, List.flatten_cons, List.take_left' h0]
      | succ i =>
        obtain ⟨h1, h2⟩ := inRow_at (css := css) h (fun i f c hf hc => hl (i + 1) f c (by simpa using hf) (by simpa using hc)) i f c (by simpa using hf) (by simpa using hc)
        refine ⟨by omega, ?_⟩
        rw [List.flatten_cons, show f.offset - n = c0.length + (f.offset - (n + P.cellsOf g.type)) by omega, ← List.drop_drop, List.drop_left' rfl]
        exact h2
    · cases h

theorem Good.struct {t : TypeId} {fs : Array Field} (ht : P.underlying t = some (.struct fs)) (hrow : inRow P fs.toList 0 = some (P.cellsOf t)) {cs : List Value} (hlen : cs.length = P.cellsOf t) {ds : List (DataW H)} (hn : ds.length = fs.size)
    (hg : ∀ (i : Nat) f d, fs.toList[i]? = some f → ds[i]? = some d → Good P w f.type ((cs.drop f.offset).take (P.cellsOf f.type)) d) : Good P w t cs (.agg ds) := by
  have hjobs := jobs (P := P) (w := w) ((fs.toList.zip ds).map fun p => (p.1.type, (cs.drop p.1.offset).take (P.cellsOf p.1.type), p.2)) (by
    intro j hj
    obtain ⟨p, hp, rfl⟩ := List.mem_map.1 hj
    obtain ⟨i, hi⟩ := List.getElem?_of_mem hp
    rw [List.getElem?_zip_eq_some] at hi
    exact hg i _ _ hi.1 hi.2)
  intro n0
  obtain ⟨ws1, css, hcss, hw⟩ := hjobs n0
  have hl2 : css.length = fs.toList.length := by rw [hcss]; simp [hn]
  refine ⟨ws1, css.flatten, fun ws0 ws2 hz => ?_⟩
  obtain ⟨q1, q2⟩ := hw ws0 ws2 hz
  have hsplit := inRow_split (P := P) cs hrow
  rw [List.drop_zero, Nat.sub_zero, List.take_of_length_le (by omega)] at hsplit
  have hfit : ∀ (i : Nat) f, fs.toList[i]? = some f → ((cs.drop f.offset).take (P.cellsOf f.type)).length = P.cellsOf f.type := by
    have gen : ∀ (l : List Field) (n m : Nat), inRow P l n = some m → ∀ (i : Nat) f, l[i]? = some f → f.offset + P.cellsOf f.type ≤ m := by
      intro l
      induction l with
      | nil => intro n m _ i f h; simp at h
      | cons g l ih =>
        intro n m h i f hf
        simp only [inRow] at h
        split at h
        · cases i with
          | zero => simp at hf; subst hf; have := inRow_le h; omega
          | succ i => exact ih _ _ h i f (by simpa using hf)
        · cases h
    intro i f hf
    have := gen _ _ _ hrow i f hf
    simp only [List.length_take, List.length_drop]
    omega
  have each : ∀ (i : Nat) f c d, fs.toList[i]? = some f → css[i]? = some c → ds[i]? = some d → VRs (muW P w (ws0 ++ ws1 ++ ws2)) c ((cs.drop f.offset).take (P.cellsOf f.type)) ∧ DR P (ws0 ++ ws1 ++ ws2) f.type c d ∧ ∀ v ∈ c, one v = true := by
    intro i f c d h1 h2 h3
    exact q2 i (f.type, _, d) c (by rw [List.getElem?_map, show (fs.toList.zip ds)[i]? = some (f, d) from List.getElem?_zip_eq_some.2 ⟨h1, h3⟩]; rfl) h2
  have pick : ∀ i, i < css.length → ∃ f c d, fs.toList[i]? = some f ∧ css[i]? = some c ∧ ds[i]? = some d := fun i hi =>
    ⟨_, _, _, List.getElem?_eq_getElem (by omega), List.getElem?_eq_getElem hi, List.getElem?_eq_getElem (by rw [hn]; simpa using (by omega : i < fs.toList.length))⟩
  have hvr : VRs (muW P w (ws0 ++ ws1 ++ ws2)) css.flatten cs := by
    rw [← hsplit]
    refine VRs.flatten (by simp [hl2]) (fun i x y hx hy => ?_)
    obtain ⟨f, c, d, h1, h2, h3⟩ := pick i (List.getElem?_eq_some_iff.1 hx).1
    rw [hx] at h2
    cases h2
    rw [List.getElem?_map, h1] at hy
    simp only [Option.map_some, Option.some.injEq] at hy
    subst hy
    exact (each i f x d h1 hx h3).1
  refine ⟨q1, hvr, .struct ht _ ds (by rw [hvr.length]; exact hlen) hn (fun i f d hf hd' => ?_), fun v hv => ?_⟩
  · obtain ⟨f', c, d', h1, h2, h3⟩ := pick i (by have := (List.getElem?_eq_some_iff.1 hf).1; omega)
    rw [hf] at h1
    cases h1
    have := (inRow_at (css := css) hrow (fun i f c hf hc => by
      obtain ⟨f', c', d', g1, g2, g3⟩ := pick i (List.getElem?_eq_some_iff.1 hc).1
      rw [hf] at g1; rw [hc] at g2
      cases g1; cases g2
      rw [(each i f c d' hf hc g3).1.length]
      exact hfit i f hf) i f c hf h2).2
    rw [Nat.sub_zero] at this
    rw [this]
    exact (each i f c d hf h2 hd').2.1
  · obtain ⟨c, hc1, hc2⟩ := List.mem_flatten.1 hv
    obtain ⟨i, hi⟩ := List.getElem?_of_mem hc1
    obtain ⟨f, c2, d, h1, h2, h3⟩ := pick i (List.getElem?_eq_some_iff.1 hi).1
    exact (each i f c d h1 hi h3).2.2 v hc2

theorem Good.array {t e : TypeId} {n : Nat} (ht : P.underlying t = some (.array n e)) (hn0 : n * P.cellsOf e = P.cellsOf t) {cs : List Value} (hlen : cs.length = P.cellsOf t) {ds : List (DataW H)} (hn : ds.length = n)
    (hg : ∀ (i : Nat) d, ds[i]? = some d → Good P w e ((cs.drop (i * P.cellsOf e)).take (P.cellsOf e)) d) : Good P w t cs (.agg ds) := by
  have hjobs := jobs (P := P) (w := w) (ds.zipIdx.map fun p => (e, (cs.drop (p.2 * P.cellsOf e)).take (P.cellsOf e), p.1)) (by
    intro j hj
    obtain ⟨p, hp, rfl⟩ := List.mem_map.1 hj
    obtain ⟨i, hi⟩ := List.getElem?_of_mem hp
    rw [List.getElem?_zipIdx] at hi
    obtain ⟨d, h1, h2⟩ := Option.map_eq_some_iff.1 hi
    subst h2
    simpa using hg i d h1)
  intro n0
  obtain ⟨ws1, css, hcss, hw⟩ := hjobs n0
  have hl2 : css.length = n := by rw [hcss]; simp [hn]
  refine ⟨ws1, css.flatten, fun ws0 ws2 hz => ?_⟩
  obtain ⟨q1, q2⟩ := hw ws0 ws2 hz
  have each : ∀ (i : Nat) c d, css[i]? = some c → ds[i]? = some d → VRs (muW P w (ws0 ++ ws1 ++ ws2)) c ((cs.drop (i * P.cellsOf e)).take (P.cellsOf e)) ∧ DR P (ws0 ++ ws1 ++ ws2) e c d ∧ ∀ v ∈ c, one v = true := by
    intro i c d h2 h3
    exact q2 i (e, _, d) c (by rw [List.getElem?_map, List.getElem?_zipIdx, h3]; simp) h2
  have pick : ∀ i, i < css.length → ∃ c d, css[i]? = some c ∧ ds[i]? = some d := fun i hi => ⟨_, _, List.getElem?_eq_getElem hi, List.getElem?_eq_getElem (by omega)⟩
  have hcl : ∀ c ∈ css, c.length = P.cellsOf e := by
    intro c hm
    obtain ⟨i, hi⟩ := List.getElem?_of_mem hm
    have hil := (List.getElem?_eq_some_iff.1 hi).1
    obtain ⟨c2, d, h2, h3⟩ := pick i hil
    rw [(each i c d hi h3).1.length]
    have : (i + 1) * P.cellsOf e ≤ n * P.cellsOf e := Nat.mul_le_mul_right _ (by omega)
    rw [Nat.add_mul, Nat.one_mul] at this
    simp only [List.length_take, List.length_drop]
    omega
  obtain ⟨f1, f2⟩ := flat_at (P.cellsOf e) css hcl
  have hsplit : ((List.range n).map fun i => (cs.drop (i * P.cellsOf e)).take (P.cellsOf e)).flatten = cs := by
    have gen : ∀ k, k ≤ n → ((List.range k).map fun i => (cs.drop (i * P.cellsOf e)).take (P.cellsOf e)).flatten = cs.take (k * P.cellsOf e) := by
      intro k
      induction k with
      | zero => intro _; simp
      | succ k ih =>
        intro hk
        rw [List.range_succ, List.map_append, List.flatten_append, ih (by omega), Nat.add_mul, Nat.one_mul, List.take_add]
        simp
    rw [gen n (Nat.le_refl _), List.take_of_length_le (by omega)]
  have hvr : VRs (muW P w (ws0 ++ ws1 ++ ws2)) css.flatten cs := by
    rw [← hsplit]
    refine VRs.flatten (by simp [hl2]) (fun i x y hx hy => ?_)
    obtain ⟨c, d, h2, h3⟩ := pick i (List.getElem?_eq_some_iff.1 hx).1
    have hil := (List.getElem?_eq_some_iff.1 hx).1
    rw [List.getElem?_map, List.getElem?_range (by omega)] at hy
    simp only [Option.map_some, Option.some.injEq] at hy
    subst hy
    exact (each i x d hx h3).1
  refine ⟨q1, hvr, .array ht _ ds (by rw [hvr.length]; exact hlen) hn (fun i d hd' => ?_), fun v hv => ?_⟩
  · obtain ⟨c, d', h2, h3⟩ := pick i (by have := (List.getElem?_eq_some_iff.1 hd').1; omega)
    rw [f2 i c h2]
    exact (each i c d h2 hd').2.1
  · obtain ⟨c, hc1, hc2⟩ := List.mem_flatten.1 hv
    obtain ⟨i, hi⟩ := List.getElem?_of_mem hc1
    obtain ⟨c2, d, h2, h3⟩ := pick i (List.getElem?_eq_some_iff.1 hi).1
    exact (each i c d hi h3).2.2 v hc2
end
end Go.Cm

namespace Go.Cm
open Go

section
variable {H : Type} {enc : TypeId × Value → H} {P : Program} {w : World} {base : Nat} {hd : Bool}

theorem good : ∀ (dep : Nat) (t : TypeId) (cs : List Value) (d : DataW H) (ps : List MemPlace) (fuel : Nat), plainT P dep t = true → DataW.trod enc P w base (fun _ => true) hd fuel t cs = some (d, ps) → Good P w t cs d := by
  intro dep
  induction dep with
  | zero => intro t cs d ps fuel h; cases h
  | succ dep ih =>
    intro t cs d ps fuel hp h
    obtain ⟨fuel, rfl⟩ : ∃ f, fuel = f + 1 := by
      cases fuel with
      | zero => cases h
      | succ f => exact ⟨f, rfl⟩
    unfold DataW.trod at h
    split at h
    case h_1 b hu =>
      simp only [Option.some.injEq, Prod.mk.injEq] at h
      obtain ⟨rfl, rfl⟩ := h
      exact Good.leaf (fun _ => .bool _) (fun _ => .bool _ hu) rfl
    case h_2 k k' n hu =>
      split at h
      · rename_i hk
        simp only [Option.some.injEq, Prod.mk.injEq] at h
        obtain ⟨rfl, rfl⟩ := h
        obtain ⟨rfl, hw⟩ := hk
        exact Good.leaf (fun _ => .int _ _) (fun _ => .int _ _ hu hw) rfl
      · cases h
    case h_4 s hu =>
      split at h
      · simp only [Option.some.injEq, Prod.mk.injEq] at h
        obtain ⟨rfl, rfl⟩ := h
        exact Good.leaf (fun _ => .string _) (fun _ => .string _ hu) rfl
      · cases h
    case h_7 e hu =>
      simp only [Option.some.injEq, Prod.mk.injEq] at h
      obtain ⟨rfl, rfl⟩ := h
      exact Good.leaf (fun _ => .slN) (fun _ => .nil hu) rfl
    case h_8 e a len cap hu =>
      simp only [plainT, hu, Bool.and_eq_true, decide_eq_true_eq] at hp
      obtain ⟨⟨_, hsz⟩, hpe⟩ := hp
      split at h
      rotate_left
      · cases h
      rename_i hb
      simp only [if_true] at h
      obtain ⟨es, h1, h2⟩ := Option.bind_eq_some_iff.1 h
      obtain ⟨rest, h3, h4⟩ := Option.map_eq_some_iff.1 h2
      simp only [Prod.mk.injEq] at h4
      obtain ⟨rfl, rfl⟩ := h4
      obtain ⟨l1, g1⟩ := mapM_some h1
      obtain ⟨l2, g2⟩ := mapM_some h3
      simp only [List.length_range] at l1 l2
      -- all elements
      have all : ∀ (i : Nat) x, (es ++ rest)[i]? = some x → ∃ c, w.cells? base (a.add (i * P.cellsOf e)) (P.cellsOf e) = some c ∧ DataW.trod enc P w base (fun _ => true) hd fuel e c = some x := by
        intro i x hx
        have hi := (List.getElem?_eq_some_iff.1 hx).1
        simp only [List.length_append] at hi
        by_cases hlt : i < es.length
        · rw [List.getElem?_append_left hlt] at hx
          exact Option.bind_eq_some_iff.1 (g1 i i x (by rw [List.getElem?_range (by omega)]) hx)
        · rw [List.getElem?_append_right (by omega)] at hx
          have := Option.bind_eq_some_iff.1 (g2 (i - es.length) (i - es.length) x (by rw [List.getElem?_range (by omega)]) hx)
          rw [show len + (i - es.length) = i by omega] at this
          exact this
      have hcells : ∃ cells : List (List Value), cells.length = (es ++ rest).length ∧ ∀ (i : Nat) c, cells[i]? = some c → w.cells? base (a.add (i * P.cellsOf e)) (P.cellsOf e) = some c := by
        refine ⟨(List.range (es ++ rest).length).map fun i => (w.cells? base (a.add (i * P.cellsOf e)) (P.cellsOf e)).getD [], by simp, fun i c hi => ?_⟩
        have hlt := (List.getElem?_eq_some_iff.1 hi).1
        simp only [List.length_map, List.length_range] at hlt
        rw [List.getElem?_map, List.getElem?_range hlt] at hi
        simp only [Option.map_some, Option.some.injEq] at hi
        obtain ⟨c', hc', _⟩ := all i _ (List.getElem?_eq_getElem hlt)
        rw [hc'] at hi ⊢
        simp at hi
        rw [hi]
      obtain ⟨cells, hcl, hcs⟩ := hcells
      have e1 : len = (es.map (·.1)).length := by simp; omega
      have e2 : cap = (es.map (·.1) ++ rest.map (·.1)).length := by simp; omega
      rw [e1, e2]
      refine Good.row (base := base) hu hsz _ _ cells (by rw [hcl]; simp) hcs (fun i c d hc hd' => ?_)
      rw [← List.map_append, List.getElem?_map] at hd'
      obtain ⟨x, hx, rfl⟩ := Option.map_eq_some_iff.1 hd'
      obtain ⟨c', q1, q2⟩ := all i x hx
      rw [hcs i c hc] at q1
      cases q1
      exact ih e c x.1 x.2 fuel hpe q2
    case h_9 fs hu =>
      simp only [plainT, hu, Bool.and_eq_true, beq_iff_eq, List.all_eq_true] at hp
      split at h
      rotate_left
      · cases h
      rename_i hlen
      obtain ⟨xs, h1, h2⟩ := Option.map_eq_some_iff.1 h
      simp only [Prod.mk.injEq] at h2
      obtain ⟨rfl, rfl⟩ := h2
      obtain ⟨l1, g1⟩ := mapM_some h1
      refine Good.struct hu hp.1 hlen (by simpa using l1) (fun i f d hf hd' => ?_)
      rw [List.getElem?_map] at hd'
      obtain ⟨x, hx, rfl⟩ := Option.map_eq_some_iff.1 hd'
      exact ih f.type _ x.1 x.2 fuel (hp.2 f (List.mem_of_getElem? hf)) (g1 i f x hf hx)
    case h_10 n e hu =>
      simp only [plainT, hu, Bool.and_eq_true, decide_eq_true_eq] at hp
      split at h
      rotate_left
      · cases h
      rename_i hlen
      obtain ⟨xs, h1, h2⟩ := Option.map_eq_some_iff.1 h
      simp only [Prod.mk.injEq] at h2
      obtain ⟨rfl, rfl⟩ := h2
      obtain ⟨l1, g1⟩ := mapM_some h1
      refine Good.array hu hp.1.1 hlen (by simpa using l1) (fun i d hd' => ?_)
      rw [List.getElem?_map] at hd'
      obtain ⟨x, hx, rfl⟩ := Option.map_eq_some_iff.1 hd'
      have hi := (List.getElem?_eq_some_iff.1 hx).1
      simp only [List.length_range] at l1
      exact ih e _ x.1 x.2 fuel hp.2 (g1 i i x (by rw [List.getElem?_range (by omega)]) hx)
    all_goals first | (cases h; done) | skip
    all_goals
      rename_i hu
      simp only [plainT, hu] at hp
      cases hp

/-- arguments, read -/
def DRs (P : Program) (ws : List Win) : List TypeId → List Value → List (DataW H) → Prop
  | [], [], [] => True
  | t :: ts, v :: vs, d :: ds => (DR P ws t (cellsL v) d ∧ (isAggT P t = false → one v = true)) ∧ DRs P ws ts vs ds
  | _, _, _ => False

/-- an argument's form goes by its type -/
def formed (P : Program) : List TypeId → List Value → Prop
  | t :: ts, v :: vs => (isAggT P t = false → one v = true) ∧ formed P ts vs
  | _, _ => True

theorem one_of_ok {r : Reach} {b : Nat} {dep : Nat} {t : TypeId} {v : Value} (hp : plainT P dep t = true) (h : Value.okWide P w r b t v) (ha : isAggT P t = false) : one v = true := by
  cases dep with
  | zero => cases hp
  | succ dep =>
    unfold plainT at hp
    unfold isAggT at ha
    unfold Value.okWide at h
    cases hu : P.underlying t with
    | none => simp [hu] at hp
    | some k =>
      rw [hu] at hp ha h
      cases k <;> simp only at hp ha h <;> first | (cases hp; done) | (cases ha; done) | skip
      all_goals
        unfold Cell.okWide at h
        rw [hu] at h
        cases v <;> first | rfl | (simp only [Cell.ok, hu] at h)

theorem formed_of {r : Reach} {b : Nat} {dep : Nat} : ∀ (ts : List TypeId) (vs : List Value), (∀ t ∈ ts, plainT P dep t = true) → (∀ (j : Nat) t v, ts[j]? = some t → vs[j]? = some v → Value.okWide P w r b t v) → formed P ts vs
  | [], _, _, _ => by simp [formed]
  | _ :: _, [], _, _ => by simp [formed]
  | t :: ts, v :: vs, hp, h => ⟨one_of_ok (hp t List.mem_cons_self) (h 0 t v rfl rfl), formed_of ts vs (fun t ht => hp t (List.mem_cons_of_mem _ ht)) (fun j t v h1 h2 => h (j + 1) t v (by simpa using h1) (by simpa using h2))⟩

theorem cellsL_one {v : Value} (h : one v = true) : cellsL v = [v] := by
  cases v <;> first | rfl | cases h

theorem good_args {dep : Nat} : ∀ (ts : List TypeId) (vs : List Value) (ds : List (DataW H)) (ps : List MemPlace), (∀ t ∈ ts, plainT P dep t = true) → DataW.TrodAll enc P w base (fun _ => true) hd ts vs ds ps → formed P ts vs →
    ∀ n0 : Nat, ∃ (ws1 : List Win) (vs1 : List Value), ∀ ws0 ws2 : List Win, ws0.length = n0 → (∀ x ∈ ws1, WinOK P w (muW P w (ws0 ++ ws1 ++ ws2)) x) ∧ VRs (muW P w (ws0 ++ ws1 ++ ws2)) vs1 vs ∧ DRs P (ws0 ++ ws1 ++ ws2) ts vs1 ds
  | [], [], [], _, _, _, _ => fun n0 => ⟨[], [], fun ws0 ws2 _ => ⟨by simp, trivial, trivial⟩⟩
  | t :: ts, v :: vs, d :: ds, ps, hp, h, hform => by
    obtain ⟨p, q, ⟨fuel, h1⟩, h2, _⟩ := h
    intro n0
    obtain ⟨wa, ca, ha⟩ := good dep t v.cells.toList d p fuel (hp t List.mem_cons_self) h1 n0
    obtain ⟨wb, vb, hb⟩ := good_args ts vs ds q (fun t ht => hp t (List.mem_cons_of_mem _ ht)) h2 hform.2 (n0 + wa.length)
    -- the argument itself
    have hv : ∃ v1 : Value, ∀ ws0 ws2 : List Win, ws0.length = n0 → VR (muW P w (ws0 ++ wa ++ ws2)) v1 v ∧ cellsL v1 = ca := by
      by_cases hag : ∃ c, v = .agg c
      · obtain ⟨c, rfl⟩ := hag
        refine ⟨.agg ca.toArray, fun ws0 ws2 hz => ?_⟩
        obtain ⟨_, a2, _, a4⟩ := ha ws0 ws2 hz
        have hlen := a2.length
        simp only [Value.cells] at a2 hlen
        refine ⟨.agg (by simpa using hlen) (fun i hi hi' => ?_) (fun i hi => a4 _ (by simp)), rfl⟩
        obtain ⟨v', g1, g2⟩ := a2.get i ca[i] (List.getElem?_eq_getElem (by simpa using hi))
        have : c[i] = v' := by
          have := (List.getElem?_eq_some_iff.1 g1).2
          simpa using this
        rw [this]
        simpa using g2
      · have hc : v.cells.toList = [v] := by cases v <;> first | rfl | exact absurd ⟨_, rfl⟩ hag
        rw [hc] at ha
        obtain ⟨_, a2, _, a4⟩ := ha (List.replicate n0 ⟨0, 0, [], 0⟩) [] (by simp)
        obtain ⟨x, hx, _⟩ := VRs.inv1 a2
        subst hx
        refine ⟨x, fun ws0 ws2 hz => ?_⟩
        obtain ⟨_, a2, _, a4⟩ := ha ws0 ws2 hz
        exact ⟨a2.1, cellsL_one (a4 x (by simp))⟩
    obtain ⟨v1, hv1⟩ := hv
    refine ⟨wa ++ wb, v1 :: vb, fun ws0 ws2 hz => ?_⟩
    have e1 : ws0 ++ (wa ++ wb) ++ ws2 = ws0 ++ wa ++ (wb ++ ws2) := by simp [List.append_assoc]
    have e2 : ws0 ++ (wa ++ wb) ++ ws2 = (ws0 ++ wa) ++ wb ++ ws2 := by simp [List.append_assoc]
    obtain ⟨a1, a2, a3, a4⟩ := ha ws0 (wb ++ ws2) hz
    obtain ⟨b1, b2, b3⟩ := hb (ws0 ++ wa) ws2 (by simp [hz])
    obtain ⟨c1, c2⟩ := hv1 ws0 (wb ++ ws2) hz
    refine ⟨fun x hx => ?_, ⟨by rw [e1]; exact c1, by rw [e2]; exact b2⟩, ⟨by rw [c2, e1]; exact a3, fun hq => by rw [← c1.one_eq]; exact hform.1 hq⟩, by rw [e2]; exact b3⟩
    rcases List.mem_append.1 hx with hx | hx
    · rw [e1]; exact a1 x hx
    · rw [e2]; exact b1 x hx
  | [], [], _ :: _, _, _, h, _ => h.elim
  | [], _ :: _, _, _, _, h, _ => h.elim
  | _ :: _, [], _, _, _, h, _ => h.elim
  | _ :: _, _ :: _, [], _, _, h, _ => h.elim

open Go.RowKit Go.ChangeShapes Go.WideShapes
/-! ### what the readings are -/
theorem DR.bool_inv {ws : List Win} {t : TypeId} {cs : List Value} {d : DataW H} (h : DR P ws t cs d) (ht : P.underlying t = some .bool) : ∃ b, cs = [.bool b] ∧ d = .lit (.bool b) := by
  cases h <;> first | exact ⟨_, rfl, rfl⟩ | (rename_i h; rw [ht] at h; cases h) | (rename_i h _; rw [ht] at h; cases h) | skip
  all_goals simp_all
theorem DR.int_inv {ws : List Win} {t : TypeId} {cs : List Value} {d : DataW H} {k : IntKind} (h : DR P ws t cs d) (ht : P.underlying t = some (.int k)) : ∃ n, cs = [.int k n] ∧ d = .lit (.int k n) ∧ (Lit.int k n).wf = true := by
  cases h <;> simp_all
theorem DR.string_inv {ws : List Win} {t : TypeId} {cs : List Value} {d : DataW H} (h : DR P ws t cs d) (ht : P.underlying t = some .string) : ∃ s : ByteArray, cs = [.string s] ∧ d = .lit (.string s.data.toList) := by
  cases h <;> simp_all
end
end Go.Cm

namespace Go.Cm
open Go

/-- where a call starts: so many variables, so many windows -/
def startG (ng n0 : Nat) (w : World) : Start := ⟨w.heap, w.os, w.output, n0, ng⟩

theorem RR.winsG {P : Program} {w : World} {ws : List Win} {ng : Nat} (hng : ng ≤ ws.length) (hg : ∀ g, g < ng → ∃ c e, ws[g]? = some ⟨g, 0, c, e⟩) (h : ∀ x ∈ ws, WinOK P w (muW P w ws) x) : RR P (startG ng ws.length w) (muW P w ws) (heapW ws) w := by
  have R := RR.wins h
  refine ⟨R.obj, R.inj, R.fresh, R.blk, R.size, hng, fun b hb => ?_, R.low, R.lown, R.base, R.still, R.io⟩
  obtain ⟨c, e, hx⟩ := hg b hb
  exact ⟨winMB P w _, by unfold muW; rw [hx]; rfl, rfl, rfl⟩

theorem law_callsG {P : Program} {ng n0 : Nat} {gl : List Nat} {C : CProg} {N d f : Nat} {w : World} (hC : ProgOK P (startG ng n0 w) gl C) {fn : Func} {body : Code} (hf : P.funcs[f]? = some fn) (hb : fn.body = some body) (hname : (fn.name == "runtime.NumGoroutine") = false)
    {vs vs' : List Value} {H H' : Heap} {μ : Mu} (h : callD C N d f vs H = some (.bool true, H')) (R : RR P (startG ng n0 w) μ H w) (hvs : VRs μ vs vs') :
    Calls P f vs'.toArray w fun e w' => e = .returned (.bool true) ∧ (∀ b, b < w.heap.size → w'.heap[b]? = w.heap[b]?) ∧ w'.os = w.os ∧ w'.output = w.output :=
  (callD_calls hC hf hb hname h R hvs).mono fun e w' ⟨v', μ', h1, h2, h3⟩ => ⟨by rw [h1, h2.bool_inv], h3.base, h3.io.1, h3.io.2⟩

/-- what is wanted of a variable: its name, type, datum -/
abbrev GW := Option (String × TypeId × DataW Unit)

theorem gwins {P : Program} {w : World} : ∀ (l : List (Option (TypeId × List Value × DataW Unit))), (∀ j, some j ∈ l → Good P w j.1 j.2.1 j.2.2) → ∀ n0 : Nat, ∃ (ws1 : List Win) (css : List (List Value)), css.length = l.length ∧ ∀ ws0 ws2 : List Win, ws0.length = n0 →
    (∀ x ∈ ws1, WinOK P w (muW P w (ws0 ++ ws1 ++ ws2)) x) ∧ (∀ (i : Nat) j c, l[i]? = some (some j) → css[i]? = some c → VRs (muW P w (ws0 ++ ws1 ++ ws2)) c j.2.1 ∧ DR P (ws0 ++ ws1 ++ ws2) j.1 c j.2.2 ∧ ∀ v ∈ c, one v = true) ∧ ∀ (i : Nat) c, l[i]? = some none → css[i]? = some c → c = []
  | [], _, n0 => ⟨[], [], rfl, fun ws0 ws2 _ => ⟨by simp, fun i j c h => by simp at h, fun i c h => by simp at h⟩⟩
  | none :: l, h, n0 => by
    obtain ⟨wb, cb, hlen, hb⟩ := gwins l (fun j hj => h j (List.mem_cons_of_mem _ hj)) n0
    refine ⟨wb, [] :: cb, by simp [hlen], fun ws0 ws2 h0 => ?_⟩
    obtain ⟨b1, b2, b3⟩ := hb ws0 ws2 h0
    refine ⟨b1, fun i j c hi hc => ?_, fun i c hi hc => ?_⟩
    · cases i with
      | zero => simp at hi
      | succ i => exact b2 i j c (by simpa using hi) (by simpa using hc)
    · cases i with
      | zero => simp at hc; exact hc
      | succ i => exact b3 i c (by simpa using hi) (by simpa using hc)
  | some a :: l, h, n0 => by
    obtain ⟨wa, ca, ha⟩ := h a List.mem_cons_self n0
    obtain ⟨wb, cb, hlen, hb⟩ := gwins l (fun j hj => h j (List.mem_cons_of_mem _ hj)) (n0 + wa.length)
    refine ⟨wa ++ wb, ca :: cb, by simp [hlen], fun ws0 ws2 h0 => ?_⟩
    have e1 : ws0 ++ (wa ++ wb) ++ ws2 = ws0 ++ wa ++ (wb ++ ws2) := by simp [List.append_assoc]
    have e2 : ws0 ++ (wa ++ wb) ++ ws2 = (ws0 ++ wa) ++ wb ++ ws2 := by simp [List.append_assoc]
    obtain ⟨a1, a2, a3, a4⟩ := ha ws0 (wb ++ ws2) h0
    obtain ⟨b1, b2, b3⟩ := hb (ws0 ++ wa) ws2 (by simp [h0])
    refine ⟨fun x hx => ?_, fun i j c hi hc => ?_, fun i c hi hc => ?_⟩
    · rcases List.mem_append.1 hx with hx | hx
      · rw [e1]; exact a1 x hx
      · rw [e2]; exact b1 x hx
    · cases i with
      | zero =>
        simp at hi hc
        subst hi hc
        rw [e1]; exact ⟨a2, a3, a4⟩
      | succ i =>
        rw [e2]
        exact b2 i j c (by simpa using hi) (by simpa using hc)
    · cases i with
      | zero => simp at hi
      | succ i => exact b3 i c (by simpa using hi) (by simpa using hc)

theorem laidVars_mem {P : Program} {w : World} : ∀ {l : List (String × DataW Unit)} {ps : List MemPlace}, DataW.LaidVars P w l ps → ∀ n d, (n, d) ∈ l → ∃ g t cs fuel p, P.globalNamed n = some g ∧ (P.globals[g]?).map (·.type) = some t ∧ w.var? P n = some cs ∧ DataW.trod (fun _ => ()) P w 0 (fun _ => true) false fuel t cs.toList = some (d, p)
  | [], _, _, n, d, hm => by cases hm
  | (n', d') :: r, ps, h, n, d, hm => by
    obtain ⟨g, t, cs, fuel, p, q, h1, h2, h3, h4, h5, _⟩ := h
    rcases List.mem_cons.1 hm with e | hm
    · cases e
      exact ⟨g, t, cs, fuel, p, h1, h2, h3, h4⟩
    · exact laidVars_mem h5 n d hm

/-- the variables' cells, and that each has its block -/
theorem globs_of {P : Program} {w : World} {laid : List (String × DataW Unit)} (hh : (laid.filter fun x => x.2.handleName?.isSome) = []) (hL : laidMetH P laid w) (hsh : w.ShapedOpen P) (gs : List GW) {dep : Nat} (hng : gs.length ≤ P.globals.size)
    (hrow : (List.range gs.length).all (fun g => (((begin P (fun _ _ => 0) default).world.heap[g]?).bind Obj.row?).isSome) = true)
    (hw : ∀ (g : Nat) n t d, gs[g]? = some (some (n, t, d)) → (n, d) ∈ laid ∧ P.globalNamed n = some g ∧ (P.globals[g]?).map (·.type) = some t ∧ plainT P dep t = true) :
    ∃ l : List (Option (TypeId × List Value × DataW Unit)), l.length = gs.length ∧ (∀ j, some j ∈ l → Good P w j.1 j.2.1 j.2.2) ∧ (∀ (g : Nat), g < gs.length → ∃ c e fr, w.heap[g]? = some (.cells c e fr) ∧ ∀ j, l[g]? = some (some j) → j.2.1 = c.toList) ∧
      ∀ (g : Nat) n t d, gs[g]? = some (some (n, t, d)) → ∃ cs, l[g]? = some (some (t, cs, d)) := by
  have hL' : laidMet P laid w := by unfold laidMetH at hL; rw [hh] at hL; exact hL
  obtain ⟨ps, hv, _, _⟩ := hL'
  have hblk : ∀ g, g < gs.length → ∃ c e fr, w.heap[g]? = some (.cells c e fr) := by
    intro g hg
    have := (List.all_eq_true.1 hrow) g (List.mem_range.2 hg)
    obtain ⟨x, hx⟩ := Option.isSome_iff_exists.1 this
    obtain ⟨cs, h1, _⟩ := hsh.1 g x.1 x.2 (by omega) hx
    exact ⟨_, _, _, h1⟩
  let cellsAt : Nat → List Value := fun g => match w.heap[g]? with
    | some (.cells c _ _) => c.toList
    | _ => []
  refine ⟨(List.range gs.length).map fun g => (gs[g]?).bind fun x => x.map fun y => (y.2.1, cellsAt g, y.2.2), by simp, fun j hj => ?_, fun g hg => ?_, fun g n t d hgs => ?_⟩
  · obtain ⟨g, hg, he⟩ := List.mem_map.1 hj
    have hg' : g < gs.length := List.mem_range.1 hg
    cases hq : gs[g]? with
    | none => rw [hq] at he; cases he
    | some x =>
      cases x with
      | none => rw [hq] at he; cases he
      | some y =>
        obtain ⟨n, t, d⟩ := y
        rw [hq] at he
        simp only [Option.bind_some, Option.map_some, Option.some.injEq] at he
        subst he
        obtain ⟨h1, h2, h3, h4⟩ := hw g n t d hq
        obtain ⟨g2, t2, cs, fuel, p, q1, q2, q3, q4⟩ := laidVars_mem hv n d h1
        rw [h2] at q1
        cases q1
        rw [h3] at q2
        cases q2
        have : cellsAt g = cs.toList := by
          unfold World.var? at q3
          rw [h2] at q3
          simp only [Option.bind_some] at q3
          show (match w.heap[g]? with
            | some (.cells c _ _) => c.toList
            | _ => []) = cs.toList
          split at q3
          · rename_i h
            cases q3
            rw [h]
          · cases q3
        simp only
        rw [this]
        exact good dep t cs.toList d p fuel h4 q4
  · obtain ⟨c, e, fr, h⟩ := hblk g hg
    refine ⟨c, e, fr, h, fun j hj => ?_⟩
    rw [List.getElem?_map, List.getElem?_range hg] at hj
    simp only [Option.map_some, Option.some.injEq] at hj
    cases hq : gs[g]? with
    | none => rw [hq] at hj; cases hj
    | some x =>
      cases x with
      | none => rw [hq] at hj; cases hj
      | some y =>
        rw [hq] at hj
        simp only [Option.bind_some, Option.map_some, Option.some.injEq] at hj
        subst hj
        show (match w.heap[g]? with
            | some (.cells c _ _) => c.toList
            | _ => []) = c.toList
        rw [h]
  · have hlt := (List.getElem?_eq_some_iff.1 hgs).1
    refine ⟨cellsAt g, ?_⟩
    rw [List.getElem?_map, List.getElem?_range hlt]
    simp only [Option.map_some, hgs, Option.bind_some]

section
variable {H : Type} {enc : TypeId × Value → H} {P : Program} {w : World}
open Go.RowKit Go.ChangeShapes Go.WideShapes
/-- A LAW WHOSE ARGUMENTS ARE PLAIN DATA, over package variables that are laid. -/
theorem law_contractG {C : CProg} {N f : Nat} {fn : Func} {body : Code} {dep : Nat} (gs : List GW) {gl : List Nat} {laid : List (String × DataW Unit)} (hC : ∀ (n0 : Nat), ProgOK P (startG gs.length n0 w) gl C) (hf : P.funcs[f]? = some fn) (hb : fn.body = some body) (hname : (fn.name == "runtime.NumGoroutine") = false)
    (hl : laidOutB P = true) {s : ChangeSpec} {apart fresh handsOn again : Bool} {args : Array Value} {ds gs' : List (DataW H)} {before : List MemPlace} {tb : TypeId}
    (hW : DataW.Whole enc P fn.params.toList s.vars apart w args.toList ds gs' before) (hv : s.vars = []) (hfn : s.fn H (ds ++ gs') = { results := [.lit (.bool true)], args := ds })
    (hpl : ∀ t ∈ fn.params.toList, plainT P dep t = true) (hpar : ∀ t ∈ fn.params.toList, P.readableRec t = true ∧ t < P.types.size) (hres : fn.resultTypes = #[tb]) (hbool : P.underlying tb = some .bool)
    {base : Nat} (hval : ∀ (j : Nat) t v, fn.params[j]? = some t → args[j]? = some v → Value.okWide P w .any base t v)
    (hh : (laid.filter fun x => x.2.handleName?.isSome) = []) (hL : laidMetH P laid w) (hsh : w.ShapedOpen P) (hng : gs.length ≤ P.globals.size)
    (hrow : (List.range gs.length).all (fun g => (((begin P (fun _ _ => 0) default).world.heap[g]?).bind Obj.row?).isSome) = true)
    (hw : ∀ (g : Nat) n t d, gs[g]? = some (some (n, t, d)) → (n, d) ∈ laid ∧ P.globalNamed n = some g ∧ (P.globals[g]?).map (·.type) = some t ∧ plainT P dep t = true)
    (hcall : ∀ (ws : List Win) (vs : List Value), (∀ (g : Nat) n t d, gs[g]? = some (some (n, t, d)) → ∃ y, ws[g]? = some y ∧ DR P ws t y.cells d) → DRs P ws fn.params.toList vs ds → ∃ d H', callD C N d f vs (heapW ws) = some (.bool true, H')) :
    Calls P f args w fun e W' => ∃ v, e = .returned v ∧ s.post enc P fn apart fresh handsOn again w args v W' := by
  have hW' := hW
  obtain ⟨p, q, hA, hV, _, _, _⟩ := hW'
  obtain ⟨l, l1, l2, l3, l4⟩ := globs_of (dep := dep) hh hL hsh gs hng hrow hw
  obtain ⟨ws1, css, hcl, hg⟩ := gwins l l2 gs.length
  obtain ⟨ws, vs, hws⟩ := good_args fn.params.toList args.toList ds p hpl hA (formed_of _ _ hpl (fun j t v h1 h2 => hval j t v (by simpa using h1) (by simpa using h2))) (gs.length + ws1.length)
  -- the variables' own windows
  have elem : ∀ g : Nat, ∃ e : TypeId, ∀ (c : Array Value) (e' : TypeId) (fr : Nat × Nat), w.heap[g]? = some (Obj.cells c e' fr) → e' = e := fun g => by
    cases hq : w.heap[g]? with
    | none => exact ⟨0, fun c e' fr h => by cases h⟩
    | some o =>
      cases o with
      | cells c e fr => exact ⟨e, fun c' e' fr' h => by cases h; rfl⟩
      | _ => exact ⟨0, fun c e' fr h => by cases h⟩
  generalize hG : (List.range gs.length).map (fun g => (⟨g, 0, (css[g]?).getD [], (elem g).choose⟩ : Win)) = G
  have hGl : G.length = gs.length := by subst hG; simp
  have hGg : ∀ g, g < gs.length → G[g]? = some ⟨g, 0, (css[g]?).getD [], (elem g).choose⟩ := fun g hg => by
    subst hG
    rw [List.getElem?_map, List.getElem?_range hg]
    rfl
  obtain ⟨b1, b2, b3⟩ := hg G ws hGl
  obtain ⟨a1, a2, a3⟩ := hws (G ++ ws1) [] (by simp [hGl])
  simp only [List.append_nil] at a1 a2 a3
  generalize hall : G ++ ws1 ++ ws = W at a1 a2 a3 b1 b2 b3
  have hWg : ∀ g, g < gs.length → W[g]? = some ⟨g, 0, (css[g]?).getD [], (elem g).choose⟩ := fun g hg => by
    subst hall
    rw [List.append_assoc, List.getElem?_append_left (by omega)]
    exact hGg g hg
  have hok : ∀ x ∈ W, WinOK P w (muW P w W) x := by
    intro x hx
    have hx' := hx
    rw [← hall] at hx'
    rcases List.mem_append.1 hx' with h | h
    rcases List.mem_append.1 h with h | h
    · rw [← hG] at h
      obtain ⟨g, h1, rfl⟩ := List.mem_map.1 h
      have hgl : g < gs.length := List.mem_range.1 h1
      obtain ⟨c, e, fr, e1, e2⟩ := l3 g hgl
      have he := (elem g).choose_spec c e fr e1
      have hcs : css[g]? = some css[g] := List.getElem?_eq_getElem (by omega)
      have hlg : l[g]? = some l[g] := List.getElem?_eq_getElem (by omega)
      refine ⟨c, fr, by rw [← he]; exact e1, ?_, ?_⟩
      · simp only [hcs, Option.getD_some]
        cases hj : l[g] with
        | none =>
          rw [hj] at hlg
          rw [b3 g _ hlg hcs]
          simp
        | some j =>
          rw [hj] at hlg
          have := (b2 g j _ hlg hcs).1.length
          rw [e2 j hlg] at this
          simp at this
          omega
      · intro i v hv
        simp only [hcs, Option.getD_some] at hv
        cases hj : l[g] with
        | none =>
          rw [hj] at hlg
          rw [b3 g _ hlg hcs] at hv
          simp at hv
        | some j =>
          rw [hj] at hlg
          obtain ⟨c1, c2, c3⟩ := b2 g j _ hlg hcs
          refine ⟨c3 v (List.mem_of_getElem? hv), ?_⟩
          obtain ⟨v', g1, g2⟩ := c1.get i v hv
          rw [e2 j hlg] at g1
          exact ⟨v', by simpa using g1, g2⟩
    · exact b1 x h
    · exact a1 x h
  have R : RR P (startG gs.length W.length w) (muW P w W) (heapW W) w := RR.winsG (by rw [← hall]; simp [hGl]) (fun g hg => ⟨_, _, hWg g hg⟩) hok
  obtain ⟨d, H', hc⟩ := hcall W vs (fun g n t dd hgs => by
    have hlt := (List.getElem?_eq_some_iff.1 hgs).1
    obtain ⟨cs, h1⟩ := l4 g n t dd hgs
    have hcs : css[g]? = some css[g] := List.getElem?_eq_getElem (by omega)
    refine ⟨_, hWg g hlt, ?_⟩
    simp only [hcs, Option.getD_some]
    exact (b2 g _ _ h1 hcs).2.1) a3
  have key := law_callsG (vs' := args.toList) (hC W.length) hf hb hname hc R a2
  rw [show args.toList.toArray = args by simp] at key
  refine key.mono fun e W' ⟨g1, g2, g3, g4⟩ => ?_
  exact ⟨_, g1, law_post hl hW hv hfn hpar hres hbool g2 g3 g4⟩
end
end Go.Cm

namespace Go.Cm
open Go

/-- cells of a datum, and the blocks that it leads to -/
def layC (P : Program) (tn : String → TypeId) : Nat → TypeId → DataW Unit → Nat → List Value × List Obj
  | 0, _, _, _ => ([], [])
  | fuel + 1, t, d, nx => match d with
    | .lit (.bool b) => ([.bool b], [])
    | .lit (.int k n) => ([.int k n], [])
    | .lit (.string s) => ([.string ⟨s.toArray⟩], [])
    | .nil => ((match P.underlying t with
      | some (.slice _) => [.slice none 0 0]
      | some (.pointer _) => [.pointer none]
      | some (.interface _) => [.nilIface]
      | some (.map _ _) => [.map none]
      | _ => [.nilFunc]), [])
    | .ptr d' => (match P.underlying t with
      | some (.pointer e) =>
        let r := layC P tn fuel e d' nx
        ([.pointer (some ⟨nx + r.2.length, 0, none⟩)], r.2 ++ [.cells r.1.toArray e (0, 0)])
      | _ => ([], []))
    | .slice es rest => (match P.underlying t with
      | some (.slice e) =>
        let r := (es ++ rest).foldl (fun acc x => let q := layC P tn fuel e x (nx + acc.2.length); (acc.1 ++ q.1, acc.2 ++ q.2)) ([], [])
        ([.slice (some ⟨nx + r.2.length, 0, none⟩) es.length (es ++ rest).length], r.2 ++ [.cells r.1.toArray e (0, 0)])
      | _ => ([], []))
    | .agg ds => (match P.underlying t with
      | some (.struct fs) => (ds.zip fs.toList).foldl (fun acc x => let q := layC P tn fuel x.2.type x.1 (nx + acc.2.length); (acc.1 ++ q.1, acc.2 ++ q.2)) ([], [])
      | some (.array _ e) => ds.foldl (fun acc x => let q := layC P tn fuel e x (nx + acc.2.length); (acc.1 ++ q.1, acc.2 ++ q.2)) ([], [])
      | _ => ([], []))
    | .iface n d' =>
      let r := layC P tn fuel (tn n) d' nx
      ([.iface (tn n) (match r.1 with
        | [v] => v
        | l => .agg l.toArray)], r.2)
    | _ => ([], [])

def layAll (P : Program) (tn : String → TypeId) : List (String × DataW Unit) → Array Obj → Nat → List Obj → Array Obj × List Obj
  | [], h, _, ex => (h, ex)
  | (n, d) :: r, h, nx, ex =>
    match P.globalNamed n with
    | some g => (match P.globals[g]? with
      | some x =>
        let q := layC P tn 20 x.type d nx
        layAll P tn r (h.modify g fun
          | .cells _ t frozen => .cells q.1.toArray t frozen
          | o => o) (nx + q.2.length) (ex ++ q.2)
      | none => layAll P tn r h nx ex)
    | none => layAll P tn r h nx ex

/-- the world -/
noncomputable def laidW (P : Program) (tn : String → TypeId) (laid : List (String × DataW Unit)) (os : Os) : World :=
  let w := World.holding P os ⟨#[], #[], []⟩
  let q := layAll P tn laid w.heap w.heap.size []
  { w with heap := q.1 ++ q.2.toArray }
end Go.Cm

namespace Go.Cm
open Go Go.RowKit

/-- the strings that lie from here on -/
def strsAt (H : Heap) (b : Nat) : Nat → Nat → Option (List ByteArray)
  | _, 0 => some []
  | o, n + 1 => match H.ld1 ⟨b, o, none⟩ with
    | some (.string s) => (strsAt H b (o + 1) n).map (s :: ·)
    | _ => none

theorem strsAt_get {H : Heap} {b : Nat} : ∀ {n o : Nat} {l : List ByteArray}, strsAt H b o n = some l → l.length = n ∧ ∀ (j : Nat) x, l[j]? = some x → H.ld1 ⟨b, o + j, none⟩ = some (.string x) := by
  intro n
  induction n with
  | zero => intro o l h; simp only [strsAt, Option.some.injEq] at h; subst h; exact ⟨rfl, fun j x h => by simp at h⟩
  | succ n ih =>
    intro o l h
    simp only [strsAt] at h
    split at h
    · rename_i s hs
      obtain ⟨r, h1, rfl⟩ := Option.map_eq_some_iff.1 h
      obtain ⟨h2, h3⟩ := ih h1
      refine ⟨by simp [h2], fun j x hx => ?_⟩
      cases j with
      | zero => simp only [List.getElem?_cons_zero, Option.some.injEq] at hx; subst hx; exact hs
      | succ j =>
        have := h3 j x (by simpa using hx)
        rw [show o + (j + 1) = o + 1 + j by omega]; exact this
    · cases h

/-- strings.Join as one step -/
def joinP (vs : List Value) (H : Heap) : Res := match vs with
  | [.slice a n _, .string sep] => if n = 0 then some (.string ⟨#[]⟩, H) else (match a with
    | some x => if x.spot = none then (match strsAt H x.block x.off n with
      | some l => if (Lib.join (l.map (·.data.toList)) sep.data.toList).length ≤ 140737488355328 ∧ n ≤ 140737488355328 then some (.string ⟨(Lib.join (l.map (·.data.toList)) sep.data.toList).toArray⟩, H) else none
      | none => none) else none
    | none => none)
  | _ => none

theorem calls_ok {P : Program} {w0 : Start} {f : Nat} (hen : ∀ args w, (callFunc f args).run P w = .ok (.enter f args) w) {vs' : Array Value} {H' : Heap} {μ : Mu} {w : World} {v : Value} (R : RR P w0 μ H' w) (hc : Calls P f vs' w fun e w' => e = .returned v ∧ Below w.heap.size w w')
    {o : Oper} {a : Act} {next : Act → World → Prop} {Q : Exit → Act → World → Prop} (hn : ∀ w', RR P w0 μ H' w' → next (a.put o.dst v) w') : o.upon P a next Q ((callFunc f vs').run P w) := by
  rw [hen, Oper.upon_enter]
  refine hc.mono ?_
  rintro e w' ⟨rfl, hb⟩
  exact hn w' (R.later hb.size hb.block ⟨hb.os, hb.output⟩)

theorem join_ok {P : Program} {w0 : Start} {f : Nat} (hen : ∀ args w, (callFunc f args).run P w = .ok (.enter f args) w)
    (h0 : ∀ (a : Option Addr) (c : Nat) (sep : ByteArray) (w : World), Calls P f #[.slice a 0 c, .string sep] w fun e w' => e = .returned (.string ⟨#[]⟩) ∧ w' = w)
    (h1 : ∀ (bk o c : Nat) (xs : List ByteArray) (sep : ByteArray) (w : World), (∀ (j : Nat) x, xs[j]? = some x → w.cell? ⟨bk, o + j, none⟩ = some (.string x)) → bk < w.heap.size → xs.length ≤ 140737488355328 → xs.length ≤ c →
      (Lib.join (xs.map (·.data.toList)) sep.data.toList).length ≤ 140737488355328 → Calls P f #[.slice (some ⟨bk, o, none⟩) xs.length c, .string sep] w fun e w' => e = .returned (.string ⟨(Lib.join (xs.map (·.data.toList)) sep.data.toList).toArray⟩) ∧ Below w.heap.size w w') :
    CallOK P w0 (fun g vs H => if g = f then joinP vs H else none) := by
  intro g vs vs' H v H' μ w h R hvs o a next Q hn
  dsimp only at h
  split at h
  case isFalse => cases h
  rename_i e
  subst e
  unfold joinP at h
  split at h
  case h_2 => cases h
  rename_i sa n c sep
  match vs', hvs with
  | [v1, v2], hvs =>
    obtain ⟨r1, r2, _⟩ := hvs
    have e2 := r2.string_inv
    subst e2
    have fin : ∀ w', RR P w0 μ H w' → next (a.put o.dst v) w' → True := fun _ _ _ => trivial
    split at h
    · rename_i hz
      subst hz
      simp only [Option.some.injEq, Prod.mk.injEq] at h
      obtain ⟨rfl, rfl⟩ := h
      have hv1 : ∃ a' c', v1 = .slice a' 0 c' := by
        cases sa with
        | none => obtain ⟨_, _, e⟩ := r1.slN_inv; exact ⟨_, _, e⟩
        | some x => obtain ⟨a', c', e, _⟩ := r1.sl_inv; exact ⟨_, _, e⟩
      obtain ⟨a', c', rfl⟩ := hv1
      refine calls_ok hen R ((h0 a' c' sep w).mono ?_) (fun w' R' => hn _ μ w' (.string _) R' (Ext.refl _ _))
      rintro e w' ⟨rfl, rfl⟩
      exact ⟨rfl, Below.refl _ _⟩
    · rename_i hz
      split at h
      case h_2 => cases h
      rename_i x
      split at h
      case isFalse => cases h
      rename_i hx
      split at h
      case h_2 => cases h
      rename_i l hl
      split at h
      case isFalse => cases h
      rename_i hlen
      simp only [Option.some.injEq, Prod.mk.injEq] at h
      obtain ⟨rfl, rfl⟩ := h
      obtain ⟨a', c', rfl, hnc, hs⟩ := r1.sl_inv
      obtain ⟨hll, hget⟩ := strsAt_get hl
      have hs0 : SR0 μ x a' n c c' := by
        rcases hs with hs | ⟨_, h2, _⟩
        · exact hs
        · exact absurd h2 hz
      obtain ⟨_, hsp, m, hm, hb, hs3⟩ := hs0
      have hoff : a'.off = x.off + m.sh ∧ c ≤ c' := by
        rcases hs3 with ⟨q1, q2⟩ | ⟨_, q1, q2, _⟩ | ⟨q1, _⟩
        · exact ⟨q1, by omega⟩
        · exact ⟨q1, q2⟩
        · exact absurd q1 hz
      have ea : a' = ⟨m.blk, x.off + m.sh, none⟩ := by
        obtain ⟨ab, ao, as⟩ := a'
        simp only at hsp hb hoff
        rw [hsp, hb, hoff.1]
      subst ea
      subst hll
      refine calls_ok hen R (h1 m.blk (x.off + m.sh) c' l sep w ?_ (R.blk _ _ hm) hlen.2 (by omega) hlen.1) (fun w' R' => hn _ μ w' (.string _) R' (Ext.refl _ _))
      intro j y hy
      have hc := hget j y hy
      obtain ⟨v', q1, q2, _⟩ := cell_ok R (a := ⟨x.block, x.off + j, none⟩) (a' := ⟨m.blk, x.off + m.sh + j, none⟩) ⟨rfl, rfl, m, hm, rfl, by simp only; omega⟩ hc
      rw [q2.string_inv] at q1
      exact q1

end Go.Cm

namespace Go.Cm
open Go

/-- code whose only call that counts is a closed one -/
noncomputable def sureC (f : Nat) : CProg := ⟨fun _ => none, fun g => if g = f then some (sure f f) else none⟩
theorem sureC_ok {P : Program} {w0 : Start} (hm : P.follows .mixedOrders = true) {f : Nat} (h : CallOK P w0 (sure f)) : ProgOK P w0 [] (sureC f) := by
  refine ⟨fun g h => absurd h (List.not_mem_nil), fun _ _ h => (by cases h), fun g p hp => ?_, fun _ hc _ => draw_ok hm (fun g h => absurd h (List.not_mem_nil)) hc⟩
  unfold sureC at hp
  simp only at hp
  split at hp
  · rename_i e
    subst e
    simp only [Option.some.injEq] at hp
    subst hp
    intro k vs vs' H v H' μ w' hc
    by_cases e : k = g
    · subst e
      refine h k vs vs' H v H' μ w' ?_
      simpa using hc
    · exact absurd hc (by simp [e])
  · cases hp
theorem sureC_runs (f N d : Nat) (H : Heap) : callD (sureC f) N (d + 1) f [] H = some (.bool true, H) := by
  simp [callD, sureC, sure]
end Go.Cm

namespace Go.Cm
open Go

def flatL (f : DataW Unit → Option (List Value)) : List (DataW Unit) → Option (List Value)
  | [] => some []
  | d :: r => match f d, flatL f r with
    | some a, some b => some (a ++ b)
    | _, _ => none
/-- the cells of a datum that leads nowhere -/
def flatD : Nat → DataW Unit → Option (List Value)
  | 0, _ => none
  | n + 1, d => match d with
    | .lit (.bool b) => some [.bool b]
    | .lit (.int k m) => some [.int k m]
    | .lit (.string s) => some [.string ⟨s.toArray⟩]
    | .agg ds => flatL (flatD n) ds
    | _ => none

theorem flatL_eq {f : DataW Unit → Option (List Value)} : ∀ {ds : List (DataW Unit)} {ps : List (List Value)} {l : List Value}, flatL f ds = some l → ps.length = ds.length → (∀ (i : Nat) d p, ds[i]? = some d → ps[i]? = some p → ∀ q, f d = some q → p = q) → ps.flatten = l
  | [], [], l, h, _, _ => by simp only [flatL, Option.some.injEq] at h; subst h; rfl
  | [], _ :: _, _, _, h, _ => by simp at h
  | _ :: _, [], _, _, h, _ => by simp at h
  | d :: ds, p :: ps, l, h, hl, hi => by
    simp only [flatL] at h
    split at h
    · rename_i a b ha hb
      simp only [Option.some.injEq] at h
      subst h
      rw [List.flatten_cons, flatL_eq hb (by simpa using hl) (fun i d p h1 h2 => hi (i + 1) d p (by simpa using h1) (by simpa using h2)), hi 0 d p rfl rfl a ha]
    · cases h

theorem pieces (cs : List Value) (ce : Nat) : ∀ n, ((List.range n).map fun i => (cs.drop (i * ce)).take ce).flatten = cs.take (n * ce) := by
  intro n
  induction n with
  | zero => simp
  | succ n ih => rw [List.range_succ, List.map_append, List.flatten_append, ih, Nat.succ_mul, List.take_add]; simp

theorem trod_flat {P : Program} {w : World} {base : Nat} {hd : Bool} : ∀ (k : Nat) (t : TypeId) (cs : List Value) (d : DataW Unit) (ps : List MemPlace) (fuel dep : Nat), plainT P dep t = true → DataW.trod (fun _ => ()) P w base (fun _ => true) hd fuel t cs = some (d, ps) → ∀ l, flatD k d = some l → cs = l := by
  intro k
  induction k with
  | zero => intro t cs d ps fuel dep _ _ l h; cases h
  | succ k ih =>
    intro t cs d ps fuel dep hp h l hf
    obtain ⟨dep, rfl⟩ : ∃ f, dep = f + 1 := by
      cases dep with
      | zero => cases hp
      | succ f => exact ⟨f, rfl⟩
    obtain ⟨fuel, rfl⟩ : ∃ f, fuel = f + 1 := by
      cases fuel with
      | zero => cases h
      | succ f => exact ⟨f, rfl⟩
    unfold DataW.trod at h
    split at h
    case h_1 b hu =>
      simp only [Option.some.injEq, Prod.mk.injEq] at h
      obtain ⟨rfl, rfl⟩ := h
      simp only [flatD, Option.some.injEq] at hf
      exact hf
    case h_2 k' k'' n hu =>
      split at h
      · rename_i hk
        simp only [Option.some.injEq, Prod.mk.injEq] at h
        obtain ⟨rfl, rfl⟩ := h
        obtain ⟨rfl, hw⟩ := hk
        simp only [flatD, Option.some.injEq] at hf
        exact hf
      · cases h
    case h_4 s hu =>
      split at h
      · simp only [Option.some.injEq, Prod.mk.injEq] at h
        obtain ⟨rfl, rfl⟩ := h
        simp only [flatD, Option.some.injEq] at hf
        rw [← hf]
      · cases h
    case h_7 e hu =>
      simp only [Option.some.injEq, Prod.mk.injEq] at h
      obtain ⟨rfl, rfl⟩ := h
      simp [flatD] at hf
    case h_8 e a len cap hu =>
      split at h
      rotate_left
      · cases h
      simp only [if_true] at h
      obtain ⟨es, h1, h2⟩ := Option.bind_eq_some_iff.1 h
      obtain ⟨rest, h3, h4⟩ := Option.map_eq_some_iff.1 h2
      simp only [Prod.mk.injEq] at h4
      obtain ⟨rfl, rfl⟩ := h4
      simp [flatD] at hf
    case h_9 cs _ _ fs hu =>
      simp only [plainT, hu, Bool.and_eq_true, beq_iff_eq, List.all_eq_true] at hp
      split at h
      rotate_left
      · cases h
      rename_i hlen
      obtain ⟨xs, h1, h2⟩ := Option.map_eq_some_iff.1 h
      simp only [Prod.mk.injEq] at h2
      obtain ⟨rfl, rfl⟩ := h2
      obtain ⟨l1, g1⟩ := mapM_some h1
      simp only [flatD] at hf
      have hs := inRow_split cs hp.1
      rw [List.drop_zero, Nat.sub_zero, List.take_of_length_le (by omega)] at hs
      rw [← hs]
      refine flatL_eq hf (by simp [l1]) (fun i dd p hdd hpp q hq => ?_)
      rw [List.getElem?_map] at hdd hpp
      obtain ⟨x, hx, rfl⟩ := Option.map_eq_some_iff.1 hdd
      obtain ⟨fl, hfl, rfl⟩ := Option.map_eq_some_iff.1 hpp
      exact ih fl.type _ x.1 x.2 fuel dep (hp.2 fl (List.mem_of_getElem? hfl)) (g1 i fl x hfl hx) q hq
    case h_10 cs _ _ n e hu =>
      simp only [plainT, hu, Bool.and_eq_true, decide_eq_true_eq] at hp
      split at h
      rotate_left
      · cases h
      rename_i hlen
      obtain ⟨xs, h1, h2⟩ := Option.map_eq_some_iff.1 h
      simp only [Prod.mk.injEq] at h2
      obtain ⟨rfl, rfl⟩ := h2
      obtain ⟨l1, g1⟩ := mapM_some h1
      simp only [List.length_range] at l1
      simp only [flatD] at hf
      have hs := pieces cs (P.cellsOf e) n
      rw [List.take_of_length_le (by omega)] at hs
      rw [← hs]
      refine flatL_eq hf (by simp [l1]) (fun i dd p hdd hpp q hq => ?_)
      rw [List.getElem?_map] at hdd hpp
      obtain ⟨x, hx, rfl⟩ := Option.map_eq_some_iff.1 hdd
      obtain ⟨j, hj, rfl⟩ := Option.map_eq_some_iff.1 hpp
      exact ih e _ x.1 x.2 fuel dep hp.2 (g1 i j x hj hx) q hq
    all_goals first | (cases h; done) | skip
    all_goals
      rename_i hu
      simp only [plainT, hu] at hp
      cases hp

def flatV : Value → Bool
  | .bool _ | .int _ _ | .string _ => true
  | _ => false
theorem flatV_one {v : Value} (h : flatV v = true) : one v = true := by cases v <;> first | rfl | cases h
theorem flatV_vr {v : Value} (h : flatV v = true) (μ : Mu) : VR μ v v := by cases v <;> first | exact .bool _ | exact .int _ _ | exact .string _ | cases h

/-- a table's cells, off the list of the row -/
theorem win_of_laid {P : Program} {w : World} {laid : List (String × DataW Unit)} (hh : (laid.filter fun x => x.2.handleName?.isSome) = []) (hL : laidMetH P laid w) (hsh : w.ShapedOpen P) {n : String} {d : DataW Unit} {g k dep : Nat} {t e : TypeId} {l : List Value}
    (hm : (n, d) ∈ laid) (hg : P.globalNamed n = some g) (ht : (P.globals[g]?).map (·.type) = some t) (hp : plainT P dep t = true) (hf : flatD k d = some l) (hlt : g < P.globals.size)
    (hrow : (((begin P (fun _ _ => 0) default).world.heap[g]?).bind Obj.row?).map (·.2) = some e) : ∃ c fr, w.heap[g]? = some (.cells c e fr) ∧ c.toList = l := by
  have hL' : laidMet P laid w := by unfold laidMetH at hL; rw [hh] at hL; exact hL
  obtain ⟨ps, hv, _, _⟩ := hL'
  obtain ⟨x, hx, rfl⟩ := Option.map_eq_some_iff.1 hrow
  obtain ⟨cs, h1, _⟩ := hsh.1 g x.1 x.2 hlt hx
  obtain ⟨g2, t2, cs2, fuel, p, q1, q2, q3, q4⟩ := laidVars_mem hv n d hm
  rw [hg] at q1
  cases q1
  rw [ht] at q2
  cases q2
  refine ⟨_, _, h1, ?_⟩
  unfold World.var? at q3
  rw [hg] at q3
  simp only [Option.bind_some, h1, Option.some.injEq] at q3
  subst q3
  exact trod_flat k t _ d p fuel dep hp q4 l hf

/-- a closed call that answers true over tables -/
theorem closed_ok {P : Program} {w : World} {gl : List Nat} {C : CProg} {W0 : List Win} {f N d n0 ng : Nat} {H1 : Heap} (hC : ∀ w', ProgOK P (startG W0.length W0.length w') gl C)
    (hW : ∀ (g : Nat) x, W0[g]? = some x → x.blk = g ∧ x.off = 0 ∧ (∀ v ∈ x.cells, flatV v = true) ∧ ∃ c fr, w.heap[g]? = some (.cells c x.elem fr) ∧ (x.cells = [] ∨ c.toList = x.cells))
    (hev : callD C N d f [] (heapW W0) = some (.bool true, H1)) : CallOK P (startG ng n0 w) (sure f) := by
  intro g vs vs' H v H' μ w' h R hvs o a next Q hn
  unfold sure at h
  split at h
  · rename_i e
    subst e
    match vs, hvs, h with
    | [], hvs, h =>
      simp only [Option.some.injEq, Prod.mk.injEq] at h
      obtain ⟨rfl, rfl⟩ := h
      match vs', hvs with
      | [], _ =>
        have hheap : ∀ (b : Nat) (c : Array Value) (e : TypeId) (fr : Nat × Nat), w.heap[b]? = some (Obj.cells c e fr) → w'.heap[b]? = some (Obj.cells c e fr) := fun b c e fr hb => by
          rw [R.base b (Array.getElem?_eq_some_iff.1 hb).1]
          exact hb
        have R' : RR P (startG W0.length W0.length w') (muW P w' W0) (heapW W0) w' := by
          refine RR.winsG (Nat.le_refl _) (fun b hb => ?_) (fun x hx => ?_)
          · obtain ⟨h1, h2, _⟩ := hW b _ (List.getElem?_eq_getElem hb)
            refine ⟨W0[b].cells, W0[b].elem, ?_⟩
            rw [List.getElem?_eq_getElem hb]
            generalize W0[b] = x at *
            obtain ⟨x1, x2, x3, x4⟩ := x
            simp only at h1 h2
            subst h1 h2
            rfl
          · obtain ⟨b, hb⟩ := List.getElem?_of_mem hx
            obtain ⟨h1, h2, h3, c, fr, h4, h5⟩ := hW b x hb
            refine ⟨c, fr, by rw [h1]; exact hheap _ _ _ _ h4, ?_, fun i v hv => ⟨flatV_one (h3 v (List.mem_of_getElem? hv)), v, ?_, flatV_vr (h3 v (List.mem_of_getElem? hv)) _⟩⟩
            · rw [h2]
              rcases h5 with h5 | h5
              · rw [h5]; simp
              · rw [← h5]; simp
            · rcases h5 with h5 | h5
              · rw [h5] at hv; simp at hv
              · rw [h2, Nat.add_zero, ← Array.getElem?_toList, h5]; exact hv
        refine callD_ok (hC w') d g [] [] _ _ H1 _ w' hev R' trivial o a next Q ?_
        intro v' μ' w'' hv hR hE
        rw [hv.bool_inv]
        exact hn _ μ w'' (.bool true) (R.later hR.size (fun b h => hR.base b h) hR.io) (Ext.refl _ _)
    | _ :: _, _, h => cases h
  · cases h
end Go.Cm

namespace Go.Cm
open Go

def lo (d : Nat) (i : CIns) (a : List COpd) : COp := ⟨some d, .one .any, none, i, a⟩
def lp (i : PI) : CIns := .pure i
def la (l : List Nat) : List (Nat × Kd0) := l.map fun t => (t, .any)

/-- a function's code, as a term: does the program have it? -/
def litOk (gl : List Nat) (P : Program) (f : Nat) (c : CFunc) : Prop := autoFn gl P f = some ⟨strip c.body, c.results⟩
theorem litOk.ok {gl : List Nat} {P : Program} {f : Nat} {c : CFunc} (h : litOk gl P f c) : cFunc gl P f c := by
  obtain ⟨fn, body, h1, h2, h3, h4, h5⟩ := autoFn_ok h
  refine ⟨fn, body, h1, h2, ?_, h4, h5⟩
  rw [h3]
  congr 1
  exact strip_strip c.body
where
  strip_strip : ∀ c : CCode, strip (strip c) = strip c := by
    intro c
    induction c with
    | seq a b iha ihb => simp only [strip, iha, ihb]
    | cond c a b iha ihb => simp only [strip, iha, ihb]
    | block id c ih => simp only [strip, ih]
    | loop c ih => simp only [strip, ih]
    | cut l c ih => simp only [strip, ih]
    | loopC l c ih => simp only [strip, ih]
    | reg ops =>
      simp only [strip, List.map_map]
      congr 1
    | regD al ops =>
      simp only [strip, List.map_map]
      congr 1
    | _ => rfl

def lookF : List (Nat × CFunc) → Nat → Option CFunc
  | [], _ => none
  | (g, c) :: l, f => if f = g then some c else lookF l f
def AllF (gl : List Nat) (P : Program) : List (Nat × CFunc) → Prop
  | [] => True
  | (g, c) :: l => litOk gl P g c ∧ AllF gl P l
def AllT (gl : List Nat) (P : Program) : List (List (Nat × CFunc)) → Prop
  | [] => True
  | l :: t => AllF gl P l ∧ AllT gl P t
theorem AllF.ok {gl : List Nat} {P : Program} : ∀ {l : List (Nat × CFunc)} {f : Nat} {c : CFunc}, AllF gl P l → lookF l f = some c → litOk gl P f c
  | [], _, _, _, h => by cases h
  | (g, d) :: l, f, c, ha, h => by
    simp only [lookF] at h
    split at h
    · rename_i e
      cases h
      subst e
      exact ha.1
    · exact AllF.ok ha.2 h
theorem AllT.at {gl : List Nat} {P : Program} : ∀ {t : List (List (Nat × CFunc))} {i : Nat} {l : List (Nat × CFunc)}, AllT gl P t → t[i]? = some l → AllF gl P l
  | [], _, _, _, h => by simp at h
  | _ :: _, 0, _, ha, h => by simp at h; subst h; exact ha.1
  | _ :: t, i + 1, _, ha, h => AllT.at (t := t) ha.2 (by simpa using h)
/-! ### a run that the kernel evaluates: through cuts, with quick frames -/
theorem nbeq {a b : Nat} (h : a = b) : Nat.beq a b = true := by rw [Nat.beq_eq]; exact h
noncomputable def getE (fr : Fr) (t : Nat) : Option Value := @List.rec (Nat × Value) (fun _ => Option Value) none (fun x _ ih => match Nat.beq t x.1 with
  | true => some x.2
  | false => ih) fr
theorem getE_eq : ∀ (fr : Fr) (t : Nat), getE fr t = Fr.get fr t
  | [], _ => rfl
  | (u, v) :: fr, t => by
    have ih := getE_eq fr t
    show (match Nat.beq t u with
      | true => some v
      | false => getE fr t) = Fr.get ((u, v) :: fr) t
    unfold Fr.get
    by_cases h : t = u
    · rw [if_pos h, nbeq h]
    · rw [if_neg h, ih]
      have : Nat.beq t u = false := by
        cases hb : Nat.beq t u
        · rfl
        · exact absurd (Nat.eq_of_beq_eq_true hb) h
      rw [this]
noncomputable def evE (fr : Fr) : COpd → Option Value
  | .tmp t => getE fr t
  | .const v => some v
  | .glob g => some (.pointer (some ⟨g, 0, none⟩))
  | .fn f => some (.func (.func f) #[] #[])
theorem evE_eq (fr : Fr) (o : COpd) : evE fr o = ev fr o := by cases o <;> simp only [evE, ev, getE_eq]
noncomputable def evsE (fr : Fr) : List COpd → Option (List Value)
  | [] => some []
  | x :: xs => match evE fr x with
    | some v => match evsE fr xs with
      | some vs => some (v :: vs)
      | none => none
    | none => none
theorem evsE_eq (fr : Fr) : ∀ l, evsE fr l = evs fr l
  | [] => rfl
  | x :: xs => by simp only [evsE, evs, evE_eq, evsE_eq fr xs]; rfl
noncomputable def liveE : List (Nat × Kd0) → Fr → (Fr → Res) → Res
  | [], _, K => K []
  | (t, d) :: l, fr, K => optK (getE fr t) fun v => cast0 d v fun x => liveE l fr fun r => K ((t, x) :: r)
theorem liveE_eq : ∀ (l : List (Nat × Kd0)) (fr : Fr) (K : Fr → Res), liveE l fr K = liveK l fr K
  | [], _, _ => rfl
  | (t, d) :: l, fr, K => by simp only [liveE, liveK, getE_eq, liveE_eq l]
noncomputable def insE (call : CallF) (o : COp) (fr : Fr) (H : Heap) (K : Value → Heap → Res) : Res := match o.ins with
  | .bad => none
  | .pure p => optK (evsE fr o.args) fun vs => pureK p vs fun v => cast o.kd v fun v => K v H
  | .pick => match o.args with
    | [c, a, b] => optK (evE fr c) fun c => asB c fun c => optK (evE fr (if c then a else b)) fun v => cast o.kd v fun v => K v H
    | _ => none
  | .read r => optK (evsE fr o.args) fun vs => optK (readD r vs H) fun v => cast o.kd v fun v => K v H
  | .eff e => optK (evsE fr o.args) fun vs => effK e vs H fun v H => cast o.kd v fun v => K v H
  | .call f => optK (evsE fr o.args) fun vs => callK (call f vs H) fun v H => cast o.kd v fun v => K v H
  | .callv => optK (evsE fr o.args) fun vs => match vs with
    | .func (.func f) first cap :: vs => callK (call f (first.toList ++ vs ++ cap.toList) H) fun v H => cast o.kd v fun v => K v H
    | _ => none
theorem insE_eq (call : CallF) (o : COp) (fr : Fr) (H : Heap) (K : Value → Heap → Res) : insE call o fr H K = insK call o fr H K := by
  unfold insE insK
  simp only [evsE_eq, evE_eq]
  rfl
noncomputable def guardE (g : Option (Nat × Bool)) (fr : Fr) (yes no : Fr → Res) : Res := match g with
  | none => yes fr
  | some (t, w) => optK (getE fr t) fun v => gB v (fun b => if b = true then (if w then yes else no) ((t, .bool true) :: fr) else (if w then no else yes) ((t, .bool false) :: fr)) (no fr)
theorem guardE_eq (g : Option (Nat × Bool)) (fr : Fr) (yes no : Fr → Res) : guardE g fr yes no = guardK g fr yes no := by
  unfold guardE guardK
  simp only [getE_eq]
  rfl
noncomputable def opsE (call : CallF) : List COp → Fr → Heap → (Fr → Heap → Res) → Res
  | [], fr, H, K => K fr H
  | o :: os, fr, H, K => guardE o.guard fr (fun fr => insE call o fr H fun v H => opsE call os (fr.setO o.dst v) H K) (fun fr => opsE call os (fr.delO o.dst) H K)
theorem opsE_eq (call : CallF) : ∀ (l : List COp) (fr : Fr) (H : Heap) (K : Fr → Heap → Res), opsE call l fr H K = runOps call l fr H K
  | [], _, _, _ => rfl
  | o :: os, fr, H, K => by simp only [opsE, runOps, guardE_eq, insE_eq, opsE_eq call os]
noncomputable def dE (call : CallF) : List (COp × Nat × Nat) → Fr → Heap → List Heap → List Rd → (Fr → Heap → Res) → Res
  | [], fr, H, hs, rds, K => chk (rdsOk hs.reverse rds) (K fr H)
  | (o, lo, hi) :: os, fr, H, hs, rds, K => guardE o.guard fr
      (fun fr => match o.ins with
        | .read r => optK (evsE fr o.args) fun vs => optK (readD r vs H) fun v => cast o.kd v fun x =>
            dE call os (fr.setO o.dst x) H hs (if lo < hi then ⟨r, vs, v, lo, hi⟩ :: rds else rds) K
        | .pure _ | .pick => insE call o fr H fun v H => dE call os (fr.setO o.dst v) H hs rds K
        | _ => insE call o fr H fun v H => dE call os (fr.setO o.dst v) H (H :: hs) rds K)
      (fun fr => match o.ins with
        | .read _ | .pure _ | .pick => dE call os (fr.delO o.dst) H hs rds K
        | _ => dE call os (fr.delO o.dst) H (H :: hs) rds K)
theorem dE_eq (call : CallF) : ∀ (l : List (COp × Nat × Nat)) (fr : Fr) (H : Heap) (hs : List Heap) (rds : List Rd) (K : Fr → Heap → Res), dE call l fr H hs rds K = runD call l fr H hs rds K
  | [], _, _, _, _, _ => rfl
  | (o, lo, hi) :: os, fr, H, hs, rds, K => by
    simp only [dE, runD, guardE_eq, insE_eq, evsE_eq, dE_eq call os]
    rfl
noncomputable def backE (live : List (Nat × Kd0)) (k : Kt) : Kt := fun fr H => liveE live fr fun fr => k fr H
theorem backE_eq (live : List (Nat × Kd0)) (k : Kt) : backE live k = backK live k := by
  funext fr H
  simp only [backE, backK, liveE_eq]
noncomputable def lookE (ke : List (Nat × Kt)) (id : Nat) : Kt := match ke with
  | [] => fun _ _ => none
  | (i, k) :: ke => match Nat.beq id i with
    | true => k
    | false => lookE ke id
theorem lookE_eq : ∀ (ke : List (Nat × Kt)) (id : Nat), lookE ke id = look ke id
  | [], _ => rfl
  | (i, k) :: ke, id => by
    unfold lookE look
    by_cases h : id = i
    · rw [if_pos h, nbeq h]
    · rw [if_neg h, ← lookE_eq ke id]
      have : Nat.beq id i = false := by
        cases hb : Nat.beq id i
        · rfl
        · exact absurd (Nat.eq_of_beq_eq_true hb) h
      rw [this]
noncomputable def runE (call : CallF) (N : Nat) : CCode → Kt → List (Nat × Kt) → Kt → Kt
  | .skip, kn, _, _ => kn
  | .seq a b, kn, ke, kr => runE call N a (runE call N b kn ke kr) ke kr
  | .reg ops, kn, _, _ => fun fr H => opsE call ops fr H kn
  | .regD al ops, kn, _, _ => fun fr H => opsE call al fr H fun fr H => dE call ops fr H [H] [] kn
  | .cond c a b, kn, ke, kr => fun fr H => optK (evE fr c) fun v => asB v fun t => if t = true then runE call N a kn ke kr fr H else runE call N b kn ke kr fr H
  | .block id c, kn, ke, kr => runE call N c kn ((id, kn) :: ke) kr
  | .loop c, _, ke, kr => iter (fun k => runE call N c k ke kr) N
  | .exit id, _, ke, _ => lookE ke id
  | .ret, _, _, kr => kr
  | .bad, _, _, _ => fun _ _ => none
  | .cut live c, kn, ke, kr => backE live (runE call N c kn ke kr)
  | .loopC live c, _, ke, kr => backE live (iter (fun k => runE call N c (backE live k) ke kr) N)
theorem runE_eq (call : CallF) (N : Nat) : ∀ (c : CCode) (kn : Kt) (ke : List (Nat × Kt)) (kr : Kt), runE call N c kn ke kr = run call N c kn ke kr := by
  intro c
  induction c with
  | seq a b iha ihb => intro kn ke kr; simp only [runE, run, iha, ihb]
  | cond c a b iha ihb => intro kn ke kr; simp only [runE, run, iha, ihb, evE_eq]
  | block id c ih => intro kn ke kr; simp only [runE, run, ih]
  | loop c ih => intro kn ke kr; simp only [runE, run, ih]
  | cut l c ih => intro kn ke kr; simp only [runE, run, ih, opq_eq, backE_eq]
  | loopC l c ih => intro kn ke kr; simp only [runE, run, ih, opq_eq, backE_eq]
  | reg ops => intro kn ke kr; funext fr H; simp only [runE, run, opsE_eq]
  | regD al ops => intro kn ke kr; funext fr H; simp only [runE, run, opsE_eq, dE_eq]
  | exit id => intro kn ke kr; simp only [runE, run, lookE_eq]
  | _ => intro kn ke kr; rfl
end Go.Cm
