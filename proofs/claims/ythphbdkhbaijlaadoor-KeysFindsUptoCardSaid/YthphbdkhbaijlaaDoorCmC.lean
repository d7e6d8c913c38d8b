/-
  The clean machine's instructions that read memory do what the model's operations do.
  And: The clean machine's instructions that turn memory: laws of memories. The clean machine's instructions that turn memory do what the model's operations do. The clean machine's instructions that turn memory do what the model's operations do: stores, copies, appends. The clean machine's instructions that turn memory do what the model's operations do: append.
-/
import Derived.Test.YthphbdkhbaijlaaDoorCmB
namespace Go.Cm
open Go

section
variable {P : Program} {w0 : Start} {μ : Mu} {H : Heap} {w : World}

theorem lookup_cells (R : RR P w0 μ H w) {b : Nat} {m : MB} {c : List Value} {e : TypeId} {o : Bool} {fz : Nat} {s : Bool} (hm : μ b = some m) (hg : H.get b = some (.cells c e o fz s)) :
    ∃ c' fr, w.heap[m.blk]? = some (.cells c' e fr) ∧ OR P μ m (.cells c e o fz s) (.cells c' e fr) := by
  obtain ⟨o', h1, h2⟩ := R.obj b m _ hm hg
  cases o' <;> simp only [OR] at h2
  have := h2.1
  subst this
  exact ⟨_, _, h1, h2⟩

theorem cell_ok (R : RR P w0 μ H w) {a a' : Addr} {v : Value} (ha : AR μ a a') (h : H.ld1 a = some v) : ∃ v', w.cell? a' = some v' ∧ VR μ v v' ∧ one v = true := by
  obtain ⟨h1, h2, m, h3, h4, h5⟩ := ha
  unfold Heap.ld1 at h
  split at h
  · rename_i c e o fz s hg
    obtain ⟨c', fr, g1, g2⟩ := lookup_cells R h3 hg
    obtain ⟨_, _, _, _, _, _, _, g3, _⟩ := g2
    obtain ⟨o1, v', e1, e2⟩ := g3 _ _ h
    refine ⟨v', ?_, e2, o1⟩
    unfold World.cell?
    rw [h4, g1]
    simp only [h2, Option.isSome_none, Bool.false_eq_true, if_false, h5]
    exact e1
  · cases h

theorem cells_ok (R : RR P w0 μ H w) {a a' : Addr} {n : Nat} {l : List Value} (ha : AR μ a a') (h : H.ldN a n = some l) :
    ∃ l', VRs μ l l' ∧ (∀ v ∈ l, one v = true) ∧ l.length = n ∧ ∀ k v', l'[k]? = some v' → w.cell? (a'.add k) = some v' := by
  obtain ⟨h1, h2, m, h3, h4, h5⟩ := ha
  unfold Heap.ldN at h
  split at h
  · rename_i c e o fz s hg
    split at h
    · rename_i hlen
      simp only [Option.some.injEq] at h
      subst h
      obtain ⟨c', fr, g1, g2⟩ := lookup_cells R h3 hg
      obtain ⟨_, ⟨gl, _⟩, _, _, gs, gi, _, g3, _⟩ := g2
      refine ⟨((c'.toList.drop (a.off + m.sh)).take n), VRs.of ?_ ?_, ?_, by simp; omega, ?_⟩
      · simp only [List.length_take, List.length_drop, Array.length_toList, gs]; omega
      · intro i v v' e1 e2
        simp only [List.getElem?_take, List.getElem?_drop] at e1 e2
        by_cases hi : i < n
        · rw [if_pos hi] at e1 e2
          obtain ⟨_, v2, e3, e4⟩ := g3 _ _ e1
          rw [Array.getElem?_toList] at e2
          have : a.off + i + m.sh = a.off + m.sh + i := by omega
          rw [this, e2] at e3
          cases e3
          exact e4
        · rw [if_neg hi] at e1; cases e1
      · intro v hv
        obtain ⟨i, hi, rfl⟩ := List.mem_iff_getElem.1 (List.mem_of_mem_drop (List.mem_of_mem_take hv))
        exact (g3 i _ (List.getElem?_eq_getElem hi)).1
      · intro k v' hk
        simp only [List.getElem?_take, List.getElem?_drop, Array.getElem?_toList] at hk
        split at hk
        · rw [ap_eq h2]
          unfold World.cell?
          simp only [ap, h4, g1, Option.isSome_none, Bool.false_eq_true, if_false, h5]
          exact hk
        · cases hk
    · cases h
  · cases h

theorem run_loadCells : ∀ (n i : Nat) (a : Addr) (l' : List Value) (acc : Array Value) (w : World), l'.length = n → (∀ k v', l'[k]? = some v' → w.cell? (a.add (i + k)) = some v') →
    (loadCellsFrom a i n acc).run P w = .ok (acc ++ l'.toArray) w
  | 0, i, a, l', acc, w, hl, _ => by
    have : l' = [] := List.length_eq_zero_iff.1 hl
    subst this
    simp [loadCellsFrom]
  | n + 1, i, a, [], acc, w, hl, _ => by simp at hl
  | n + 1, i, a, v :: l', acc, w, hl, h => by
    have h0 := h 0 v (by simp)
    simp only [Nat.add_zero] at h0
    simp only [loadCellsFrom, Sem.run_bind, run_load, h0, Result.andThen_ok]
    rw [run_loadCells n (i + 1) a l' (acc.push v) w (by simpa using hl) (fun k v' hk => by
      have := h (k + 1) v' (by simpa using hk)
      rw [show i + 1 + k = i + (k + 1) by omega]; exact this)]
    simp

theorem loadCells_ok (R : RR P w0 μ H w) {a a' : Addr} {n : Nat} {l : List Value} (ha : AR μ a a') (h : H.ldN a n = some l) :
    ∃ l', VRs μ l l' ∧ (∀ v ∈ l, one v = true) ∧ (loadCells a' n).run P w = .ok l'.toArray w := by
  obtain ⟨l', h1, h2, h3, h4⟩ := cells_ok R ha h
  refine ⟨l', h1, h2, ?_⟩
  have := run_loadCells (P := P) n 0 a' l' #[] w (by rw [← h1.length, h3]) (fun k v' hk => by simpa using h4 k v' hk)
  simpa [loadCells] using this

theorem loadVar_ok (R : RR P w0 μ H w) {t : TypeId} (ht : okElem P t = true) {a a' : Addr} {v : Value} (ha : AR μ a a') (h : readD (.load (P.cellsOf t) (isAggT P t)) [.pointer (some a)] H = some v) :
    ∃ v', (loadVar t a').run P w = .ok v' w ∧ VR μ v v' := by
  simp only [readD] at h
  unfold loadVar
  simp only [Sem.run_bind, run_isAgg ht, Result.andThen_ok]
  by_cases hA : isAggT P t = true
  · simp only [hA, if_true] at h ⊢
    split at h
    · rename_i l hl
      simp only [Option.some.injEq] at h
      subst h
      obtain ⟨l', h1, h2, h3⟩ := loadCells_ok R ha hl
      refine ⟨.agg l'.toArray, ?_, VR.agg_of h1 h2⟩
      simp only [Sem.run_bind, run_sizeOf' (info_some ht), Result.andThen_ok, h3, Sem.run_pure]
    · cases h
  · simp only [hA] at h ⊢
    obtain ⟨v', h1, h2, _⟩ := cell_ok R ha (by simpa using h)
    exact ⟨v', by simp [h1], h2⟩

/-- what is shown of an instruction that reads -/
def ReadOK (P : Program) (o : Oper) (ri : RI) (xs : List Operand) : Prop :=
  ∀ (w0 : Start) (μ : Mu) (H : Heap) (w : World) (ρ : Operand → Value) (vs : List Value) (v : Value), RR P w0 μ H w → (∀ v, ρ (.const v) = v) → VRs μ vs (xs.map ρ) → readD ri vs H = some v →
    ∃ v', (execOp ρ o).run P w = .ok (.value v') w ∧ VR μ v v'

theorem bytes_loop {f : Value → ByteArray → Sem (ForInStep ByteArray)} (hf : ∀ n s, f (.int .u8 n) s = pure (.yield (s.push (UInt8.ofNat n.toNat)))) {w : World} :
    ∀ (l l' : List Value) (r : List UInt8) (s : ByteArray), VRs μ l l' → bytesOf l = some r → (forIn l' s f : Sem ByteArray).run P w = .ok (S (lst s ++ r)) w
  | [], [], r, s, _, h => by
    simp only [bytesOf, Option.some.injEq] at h; subst h
    simp
  | v :: l, v' :: l', r, s, hv, h => by
    unfold bytesOf at h
    split at h
    · rename_i h0; cases h0
    · rename_i heq
      simp only [List.cons.injEq] at heq
      obtain ⟨rfl, rfl⟩ := heq
      split at h
      · rename_i r' hr
        simp only [Option.some.injEq] at h; subst h
        rw [hv.1.int_inv, List.forIn_cons, hf]
        simp only [Sem.run_bind, Sem.run_pure, Result.andThen_ok]
        rw [bytes_loop hf l l' r' _ hv.2 hr]
        congr 1
        simp [lst]
      · cases h
    · cases h

theorem runes_loop {f : Value → ByteArray → Sem (ForInStep ByteArray)} (hf : ∀ n s, f (.int .i32 n) s = pure (.yield (s ++ Utf8.encode n))) {w : World} :
    ∀ (l l' : List Value) (r : List UInt8) (s : ByteArray), VRs μ l l' → runesOf l = some r → (forIn l' s f : Sem ByteArray).run P w = .ok (S (lst s ++ r)) w
  | [], [], r, s, _, h => by
    simp only [runesOf, Option.some.injEq] at h; subst h
    simp
  | v :: l, v' :: l', r, s, hv, h => by
    unfold runesOf at h
    split at h
    · rename_i h0; cases h0
    · rename_i heq
      simp only [List.cons.injEq] at heq
      obtain ⟨rfl, rfl⟩ := heq
      split at h
      · rename_i r' hr
        simp only [Option.some.injEq] at h; subst h
        rw [hv.1.int_inv, List.forIn_cons, hf]
        simp only [Sem.run_bind, Sem.run_pure, Result.andThen_ok]
        rw [runes_loop hf l l' r' _ hv.2 hr, ← sCat_eq]
        congr 1
        simp [lst, sCat, S]
      · cases h
    · cases h

/-- the cells of a slice, clean and real -/
theorem slice_ok (R : RR P w0 μ H w) {a a' : Addr} {n c c' : Nat} {l : List Value} (ha : SR μ a a' n c c') (h : H.ldN a n = some l) :
    ∃ l', VRs μ l l' ∧ (∀ v ∈ l, one v = true) ∧ (loadCells a' n).run P w = .ok l'.toArray w := by
  by_cases hn : n = 0
  · subst hn
    refine ⟨[], ?_, ?_, rfl⟩ <;> (unfold Heap.ldN at h; split at h <;> first | (cases h; done) | (split at h <;> first | (cases h; done) | (simp at h; subst h; simp [VRs])))
  · exact loadCells_ok R (ha.base (by omega)) h

theorem shape_ok (R : RR P w0 μ H w) {a a' : Addr} (ha : AR μ a a') (h : H.clear a.block = true) :
    (∃ e n, w.shape? a'.block = some (e, n) ∧ n ≠ 0 ∧ w.frozen? a' = false ∧ w.frozen? ⟨a'.block, n, none⟩ = false) := by
  obtain ⟨h1, h2, m, h3, h4, h5⟩ := ha
  unfold Heap.clear at h
  split at h
  · rename_i c e o fz s hg
    simp only [Bool.and_eq_true, Bool.not_eq_true', beq_iff_eq] at h
    obtain ⟨⟨h6, h7⟩, h8⟩ := h
    obtain ⟨c', fr, g1, g2⟩ := lookup_cells R h3 hg
    obtain ⟨_, ⟨gl, _⟩, _, _, gs, gi, _, g3, g4, g5⟩ := g2
    have hlen : c.length ≠ 0 := by
      intro hc
      rw [List.length_eq_zero_iff] at hc
      simp [hc] at h6
    refine ⟨e, c'.size, ?_, by omega, ?_, ?_⟩
    · unfold World.shape?; rw [h4, g1]
    · unfold World.frozen?
      rw [h4, g1]
      simp only
      have := g5 h8
      simp only [Bool.and_eq_false_iff, decide_eq_false_iff_not]
      omega
    · unfold World.frozen?
      simp only [h4, g1]
      have := g5 h8
      simp only [Bool.and_eq_false_iff, decide_eq_false_iff_not]
      omega
  · cases h

theorem run_sameAddr (R : RR P w0 μ H w) {a a' b b' : Addr} (ha : AR μ a a') (hb : AR μ b b') (h : (if a.block = b.block then H.alive a.block else H.clear a.block && H.clear b.block) = true) :
    (sameAddr a' b').run P w = .ok (decide (a.block = b.block ∧ a.off = b.off)) w := by
  by_cases e : a.block = b.block
  · rw [if_pos e] at h
    obtain ⟨h1, h2, m, h3, h4, h5⟩ := ha
    obtain ⟨k1, k2, m2, k3, k4, k5⟩ := hb
    rw [e, k3] at h3
    cases h3
    unfold sameAddr
    rw [if_pos (by rw [h4, k4]; simp)]
    simp only [Sem.run_pure]
    congr 1
    obtain ⟨ab, ao, as⟩ := a'
    obtain ⟨bb, bo, bs⟩ := b'
    simp only at *
    subst h2 k2 h4
    subst k4
    rw [Bool.eq_iff_iff]
    simp only [beq_iff_eq, Addr.mk.injEq, decide_eq_true_eq, and_true, true_and, e]
    omega
  · rw [if_neg e] at h
    simp only [Bool.and_eq_true] at h
    obtain ⟨e1, n1, s1, s2, s3, s4⟩ := shape_ok R ha h.1
    obtain ⟨e2, n2, t1, t2, t3, t4⟩ := shape_ok R hb h.2
    have hne : a'.block ≠ b'.block := by
      intro hc
      obtain ⟨_, _, m, h3, h4, _⟩ := ha
      obtain ⟨_, _, m2, k3, k4, _⟩ := hb
      have al : ∀ {x : Nat}, H.clear x = true → ∃ o, H.get x = some o := by
        intro x hx
        unfold Heap.clear at hx
        split at hx
        · rename_i hg; exact ⟨_, hg⟩
        · cases hx
      obtain ⟨o1, g1⟩ := al h.1
      obtain ⟨o2, g2⟩ := al h.2
      have nw : ∀ {x : Nat} {o : CObj}, H.clear x = true → H.get x = some o → ∀ c e, o ≠ .cells c e false c.length true := by
        intro x o hx hg c e ho
        subst ho
        unfold Heap.clear at hx
        rw [hg] at hx
        simp at hx
      exact e (R.inj' h3 k3 g1 g2 (by rw [← h4, ← k4, hc]) (R.own k3 g2 (nw h.2 g2)))
    unfold sameAddr
    rw [if_neg (by simpa using hne)]
    have : decide (a.block = b.block ∧ a.off = b.off) = false := by simp [e]
    rw [this]
    simp [s3, t3, noView, viewAt, s1, t1, mayBeOne, stringish, s4, t4]

theorem convBytes_ok {s d e : TypeId} {x : Value} (e1 : P.underlying s = some (.slice e)) (e2 : P.underlying d = some .string) (e3 : P.underlying e = some (.int .u8)) (hx : ∀ b, x ≠ .string b) (hi : ∀ k b, x ≠ .int k b) :
    (convert s d x).run P w = (Conv.bytesToString x).run P w := by
  simp only [convert, Sem.run_bind, run_underlying e1, run_underlying e2, Result.andThen_ok]
  cases x <;> simp_all [run_underlying e3]

theorem convRunes_ok {s d e : TypeId} {x : Value} (e1 : P.underlying s = some (.slice e)) (e2 : P.underlying d = some .string) (e3 : P.underlying e = some (.int .i32)) (hx : ∀ b, x ≠ .string b) (hi : ∀ k b, x ≠ .int k b) :
    (convert s d x).run P w = (Conv.runesToString x).run P w := by
  simp only [convert, Sem.run_bind, run_underlying e1, run_underlying e2, Result.andThen_ok]
  cases x <;> simp_all [run_underlying e3]

theorem subSl_ok (R : RR P w0 μ H w) {elem : TypeId} {a a' : Addr} {n c c' : Nat} (hn : n ≤ c) (ha : SR μ a a' n c c') {l h m : Nat} {mx : Bool} (h1 : l ≤ h) (h2 : h ≤ m) (h3 : m ≤ c) (h4 : mx = false → m = c)
    (hk : (l == 0 || mx || H.opnOk a.block elem) = true) :
    VR μ (.slice (some (if l = 0 then a else ap a (l * P.cellsOf elem))) (h - l) (m - l)) (.slice (some (if (if mx = true then m else c') = l then a' else a'.add (l * P.cellsOf elem))) (h - l) ((if mx = true then m else c') - l)) := by
  rcases ha with ⟨e1, e2, mb, e3, e4, e5⟩ | ⟨rfl, rfl, rfl, rfl⟩
  rotate_left
  · obtain rfl : m = 0 := by omega
    obtain rfl : h = 0 := by omega
    obtain rfl : l = 0 := by omega
    refine .sl (by omega) (.inr ⟨rfl, rfl, rfl, by cases mx <;> rfl⟩)
  have hc : c ≤ c' := by omega
  have e0 : (if l = 0 then a else ap a (l * P.cellsOf elem)) = ap a (l * P.cellsOf elem) := by
    split
    · rename_i h0
      subst h0
      obtain ⟨ab, ao, as⟩ := a
      simp only at e1
      subst e1
      simp [ap]
    · rfl
  rw [e0]
  refine .sl (by omega) (.inl ?_)
  cases mx with
  | true =>
    simp only [if_true]
    by_cases hml : m = l
    · rw [if_pos hml]
      exact ⟨rfl, e2, mb, e3, e4, .inr (.inr ⟨by omega, by omega, .inl (by omega)⟩)⟩
    · rw [if_neg hml, ap_eq e2]
      exact ⟨rfl, rfl, mb, e3, e4, .inl ⟨by simp only [ap]; omega, rfl⟩⟩
  | false =>
    simp only [Bool.false_eq_true, if_false]
    have hm := h4 rfl
    subst hm
    rcases e5 with ⟨f1, f2⟩ | ⟨f1, f2, f3, f4, f5⟩ | ⟨f1, f2, f3⟩
    · subst f2
      by_cases hml : c' = l
      · rw [if_pos hml]
        exact ⟨rfl, e2, mb, e3, e4, .inr (.inr ⟨by omega, by omega, .inl (by omega)⟩)⟩
      · rw [if_neg hml, ap_eq e2]
        exact ⟨rfl, rfl, mb, e3, e4, .inl ⟨by simp only [ap]; omega, rfl⟩⟩
    · by_cases hml : c' = l
      · rw [if_pos hml]
        exact ⟨rfl, e2, mb, e3, e4, .inr (.inr ⟨by omega, by omega, .inl (by omega)⟩)⟩
      · rw [if_neg hml, ap_eq e2]
        by_cases hl : l = 0
        · subst hl
          refine ⟨rfl, rfl, mb, e3, e4, .inr (.inl ⟨f1, by simp only [ap]; omega, by omega, ?_, ?_⟩)⟩
          · simpa [ap] using f4
          · simpa [ap] using f5
        · have hop : H.opnOk a.block elem = true := by simpa [hl] using hk
          unfold Heap.opnOk at hop
          split at hop
          · rename_i cl e o fz s hg
            obtain ⟨cr, fr, g1, g2⟩ := lookup_cells R e3 hg
            obtain ⟨_, ⟨gl, _⟩, go, ge, _⟩ := g2
            rw [f1] at go
            subst go
            simp only [Bool.not_true, Bool.false_or, beq_iff_eq] at hop
            subst hop
            refine ⟨rfl, rfl, mb, e3, e4, .inr (.inl ⟨f1, by simp only [ap]; omega, by omega, ?_, ?_⟩)⟩
            · simp only [ap]
              rw [← ge]
              have : (m - l) * mb.esz = m * mb.esz - l * mb.esz := Nat.sub_mul _ _ _
              have h5 : l * mb.esz ≤ m * mb.esz := Nat.mul_le_mul_right _ (by omega)
              omega
            · simp only [ap]
              rw [← ge]
              have : (c' - l) * mb.esz = c' * mb.esz - l * mb.esz := Nat.sub_mul _ _ _
              have h5 : l * mb.esz ≤ c' * mb.esz := Nat.mul_le_mul_right _ (by omega)
              omega
          · cases hop
    · subst f1 f2
      have hl : l = 0 := by omega
      have hh : h = 0 := by omega
      subst hl hh
      have e6 : (if c' = 0 then a' else a'.add (0 * P.cellsOf elem)) = a' := by
        split
        · rfl
        · simp [Addr.add]
      rw [e6]
      exact ⟨rfl, e2, mb, e3, e4, .inr (.inr ⟨rfl, rfl, by simpa using f3⟩)⟩

theorem VR.ptrN_inv {v' : Value} (h : VR μ (.pointer none) v') : v' = .pointer none := by cases h; rfl

theorem equal_ptr (dd : Nat) {t e : TypeId} (ht : P.underlying t = some (.pointer e)) (hok : okElem P e = true) (hn : P.cellsOf e ≠ 0) :
    (∀ b : Option Addr, (Op.equalIn (dd + 1) t (.pointer none) (.pointer b)).run P w = .ok b.isNone w) ∧
    (∀ a : Addr, (Op.equalIn (dd + 1) t (.pointer (some a)) (.pointer none)).run P w = .ok false w) ∧
    (∀ a b : Addr, (Op.equalIn (dd + 1) t (.pointer (some a)) (.pointer (some b))).run P w = (sameAddr a b).run P w) := by
  refine ⟨fun b => ?_, fun a => ?_, fun a b => ?_⟩
  · simp only [Op.equalIn, Sem.run_bind, run_underlying ht, Result.andThen_ok, Sem.run_pure]
  · simp only [Op.equalIn, Sem.run_bind, run_underlying ht, Result.andThen_ok, Sem.run_pure]
  · simp only [Op.equalIn, Sem.run_bind, run_underlying ht, Result.andThen_ok, run_sizeOf' (info_some hok)]
    rw [if_pos hn]

theorem read_bin {dst : Option Tmp} {type : TypeId} {pos : String} {after : Array Edge} {guard : Option (Nat × Bool)} {op : BinOp} {t yt : TypeId} {x y : Operand} {ri : RI} {xs : List Operand} (hc : cOp P ⟨dst, .binOp op t x y yt, type, pos, after, guard⟩ = some (.read ri, xs)) : ReadOK P ⟨dst, .binOp op t x y yt, type, pos, after, guard⟩ ri xs := by
  intro w0 μ H w ρ vs v R hρ hv h
  simp only [cOp] at hc
  have key : ∃ e neg, P.underlying t = some (.pointer e) ∧ okElem P e = true ∧ P.cellsOf e ≠ 0 ∧ ri = .eqP neg ∧ xs = [x, y] ∧ (op = .eql ∧ neg = false ∨ op = .neq ∧ neg = true) := by
    unfold cBin at hc
    split at hc
    · split at hc <;> cases hc
    · split at hc <;> cases hc
    · rename_i d _ _ e
      have : ∀ {op : BinOp}, cEq P op t d x y = some (.read ri, xs) → ∃ el, d = .pointer el ∧ okElem P el = true ∧ P.cellsOf el ≠ 0 ∧ ri = .eqP (op == .neq) ∧ xs = [x, y] := by
        intro op hc
        unfold cEq at hc
        split at hc
        · split at hc
          · cases hc
          · split at hc
            · cases hc
            · cases d with
              | pointer el =>
                simp only at hc
                split at hc
                · rename_i hk
                  simp only [Option.some.injEq, Prod.mk.injEq, CIns.read.injEq] at hc
                  exact ⟨el, rfl, hk.1, hk.2, hc.1.symm, hc.2.symm⟩
                · cases hc
              | _ => cases hc
        · split at hc
          · cases hc
          · split at hc <;> (try split at hc) <;> cases hc
          · split at hc <;> (try split at hc) <;> cases hc
          · cases hc
      split at hc
      · obtain ⟨el, rfl, a, b, rfl, rfl⟩ := this hc; exact ⟨el, _, e, a, b, rfl, rfl, .inl ⟨rfl, rfl⟩⟩
      · obtain ⟨el, rfl, a, b, rfl, rfl⟩ := this hc; exact ⟨el, _, e, a, b, rfl, rfl, .inr ⟨rfl, rfl⟩⟩
      · cases hc
    · cases hc
  obtain ⟨el, neg, e, hok, hn, rfl, rfl, hop⟩ := key
  obtain ⟨u, z, rfl, hu, hu2⟩ := VRs.inv2 hv
  match u, z, hu, hu2, h with
  | .pointer a, .pointer b, hu, hu2, h =>
    have done : ∀ {q : Bool} {u' z' : Value}, ρ x = u' → ρ y = z' → (∃ a, u' = .pointer a) → (∃ b, z' = .pointer b) → v = .bool (if neg then !q else q) → (Op.equalIn (9999 + 1) t u' z').run P w = .ok q w →
        ∃ v', (execOp ρ ⟨dst, .binOp op t x y yt, type, pos, after, guard⟩).run P w = .ok (.value v') w ∧ VR μ v v' := by
      intro q u' z' e1 e2 ⟨a, ha⟩ ⟨b, hb⟩ e3 e4
      subst e3
      refine ⟨_, run_v (s := binS op t x y (ρ x) (ρ y)) (eqOp_run (hop.imp (·.1) (·.1)) (guard_at ?_ (.inl ?_)) ?_ ?_ ?_ ?_ (by rw [e1, e2]; exact e4)), ?_⟩
      · rw [e1, ha]; intro c hc; cases hc
      · rw [e1, ha]; intro hc; cases hc
      · rw [e1, ha]; rintro k1 a k2 b ⟨h1, h2⟩; cases h1
      · rw [e1, ha]; rintro a b ⟨h1, h2⟩; cases h1
      · rw [e1, ha]; rintro k1 a k2 b ⟨h1, h2⟩; cases h1
      · rw [e1, ha]; rintro k1 a1 a2 k2 b1 b2 ⟨h1, h2⟩; cases h1
      · rcases hop with ⟨rfl, rfl⟩ | ⟨rfl, rfl⟩ <;> exact .bool _
    have eqs := equal_ptr (P := P) (w := w) 9999 e hok hn
    cases a with
    | none =>
      simp only [readD, Option.some.injEq] at h
      have e1 : ρ x = .pointer none := hu.ptrN_inv
      cases b with
      | none => exact done e1 hu2.ptrN_inv ⟨_, rfl⟩ ⟨_, rfl⟩ h.symm (eqs.1 none)
      | some b =>
        obtain ⟨b', e2, hb⟩ := hu2.ptr_inv
        exact done e1 e2 ⟨_, rfl⟩ ⟨_, rfl⟩ h.symm (eqs.1 (some b'))
    | some a =>
      obtain ⟨a', e1, ha⟩ := hu.ptr_inv
      cases b with
      | none =>
        simp only [readD, Option.some.injEq] at h
        exact done (q := false) e1 hu2.ptrN_inv ⟨_, rfl⟩ ⟨_, rfl⟩ (by rw [← h]; cases neg <;> rfl) (eqs.2.1 a')
      | some b =>
        obtain ⟨b', e2, hb⟩ := hu2.ptr_inv
        simp only [readD] at h
        obtain ⟨h1, h2⟩ := chk_some h
        simp only [Option.some.injEq] at h2
        refine done e1 e2 ⟨_, rfl⟩ ⟨_, rfl⟩ h2.symm ?_
        rw [eqs.2.2]
        exact run_sameAddr R ha hb h1

theorem read_conv {dst : Option Tmp} {type : TypeId} {pos : String} {after : Array Edge} {guard : Option (Nat × Bool)} {s d : TypeId} {x : Operand} {ri : RI} {xs : List Operand} (hc : cOp P ⟨dst, .convert s d x, type, pos, after, guard⟩ = some (.read ri, xs)) : ReadOK P ⟨dst, .convert s d x, type, pos, after, guard⟩ ri xs := by
  intro w0 μ H w ρ vs v R hρ hv h
  simp only [cOp] at hc
  unfold cConv at hc
  split at hc
  case isTrue => cases hc
  unfold cConv0 at hc
  split at hc
  · cases hc
  · cases hc
  · cases hc
  · split at hc <;> (try split at hc) <;> cases hc
  · rename_i el e1 e2
    split at hc
    · rename_i e3
      simp only [Option.some.injEq, Prod.mk.injEq, CIns.read.injEq] at hc; obtain ⟨rfl, rfl⟩ := hc
      obtain ⟨u, rfl, hu⟩ := VRs.inv1 hv
      match u, hu, h with
      | .slice none n c, hu, h =>
        obtain ⟨rfl, rfl, e'⟩ := hu.slN_inv
        simp only [readD, Option.some.injEq] at h
        subst h
        refine ⟨_, run_v ?_, .string _⟩
        rw [e', convBytes_ok e1 e2 e3 (fun b h => by cases h) (fun k b h => by cases h)]
        rfl
      | .slice (some a) n c, hu, h =>
        obtain ⟨a', c', e', hl, ha⟩ := hu.sl_inv
        simp only [readD] at h
        split at h
        · rename_i h0
          subst h0
          simp only [Option.some.injEq] at h
          subst h
          refine ⟨_, run_v ?_, .string _⟩
          rw [e', convBytes_ok e1 e2 e3 (fun b h => by cases h) (fun k b h => by cases h)]
          rfl
        split at h
        · rename_i l hl
          split at h
          · rename_i r hr
            simp only [Option.some.injEq] at h
            subst h
            obtain ⟨l', h1, h2, h3⟩ := slice_ok R ha hl
            refine ⟨_, run_v ?_, .string _⟩
            rw [e', convBytes_ok e1 e2 e3 (fun b h => by cases h) (fun k b h => by cases h)]
            simp only [Conv.bytesToString, Sem.run_bind, h3, Result.andThen_ok, List.forIn_toArray]
            rw [bytes_loop (fun n s => rfl) l l' r _ h1 hr]
            simp only [Result.andThen_ok, Sem.run_pure]
            congr 2
          · cases h
        · cases h
    · rename_i e3
      simp only [Option.some.injEq, Prod.mk.injEq, CIns.read.injEq] at hc; obtain ⟨rfl, rfl⟩ := hc
      obtain ⟨u, rfl, hu⟩ := VRs.inv1 hv
      match u, hu, h with
      | .slice none n c, hu, h =>
        obtain ⟨rfl, rfl, e'⟩ := hu.slN_inv
        simp only [readD, Option.some.injEq] at h
        subst h
        refine ⟨_, run_v ?_, .string _⟩
        rw [e', convRunes_ok e1 e2 e3 (fun b h => by cases h) (fun k b h => by cases h)]
        rfl
      | .slice (some a) n c, hu, h =>
        obtain ⟨a', c', e', hl, ha⟩ := hu.sl_inv
        simp only [readD] at h
        split at h
        · rename_i h0
          subst h0
          simp only [Option.some.injEq] at h
          subst h
          refine ⟨_, run_v ?_, .string _⟩
          rw [e', convRunes_ok e1 e2 e3 (fun b h => by cases h) (fun k b h => by cases h)]
          rfl
        split at h
        · rename_i l hl
          split at h
          · rename_i r hr
            simp only [Option.some.injEq] at h
            subst h
            obtain ⟨l', h1, h2, h3⟩ := slice_ok R ha hl
            refine ⟨_, run_v ?_, .string _⟩
            rw [e', convRunes_ok e1 e2 e3 (fun b h => by cases h) (fun k b h => by cases h)]
            simp only [Conv.runesToString, Sem.run_bind, h3, Result.andThen_ok, List.forIn_toArray]
            rw [runes_loop (fun n s => rfl) l l' r _ h1 hr]
            simp only [Result.andThen_ok, Sem.run_pure]
            congr 2
          · cases h
        · cases h
    · cases hc
  · cases hc

theorem read_slice {dst : Option Tmp} {type : TypeId} {pos : String} {after : Array Edge} {guard : Option (Nat × Bool)} {t : TypeId} {x : Operand} {lo hi mx : Option Operand} {ri : RI} {xs : List Operand} (hc : cOp P ⟨dst, .slice t x lo hi mx, type, pos, after, guard⟩ = some (.read ri, xs)) : ReadOK P ⟨dst, .slice t x lo hi mx, type, pos, after, guard⟩ ri xs := by
  intro w0 μ H w ρ vs v R hρ hv h
  simp only [cOp] at hc
  unfold cSlice at hc
  have e3 : (x :: (lo.toList ++ hi.toList ++ mx.toList)).map ρ = ρ x :: ((lo.map ρ).toList ++ (hi.map ρ).toList ++ (mx.map ρ).toList) := by
    cases lo <;> cases hi <;> cases mx <;> rfl
  simp only at hc
  split at hc
  · split at hc <;> cases hc
  · rename_i el e
    split at hc
    · rename_i hok
      simp only [Option.some.injEq, Prod.mk.injEq, CIns.read.injEq] at hc; obtain ⟨rfl, rfl⟩ := hc
      rw [e3] at hv
      match vs, hv with
      | u :: vs, hv =>
        simp only [readD] at h
        obtain ⟨a, n, c, rfl, h1⟩ := asSl_some h
        cases a with
        | none =>
          obtain ⟨rfl, rfl, e'⟩ := hv.1.slN_inv
          have hb := bnds_ok (P := P) (w := w) (lo := lo.map ρ) (hi := hi.map ρ) (mx := mx.map ρ) (rc := 0) (isS := true) (Nat.le_refl _) (Nat.le_refl _) hv.2 (by simpa using h1)
          obtain ⟨l, hh, m, h2, h3, h4, h5, h6, h7⟩ := hb
          simp only [Option.some.injEq] at h2
          subst h2
          refine ⟨.slice none 0 0, run_v ?_, by rw [show hh - l = 0 by omega, show m - l = 0 by omega]; exact .slN⟩
          rw [e']
          simp only [Instr.sliceAt, Sem.run_bind, run_underlying e, Result.andThen_ok, Instr.slice, h7, run_sizeOf' (info_some hok), Sem.run_pure]
          have e1 : hh - l = 0 := by omega
          have e2 : (if (mx.map ρ).isSome = true then m else 0) - l = 0 := by split <;> omega
          rw [e1, e2]
          simp
        | some a =>
          obtain ⟨a', c', e', hl, ha⟩ := hv.1.sl_inv
          have hcc : c ≤ c' := by
            rcases ha with ⟨_, _, mb, _, _, q⟩ | ⟨_, _, q, q'⟩ <;> omega
          have hb := bnds_ok (P := P) (w := w) (lo := lo.map ρ) (hi := hi.map ρ) (mx := mx.map ρ) (rc := c') (isS := true) hl hcc hv.2 (by simpa using h1)
          obtain ⟨l, hh, m, h2, h3, h4, h5, h6, h7⟩ := hb
          obtain ⟨hk, h2⟩ := chk_some h2
          simp only [Option.some.injEq] at h2
          subst h2
          refine ⟨_, run_v ?_, subSl_ok R hl ha (mx := (mx.map ρ).isSome) h3 h4 h5 (fun hm => h6 (by simpa using hm)) (by simpa using hk)⟩
          rw [e']
          simp only [Instr.sliceAt, Sem.run_bind, run_underlying e, Result.andThen_ok, Instr.slice, h7, run_sizeOf' (info_some hok), Sem.run_pure]
          congr 2
          split <;> split <;> rfl
    · cases hc
  · split at hc <;> cases hc
  · split at hc <;> (try split at hc) <;> cases hc
  · cases hc

/-- EVERY INSTRUCTION THAT READS. -/
theorem read_ok {o : Oper} {ri : RI} {xs : List Operand} (hc : cOp P o = some (.read ri, xs)) : ReadOK P o ri xs := by
  obtain ⟨dst, op, type, pos, after, guard⟩ := o
  cases op
  case load t a =>
    simp only [cOp] at hc
    split at hc
    · rename_i ht
      simp only [Option.some.injEq, Prod.mk.injEq, CIns.read.injEq] at hc; obtain ⟨rfl, rfl⟩ := hc
      intro w0 μ H w ρ vs v R hρ hv h
      obtain ⟨u, rfl, hu⟩ := VRs.inv1 hv
      match u, hu, h with
      | .pointer (some a1), hu, h =>
        obtain ⟨a', e', ha⟩ := hu.ptr_inv
        obtain ⟨v', h1, h2⟩ := loadVar_ok R ht ha h
        refine ⟨v', run_v ?_, h2⟩
        rw [e']
        simp only [Instr.loadAt, Instr.sureAddr, Sem.run_bind, Sem.run_pure, Result.andThen_ok, h1]
    · cases hc
  case binOp => exact read_bin hc
  case convert => exact read_conv hc
  case slice => exact read_slice hc
  all_goals simp only [cOp] at hc
  all_goals first
    | (cases hc; done)
    | (split at hc <;> first | (cases hc; done) | (split at hc <;> first | (cases hc; done) | (split at hc <;> first | (cases hc; done) | (split at hc <;> cases hc))))
    | skip
  split at hc
  · unfold cBuiltin at hc
    repeat' split at hc
    all_goals cases hc
  all_goals cases hc
end
end Go.Cm

namespace Go.Cm
open Go

section
variable {P : Program} {w0 : Start} {μ : Mu} {H : Heap} {w : World}

/-- one more block is known -/
def Mu.add (μ : Mu) (b : Nat) (m : MB) : Mu := fun k => if k = b then some m else μ k

theorem Mu.add_same (μ : Mu) (b : Nat) (m : MB) : μ.add b m b = some m := if_pos rfl
theorem Mu.le_add {b : Nat} {m : MB} (h : μ b = none) : μ.le (μ.add b m) := by
  intro k x hk
  unfold Mu.add
  split
  · rename_i e; subst e; rw [h] at hk; cases hk
  · exact hk

/-- a new clean block, lying in a real block to which no clean block there leads -/
theorem RR.newAt (R : RR P w0 μ H w) {o : CObj} {o' : Obj} {m : MB} {w' : World} (hor : OR P μ m o o') (hlow : w0.heap.size ≤ m.blk)
    (hfree : ∀ b m1 o1, μ b = some m1 → H.get b = some o1 → m1.blk ≠ m.blk) (hsz : w.heap.size ≤ w'.heap.size) (hblk : w'.heap[m.blk]? = some o') (hkeep : ∀ k, k ≠ m.blk → k < w.heap.size → w'.heap[k]? = w.heap[k]?) (hio : w'.os = w.os ∧ w'.output = w.output := by exact ⟨rfl, rfl⟩) :
    RR P w0 (μ.add H.next m) (H.new o) w' ∧ Ext μ H (μ.add H.next m) (H.new o) := by
  have hle : μ.le (μ.add H.next m) := Mu.le_add (R.fresh _ (Nat.le_refl _))
  have hlt : m.blk < w'.heap.size := by
    rcases Nat.lt_or_ge m.blk w'.heap.size with h | h
    · exact h
    · rw [Array.getElem?_eq_none h] at hblk; cases hblk
  refine ⟨⟨?_, ?_, ?_, ?_, ?_, R.nle, (fun b hb => let ⟨m1, h1, h2, h3⟩ := R.idn b hb; ⟨m1, hle _ _ h1, h2, h3⟩), ?_, ?_, ?_, ?_, ⟨hio.1.trans R.io.1, hio.2.trans R.io.2⟩⟩, ⟨hle, ?_, by simp⟩⟩
  · intro b m1 o1 h1 h2
    rw [Heap.get_new] at h2
    unfold Mu.add at h1
    by_cases e : b = H.next
    · rw [if_pos e] at h1 h2
      cases h1; cases h2
      exact ⟨o', hblk, hor.mono hle⟩
    · rw [if_neg e] at h1 h2
      obtain ⟨o2, h3, h4⟩ := R.obj b m1 o1 h1 h2
      exact ⟨o2, by rw [hkeep _ (hfree _ _ _ h1 h2) (R.blk _ _ h1)]; exact h3, h4.mono hle⟩
  · intro b1 b2 m1 m2 o1 o2 n1 n2 h1 h2 h3 h4 h5
    rw [Heap.get_new] at h3 h4
    unfold Mu.add at h1 h2
    by_cases e1 : b1 = H.next <;> by_cases e2 : b2 = H.next
    · rw [e1, e2]
    · rw [if_pos e1] at h1 h3
      rw [if_neg e2] at h2 h4
      cases h1
      exact absurd h5.symm (hfree _ _ _ h2 h4)
    · rw [if_neg e1] at h1 h3
      rw [if_pos e2] at h2 h4
      cases h2
      exact absurd h5 (hfree _ _ _ h1 h3)
    · rw [if_neg e1] at h1 h3
      rw [if_neg e2] at h2 h4
      exact R.inj _ _ _ _ _ _ n1 n2 h1 h2 h3 h4 h5
  · intro b hb
    simp only [Heap.next_new] at hb
    unfold Mu.add
    rw [if_neg (by omega)]
    exact R.fresh _ (by omega)
  · intro b m1 h1
    unfold Mu.add at h1
    split at h1
    · cases h1; exact hlt
    · exact Nat.lt_of_lt_of_le (R.blk _ _ h1) hsz
  · exact Nat.le_trans R.size hsz
  · intro b m1 h1
    unfold Mu.add at h1
    split at h1
    · rename_i e
      cases h1
      have := R.lown
      exact .inr ⟨by omega, hlow⟩
    · exact R.low _ _ h1
  · have := R.lown; simp; omega
  · intro b hb
    rw [hkeep _ (by omega) (Nat.lt_of_lt_of_le hb R.size)]
    exact R.base b hb
  · intro b o1 hb h1
    have := R.lown
    rw [Heap.get_new, if_neg (by omega)] at h1
    exact R.still _ _ hb h1
  · intro b hb h1
    refine ⟨?_, Heap.get_new_ne _ _ (by omega)⟩
    unfold Mu.add
    rw [if_neg (by omega)]
    exact h1

/-- a new clean block in a new real one -/
theorem RR.new (R : RR P w0 μ H w) {o : CObj} {o' : Obj} {m : MB} {w' : World} (hm : m.blk = w.heap.size) (hor : OR P μ m o o') (hw : w'.heap = w.heap.push o') (hio : w'.os = w.os ∧ w'.output = w.output := by exact ⟨rfl, rfl⟩) :
    RR P w0 (μ.add H.next m) (H.new o) w' ∧ Ext μ H (μ.add H.next m) (H.new o) :=
  R.newAt hor (by rw [hm]; exact R.size) (fun b m1 o1 h1 _ => by have := R.blk _ _ h1; omega) (by rw [hw]; simp) (by rw [hw, hm]; simp) (fun k h1 h2 => by
    rw [hw, Array.getElem?_push_lt h2, Array.getElem?_eq_getElem h2]) hio

theorem RR.put (R : RR P w0 μ H w) {b : Nat} {m : MB} {o o2 : CObj} {o' : Obj} {w' : World} (hm : μ b = some m) (hg : H.get b = some o) (hlow : w0.heap.size ≤ m.blk) (hor : OR P μ m o2 o')
    (hw : w'.heap = w.heap.setIfInBounds m.blk o') (hio : w'.os = w.os ∧ w'.output = w.output := by exact ⟨rfl, rfl⟩) : RR P w0 μ (H.put b o2) w' ∧ Ext μ H μ (H.put b o2) := by
  have hbk := R.blk _ _ hm
  have hb0 : w0.n0 ≤ b := (R.high hm).2 hlow
  have hal : ∀ k o1, (H.put b o2).get k = some o1 → ∃ o3, H.get k = some o3 := by
    intro k o1 h
    rw [Heap.get_put] at h
    split at h
    · rename_i e; subst e; exact ⟨_, hg⟩
    · exact ⟨_, h⟩
  refine ⟨⟨?_, ?_, R.fresh, ?_, ?_, R.nle, R.idn, R.low, R.lown, ?_, ?_, ⟨hio.1.trans R.io.1, hio.2.trans R.io.2⟩⟩, ⟨Mu.le_refl μ, ?_, Nat.le_refl _⟩⟩
  · intro k m1 o1 h1 h2
    by_cases e : k = b
    · subst e
      rw [hm] at h1
      cases h1
      rw [Heap.get_put_same] at h2
      cases h2
      exact ⟨o', by rw [hw]; simp [hbk], hor⟩
    · rw [Heap.get_put_ne _ _ e] at h2
      obtain ⟨o3, h3, h4⟩ := R.obj k m1 o1 h1 h2
      refine ⟨o3, ?_, h4⟩
      rw [hw, Array.getElem?_setIfInBounds_ne]
      · exact h3
      · intro hc
        exact e (R.inj' h1 hm h2 hg hc.symm hlow)
  · intro b1 b2 m1 m2 o1 o2 n1 n2 h1 h2 h3 h4 h5
    obtain ⟨_, h3⟩ := hal _ _ h3
    obtain ⟨_, h4⟩ := hal _ _ h4
    exact R.inj _ _ _ _ _ _ n1 n2 h1 h2 h3 h4 h5
  · intro k m1 h1; rw [hw]; simpa using R.blk _ _ h1
  · rw [hw]; simpa using R.size
  · intro k hk
    rw [hw, Array.getElem?_setIfInBounds_ne (by omega)]
    exact R.base k hk
  · intro k o1 hk h1
    rw [Heap.get_put_ne _ _ (by omega)] at h1
    exact R.still _ _ hk h1
  · intro k hk h1
    refine ⟨h1, Heap.get_put_ne _ _ ?_⟩
    intro e; subst e; rw [hm] at h1; cases h1

theorem RR.kill (R : RR P w0 μ H w) {b : Nat} {m : MB} (hm : μ b = some m) : RR P w0 μ (H.kill b) w ∧ Ext μ H μ (H.kill b) := by
  have hal : ∀ {k o1}, (H.kill b).get k = some o1 → H.get k = some o1 := by
    intro k o1 h
    rw [Heap.get_kill] at h
    split at h
    · cases h
    · exact h
  refine ⟨⟨fun k m1 o1 h1 h2 => R.obj k m1 o1 h1 (hal h2), fun b1 b2 m1 m2 o1 o2 n1 n2 h1 h2 h3 h4 => R.inj _ _ _ _ _ _ n1 n2 h1 h2 (hal h3) (hal h4), R.fresh, R.blk, R.size, R.nle, R.idn, R.low, R.lown, R.base,
    fun k o1 hk h1 => R.still _ _ hk (hal h1), R.io⟩, ⟨Mu.le_refl μ, fun k hk h1 => ⟨h1, Heap.get_kill_ne _ ?_⟩, Nat.le_refl _⟩⟩
  intro e; subst e; rw [hm] at h1; cases h1

/-- a closed block -/
theorem OR.closed {blk : Nat} {e : TypeId} {l l' : List Value} (h : VRs μ l l') (ho : ∀ v ∈ l, one v = true) :
    OR P μ ⟨blk, 0, l.length, l.length, P.cellsOf e, false⟩ (.cells l e false 0 false) (.cells l'.toArray e (0, 0)) := by
  refine ⟨rfl, ⟨rfl, Nat.zero_le _⟩, rfl, rfl, by simpa using h.length.symm, by simp, fun _ _ => ⟨rfl, rfl⟩, ?_, by simp, by simp⟩
  intro i v hv
  obtain ⟨v', h1, h2⟩ := h.get i v hv
  refine ⟨ho v (List.mem_of_getElem? hv), v', by simpa using h1, h2⟩

/-- an open block -/
theorem OR.opened {blk : Nat} {e : TypeId} {l l' rest : List Value} {fr : Nat × Nat} {s : Bool} {fz : Nat} (h : VRs μ l l') (ho : ∀ v ∈ l, one v = true) (hz : fz ≤ l.length) (hfr : fr = (0, 0) ∨ (s = true ∧ fr = ((l' ++ rest).length, (l' ++ rest).length + 1))) :
    OR P μ ⟨blk, 0, l.length, (l' ++ rest).length, P.cellsOf e, true⟩ (.cells l e true fz s) (.cells (l' ++ rest).toArray e fr) := by
  have hl := h.length
  refine ⟨rfl, ⟨rfl, hz⟩, rfl, rfl, by simp, by simp; omega, (fun h => by cases h), ?_, ?_, ?_⟩
  · intro i v hv
    obtain ⟨v', h1, h2⟩ := h.get i v hv
    refine ⟨ho v (List.mem_of_getElem? hv), v', ?_, h2⟩
    have hi : i < l'.length := by
      rcases Nat.lt_or_ge i l'.length with h | h
      · exact h
      · rw [List.getElem?_eq_none h] at h1; cases h1
    simp only [Nat.add_zero, List.getElem?_toArray, List.getElem?_append_left hi]
    exact h1
  · intro j hj _ _
    rcases hfr with rfl | ⟨_, rfl⟩
    · simp
    · simp only at hj ⊢; omega
  · intro hs
    rcases hfr with rfl | ⟨h, _⟩
    · simp
    · rw [hs] at h; cases h

theorem run_newVar {t : TypeId} {v : Value} : (newVar t v).run P w = .ok ⟨w.heap.size, 0, none⟩ { w with heap := w.heap.push (.cells v.cells t) } := by
  simp [newVar, newRow]

/-- cells stored one by one -/
theorem run_storeCells {b : Nat} {e : TypeId} {fr : Nat × Nat} : ∀ (l : List Value) (i off : Nat) (c : Array Value) (w : World), w.heap[b]? = some (.cells c e fr) → off + i + l.length ≤ c.size →
    (∀ j, off + i ≤ j → j < off + i + l.length → ¬ (fr.1 ≤ j ∧ j < fr.2)) → (∀ v ∈ l, one v = true) →
    (storeCells ⟨b, off, none⟩ l i).run P w = .ok () (if l = [] then w else { w with heap := w.heap.setIfInBounds b (.cells (splice c.toList (off + i) l).toArray e fr) })
  | [], i, off, c, w, _, _, _, _ => by simp [storeCells]
  | v :: l, i, off, c, w, hb, hl, hf, ho => by
    simp only [List.length_cons] at hl hf
    have e1 : (⟨b, off, none⟩ : Addr).add i = ⟨b, off + i, none⟩ := by rw [ap_eq rfl]; rfl
    have hlt : b < w.heap.size := by
      rcases Nat.lt_or_ge b w.heap.size with h | h
      · exact h
      · rw [Array.getElem?_eq_none h] at hb; cases hb
    have hc : w.cell? ⟨b, off + i, none⟩ = some c[off + i] := by
      unfold World.cell?
      simp only [hb, Option.isSome_none, Bool.false_eq_true, if_false]
      exact Array.getElem?_eq_getElem (by omega)
    have hz : w.frozen? ⟨b, off + i, none⟩ = false := by
      unfold World.frozen?
      simp only [hb]
      have := hf (off + i) (by omega) (by omega)
      simpa using this
    have hov : v.oneCell' = true := by
      have := ho v (by simp)
      cases v <;> simp_all [one, Value.oneCell']
    have hw : w.setCell ⟨b, off + i, none⟩ v = { w with heap := w.heap.setIfInBounds b (.cells (c.setIfInBounds (off + i) v) e fr) } := by
      unfold World.setCell
      congr 1
      apply Array.ext_getElem?
      intro k
      rw [Array.getElem?_modify, Array.getElem?_setIfInBounds]
      by_cases hk : b = k
      · subst hk
        simp only [hb, hlt, if_true, Option.map_some]
        simp
      · simp [hk]
    simp only [storeCells, Sem.run_bind, e1, run_store P w _ v .plain hov, hc, hz, Result.andThen_ok, hw, Bool.false_eq_true, if_false]
    have hb2 : ({ w with heap := w.heap.setIfInBounds b (.cells (c.setIfInBounds (off + i) v) e fr) } : World).heap[b]? = some (.cells (c.setIfInBounds (off + i) v) e fr) := by
      simp [hlt]
    rw [run_storeCells l (i + 1) off _ _ hb2 (by simp; omega) (fun j h1 h2 => hf j (by omega) (by omega)) (fun x hx => ho x (by simp [hx]))]
    have hne : ¬ (v :: l = []) := by simp
    rw [if_neg hne]
    have e2 : (c.setIfInBounds (off + i) v).toList = c.toList.set (off + i) v := by simp
    by_cases hn : l = []
    · subst hn
      simp only [if_true]
      congr 3
      simp only [splice]
      have : c.toList.set (off + i) v = c.toList.take (off + i) ++ [v] ++ c.toList.drop (off + i + 1) := by
        rw [List.set_eq_take_append_cons_drop]
        simp; omega
      have h3 : c.setIfInBounds (off + i) v = (c.toList.set (off + i) v).toArray := by rw [← e2]
      rw [h3, this]
      simp
    · rw [if_neg hn]
      congr 1
      rw [e2, ← Nat.add_assoc, splice_cons _ _ _ _ (by simp; omega)]
      simp

end
end Go.Cm

namespace Go.Cm
open Go

/-- what lands in the temporary -/
def nxv : Next → Option Value
  | .value v => some v
  | .skip => some undef
  | _ => none

/-- what is shown of an instruction that turns memory -/
def EffOK (P : Program) (o : Oper) (e : EI) (xs : List Operand) : Prop :=
  ∀ (w0 : Start) (μ : Mu) (H : Heap) (w : World) (ρ : Operand → Value) (vs : List Value) (K : Value → Heap → Res) (r : Value × Heap), RR P w0 μ H w → (∀ v, ρ (.const v) = v) → VRs μ vs (xs.map ρ) → effK e vs H K = some r →
    ∃ v H' μ' v' nx w', K v H' = some r ∧ (execOp ρ o).run P w = .ok nx w' ∧ nxv nx = some v' ∧ VR μ' v v' ∧ RR P w0 μ' H' w' ∧ Ext μ H μ' H'

section
variable {P : Program} {w0 : Start} {μ : Mu} {H : Heap} {w : World}

theorem VR.undef (μ : Mu) : VR μ (.tuple #[]) Go.undef := .tuple rfl (fun i h => by simp at h)

/-- a pointer to the new block -/
theorem AR.new {m : MB} {b : Nat} (hs : m.sh = 0) : AR (μ.add b m) ⟨b, 0, none⟩ ⟨m.blk, 0, none⟩ := ⟨rfl, rfl, m, Mu.add_same _ _ _, rfl, by simp [hs]⟩

/-- a row of plain cells made -/
theorem new_closed (R : RR P w0 μ H w) {e : TypeId} {l l' : List Value} (h : VRs μ l l') (ho : ∀ v ∈ l, one v = true) :
    ∃ m, m.blk = w.heap.size ∧ m.sh = 0 ∧ RR P w0 (μ.add H.next m) (H.new (.cells l e false 0 false)) { w with heap := w.heap.push (.cells l'.toArray e (0, 0)) } ∧ Ext μ H (μ.add H.next m) (H.new (.cells l e false 0 false)) := by
  obtain ⟨h1, h2⟩ := R.new (o := .cells l e false 0 false) (w' := { w with heap := w.heap.push (.cells l'.toArray e (0, 0)) }) (m := ⟨w.heap.size, 0, l.length, l.length, P.cellsOf e, false⟩) rfl (OR.closed h ho) rfl
  exact ⟨_, rfl, rfl, h1, h2⟩

theorem rep_length (z : List Value) : ∀ n, (rep z n).length = n * z.length
  | 0 => by simp [rep]
  | n + 1 => by simp [rep, rep_length z n, Nat.add_mul]; omega

theorem rep_mem {z : List Value} {v : Value} : ∀ {n : Nat}, v ∈ rep z n → v ∈ z
  | 0, h => by simp [rep] at h
  | n + 1, h => by
    simp only [rep, List.mem_append] at h
    exact h.elim id rep_mem

theorem rep_get {z : List Value} : ∀ (n i : Nat), i < n * z.length → (rep z n)[i]? = z[i % z.length]?
  | 0, i, h => by simp at h
  | n + 1, i, h => by
    simp only [rep]
    by_cases hi : i < z.length
    · rw [List.getElem?_append_left hi, Nat.mod_eq_of_lt hi]
    · rw [List.getElem?_append_right (by omega), rep_get n _ (by rw [Nat.add_mul] at h; omega)]
      congr 1
      conv => rhs; rw [show i = (i - z.length) + z.length by omega, Nat.add_mod_right]

theorem rep_eq (z : List Value) (n : Nat) : (Array.range (n * z.length)).map (fun i => z.toArray[i % z.toArray.size]!) = (rep z n).toArray := by
  apply Array.ext_getElem?
  intro i
  have e0 : (rep z n).toArray[i]? = (rep z n)[i]? := by simp
  rw [e0, Array.getElem?_map]
  by_cases hi : i < n * z.length
  · have hz : i % z.length < z.length := Nat.mod_lt _ (by
      rcases Nat.eq_zero_or_pos z.length with h | h
      · rw [h] at hi; simp at hi
      · exact h)
    rw [rep_get n i hi, Array.getElem?_eq_getElem (by simpa using hi)]
    simp [hz]
  · rw [Array.getElem?_eq_none (by simpa using hi), List.getElem?_eq_none (by rw [rep_length]; omega)]
    rfl

theorem VRs.rep {z : List Value} (hz : z.all plain = true) (n : Nat) : VRs μ (Cm.rep z n) (Cm.rep z n) :=
  VRs.of_plain (List.all_eq_true.2 fun v hv => List.all_eq_true.1 hz v (rep_mem hv))
theorem rep_one {z : List Value} (hz : z.all plain = true) (n : Nat) : ∀ v ∈ Cm.rep z n, one v = true := fun v hv => one_of_plain (List.all_eq_true.1 hz v (rep_mem hv))

theorem eff_alloc {dst : Option Tmp} {type : TypeId} {pos : String} {after : Array Edge} {guard : Option (Nat × Bool)} {t : TypeId} {ei : EI} {xs : List Operand}
    (hc : cOp P ⟨dst, .alloc t, type, pos, after, guard⟩ = some (.eff ei, xs)) : EffOK P ⟨dst, .alloc t, type, pos, after, guard⟩ ei xs := by
  intro w0 μ H w ρ vs K r R hρ hv h
  simp only [cOp] at hc
  split at hc
  · rename_i z hz
    simp only [Option.some.injEq, Prod.mk.injEq, CIns.eff.injEq] at hc; obtain ⟨rfl, rfl⟩ := hc
    match vs, hv, h with
    | [], hv, h =>
      simp only [effK] at h
      obtain ⟨z1, z2, z3, z4, z5⟩ := run_zeroValue (w := w) hz
      have ho : ∀ v ∈ z, one v = true := fun v hv => one_of_plain (List.all_eq_true.1 z2 v hv)
      obtain ⟨m, hm, hs, R', E'⟩ := new_closed R (e := t) (VRs.of_plain z2) ho
      refine ⟨_, _, _, _, .value _, _, h, ?_, rfl, .ptr (AR.new hs), R', E'⟩
      rw [hm]
      simp only [execOp, Instr.alloc, Sem.run_bind, z1, Result.andThen_ok, run_newVar, Sem.run_pure, cells_valT z4 ho]
  · cases hc

theorem eff_box {dst : Option Tmp} {type : TypeId} {pos : String} {after : Array Edge} {guard : Option (Nat × Bool)} {t : TypeId} {x : Operand} {ei : EI} {xs : List Operand}
    (hc : cOp P ⟨dst, .box t x, type, pos, after, guard⟩ = some (.eff ei, xs)) : EffOK P ⟨dst, .box t x, type, pos, after, guard⟩ ei xs := by
  intro w0 μ H w ρ vs K r R hρ hv h
  simp only [cOp, Option.some.injEq, Prod.mk.injEq, CIns.eff.injEq] at hc; obtain ⟨rfl, rfl⟩ := hc
  obtain ⟨u, rfl, hu⟩ := VRs.inv1 hv
  simp only [effK] at h
  split at h
  · rename_i ho
    obtain ⟨m, hm, hs, R', E'⟩ := new_closed R (e := t) hu.cellsL (fun v hv => List.all_eq_true.1 ho v hv)
    refine ⟨_, _, _, _, .value _, _, h, ?_, rfl, .ptr (AR.new hs), R', E'⟩
    rw [hm]
    simp only [execOp, Instr.box, Sem.run_bind, Result.andThen_ok, run_newVar, Sem.run_pure, cells_eq]
  · cases h

/-- a slice over the whole of a new closed row -/
theorem VR.newSlice {m : MB} {b len cap : Nat} (hs : m.sh = 0) (hl : len ≤ cap) : VR (μ.add b m) (.slice (some ⟨b, 0, none⟩) len cap) (.slice (some ⟨m.blk, 0, none⟩) len cap) :=
  .sl hl (.inl ⟨rfl, rfl, m, Mu.add_same _ _ _, rfl, .inl ⟨by simp [hs], rfl⟩⟩)

theorem eff_buildSl {dst : Option Tmp} {type : TypeId} {pos : String} {after : Array Edge} {guard : Option (Nat × Bool)} {t : TypeId} {len : Nat} {ps : Array (Nat × Operand)} {ei : EI} {xs : List Operand}
    (hc : cOp P ⟨dst, .buildSlice t len ps, type, pos, after, guard⟩ = some (.eff ei, xs)) : EffOK P ⟨dst, .buildSlice t len ps, type, pos, after, guard⟩ ei xs := by
  intro w0 μ H w ρ vs K r R hρ hv h
  simp only [cOp] at hc
  split at hc
  · rename_i el e
    split at hc
    · rename_i z hz
      split at hc
      · rename_i hk
        simp only [Option.some.injEq, Prod.mk.injEq, CIns.eff.injEq] at hc; obtain ⟨rfl, rfl⟩ := hc
        obtain ⟨z1, z2, z3, z4, z5⟩ := run_zeroValue (w := w) hz
        obtain ⟨e1, e2, e3⟩ := rowParts_ok (size := P.cellsOf el) (l := ps.toList)
        simp only [effK] at h
        obtain ⟨cs, h1, h2⟩ := optK_some h
        rw [e1] at hv
        obtain ⟨r', f1, f2, f3, f4⟩ := fill_ok (place := fun i => some (i * P.cellsOf el, P.cellsOf el)) (is := ps.toList.map (·.1)) hv (VRs.rep z2 len) (rep_one z2 len) (by simp [e2]) e3 h1
        obtain ⟨m, hm, hs, R', E'⟩ := new_closed R (e := el) f2 f3
        refine ⟨_, _, _, _, .value _, _, h2, ?_, rfl, VR.newSlice hs (Nat.le_refl _), R', E'⟩
        rw [hm]
        have f1' : Instr.fill (fun i => some (i * P.cellsOf el, P.cellsOf el)) (rep z len).toArray ((ps.map fun (p : Nat × Operand) => (p.1, ρ p.2)).toList) = some r'.toArray := by
          rw [Array.toList_map, zip_map]; exact f1
        have ho : ∀ v ∈ z, one v = true := fun v hv => one_of_plain (List.all_eq_true.1 z2 v hv)
        simp only [execOp, Instr.buildSlice, Sem.run_bind, run_underlying e, Result.andThen_ok, run_sizeOf' z5]
        rw [if_neg (by omega)]
        by_cases hl : len * P.cellsOf el = 0
        · have : rep z len = [] := List.length_eq_zero_iff.1 (by rw [rep_length, z3]; exact hl)
          rw [this] at f1'
          rw [if_pos hl, hl]
          have e0 : ∀ f : Nat → Value, (Array.range 0).map f = #[] := fun f => by simp
          simp only [Sem.run_bind, Sem.run_pure, Result.andThen_ok, e0]
          have f2' : Instr.fill (fun i => some (i * P.cellsOf el, P.cellsOf el)) #[] ((ps.map fun (p : Nat × Operand) => (p.1, ρ p.2)).toList) = some r'.toArray := f1'
          simp only [f2', Sem.run_bind, newRow, run_newObj, Result.andThen_ok, Sem.run_pure]
        · rw [if_neg hl]
          have hr := rep_eq z len
          rw [z3] at hr
          simp only [Sem.run_bind, z1, Result.andThen_ok, Sem.run_pure, cells_valT z4 ho, hr, f1', newRow, run_newObj]
      · cases hc
    · cases hc
  · cases hc

end
end Go.Cm

namespace Go.Cm
open Go

section
variable {P : Program} {w0 : Start} {μ : Mu} {H : Heap} {w : World}

theorem eff_mkSl {dst : Option Tmp} {type : TypeId} {pos : String} {after : Array Edge} {guard : Option (Nat × Bool)} {t : TypeId} {l c : Operand} {ei : EI} {xs : List Operand}
    (hc : cOp P ⟨dst, .makeSlice t l c, type, pos, after, guard⟩ = some (.eff ei, xs)) : EffOK P ⟨dst, .makeSlice t l c, type, pos, after, guard⟩ ei xs := by
  intro w0 μ H w ρ vs K r R hρ hv h
  simp only [cOp] at hc
  split at hc
  · rename_i el e
    split at hc
    · rename_i z hz
      split at hc
      · rename_i hk
        simp only [Option.some.injEq, Prod.mk.injEq, CIns.eff.injEq] at hc; obtain ⟨rfl, rfl⟩ := hc
        obtain ⟨u, v, rfl, hu, hu2⟩ := VRs.inv2 hv
        simp only [effK] at h
        obtain ⟨k1, a, rfl, h1⟩ := asN_some h
        obtain ⟨k2, b, rfl, h2⟩ := asN_some h1
        split at h2
        · rename_i hb
          obtain ⟨b1, b2, b3, b4⟩ := hb
          obtain ⟨z1, z2, z3, z4, z5⟩ := run_zeroValue (w := w) hz
          have ho : ∀ v ∈ z, one v = true := fun v hv => one_of_plain (List.all_eq_true.1 z2 v hv)
          obtain ⟨m, hm, hs, R', E'⟩ := new_closed R (e := el) (VRs.rep z2 b.toNat) (rep_one z2 b.toNat)
          refine ⟨_, _, _, _, .value _, _, h2, ?_, rfl, VR.newSlice hs (by omega), R', E'⟩
          rw [hm]
          obtain ⟨i, hi⟩ := Option.isSome_iff_exists.1 z5
          have hby : P.bytesOf el = i.bytes := by simp [Program.bytesOf, hi]
          have w1 : IntKind.i64.wrap a = a := by simp only [IntKind.wrap, IntKind.bits, IntKind.signed]; simp; omega
          have w2 : IntKind.i64.wrap b = b := by simp only [IntKind.wrap, IntKind.bits, IntKind.signed]; simp; omega
          simp only [execOp, hu.int_inv, hu2.int_inv, Instr.makeSlice, Sem.run_bind, run_underlying e, Result.andThen_ok, asInt, asIntOf, Sem.run_pure, typeInfo, run_program, hi, w1, w2]
          have c1 : ((decide (b < 0) || decide ((i.bytes : Int) * b > 2 ^ 48)) || decide (a < 0) || decide (a > b)) = false := by
            rw [hby] at b3
            have : (i.bytes : Int) * b ≤ 140737488355328 := by rw [Int.mul_comm]; exact b3
            simp; omega
          rw [if_neg (by rw [c1]; simp)]
          simp only [Sem.run_bind, run_askRoom, Result.andThen_ok, run_sizeOf hi]
          have hsz : P.cellsOf el = i.size := by simp [Program.cellsOf, hi]
          by_cases hl : b.toNat * i.size = 0
          · have : rep z b.toNat = [] := List.length_eq_zero_iff.1 (by rw [rep_length, z3, hsz]; exact hl)
            rw [if_pos hl, hl, this]
            have e0 : ∀ f : Nat → Value, (Array.range 0).map f = #[] := fun f => by simp
            simp only [Sem.run_bind, Sem.run_pure, Result.andThen_ok, e0, newRow, run_newObj]
          · rw [if_neg hl]
            have hr := rep_eq z b.toNat
            rw [z3, hsz] at hr
            simp only [Sem.run_bind, z1, Result.andThen_ok, Sem.run_pure, cells_valT z4 ho, hr, newRow, run_newObj]
        · cases h2
      · cases hc
    · cases hc
  · cases hc

/-- cells written into a known block -/
theorem st_ok (R : RR P w0 μ H w) {a a' : Addr} {l l' : List Value} {H' : Heap} (ha : AR μ a a') (hl : VRs μ l l') (ho : ∀ v ∈ l, one v = true) (hne : l ≠ []) (h : H.stN a l = some H') :
    ∃ w', (storeCells a' l').run P w = .ok () w' ∧ RR P w0 μ H' w' ∧ Ext μ H μ H' := by
  obtain ⟨h1, h2, m, h3, h4, h5⟩ := ha
  unfold Heap.stN at h
  split at h
  · rename_i c e o fz s hg
    split at h
    · rename_i hb
      obtain ⟨hb1, hb2⟩ := hb
      simp only [Option.some.injEq] at h
      subst h
      obtain ⟨c', fr, g1, g2⟩ := lookup_cells R h3 hg
      obtain ⟨_, ⟨gl, gz⟩, go, ge, gs, gi, gc, g3, g4, g5⟩ := g2
      obtain ⟨ab, ao, as⟩ := a'
      simp only at h2 h4 h5
      subst h2 h4 h5
      have hlen := hl.length
      have hpos : 0 < l.length := List.length_pos_iff.2 hne
      have hrun := run_storeCells (P := P) (fr := fr) (e := e) (b := m.blk) l' 0 (a.off + m.sh) c' w g1 (by rw [← hlen, gs]; omega) (fun j j1 j2 => g4 j (by rw [← hlen] at j2; omega) (by omega) (fun _ => by rw [← hlen] at j2; omega)) (fun v hv => by
        obtain ⟨i, hi, rfl⟩ := List.mem_iff_getElem.1 hv
        have hi' : i < l.length := by omega
        obtain ⟨v', e1, e2⟩ := hl.get i _ (List.getElem?_eq_getElem hi')
        rw [List.getElem?_eq_getElem hi] at e1
        cases e1
        rw [e2.one_eq]
        exact ho _ (List.getElem_mem hi'))
      have hne' : l' ≠ [] := by intro hc; rw [hc] at hlen; simp at hlen; exact hne hlen
      rw [if_neg hne'] at hrun
      have hlow : w0.heap.size ≤ m.blk := by
        refine R.own h3 hg ?_
        intro c0 e0 h0
        injection h0 with e1 e2 e3 e4 e5
        subst e1
        omega
      have hput := R.put (o2 := .cells (splice c a.off l) e o fz s) (w' := { w with heap := w.heap.setIfInBounds m.blk (.cells (splice c'.toList (a.off + m.sh + 0) l').toArray e fr) }) h3 hg hlow
        (o' := .cells (splice c'.toList (a.off + m.sh + 0) l').toArray e fr) ?_ rfl
      · exact ⟨_, hrun, hput.1, hput.2⟩
      · refine ⟨rfl, by rw [splice_length hb1]; exact ⟨gl, gz⟩, go, ge, ?_, gi, gc, ?_, g4, g5⟩
        · simp only [List.size_toArray]
          rw [splice_length (by simp only [Array.length_toList]; omega)]
          simpa using gs
        · intro i v hv
          have hi : i < c.length := by
            rcases Nat.lt_or_ge i (splice c a.off l).length with hx | hx
            · rwa [splice_length hb1] at hx
            · rw [List.getElem?_eq_none hx] at hv; cases hv
          simp only [Nat.add_zero, List.getElem?_toArray]
          have q1 : ∀ {x y : List Value} {off k : Nat}, off + y.length ≤ x.length → (splice x off y)[k]? = if k < off then x[k]? else if k < off + y.length then y[k - off]? else x[k]? := by
            intro x y off k hxy
            unfold splice
            have l1 : (x.take off).length = off := by simp; omega
            by_cases hk : k < off
            · rw [if_pos hk, List.append_assoc, List.getElem?_append_left (by omega), List.getElem?_take_of_lt hk]
            · rw [if_neg hk, List.append_assoc, List.getElem?_append_right (by omega), l1]
              by_cases hk2 : k < off + y.length
              · rw [if_pos hk2, List.getElem?_append_left (by omega)]
              · rw [if_neg hk2, List.getElem?_append_right (by omega), List.getElem?_drop]
                congr 1
                omega
          rw [q1 hb1] at hv
          rw [q1 (by simp only [Array.length_toList]; omega)]
          by_cases k1 : i < a.off
          · rw [if_pos k1] at hv
            rw [if_pos (by omega)]
            simpa using g3 i v hv
          · rw [if_neg k1] at hv
            rw [if_neg (by omega)]
            by_cases k2 : i < a.off + l.length
            · rw [if_pos k2] at hv
              rw [if_pos (by omega)]
              obtain ⟨v', e1, e2⟩ := hl.get _ v hv
              refine ⟨ho v (List.mem_of_getElem? hv), v', ?_, e2⟩
              rw [← e1]
              congr 1
              omega
            · rw [if_neg k2] at hv
              rw [if_neg (by omega)]
              simpa using g3 i v hv
    · cases h
  · cases h

theorem st1_stN {a : Addr} {v : Value} {H' : Heap} (h : H.st1 a v = some H') : H.stN a [v] = some H' := by
  unfold Heap.st1 at h
  unfold Heap.stN
  split at h
  · rename_i c e o fz s hg
    simp only [List.length_cons, List.length_nil]
    split at h
    · rename_i hb
      rw [if_pos (by omega)]
      simp only [Option.some.injEq] at h ⊢
      rw [← h]
      congr 2
      unfold splice
      rw [List.set_eq_take_append_cons_drop, if_pos hb.1]
      simp
    · cases h
  · cases h

theorem eff_store {dst : Option Tmp} {type : TypeId} {pos : String} {after : Array Edge} {guard : Option (Nat × Bool)} {t : TypeId} {a y : Operand} {ei : EI} {xs : List Operand}
    (hc : cOp P ⟨dst, .store t a y, type, pos, after, guard⟩ = some (.eff ei, xs)) : EffOK P ⟨dst, .store t a y, type, pos, after, guard⟩ ei xs := by
  intro w0 μ H w ρ vs K r R hρ hv h
  simp only [cOp] at hc
  split at hc
  · rename_i hok
    simp only [Option.some.injEq, Prod.mk.injEq, CIns.eff.injEq] at hc; obtain ⟨rfl, rfl⟩ := hc
    obtain ⟨u, v, rfl, hu, hu2⟩ := VRs.inv2 hv
    match u, hu, h with
    | .pointer (some a1), hu, h =>
      obtain ⟨a', e', ha⟩ := hu.ptr_inv
      have hcl := hu2.cellsL
      have main : ∀ {H'}, (cellsL v).length = P.cellsOf t → (∀ x ∈ cellsL v, one x = true) → cellsL v ≠ [] → H.stN a1 (cellsL v) = some H' → K (.tuple #[]) H' = some r →
          ∃ v2 H' μ' v' nx w', K v2 H' = some r ∧ (execOp ρ ⟨dst, .store t a y, type, pos, after, guard⟩).run P w = .ok nx w' ∧ nxv nx = some v' ∧ VR μ' v2 v' ∧ RR P w0 μ' H' w' ∧ Ext μ H μ' H' := by
        intro H' q1 q2 q3 q4 q5
        obtain ⟨w', s1, s2, s3⟩ := st_ok R ha hcl q2 q3 q4
        refine ⟨_, _, _, _, .skip, _, q5, ?_, rfl, VR.undef μ, s2, s3⟩
        simp only [execOp, Instr.storeAt, e', Instr.sureAddr, Sem.run_bind, Sem.run_pure, Result.andThen_ok, storeVar, run_sizeOf' (info_some hok)]
        have : (ρ y).cells.size = P.cellsOf t := by rw [cells_eq]; simp only [List.size_toArray]; rw [← hcl.length]; exact q1
        rw [if_neg (by rw [this]; simp)]
        rw [cells_eq]
        simp only [s1, Result.andThen_ok]
      simp only [effK] at h
      split at h
      · rename_i hn
        split at h
        · rename_i x hx
          split at h
          · rename_i ho
            obtain ⟨H', h1, h2⟩ := optK_some h
            exact main (by rw [hx, hn]; rfl) (by rw [hx]; intro y hy; simp at hy; subst hy; exact ho) (by rw [hx]; simp) (by rw [hx]; exact st1_stN h1) h2
          · cases h
        · cases h
      · split at h
        · rename_i hb
          obtain ⟨H', h1, h2⟩ := optK_some h
          exact main hb.1 (fun x hx => List.all_eq_true.1 hb.2.1 x hx) (by intro hc; rw [hc] at hb; simp at hb; omega) h1 h2
        · cases h
  · cases hc
end
end Go.Cm

namespace Go.Cm
open Go

section
variable {P : Program} {w0 : Start} {μ : Mu} {H : Heap} {w : World}

theorem loadCells_any (R : RR P w0 μ H w) {a a' : Addr} {n : Nat} {l : List Value} (ha : AR μ a a') (h : H.ldN a n = some l) :
    ∃ l', VRs μ l l' ∧ (∀ v ∈ l, one v = true) ∧ l.length = n ∧ ∀ w', w'.heap = w.heap → (loadCells a' n).run P w' = .ok l'.toArray w' := by
  obtain ⟨l', h1, h2, h3, h4⟩ := cells_ok R ha h
  refine ⟨l', h1, h2, h3, fun w' hw => ?_⟩
  have := run_loadCells (P := P) n 0 a' l' #[] w' (by rw [← h1.length, h3]) (fun k v' hk => by
    have := h4 k v' hk
    unfold World.cell? at this ⊢
    rw [hw]
    simpa using this)
  simpa [loadCells] using this

/-- the cells of a source -/
theorem src_ok (R : RR P w0 μ H w) {x x' : Value} (hx : VR μ x x') {size m n : Nat} {str : Bool} {new : List Value} (hm : srcN str x = some m) (hn : n ≤ m) (hs : str = true → size = 1) (h : srcCells H size n x = some new) :
    (Builtin.lenOf x').run P w = .ok m w ∧ ∃ new', (∀ w', w'.heap = w.heap → (Builtin.firstCells size n x').run P w' = .ok new'.toArray w') ∧ VRs μ new new' ∧ (∀ v ∈ new, one v = true) ∧ new.length = n * size := by
  cases str <;> cases x <;> simp only [srcN, Option.some.injEq, reduceCtorEq] at hm
  case true.string s =>
    have h1 := hs rfl
    subst h1
    rw [hx.string_inv]
    refine ⟨by simp [Builtin.lenOf, ← hm, slen_size], ?_⟩
    simp only [srcCells, Option.some.injEq] at h
    subst h
    refine ⟨((lst s).take n).map fun b => .int .u8 b.toNat, fun w' _ => ?_, VRs.of rfl ?_, ?_, ?_⟩
    · simp only [Builtin.firstCells, Sem.run_pure]
      congr 1
      apply Array.toList_inj.1
      simp [lst]
    · intro i v v' h1 h2
      rw [h1] at h2; cases h2
      simp only [List.getElem?_map, Option.map_eq_some_iff] at h1
      obtain ⟨b, _, rfl⟩ := h1
      exact .int _ _
    · intro v hv
      simp only [List.mem_map] at hv
      obtain ⟨b, _, rfl⟩ := hv
      rfl
    · simp only [List.length_map, List.length_take]
      unfold slen at hm
      omega
  case false.slice a k c =>
    subst hm
    cases a with
    | none =>
      obtain ⟨rfl, rfl, e⟩ := hx.slN_inv
      rw [e]
      simp only [srcCells, Option.some.injEq] at h
      subst h
      obtain rfl : n = 0 := by omega
      exact ⟨rfl, [], fun _ _ => rfl, trivial, by simp, by simp⟩
    | some a =>
      obtain ⟨a', c', e, hl, ha⟩ := hx.sl_inv
      rw [e]
      refine ⟨rfl, ?_⟩
      simp only [srcCells] at h
      by_cases h0 : n = 0
      · subst h0
        simp only [if_true, Option.some.injEq] at h
        subst h
        refine ⟨[], fun w' _ => ?_, trivial, by simp, by simp⟩
        simp [Builtin.firstCells, loadCells, loadCellsFrom]
      · rw [if_neg h0] at h
        obtain ⟨l', h1, h2, h3, h4⟩ := loadCells_any R (ha.base (by omega)) h
        exact ⟨l', h4, h1, h2, h3⟩

theorem growBy_le (n : Nat) : ∀ (k c : Nat), 256 ≤ c → c ≤ 2 * n → Builtin.growBy n k c ≤ 2 * n
  | 0, c, _, h => h
  | k + 1, c, h1, h2 => by
    unfold Builtin.growBy
    split
    · exact h2
    · exact growBy_le n k _ (by omega) (by omega)

theorem nextcap_le {n c : Nat} (h : c < n) : Builtin.nextslicecap n c ≤ 2 * n := by
  unfold Builtin.nextslicecap
  split
  · omega
  · split
    · omega
    · exact growBy_le n 4 c (by omega) (by omega)

/-- the real append where there is no room -/
theorem run_append_grow {t u : TypeId} {ty : TypeId} {el : TypeId} {base : Option Addr} {len rc n : Nat} {x : Value} {old new : List Value} {z : List Value} (e : P.underlying t = some (.slice el)) (hu : ∀ k, P.underlying u ≠ some (.int k)) (hus : (P.underlying u).isSome = true)
    (hz : zeroL P el = some z) (hx : (Builtin.lenOf x).run P w = .ok n w) (ho : ∀ w', w'.heap = w.heap → (Builtin.firstCells (P.cellsOf el) len (.slice base len rc)).run P w' = .ok old.toArray w')
    (hn : ∀ w', w'.heap = w.heap → (Builtin.firstCells (P.cellsOf el) n x).run P w' = .ok new.toArray w') (hc : ¬ len + n ≤ rc) (hb : (len + n) * P.bytesOf el ≤ 70368744177664) (hb0 : 0 < P.bytesOf el) :
    ∃ cap rest w', len + n ≤ cap ∧ rest.length = (cap - (len + n)) * P.cellsOf el ∧ (Builtin.append_ #[t, u] ty #[.slice base len rc, x]).run P w = .ok (.slice (some ⟨w.heap.size, 0, none⟩) (len + n) cap) w' ∧
      w'.heap = w.heap.push (.cells (old ++ new ++ rest).toArray el (0, 0)) ∧ w'.os = w.os ∧ w'.output = w.output := by
  obtain ⟨z1, z2, z3, z4, z5⟩ := run_zeroValue (w := w) hz
  obtain ⟨i, hi⟩ := Option.isSome_iff_exists.1 z5
  obtain ⟨du, hdu⟩ := Option.isSome_iff_exists.1 hus
  have hby : P.bytesOf el = i.bytes := by simp [Program.bytesOf, hi]
  have hsz : P.cellsOf el = i.size := by simp [Program.cellsOf, hi]
  have hz1 : ∀ v ∈ z, one v = true := fun v hv => one_of_plain (List.all_eq_true.1 z2 v hv)
  let q := Question.appendCap (len + n) rc el
  let cap := q.cut (w.tape w.drawn q)
  have hcap : len + n ≤ cap := by simp only [cap, q, Question.cut]; omega
  let w1 : World := { w with drawn := w.drawn + 1 }
  refine ⟨cap, (Builtin.zeroCells (valT P el z).cells (cap - (len + n))).toList, { w1 with heap := w.heap.push (.cells (old ++ new ++ (Builtin.zeroCells (valT P el z).cells (cap - (len + n))).toList).toArray el (0, 0)) }, hcap, ?_, ?_, rfl, rfl, rfl⟩
  · simp [Builtin.zeroCells, cells_valT z4 hz1, z3]
  · obtain ⟨zz1, _⟩ := run_zeroValue (w := w1) hz
    have hdu' : ∀ k, du ≠ .int k := fun k hk => hu k (by rw [hdu, hk])
    have hb0' : ¬ ((((len + n : Nat) : Int) > IntKind.i64.max) ∧ i.bytes = 0) := by rw [hby] at hb0; omega
    have hlim : ¬ (Builtin.nextslicecap (len + n) rc * i.bytes > 2 ^ 48) := by
      have h1 := nextcap_le (n := len + n) (c := rc) (by omega)
      have h2 : Builtin.nextslicecap (len + n) rc * i.bytes ≤ 2 * (len + n) * i.bytes := Nat.mul_le_mul_right _ h1
      rw [hby] at hb
      have h3 : 2 * (len + n) * i.bytes = 2 * ((len + n) * i.bytes) := by rw [Nat.mul_assoc]
      omega
    have hch : (choose q).run P w = .ok cap w1 := by
      rw [run_choose]
      rfl
    rw [hsz] at ho hn
    have ho1 := ho w1 rfl
    have hn1 := hn w1 rfl
    have harr : (old ++ new ++ (Builtin.zeroCells (valT P el z).cells (cap - (len + n))).toList).toArray = old.toArray ++ new.toArray ++ Builtin.zeroCells (valT P el z).cells (cap - (len + n)) := by simp
    rw [harr]
    unfold Builtin.append_
    cases du with
    | int k => exact absurd rfl (hdu' k)
    | _ =>
      simp only [Sem.run_bind, run_underlying e, Result.andThen_ok, run_sizeOf hi, run_underlying hdu, Sem.run_pure, List.getElem?_toArray, List.getElem?_cons_zero, List.getElem?_cons_succ, Bool.false_eq_true, if_false, hx]
      rw [if_neg hc]
      simp only [false_or, Sem.run_bind, typeInfo, run_program, Result.andThen_ok, hi, Sem.run_pure]
      rw [if_neg hb0']
      simp only [Sem.run_bind, run_program, Result.andThen_ok, hi, Sem.run_pure]
      rw [if_neg hlim]
      rw [Sem.run_bind, hch]
      simp only [Sem.run_bind, Result.andThen_ok, run_program, hi, Sem.run_pure, run_askRoom, ho1, Bool.not_false, if_true, hn1, zz1, newRow, run_newObj]
      rfl

/-- the real append where there is room -/
theorem run_append_room {t u : TypeId} {ty : TypeId} {el : TypeId} {base : Option Addr} {len rc n : Nat} {x : Value} {new : List Value} {w' : World} (e : P.underlying t = some (.slice el)) (hel : (P.info? el).isSome = true) (hu : ∀ k, P.underlying u ≠ some (.int k)) (hus : (P.underlying u).isSome = true)
    (hx : (Builtin.lenOf x).run P w = .ok n w) (hn : (Builtin.firstCells (P.cellsOf el) n x).run P w = .ok new.toArray w) (hc : len + n ≤ rc)
    (hst : ∀ a, base = some a → (storeCells (a.add (len * P.cellsOf el)) new).run P w = .ok () w') (hno : base = none → w' = w) :
    (Builtin.append_ #[t, u] ty #[.slice base len rc, x]).run P w = .ok (.slice base (len + n) rc) w' := by
  obtain ⟨i, hi⟩ := Option.isSome_iff_exists.1 hel
  obtain ⟨du, hdu⟩ := Option.isSome_iff_exists.1 hus
  have hsz : P.cellsOf el = i.size := by simp [Program.cellsOf, hi]
  rw [hsz] at hn hst
  have hdu' : ∀ k, du ≠ .int k := fun k hk => hu k (by rw [hdu, hk])
  unfold Builtin.append_
  cases du with
  | int k => exact absurd rfl (hdu' k)
  | _ =>
    simp only [Sem.run_bind, run_underlying e, Result.andThen_ok, run_sizeOf hi, run_underlying hdu, Sem.run_pure, List.getElem?_toArray, List.getElem?_cons_zero, List.getElem?_cons_succ, Bool.false_eq_true, if_false, hx]
    rw [if_pos hc]
    simp only [Sem.run_bind, Bool.not_false, if_true, hn, Result.andThen_ok]
    cases base with
    | none =>
      rw [hno rfl]
      rfl
    | some a =>
      have := hst a rfl
      simp only [Sem.run_bind, this, Result.andThen_ok, Sem.run_pure]

theorem exec_append {dst : Option Tmp} {type : TypeId} {pos : String} {after : Array Edge} {guard : Option (Nat × Bool)} {t u : TypeId} {s x : Operand} {ρ : Operand → Value} {v : Value} {w' : World}
    (h : (Builtin.append_ #[t, u] type #[ρ s, ρ x]).run P w = .ok v w') : (execOp ρ ⟨dst, .call ⟨.builtin .append, #[s, x], #[t, u]⟩, type, pos, after, guard⟩).run P w = .ok (.value v) w' := by
  simp only [execOp, resolve, Sem.run_bind, Sem.run_pure, Result.andThen_ok, invoke, builtin]
  simp [h]

theorem append_ok (R : RR P w0 μ H w) {t u ty el : TypeId} {str : Bool} {s x s' x' : Value} {z : List Value} {K : Value → Heap → Res} {r : Value × Heap} (e : P.underlying t = some (.slice el)) (hu : ∀ k, P.underlying u ≠ some (.int k)) (hus : (P.underlying u).isSome = true)
    (hz : zeroL P el = some z) (hs : VR μ s s') (hx : VR μ x x') (h1 : str = true → P.cellsOf el = 1) (h : appendK el (P.cellsOf el) (P.bytesOf el) str s x H K = some r) :
    ∃ v H' μ' v' w', K v H' = some r ∧ (Builtin.append_ #[t, u] ty #[s', x']).run P w = .ok v' w' ∧ VR μ' v v' ∧ RR P w0 μ' H' w' ∧ Ext μ H μ' H' := by
  obtain ⟨z1, z2, z3, z4, z5⟩ := run_zeroValue (w := w) hz
  unfold appendK at h
  obtain ⟨a, len, cc, rfl, hA⟩ := asSl_some h
  obtain ⟨n, hn, hB⟩ := optK_some hA
  obtain ⟨new, hnew, hC⟩ := optK_some hB
  clear h hA hB
  obtain ⟨l1, new', l2, l3, l4, l5⟩ := src_ok R hx hn (Nat.le_refl n) h1 hnew
  split at hC
  · -- room that is known
    rename_i hc
    split at hC
    · -- nothing to append
      rename_i h0
      subst h0
      have hnew0 : new' = [] := List.length_eq_zero_iff.1 (by rw [← l3.length, l5]; simp)
      subst hnew0
      cases a with
      | none =>
        obtain ⟨rfl, rfl, rfl⟩ := hs.slN_inv
        exact ⟨_, _, μ, _, w, hC, run_append_room e z5 hu hus l1 (l2 w rfl) (by omega) (fun a ha => by cases ha) (fun _ => rfl), hs, R, Ext.refl _ _⟩
      | some ad =>
        obtain ⟨a', c', rfl, hl, ha⟩ := hs.sl_inv
        refine ⟨_, _, μ, _, w, hC, run_append_room e z5 hu hus l1 (l2 w rfl) ?_ (fun a ha => by simp [storeCells]) (fun h => by cases h), hs, R, Ext.refl _ _⟩
        rcases ha with ⟨_, _, mb, _, _, q⟩ | ⟨_, _, q, q'⟩ <;> omega
    · rename_i h0
      split at hC
      · cases hC
      rename_i hsz
      cases a with
      | none => cases hC
      | some ad =>
        simp only at hC
        obtain ⟨H', hst, hD⟩ := optK_some hC
        obtain ⟨a', c', rfl, hl, ha⟩ := hs.sl_inv
        rcases ha with ha | ⟨_, q, q', _⟩
        rotate_left
        · omega
        have hbase : AR μ ad a' := by
          obtain ⟨q1, q2, mb, q3, q4, q5⟩ := ha
          refine ⟨q1, q2, mb, q3, q4, ?_⟩
          omega
        have hne : new ≠ [] := by
          intro hc
          rw [hc] at l5
          simp only [List.length_nil] at l5
          rcases Nat.mul_eq_zero.1 l5.symm with h | h
          · exact h0 h
          · exact hsz h
        obtain ⟨w', s1, s2, s3⟩ := st_ok R (hbase.ap (len * P.cellsOf el)) l3 l4 hne hst
        have hcc : cc ≤ c' := by
          obtain ⟨_, _, mb, _, _, q⟩ := ha
          omega
        refine ⟨_, _, μ, _, w', hD, run_append_room e z5 hu hus l1 (l2 w rfl) (by omega) (fun a ha => by cases ha; exact s1) (fun h => by cases h), ?_, s2, s3⟩
        refine .sl (by omega) (.inl ?_)
        obtain ⟨q1, q2, mb, q3, q4, q5⟩ := ha
        refine ⟨q1, q2, mb, q3, q4, ?_⟩
        rcases q5 with q5 | q5 | q5
        · exact .inl q5
        · exact .inr (.inl q5)
        · omega
  · rename_i hc
    split at hC
    · rename_i hlim
      obtain ⟨m1, m2, m3⟩ := hlim
      -- the real slice grows
      have grow : ∀ {b : Option Addr} {rc : Nat} {old old' : List Value} {fz : Nat} {st : Bool} {H1 : Heap}, s' = .slice b len rc → ¬ len + n ≤ rc → RR P w0 μ H1 w → Ext μ H μ H1 → H1.next = H.next →
          (∀ w', w'.heap = w.heap → (Builtin.firstCells (P.cellsOf el) len (.slice b len rc)).run P w' = .ok old'.toArray w') → VRs μ old old' → (∀ v ∈ old, one v = true) → old.length = len * P.cellsOf el → fz ≤ old.length →
          K (.slice (some ⟨H.next, 0, none⟩) (len + n) (len + n)) (H1.new (.cells (old ++ new) el true fz st)) = some r →
          ∃ v H' μ' v' w', K v H' = some r ∧ (Builtin.append_ #[t, u] ty #[s', x']).run P w = .ok v' w' ∧ VR μ' v v' ∧ RR P w0 μ' H' w' ∧ Ext μ H μ' H' := by
        intro b rc old old' fz st H1 hs' hcap R1 E1 hnx ho1 ho2 ho3 ho4 hfz hK
        subst hs'
        obtain ⟨cap, rest, w', g1, g2, g3, g4, g5⟩ := run_append_grow (ty := ty) (base := b) e hu hus hz l1 ho1 l2 hcap m1 m2
        have hone : ∀ v ∈ old ++ new, one v = true := fun v hv => by
          rcases List.mem_append.1 hv with hv | hv
          · exact ho3 v hv
          · exact l4 v hv
        have hrel := ho2.append l3
        have hnew := R1.new (o := .cells (old ++ new) el true fz st) (o' := .cells (old' ++ new' ++ rest).toArray el (0, 0)) (w' := w') (m := ⟨w.heap.size, 0, (old ++ new).length, ((old' ++ new') ++ rest).length, P.cellsOf el, true⟩) rfl
          (OR.opened hrel hone (by simp only [List.length_append]; omega) (.inl rfl)) g4 g5
        refine ⟨_, _, _, _, w', hK, g3, ?_, hnew.1, E1.trans hnew.2⟩
        rw [← hnx]
        have len1 : (old ++ new).length = (len + n) * P.cellsOf el := by rw [List.length_append, ho4, l5, Nat.add_mul]
        have len2 : (old' ++ new' ++ rest).length = cap * P.cellsOf el := by
          rw [List.length_append, ← hrel.length, len1, g2, ← Nat.add_mul]
          congr 1
          omega
        exact .sl (Nat.le_refl _) (.inl ⟨rfl, rfl, _, Mu.add_same _ _ _, rfl, .inr (.inl ⟨rfl, rfl, g1, (by show 0 + (len + n) * P.cellsOf el = (old ++ new).length; rw [len1]; omega), (by show 0 + cap * P.cellsOf el ≤ (old' ++ new' ++ rest).length; rw [len2]; omega)⟩)⟩)
      cases a with
      | none =>
        obtain ⟨rfl, rfl, e'⟩ := hs.slN_inv
        exact grow (b := none) (rc := 0) (old := []) (old' := []) (fz := 0) (st := false) (H1 := H) e' (by omega) R (Ext.refl _ _) rfl (fun _ _ => rfl) trivial (by simp) (by simp) (by simp) hC
      | some ad =>
        obtain ⟨a', c', e', hl, ha⟩ := hs.sl_inv
        simp only at hC
        rcases ha with ha | ⟨rfl, rfl, rfl, rfl⟩
        rotate_left
        · simp only [dang, if_true] at hC
          exact grow (b := some a') (rc := 0) (old := []) (old' := []) (fz := 0) (st := false) (H1 := H) e' (by omega) R (Ext.refl _ _) rfl (fun w' _ => by simp [Builtin.firstCells, loadCells, loadCellsFrom]) trivial (by simp) (by simp) (by simp) hC
        rw [ha.1] at hC
        simp only at hC
        split at hC
        · rename_i c el2 o fz st hg
          split at hC
          · rename_i hin
            obtain ⟨q1, q2, mb, q3, q4, q5⟩ := ha
            obtain ⟨cr, fr, g1, g2⟩ := lookup_cells R q3 hg
            obtain ⟨_, ⟨gl, gz⟩, go, ge, gs, gi, gc, gx, gf, gst⟩ := g2
            -- the old cells
            have old : ∃ old', (∀ w', w'.heap = w.heap → (Builtin.firstCells (P.cellsOf el) len (.slice (some a') len c')).run P w' = .ok old'.toArray w') ∧ VRs μ ((c.drop ad.off).take (len * P.cellsOf el)) old' ∧
                (∀ v ∈ (c.drop ad.off).take (len * P.cellsOf el), one v = true) ∧ ((c.drop ad.off).take (len * P.cellsOf el)).length = len * P.cellsOf el := by
              by_cases h0 : len = 0
              · subst h0
                refine ⟨[], fun w' _ => ?_, by simp [VRs], by simp, by simp⟩
                simp [Builtin.firstCells, loadCells, loadCellsFrom]
              · have hb : AR μ ad a' := ⟨q1, q2, mb, q3, q4, by omega⟩
                obtain ⟨l', k1, k2, k3, k4⟩ := loadCells_any R (n := len * P.cellsOf el) (l := (c.drop ad.off).take (len * P.cellsOf el)) hb (by unfold Heap.ldN; rw [hg]; simp only; rw [if_pos hin])
                exact ⟨l', k4, k1, k2, k3⟩
            obtain ⟨old', o1, o2, o3, o4⟩ := old
            split at hC
            · -- what the real slice may hold is known
              rename_i hx
              have hrc : c' = cc := by
                rcases q5 with ⟨_, q⟩ | ⟨p1, p2, p3, p4, p5⟩ | ⟨p1, p2, p3⟩
                · exact q
                · exfalso
                  rw [p1] at go
                  subst go
                  have hel : el2 = el := by rcases hx.2 with h | h; cases h; exact h
                  have := hx.1
                  unfold exact at this
                  subst hel
                  rw [ge] at p4
                  simp only [Bool.not_true, Bool.false_or, Bool.and_eq_true, bne_iff_ne, ne_eq] at this
                  rw [gl] at this
                  exact this.2 p4
                · rcases p3 with p3 | ⟨p3, _⟩
                  · omega
                  · exfalso
                    rw [p3] at go
                    subst go
                    have := hx.1
                    unfold exact at this
                    simp [p2] at this
              exact grow (fz := 0) (st := false) (H1 := H) e' (by omega) R (Ext.refl _ _) rfl o1 o2 o3 o4 (by simp) hC
            · split at hC
              · rename_i hnx hk
                obtain ⟨rfl, hfz⟩ := hk
                obtain ⟨Rk, Ek⟩ := R.kill q3
                by_cases hroom : len + n ≤ c'
                · -- the real run appends in place
                  have hopn : o = true := by
                    cases ho : o with
                    | true => rfl
                    | false =>
                      exfalso
                      apply hnx
                      refine ⟨by unfold exact; simp [ho], .inl ho⟩
                  subst hopn
                  have hmo : mb.opn = true := go.symm
                  have hoff : mb.sh + fz ≤ a'.off + (fz - ad.off) ∧ a'.off + c' * mb.esz ≤ mb.rs ∧ (len ≠ 0 → a'.off = ad.off + mb.sh) ∧ mb.sh + fz ≤ a'.off + len * mb.esz := by
                    rcases q5 with ⟨p, q⟩ | ⟨p1, p2, p3, p4, p5⟩ | ⟨p1, p2, p3⟩
                    · omega
                    · refine ⟨by omega, p5, fun _ => p2, ?_⟩
                      rw [ge]; omega
                    · rcases p3 with p3 | ⟨_, p4, p5⟩
                      · omega
                      · refine ⟨by omega, p5, fun h => absurd p1 h, by omega⟩
                  obtain ⟨f1, f2, f3, f4⟩ := hoff
                  have hesz : mb.esz = P.cellsOf el2 := ge
                  obtain ⟨ab, ao, as⟩ := a'
                  simp only at q2 q4 f1 f2 f3 f4
                  subst q2 q4
                  have hstlen : new'.length = n * P.cellsOf el2 := by rw [← l3.length, l5]
                  have hn0 : 0 < n := by omega
                  have hnpos : 0 < n * P.cellsOf el2 := Nat.mul_pos hn0 m3
                  have hfit : ao + len * P.cellsOf el2 + new'.length ≤ cr.size := by
                    rw [gs, hstlen, Nat.add_assoc, ← Nat.add_mul]
                    rw [hesz] at f2
                    have : (len + n) * P.cellsOf el2 ≤ c' * P.cellsOf el2 := Nat.mul_le_mul_right _ hroom
                    omega
                  have hrun := run_storeCells (P := P) (fr := fr) (e := el2) (b := mb.blk) new' 0 (ao + len * P.cellsOf el2) cr w g1 (by omega) (fun j j1 j2 => gf j (by rw [← gs]; omega) (by rw [← hesz] at j1; omega) (fun h => by rw [hmo] at h; cases h)) (fun v hv => by
                    obtain ⟨i, hi, rfl⟩ := List.mem_iff_getElem.1 hv
                    have hi' : i < new.length := by rw [l3.length]; exact hi
                    obtain ⟨v', e1, e2⟩ := l3.get i _ (List.getElem?_eq_getElem hi')
                    rw [List.getElem?_eq_getElem hi] at e1
                    cases e1
                    rw [e2.one_eq]
                    exact l4 _ (List.getElem_mem hi'))
                  have hne' : new' ≠ [] := by intro hc; rw [hc] at hstlen; simp at hstlen; omega
                  rw [if_neg hne', Nat.add_zero] at hrun
                  have hlow : w0.heap.size ≤ mb.blk := by
                    refine R.own q3 hg ?_
                    intro c0 e0 h0
                    first | (cases h0; done) | (simp at h0; done) | (simp at h0; omega) | (injection h0 with e1 e2 e3 e4 e5; subst e1; omega)
                  have hadd : (⟨mb.blk, ao, none⟩ : Addr).add (len * P.cellsOf el2) = ⟨mb.blk, ao + len * P.cellsOf el2, none⟩ := by rw [ap_eq rfl]; rfl
                  let cr2 := (splice cr.toList (ao + len * P.cellsOf el2) new').toArray
                  let w' : World := { w with heap := w.heap.setIfInBounds mb.blk (.cells cr2 el2 fr) }
                  have hblk := R.blk _ _ q3
                  have hfit2 : ao + len * P.cellsOf el2 + new'.length ≤ cr.toList.length := by simpa using hfit
                  have hsz2 : cr2.size = cr.size := by
                    simp only [cr2, List.size_toArray]
                    rw [splice_length hfit2]
                    simp
                  have hnewAt := Rk.newAt (o := .cells ((c.drop ad.off).take (len * P.cellsOf el2) ++ new) el2 true (fz - ad.off) st) (o' := .cells cr2 el2 fr)
                    (m := ⟨mb.blk, ao, ((c.drop ad.off).take (len * P.cellsOf el2) ++ new).length, mb.rs, P.cellsOf el2, true⟩) (w' := w') ?_ hlow ?_ (by simp [w']) (by simp [w', hblk]) (fun k k1 k2 => by
                      simp only [w']
                      rw [Array.getElem?_setIfInBounds_ne (fun h => k1 h.symm)])
                  · refine ⟨_, _, _, .slice (some ⟨mb.blk, ao, none⟩) (len + n) c', w', hC, ?_, ?_, hnewAt.1, Ek.trans hnewAt.2⟩
                    · rw [e']
                      exact run_append_room e z5 hu hus l1 (l2 w rfl) hroom (fun a ha => by cases ha; rw [hadd]; exact hrun) (fun h => by cases h)
                    · refine .sl (Nat.le_refl _) (.inl ⟨rfl, rfl, _, Mu.add_same _ _ _, rfl, .inr (.inl ⟨rfl, by simp, hroom, ?_, ?_⟩)⟩)
                      · simp only [List.length_append, o4, l5, Nat.zero_add]
                        rw [← Nat.add_mul]
                      · rw [← hesz]; exact f2
                  · refine ⟨rfl, ⟨rfl, by simp only [List.length_append, o4]; omega⟩, rfl, rfl, by rw [hsz2, gs], ?_, (fun h => by cases h), ?_, ?_, ?_⟩
                    · simp only [List.length_append, o4, l5]
                      rw [gs, hstlen] at hfit
                      omega
                    · intro i v hv
                      have hone : ∀ v ∈ (c.drop ad.off).take (len * P.cellsOf el2) ++ new, one v = true := fun v hv => by
                        rcases List.mem_append.1 hv with hv | hv
                        · exact o3 v hv
                        · exact l4 v hv
                      refine ⟨hone v (List.mem_of_getElem? hv), ?_⟩
                      simp only [cr2, List.getElem?_toArray]
                      rw [splice_get hfit2]
                      by_cases hi : i < len * P.cellsOf el2
                      · rw [if_pos (by omega)]
                        rw [List.getElem?_append_left (by rw [o4]; exact hi), List.getElem?_take_of_lt hi, List.getElem?_drop] at hv
                        obtain ⟨_, v', y1, y2⟩ := gx _ v hv
                        refine ⟨v', ?_, y2⟩
                        have hl0 : len ≠ 0 := by intro h; rw [h] at hi; simp at hi
                        have := f3 hl0
                        rw [show i + ao = ad.off + i + mb.sh by omega]
                        simpa using y1
                      · rw [if_neg (by omega)]
                        rw [List.getElem?_append_right (by rw [o4]; omega), o4] at hv
                        obtain ⟨v', y1, y2⟩ := l3.get _ v hv
                        have hb2 : i - len * P.cellsOf el2 < new'.length := by
                          rcases Nat.lt_or_ge (i - len * P.cellsOf el2) new'.length with h | h
                          · exact h
                          · rw [List.getElem?_eq_none h] at y1; cases y1
                        rw [if_pos (by omega)]
                        refine ⟨v', ?_, y2⟩
                        rw [← y1]
                        congr 1
                        omega
                    · intro j j1 j2 _
                      simp only at j1 j2
                      have f1' : mb.sh + fz ≤ ao + (fz - ad.off) := f1
                      exact gf j j1 (by omega) (fun h => by rw [hmo] at h; cases h)
                    · intro h
                      have := gst h
                      have f1' : mb.sh + fz ≤ ao + (fz - ad.off) := f1
                      show fr.1 ≤ fr.2 ∧ fr.2 ≤ ao + (fz - ad.off)
                      omega
                  · intro b m1 o1 h1 h2 h3
                    simp only at h3
                    rw [Heap.get_kill] at h2
                    split at h2
                    · cases h2
                    · rename_i hne
                      exact hne (R.inj' h1 q3 h2 hg h3 hlow)
                · exact grow (fz := fz - ad.off) (st := st) (H1 := H.kill ad.block) e' hroom Rk Ek rfl o1 o2 o3 o4 (by omega) hC
              · cases hC
          · cases hC
        · cases hC
    · cases hC
end
end Go.Cm
