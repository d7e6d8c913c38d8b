/-
  A machine that the kernel runs quickly: instructions that carry their own small function; code of these.
  And: A function that is known by a contract, as one step: strings.IndexByte. Functions without a text, by the model's own table: what abi.NoEscape, bytealg.IndexByteString, bytealg.CountString are here. strings.Split as one step, by the contract that the kit has of it. A buffer of bytes that grows, and is read as a string at last (strings.Builder). Slices that look at a part of a block; copies; what lies in such a part. Nothing of a program is proved here. slices.Sorted(maps.Keys(m)) as two steps, by the contracts that the kit has of them.
-/
import Derived.Test.YtkkhljcjjhcnhaaGreatDoorCmG
import Derived.Lib.Bytealg
import Derived.Lib.Builder
import Derived.Laws.Externs
import Derived.Lib.Split
import Derived.Lib.SplitLaws
import Derived.Sort.KeysCollected
import Derived.CallsIn
import Derived.Laws.AppendOwn
namespace Go.Cm
open Go

/-! ### quick memory -/
noncomputable def Tr.getF (t : Tr) : Nat → Option (Option CObj) := @Tr.rec (fun _ => Nat → Option (Option CObj)) (fun _ => none) (fun _ v _ il ir n => match n with
  | 0 => v
  | m + 1 => match Nat.beq (m % 2) 0 with
    | true => il (m / 2)
    | false => ir (m / 2)) t
theorem Tr.getF_eq : ∀ (t : Tr) (n : Nat), t.getF n = t.get n
  | .leaf, n => by cases n <;> rfl
  | .node l v r, 0 => rfl
  | .node l v r, m + 1 => by
    show (match Nat.beq (m % 2) 0 with
      | true => l.getF (m / 2)
      | false => r.getF (m / 2)) = _
    simp only [Tr.get]
    by_cases h : m % 2 = 0
    · rw [if_pos h, nbeq h, Tr.getF_eq l]
    · rw [if_neg h, Tr.getF_eq r]
      have : Nat.beq (m % 2) 0 = false := by
        cases hb : Nat.beq (m % 2) 0
        · rfl
        · exact absurd (Nat.eq_of_beq_eq_true hb) h
      rw [this]
noncomputable def Heap.getF (H : Heap) (b : Nat) : Option CObj := match H.tr.getF b with
  | some x => x
  | none => H.base b
theorem Heap.getF_eq (H : Heap) (b : Nat) : H.getF b = H.get b := by unfold Heap.getF Heap.get; rw [Tr.getF_eq]; rfl
noncomputable def Tr.setF (f : Nat) : Tr → Nat → Option CObj → Tr := @Nat.rec (fun _ => Tr → Nat → Option CObj → Tr) (fun t _ _ => t) (fun _ ih t n x => match n with
  | 0 => .node t.left (some x) t.right
  | m + 1 => match Nat.beq (m % 2) 0 with
    | true => .node (ih t.left (m / 2) x) t.val t.right
    | false => .node t.left t.val (ih t.right (m / 2) x)) f
theorem Tr.setF_eq : ∀ (f : Nat) (t : Tr) (n : Nat) (x : Option CObj), Tr.setF f t n x = Tr.setA f t n x
  | 0, _, _, _ => rfl
  | f + 1, t, 0, x => rfl
  | f + 1, t, m + 1, x => by
    show (match Nat.beq (m % 2) 0 with
      | true => Tr.node (Tr.setF f t.left (m / 2) x) t.val t.right
      | false => Tr.node t.left t.val (Tr.setF f t.right (m / 2) x)) = _
    simp only [Tr.setA]
    by_cases h : m % 2 = 0
    · rw [if_pos h, nbeq h, Tr.setF_eq f]
    · have : Nat.beq (m % 2) 0 = false := by
        cases hb : Nat.beq (m % 2) 0
        · rfl
        · exact absurd (Nat.eq_of_beq_eq_true hb) h
      rw [this, if_neg h]
      simp only [Tr.setF_eq f]
noncomputable def Heap.putF (H : Heap) (b : Nat) (o : CObj) : Heap := { H with tr := Tr.setF (b + 1) H.tr b (some o) }
theorem Heap.putF_eq (H : Heap) (b : Nat) (o : CObj) : H.putF b o = H.put b o := by unfold Heap.putF Heap.put Heap.setO; rw [Tr.setF_eq]
noncomputable def Heap.newF (H : Heap) (o : CObj) : Heap := { H with tr := Tr.setF (H.next + 1) H.tr H.next (some o), next := H.next + 1 }
theorem Heap.newF_eq (H : Heap) (o : CObj) : H.newF o = H.new o := by unfold Heap.newF Heap.new; rw [Tr.setF_eq]

/-! ### instructions -/
def insSem (call : CallF) (i : CIns) (vs : List Value) (H : Heap) (K : Value → Heap → Res) : Res := match i with
  | .bad => none
  | .pure p => pureK p vs fun v => K v H
  | .pick => none
  | .read r => optK (readD r vs H) fun v => K v H
  | .eff e => effK e vs H K
  | .call f => callK (call f vs H) K
  | .callv => match vs with
    | .func (.func f) first cap :: vs => callK (call f (first.toList ++ vs ++ cap.toList) H) K
    | _ => none
def isPick : CIns → Bool
  | .pick => true
  | _ => false
structure FI where
  i : CIns
  f : CallF → List Value → Heap → (Value → Heap → Res) → Res
  np : isPick i = false
  ok : ∀ call vs H K, f call vs H K = insSem call i vs H K
def fG (i : CIns) (h : isPick i = false := by rfl) : FI := ⟨i, fun call vs H K => insSem call i vs H K, h, fun _ _ _ _ => rfl⟩
def fP (p : PI) : FI := ⟨.pure p, fun _ vs H K => pureK p vs fun v => K v H, rfl, fun _ _ _ _ => rfl⟩
def fR (r : RI) : FI := ⟨.read r, fun _ vs H K => optK (readD r vs H) fun v => K v H, rfl, fun _ _ _ _ => rfl⟩
def fE (e : EI) : FI := ⟨.eff e, fun _ vs H K => effK e vs H K, rfl, fun _ _ _ _ => rfl⟩
def fC (f : Nat) : FI := ⟨.call f, fun call vs H K => callK (call f vs H) K, rfl, fun _ _ _ _ => rfl⟩
def fFld (off : Nat) : FI := ⟨.pure (.fieldAddr off), fun _ vs H K => match vs with
  | [.pointer (some a)] => K (.pointer (some (ap a off))) H
  | _ => none, rfl, fun _ vs H K => by
    rcases vs with _ | ⟨v, _ | ⟨w, vs⟩⟩
    · rfl
    · cases v <;> first | rfl | (rename_i a; cases a <;> rfl)
    · cases v <;> first | rfl | (rename_i a; cases a <;> rfl) | (rename_i a n c; cases a <;> rfl)⟩
def fNil : FI := ⟨.pure .nilCk, fun _ vs H K => match vs with
  | [.pointer (some a)] => K (.pointer (some a)) H
  | [.iface t v] => K (.iface t v) H
  | _ => none, rfl, fun _ vs H K => by
    rcases vs with _ | ⟨v, _ | ⟨w, vs⟩⟩
    · rfl
    · cases v <;> first | rfl | (rename_i a; cases a <;> rfl)
    · cases v <;> first | rfl | (rename_i a; cases a <;> rfl) | (rename_i a n c; cases a <;> rfl)⟩
def fCmp (op : BinOp) (k : IntKind) : FI := ⟨.pure (.cmp op k), fun _ vs H K => match vs with
  | [x, y] => asI k x fun a => asI k y fun b => cmpI op a b fun r => K (.bool r) H
  | _ => none, rfl, fun _ vs H K => by
    rcases vs with _ | ⟨v, _ | ⟨w, _ | ⟨z, vs⟩⟩⟩ <;> rfl⟩
def fAdd (k : IntKind) : FI := ⟨.pure (.arith .add k), fun _ vs H K => match vs with
  | [x, y] => asI k x fun a => asI k y fun b => K (.int k (k.wrap (a + b))) H
  | _ => none, rfl, fun _ vs H K => by
    rcases vs with _ | ⟨v, _ | ⟨w, _ | ⟨z, vs⟩⟩⟩ <;> rfl⟩
def fSub (k : IntKind) : FI := ⟨.pure (.arith .sub k), fun _ vs H K => match vs with
  | [x, y] => asI k x fun a => asI k y fun b => K (.int k (k.wrap (a - b))) H
  | _ => none, rfl, fun _ vs H K => by
    rcases vs with _ | ⟨v, _ | ⟨w, _ | ⟨z, vs⟩⟩⟩ <;> rfl⟩
def fMul (k : IntKind) : FI := ⟨.pure (.arith .mul k), fun _ vs H K => match vs with
  | [x, y] => asI k x fun a => asI k y fun b => K (.int k (k.wrap (a * b))) H
  | _ => none, rfl, fun _ vs H K => by
    rcases vs with _ | ⟨v, _ | ⟨w, _ | ⟨z, vs⟩⟩⟩ <;> rfl⟩
def fConv (k : IntKind) : FI := ⟨.pure (.convI k), fun _ vs H K => match vs with
  | [x] => asN x fun a => K (.int k (k.wrap a)) H
  | _ => none, rfl, fun _ vs H K => by
    rcases vs with _ | ⟨v, _ | ⟨w, vs⟩⟩ <;> rfl⟩
def fBits (op : BinOp) (k : IntKind) : FI := ⟨.pure (.bits op k), fun _ vs H K => match vs with
  | [x, y] => asI k x fun a => asI k y fun b => chk (isBits op) (K (.int k (bitsI op k a b)) H)
  | _ => none, rfl, fun _ vs H K => by
    rcases vs with _ | ⟨v, _ | ⟨w, _ | ⟨z, vs⟩⟩⟩ <;> rfl⟩
def fNot : FI := ⟨.pure .notB, fun _ vs H K => match vs with
  | [.bool a] => K (.bool (!a)) H
  | _ => none, rfl, fun _ vs H K => by
    rcases vs with _ | ⟨v, _ | ⟨w, vs⟩⟩
    · rfl
    · cases v <;> rfl
    · cases v <;> rfl⟩
def fExt (i : Nat) : FI := ⟨.pure (.extract i), fun _ vs H K => match vs with
  | [.tuple l] => optK l.toList[i]? fun v => K v H
  | _ => none, rfl, fun _ vs H K => by
    rcases vs with _ | ⟨v, _ | ⟨w, vs⟩⟩
    · rfl
    · cases v <;> rfl
    · cases v <;> rfl⟩
def fIdx (size : Nat) : FI := ⟨.pure (.idxAddrSl size), fun _ vs H K => match vs with
  | [.slice (some a) n _, i] => asN i fun j => if 0 ≤ j ∧ j < n then K (.pointer (some (ap a (j.toNat * size)))) H else none
  | _ => none, rfl, fun _ vs H K => by
    rcases vs with _ | ⟨v, _ | ⟨w, _ | ⟨z, vs⟩⟩⟩
    · rfl
    · cases v <;> first | rfl | (rename_i a; cases a <;> rfl) | (rename_i a n c; cases a <;> rfl)
    · cases v <;> first | rfl | (rename_i a n c; cases a with
        | none => simp only [insSem, pureK, asSl]; cases w <;> rfl
        | some a => rfl)
    · cases v <;> first | rfl | (rename_i a; cases a <;> rfl) | (rename_i a n c; cases a <;> rfl)⟩
def fLen : FI := ⟨.pure .lenSl, fun _ vs H K => match vs with
  | [.slice _ n _] => K (.int .i64 n) H
  | _ => none, rfl, fun _ vs H K => by
    rcases vs with _ | ⟨v, _ | ⟨w, vs⟩⟩
    · rfl
    · cases v <;> rfl
    · cases v <;> rfl⟩
noncomputable def Heap.ld1F (H : Heap) (a : Addr) : Option Value := match H.getF a.block with
  | some (.cells c _ _ _ _) => c[a.off]?
  | _ => none
theorem Heap.ld1F_eq (H : Heap) (a : Addr) : H.ld1F a = H.ld1 a := by unfold Heap.ld1F Heap.ld1; rw [Heap.getF_eq]; rfl
noncomputable def fLd1 : FI := ⟨.read (.load 1 false), fun _ vs H K => match vs with
  | [.pointer (some a)] => optK (H.ld1F a) fun v => K v H
  | _ => none, rfl, fun _ vs H K => by
    rcases vs with _ | ⟨v, _ | ⟨w, vs⟩⟩
    · rfl
    · cases v <;> first | rfl | (rename_i a; cases a with
        | none => rfl
        | some a => simp only [insSem, readD, Heap.ld1F_eq]; rfl)
    · cases v <;> first | rfl | (rename_i a; cases a <;> rfl) | (rename_i a n c; cases a <;> rfl)⟩
noncomputable def Heap.ldNF (H : Heap) (a : Addr) (n : Nat) : Option (List Value) := match H.getF a.block with
  | some (.cells c _ _ _ _) => match Nat.ble (a.off + n) c.length with
    | true => some ((c.drop a.off).take n)
    | false => none
  | _ => none
theorem Heap.ldNF_eq (H : Heap) (a : Addr) (n : Nat) : H.ldNF a n = H.ldN a n := by
  unfold Heap.ldNF Heap.ldN
  rw [Heap.getF_eq]
  cases H.get a.block with
  | none => rfl
  | some o =>
    cases o with
    | cells c e o fz st =>
      simp only
      by_cases h : a.off + n ≤ c.length
      · rw [if_pos h, Nat.ble_eq_true_of_le h]
      · rw [if_neg h]
        have : Nat.ble (a.off + n) c.length = false := by
          cases hb : Nat.ble (a.off + n) c.length
          · rfl
          · exact absurd (Nat.le_of_ble_eq_true hb) h
        rw [this]
    | _ => rfl
noncomputable def fLdA (n : Nat) : FI := ⟨.read (.load n true), fun _ vs H K => match vs with
  | [.pointer (some a)] => (match H.ldNF a n with
    | some l => K (.agg l.toArray) H
    | none => none)
  | _ => none, rfl, fun _ vs H K => by
    rcases vs with _ | ⟨v, _ | ⟨w, vs⟩⟩
    · rfl
    · cases v <;> first | rfl | (rename_i a; cases a with
        | none => rfl
        | some a => simp only [insSem, readD, Heap.ldNF_eq, if_true]; cases H.ldN a n <;> rfl)
    · cases v <;> first | rfl | (rename_i a; cases a <;> rfl) | (rename_i a n c; cases a <;> rfl)⟩
noncomputable def Heap.st1F (H : Heap) (a : Addr) (v : Value) : Option Heap := match H.getF a.block with
  | some (.cells c e o fz s) => if a.off < c.length ∧ fz ≤ a.off then some (H.putF a.block (.cells (c.set a.off v) e o fz s)) else none
  | _ => none
theorem Heap.st1F_eq (H : Heap) (a : Addr) (v : Value) : H.st1F a v = H.st1 a v := by unfold Heap.st1F Heap.st1; rw [Heap.getF_eq]; simp only [Heap.putF_eq]; rfl
noncomputable def Heap.stNF (H : Heap) (a : Addr) (vs : List Value) : Option Heap := match H.getF a.block with
  | some (.cells c e o fz s) => if a.off + vs.length ≤ c.length ∧ fz ≤ a.off then some (H.putF a.block (.cells (splice c a.off vs) e o fz s)) else none
  | _ => none
theorem Heap.stNF_eq (H : Heap) (a : Addr) (vs : List Value) : H.stNF a vs = H.stN a vs := by unfold Heap.stNF Heap.stN; rw [Heap.getF_eq]; simp only [Heap.putF_eq]; rfl
noncomputable def fSt1 : FI := ⟨.eff (.store 1), fun _ vs H K => match vs with
  | [.pointer (some a), v] => (match cellsL v with
      | [x] => if one x = true then optK (H.st1F a x) fun H' => K (.tuple #[]) H' else none
      | _ => none)
  | _ => none, rfl, fun _ vs H K => by
    rcases vs with _ | ⟨v, _ | ⟨w, _ | ⟨z, vs⟩⟩⟩
    · rfl
    · cases v <;> first | rfl | (rename_i a; cases a <;> rfl)
    · cases v <;> first | rfl | (rename_i a; cases a with
        | none => rfl
        | some a => simp only [insSem, effK, Heap.st1F_eq, if_true]; rfl)
    · cases v <;> first | rfl | (rename_i a; cases a <;> rfl)⟩
noncomputable def fStN (n : Nat) (h1 : Nat.beq n 1 = false) : FI := ⟨.eff (.store n), fun _ vs H K => match vs with
  | [.pointer (some a), v] => if (cellsL v).length = n ∧ (cellsL v).all one = true ∧ 0 < n then optK (H.stNF a (cellsL v)) fun H' => K (.tuple #[]) H' else none
  | _ => none, rfl, fun _ vs H K => by
    have h : ¬ n = 1 := fun e => by rw [nbeq e] at h1; cases h1
    rcases vs with _ | ⟨v, _ | ⟨w, _ | ⟨z, vs⟩⟩⟩
    · rfl
    · cases v <;> first | rfl | (rename_i a; cases a <;> rfl)
    · cases v <;> first | rfl | (rename_i a; cases a with
        | none => rfl
        | some a => simp only [insSem, effK, Heap.stNF_eq, if_neg h])
    · cases v <;> first | rfl | (rename_i a; cases a <;> rfl)⟩
noncomputable def fAlloc (e : TypeId) (z : List Value) : FI := ⟨.eff (.alloc e z), fun _ vs H K => match vs with
  | [] => K (.pointer (some ⟨H.next, 0, none⟩)) (H.newF (.cells z e false 0 false))
  | _ => none, rfl, fun _ vs H K => by
    rcases vs with _ | ⟨v, vs⟩
    · simp only [insSem, effK, Heap.newF_eq]
    · rfl⟩

/-! ### code -/
inductive FO where
  | op (dst : Option Nat) (g : Option (Nat × Bool)) (i : FI) (a : List COpd)
  | mv (d : Nat) (a : COpd)
  | pk (dst : Option Nat) (g : Option (Nat × Bool)) (c a b : COpd)
def FO.toC : FO → COp
  | .op d g i a => ⟨d, .one .any, g, i.i, a⟩
  | .mv d a => ⟨some d, .one .any, none, .pure .mov, [a]⟩
  | .pk d g c a b => ⟨d, .one .any, g, .pick, [c, a, b]⟩
noncomputable def opsF (call : CallF) : List FO → Fr → Heap → (Fr → Heap → Res) → Res
  | [], fr, H, K => K fr H
  | o :: os, fr, H, K => match o with
    | .mv d a => optK (evE fr a) fun v => opsF call os ((d, v) :: fr) H K
    | .op d none i a => optK (evsE fr a) fun vs => i.f call vs H fun v H => opsF call os (fr.setO d v) H K
    | .op d (some g) i a => guardE (some g) fr (fun fr => optK (evsE fr a) fun vs => i.f call vs H fun v H => opsF call os (fr.setO d v) H K) (fun fr => opsF call os (fr.delO d) H K)
    | .pk d g c a b => guardE g fr (fun fr => optK (evE fr c) fun c => asB c fun c => optK (evE fr (if c then a else b)) fun v => opsF call os (fr.setO d v) H K) (fun fr => opsF call os (fr.delO d) H K)
theorem insE_op (call : CallF) (d : Option Nat) (g : Option (Nat × Bool)) (i : FI) (a : List COpd) (fr : Fr) (H : Heap) (K : Value → Heap → Res) : insE call (FO.toC (.op d g i a)) fr H K = optK (evsE fr a) fun vs => i.f call vs H K := by
  have hf : (fun vs => i.f call vs H K) = fun vs => insSem call i.i vs H K := funext fun vs => i.ok call vs H K
  rw [hf]
  have hp := i.np
  unfold insE
  simp only [FO.toC]
  cases hi : i.i <;> first | rfl | (rw [hi] at hp; cases hp)
  simp [insSem, optK]
  cases evsE fr a <;> rfl
theorem opsF_eq (call : CallF) : ∀ (l : List FO) (fr : Fr) (H : Heap) (K : Fr → Heap → Res), opsF call l fr H K = opsE call (l.map FO.toC) fr H K
  | [], _, _, _ => rfl
  | o :: os, fr, H, K => by
    have ih := fun fr H => opsF_eq call os fr H K
    cases o with
    | mv d a =>
      simp only [opsF, ih, List.map_cons, opsE]
      show _ = optK (evsE fr [a]) _
      simp only [evsE]
      cases evE fr a <;> rfl
    | op d g i a =>
      cases g with
      | none =>
        simp only [opsF, ih, List.map_cons, opsE, insE_op]
        rfl
      | some g =>
        simp only [opsF, ih, List.map_cons, opsE, insE_op]
        rfl
    | pk d g c a b =>
      simp only [opsF, ih, List.map_cons, opsE]
      rfl
noncomputable def dF (call : CallF) : List (FO × Nat × Nat) → Fr → Heap → List Heap → List Rd → (Fr → Heap → Res) → Res
  | [], fr, H, hs, rds, K => chk (rdsOk hs.reverse rds) (K fr H)
  | (o, lo, hi) :: os, fr, H, hs, rds, K => match o with
    | .mv d a => optK (evE fr a) fun v => dF call os ((d, v) :: fr) H hs rds K
    | .op d g i a => guardE g fr
      (fun fr => optK (evsE fr a) fun vs => match i.i with
        | .read r => i.f call vs H fun x _ => dF call os (fr.setO d x) H hs (if lo < hi then ⟨r, vs, x, lo, hi⟩ :: rds else rds) K
        | .pure _ => i.f call vs H fun v H => dF call os (fr.setO d v) H hs rds K
        | _ => i.f call vs H fun v H => dF call os (fr.setO d v) H (H :: hs) rds K)
      (fun fr => match i.i with
        | .read _ | .pure _ => dF call os (fr.delO d) H hs rds K
        | _ => dF call os (fr.delO d) H (H :: hs) rds K)
    | .pk d g c a b => guardE g fr (fun fr => optK (evE fr c) fun c => asB c fun c => optK (evE fr (if c then a else b)) fun v => dF call os (fr.setO d v) H hs rds K) (fun fr => dF call os (fr.delO d) H hs rds K)
theorem dF_eq (call : CallF) : ∀ (l : List (FO × Nat × Nat)) (fr : Fr) (H : Heap) (hs : List Heap) (rds : List Rd) (K : Fr → Heap → Res), dF call l fr H hs rds K = dE call (l.map fun x => (x.1.toC, x.2.1, x.2.2)) fr H hs rds K
  | [], _, _, _, _, _ => rfl
  | (o, lo, hi) :: os, fr, H, hs, rds, K => by
    have ih := fun fr H hs rds => dF_eq call os fr H hs rds K
    cases o with
    | mv d a =>
      simp only [dF, ih, List.map_cons, dE]
      show _ = optK (evsE fr [a]) _
      simp only [evsE]
      cases evE fr a <;> rfl
    | op d g i a =>
      simp only [dF, ih, List.map_cons, dE, insE_op]
      have hp := i.np
      have hok := i.ok
      congr 1
      · funext fr
        have e : (FO.toC (.op d g i a)).ins = i.i := rfl
        rw [e]
        cases hi : i.i with
        | read r =>
          simp only
          congr 1
          funext vs
          rw [hok call vs H, hi]
          rfl
        | pick => rw [hi] at hp; cases hp
        | _ => rfl
      · funext fr
        have e : (FO.toC (.op d g i a)).ins = i.i := rfl
        rw [e]
        cases hi : i.i with
        | pick => rw [hi] at hp; cases hp
        | _ => rfl
    | pk d g c a b =>
      simp only [dF, ih, List.map_cons, dE]
      rfl

inductive FCode where
  | skip
  | seq (a b : FCode)
  | reg (ops : List FO)
  | regD (allocs : List FO) (ops : List (FO × Nat × Nat))
  | cond (c : COpd) (a b : FCode)
  | block (id : Nat) (c : FCode)
  | loop (c : FCode)
  | exit (id : Nat)
  | ret
  | bad
  | cut (live : List (Nat × Kd0)) (c : FCode)
  | loopC (live : List (Nat × Kd0)) (c : FCode)
def FCode.toC : FCode → CCode
  | .skip => .skip
  | .seq a b => .seq a.toC b.toC
  | .reg ops => .reg (ops.map FO.toC)
  | .regD al ops => .regD (al.map FO.toC) (ops.map fun x => (x.1.toC, x.2.1, x.2.2))
  | .cond c a b => .cond c a.toC b.toC
  | .block id c => .block id c.toC
  | .loop c => .loop c.toC
  | .exit id => .exit id
  | .ret => .ret
  | .bad => .bad
  | .cut l c => .cut l c.toC
  | .loopC l c => .loopC l c.toC
noncomputable def runF (call : CallF) (N : Nat) : FCode → Kt → List (Nat × Kt) → Kt → Kt
  | .skip, kn, _, _ => kn
  | .seq a b, kn, ke, kr => runF call N a (runF call N b kn ke kr) ke kr
  | .reg ops, kn, _, _ => fun fr H => opsF call ops fr H kn
  | .regD al ops, kn, _, _ => fun fr H => opsF call al fr H fun fr H => dF call ops fr H [H] [] kn
  | .cond c a b, kn, ke, kr => fun fr H => optK (evE fr c) fun v => asB v fun t => match t with
    | true => runF call N a kn ke kr fr H
    | false => runF call N b kn ke kr fr H
  | .block id c, kn, ke, kr => runF call N c kn ((id, kn) :: ke) kr
  | .loop c, _, ke, kr => iter (fun k => runF call N c k ke kr) N
  | .exit id, _, ke, _ => lookE ke id
  | .ret, _, _, kr => kr
  | .bad, _, _, _ => fun _ _ => none
  | .cut live c, kn, ke, kr => backE live (runF call N c kn ke kr)
  | .loopC live c, _, ke, kr => backE live (iter (fun k => runF call N c (backE live k) ke kr) N)
theorem runF_eq (call : CallF) (N : Nat) : ∀ (c : FCode) (kn : Kt) (ke : List (Nat × Kt)) (kr : Kt), runF call N c kn ke kr = runE call N c.toC kn ke kr := by
  intro c
  induction c with
  | seq a b iha ihb => intro kn ke kr; simp only [runF, FCode.toC, runE, iha, ihb]
  | cond c a b iha ihb =>
    intro kn ke kr
    funext fr H
    simp only [runF, FCode.toC, runE, iha, ihb]
    congr 1
    funext v
    congr 1
    funext t
    cases t <;> rfl
  | block id c ih => intro kn ke kr; simp only [runF, FCode.toC, runE, ih]
  | loop c ih => intro kn ke kr; simp only [runF, FCode.toC, runE, ih]
  | cut l c ih => intro kn ke kr; simp only [runF, FCode.toC, runE, ih]
  | loopC l c ih => intro kn ke kr; simp only [runF, FCode.toC, runE, ih]
  | reg ops => intro kn ke kr; funext fr H; simp only [runF, FCode.toC, runE, opsF_eq]
  | regD al ops => intro kn ke kr; funext fr H; simp only [runF, FCode.toC, runE, opsF_eq, dF_eq]
  | _ => intro kn ke kr; rfl

structure FFunc where
  body : FCode
  results : List CRes
def FFunc.toC (f : FFunc) : CFunc := ⟨f.body.toC, f.results⟩
def lookFF : List (Nat × FFunc) → Nat → Option FFunc
  | [], _ => none
  | (g, c) :: l, f => match Nat.beq f g with
    | true => some c
    | false => lookFF l f
def look2F (t : List (List (Nat × FFunc))) (f : Nat) : Option FFunc := match t[f / 16]? with
  | some l => lookFF l f
  | none => none
def litOkF (gl : List Nat) (P : Program) (f : Nat) (c : FFunc) : Prop := autoFn gl P f = some ⟨strip c.body.toC, c.results⟩
def AllFF (gl : List Nat) (P : Program) : List (Nat × FFunc) → Prop
  | [] => True
  | (g, c) :: l => litOkF gl P g c ∧ AllFF gl P l
def AllTF (gl : List Nat) (P : Program) : List (List (Nat × FFunc)) → Prop
  | [] => True
  | l :: t => AllFF gl P l ∧ AllTF gl P t
theorem AllFF.ok {gl : List Nat} {P : Program} : ∀ {l : List (Nat × FFunc)} {f : Nat} {c : FFunc}, AllFF gl P l → lookFF l f = some c → litOkF gl P f c
  | [], _, _, _, h => by cases h
  | (g, d) :: l, f, c, ha, h => by
    simp only [lookFF] at h
    split at h
    · rename_i e
      cases h
      have := Nat.eq_of_beq_eq_true e
      subst this
      exact ha.1
    · exact AllFF.ok ha.2 h
theorem AllTF.at {gl : List Nat} {P : Program} : ∀ {t : List (List (Nat × FFunc))} {i : Nat} {l : List (Nat × FFunc)}, AllTF gl P t → t[i]? = some l → AllFF gl P l
  | [], _, _, _, h => by simp at h
  | _ :: _, 0, _, ha, h => by simp at h; subst h; exact ha.1
  | _ :: t, i + 1, _, ha, h => AllTF.at (t := t) ha.2 (by simpa using h)
theorem look2F_ok {gl : List Nat} {P : Program} {t : List (List (Nat × FFunc))} (ha : AllTF gl P t) {f : Nat} {c : FFunc} (h : look2F t f = some c) : cFunc gl P f c.toC := by
  unfold look2F at h
  split at h
  · rename_i l hl
    exact litOk.ok (show litOk gl P f c.toC from (ha.at hl).ok h)
  · cases h
structure FProg where
  fn : Nat → Option FFunc
  prim : Nat → Option (List Value → Heap → Res)
def FProg.toC (C : FProg) : CProg := ⟨fun f => (C.fn f).map FFunc.toC, C.prim⟩
noncomputable def callF (C : FProg) (N : Nat) : Nat → CallF
  | 0 => fun _ _ _ => none
  | d + 1 => fun f vs H => match C.prim f with
    | some p => p vs H
    | none => match C.fn f with
      | some c => runF (callF C N d) N c.body (retK c.results) [] (retK c.results) (frame0 0 vs) H
      | none => none
theorem callF_eq (C : FProg) (N : Nat) : ∀ d, callF C N d = callD C.toC N d := by
  intro d
  induction d with
  | zero => rfl
  | succ d ih =>
    funext f vs H
    simp only [callF, callD, ih, runF_eq, runE_eq, FProg.toC]
    cases C.prim f with
    | some p => rfl
    | none =>
      simp only
      cases C.fn f <;> rfl
end Go.Cm

namespace Go.Cm
open Go Go.RowKit

end Go.Cm

namespace Go.Cm
open Go Go.RowKit

end Go.Cm

namespace Go.Cm
open Go Go.RowKit

end Go.Cm

namespace Go.Cm
open Go

/-- bytes as cells -/
def bc (l : List UInt8) : List Value := l.map fun b => .int .u8 b.toNat
/-- a buffer of bytes that is no string's yet -/
def Buf (H : Heap) (s : Sl) (l : List UInt8) (e : TypeId) : Prop :=
  (s = ⟨none, 0, 0⟩ ∧ l = []) ∨ ∃ b n, s = ⟨some ⟨b, 0, none⟩, n, n⟩ ∧ l.length = n ∧ 0 < n ∧ b < H.next ∧ ∃ o, H.get b = some (.cells (bc l) e o 0 false)

theorem Buf.keep {S : Nat → Prop} {H H' : Heap} {s : Sl} {l : List UInt8} {e : TypeId} (h : Buf H s l e) (hk : Keep S H H') (hn : ∀ k, s.at k → ¬ S k) : Buf H' s l e := by
  rcases h with h | ⟨b, n, rfl, h1, h0, h2, o, h3⟩
  · exact .inl h
  · exact .inr ⟨b, n, rfl, h1, h0, Nat.lt_of_lt_of_le h2 hk.1, o, (hk.2 b h2 (hn b ⟨_, rfl, rfl⟩)).trans h3⟩
theorem Buf.len {H : Heap} {s : Sl} {l : List UInt8} {e : TypeId} (h : Buf H s l e) : s.n = l.length := by
  rcases h with ⟨rfl, rfl⟩ | ⟨b, n, rfl, h1, _⟩
  · rfl
  · exact h1.symm
theorem Buf.lt {H : Heap} {s : Sl} {l : List UInt8} {e : TypeId} (h : Buf H s l e) {k : Nat} (hk : s.at k) : k < H.next := by
  obtain ⟨a, h1, rfl⟩ := hk
  rcases h with ⟨rfl, _⟩ | ⟨b, n, rfl, _, _, h2, _⟩
  · cases h1
  · cases h1; exact h2

/-- a strings.Builder at p that holds the bytes l in the buffer s -/
def Bld (T e : TypeId) (H : Heap) (p : Nat) (s : Sl) (l : List UInt8) : Prop :=
  p < H.next ∧ (∃ pa, H.get p = some (.cells [.pointer pa, s.v] T false 0 false) ∧ (pa = none ∨ pa = some ⟨p, 0, none⟩)) ∧ Buf H s l e ∧ ¬ s.at p

theorem Bld.keep {T e : TypeId} {S : Nat → Prop} {H H' : Heap} {p : Nat} {s : Sl} {l : List UInt8} (h : Bld T e H p s l) (hk : Keep S H H') (hp : ¬ S p) (hn : ∀ k, s.at k → ¬ S k) : Bld T e H' p s l := by
  obtain ⟨h1, ⟨pa, h2, h3⟩, h4, h5⟩ := h
  exact ⟨Nat.lt_of_lt_of_le h1 hk.1, ⟨pa, (hk.2 p h1 hp).trans h2, h3⟩, h4.keep hk hn, h5⟩

theorem Bld.new (T e : TypeId) (H : Heap) : Bld T e (H.new (.cells [.pointer none, .slice none 0 0] T false 0 false)) H.next Sl.nil [] :=
  ⟨by simp, ⟨none, by simp, .inl rfl⟩, .inl ⟨rfl, rfl⟩, Sl.at_nil⟩
end Go.Cm

namespace Go.Cm
open Go

abbrev Keep0 := Keep fun _ => False
theorem Keep0.trans {H H' H'' : Heap} (h : Keep0 H H') (h' : Keep0 H' H'') : Keep0 H H'' := Keep.trans h h' fun _ _ h => h
theorem Keep0.to {S : Nat → Prop} {H H' : Heap} (h : Keep0 H H') : Keep S H H' := Keep.mono h fun _ _ h => h.elim
theorem Keep0.get {H H' : Heap} (h : Keep0 H H') {b : Nat} {o : CObj} (hb : b < H.next) (hg : H.get b = some o) : H'.get b = some o := (h.2 b hb id).trans hg
/-- a change of new blocks alone is none -/
theorem Keep.fresh {S : Nat → Prop} {H H1 H2 : Heap} (h : Keep0 H H1) (h' : Keep S H1 H2) (hs : ∀ k, S k → H.next ≤ k) : Keep0 H H2 :=
  ⟨Nat.le_trans h.1 h'.1, fun k hk _ => (h'.2 k (Nat.lt_of_lt_of_le hk h.1) (fun e => by have := hs k e; omega)).trans (h.2 k hk id)⟩
/-- a slice over a part of block b: A lies ahead, cs is in it, Z lies behind -/
structure Vw (H : Heap) (s : Sl) (b : Nat) (A cs Z : List Value) (e : TypeId) (sz : Nat) : Prop where
  sa : s.a = some ⟨b, A.length, none⟩
  hn : cs.length = s.n * sz
  hc : s.n ≤ s.c
  lt : b < H.next
  get : ∃ o st, H.get b = some (.cells (A ++ (cs ++ Z)) e o 0 st)

theorem Vw.keep {S : Nat → Prop} {H H' : Heap} {s : Sl} {b : Nat} {A cs Z : List Value} {e : TypeId} {sz : Nat} (h : Vw H s b A cs Z e sz) (hk : Keep S H H') (hs : ¬ S b) : Vw H' s b A cs Z e sz := by
  obtain ⟨h1, h2, h3, h4, o, st, h5⟩ := h
  exact ⟨h1, h2, h3, Nat.lt_of_lt_of_le h4 hk.1, o, st, (hk.2 b h4 hs).trans h5⟩
theorem Vw.of {H : Heap} {s : Sl} {cs : List Value} {e : TypeId} {sz : Nat} (h : Whole H s cs e sz) (hne : s.a ≠ none) : ∃ b, Vw H s b [] cs [] e sz ∧ s.at b := by
  rcases h with ⟨rfl, _⟩ | ⟨b, n, rfl, h1, h2, o, st, h3⟩
  · exact absurd rfl hne
  · exact ⟨b, ⟨rfl, h1, Nat.le_refl _, h2, o, st, by simpa using h3⟩, _, rfl, rfl⟩
/-- a part of it -/
def subS (s : Sl) (l h sz : Nat) : Sl := ⟨s.a.map fun a => ⟨a.block, a.off + l * sz, none⟩, h - l, s.c - l⟩
theorem Vw.sub {H : Heap} {s : Sl} {b : Nat} {A cs Z : List Value} {e : TypeId} {sz : Nat} (v : Vw H s b A cs Z e sz) {l h : Nat} (h1 : l ≤ h) (h2 : h ≤ s.n) :
    Vw H (subS s l h sz) b (A ++ cs.take (l * sz)) ((cs.drop (l * sz)).take ((h - l) * sz)) (cs.drop (h * sz) ++ Z) e sz := by
  obtain ⟨a1, a2, a3, a4, o, st, a5⟩ := v
  have hm : l * sz ≤ cs.length := by rw [a2]; exact Nat.mul_le_mul_right _ (by omega)
  have hm2 : h * sz ≤ cs.length := by rw [a2]; exact Nat.mul_le_mul_right _ (by omega)
  have hlh : l * sz + (h - l) * sz = h * sz := by rw [← Nat.add_mul]; congr 1; omega
  refine ⟨?_, ?_, ?_, a4, o, st, ?_⟩
  · simp only [subS, a1, Option.map_some, List.length_append, List.length_take, Nat.min_eq_left hm]
  · simp only [subS, List.length_take, List.length_drop]; omega
  · show h - l ≤ s.c - l; omega
  · rw [a5]
    have : A ++ cs.take (l * sz) ++ ((cs.drop (l * sz)).take ((h - l) * sz) ++ (cs.drop (h * sz) ++ Z)) = A ++ (cs ++ Z) := by
      rw [List.append_assoc]
      congr 1
      rw [← List.append_assoc, ← List.append_assoc]
      congr 1
      rw [List.append_assoc]
      have e1 : (cs.drop (l * sz)).take ((h - l) * sz) ++ cs.drop (h * sz) = cs.drop (l * sz) := by
        conv => rhs; rw [← List.take_append_drop ((h - l) * sz) (cs.drop (l * sz))]
        rw [List.drop_drop, hlh]
      rw [e1, List.take_append_drop]
    rw [this]

theorem Vw.opn {H : Heap} {s : Sl} {b : Nat} {A cs Z : List Value} {e : TypeId} {sz : Nat} (v : Vw H s b A cs Z e sz) : H.opnOk b e = true := by
  obtain ⟨_, _, _, _, o, st, h⟩ := v
  simp [Heap.opnOk, h]
section
variable {H : Heap} {s : Sl} {b : Nat} {A cs Z : List Value} {e : TypeId} {sz : Nat} (v : Vw H s b A cs Z e sz)
include v
theorem Vw.src {n : Nat} (hn : n ≤ s.n) : srcCells H sz n s.v = some (cs.take (n * sz)) := by
  obtain ⟨a1, a2, a3, a4, o, st, a5⟩ := v
  simp only [srcCells, Sl.v, a1]
  have hm : n * sz ≤ cs.length := by rw [a2]; exact Nat.mul_le_mul_right _ hn
  by_cases h0 : n = 0
  · subst h0; simp
  · rw [if_neg h0, ldN_s a5 (by simp only [List.length_append]; omega), List.drop_left' rfl, List.take_append_of_le_length hm]
theorem Vw.ld {i : Nat} {x : Value} (hx : cs[i]? = some x) : Heap.ld1 H ⟨b, A.length + i, none⟩ = some x := by
  obtain ⟨a1, a2, a3, a4, o, st, a5⟩ := v
  have hi := (List.getElem?_eq_some_iff.1 hx).1
  rw [ld1_s a5, List.getElem?_append_right (by omega), Nat.add_sub_cancel_left, List.getElem?_append_left hi, hx]
/-- a write into it -/
theorem Vw.stN {new : List Value} {i : Nat} (hi : i + new.length ≤ cs.length) : ∃ H', H.stN ⟨b, A.length + i, none⟩ new = some H' ∧ Vw H' s b A (cs.take i ++ (new ++ cs.drop (i + new.length))) Z e sz ∧ Keep (fun k => k = b) H H' ∧ H'.next = H.next := by
  obtain ⟨a1, a2, a3, a4, o, st, a5⟩ := v
  have hs : splice (A ++ (cs ++ Z)) (A.length + i) new = A ++ ((cs.take i ++ (new ++ cs.drop (i + new.length))) ++ Z) := by
    unfold splice
    rw [List.take_append, List.take_of_length_le (by omega), Nat.add_sub_cancel_left, List.take_append_of_le_length (by omega), Nat.add_assoc, List.drop_append, List.drop_eq_nil_of_le (by omega), Nat.add_sub_cancel_left, List.drop_append_of_le_length (by omega)]
    simp
  refine ⟨H.put b (.cells (A ++ ((cs.take i ++ (new ++ cs.drop (i + new.length))) ++ Z)) e o 0 st), ?_, ⟨a1, ?_, a3, a4, o, st, by simp⟩, Keep.put _ _ _ rfl, rfl⟩
  · simp only [Heap.stN, a5]
    rw [if_pos (by simp only [List.length_append]; omega), hs]
  · simp only [List.length_append, List.length_take, List.length_drop]; omega
theorem Vw.st1 {x : Value} {i : Nat} (hi : i < cs.length) : ∃ H', H.st1 ⟨b, A.length + i, none⟩ x = some H' ∧ Vw H' s b A (cs.set i x) Z e sz ∧ Keep (fun k => k = b) H H' ∧ H'.next = H.next := by
  obtain ⟨a1, a2, a3, a4, o, st, a5⟩ := v
  refine ⟨H.put b (.cells (A ++ (cs.set i x ++ Z)) e o 0 st), ?_, ⟨a1, by simpa using a2, a3, a4, o, st, by simp⟩, Keep.put _ _ _ rfl, rfl⟩
  rw [st1_s a5 (by simp only [List.length_append]; omega) (by omega), List.set_append_right _ _ (by omega), Nat.add_sub_cancel_left, List.set_append_left _ _ hi]
/-- a copy into it -/
theorem Vw.copy {x : Value} {m : Nat} {str : Bool} (new : List Value) (h0 : 0 < sz) (h1 : srcN str x = some m) (h2 : srcCells H sz (min m s.n) x = some new) (h3 : new.length = min m s.n * sz) :
    ∃ H', (∀ K, effK (.copy sz str) [s.v, x] H K = K (.int .i64 ((min m s.n : Nat) : Int)) H') ∧ Vw H' s b A (new ++ cs.drop new.length) Z e sz ∧ Keep (fun k => k = b) H H' ∧ H'.next = H.next := by
  have hn := v.hn
  have hle : new.length ≤ cs.length := by rw [h3, hn]; exact Nat.mul_le_mul_right _ (Nat.min_le_right _ _)
  by_cases hz : min m s.n = 0
  · have hnil : new = [] := List.eq_nil_of_length_eq_zero (by rw [h3, hz]; simp)
    subst hnil
    refine ⟨H, fun K => ?_, by simpa using v, Keep.refl _, rfl⟩
    simp only [effK, asSl, h1, optK]
    rw [if_pos hz, hz]; rfl
  · obtain ⟨H', e1, e2, e3, e4⟩ := v.stN (new := new) (i := 0) (by omega)
    refine ⟨H', fun K => ?_, by simpa using e2, e3, e4⟩
    rw [Nat.add_zero] at e1
    have hsa := v.sa
    simp only [effK, asSl, h1, optK]
    rw [if_neg hz, if_pos h0]
    have h2' := h2
    rw [h2']
    simp only [hsa, e1]
end

/-- a slice's block -/
theorem Vw.at {H : Heap} {s : Sl} {b : Nat} {A cs Z : List Value} {e : TypeId} {sz : Nat} (v : Vw H s b A cs Z e sz) : s.at b := ⟨_, v.sa, rfl⟩

/-! ### runs of parts of the same size -/
section
variable {α : Type} (f : α → List Value) (n : Nat) (hf : ∀ a, (f a).length = n)
include hf
end
end Go.Cm

namespace Go.Cm
open Go Go.RowKit Go.Maps Go.MapKept
open Go.WideElems (Fit rd rg)
open Go.Proofs (encStr)

/-- maps.Keys: its iterator over one new block, which holds the map -/
def keysP (g : Nat) (t : TypeId) (vs : List Value) (H : Heap) : Res := match vs with
  | [.map r] => some (.func (.func g) #[] #[.pointer (some ⟨H.next, 0, none⟩)], H.new (.cells [.map r] t false 0 false))
  | _ => none

theorem keys_ok {P : Program} {w0 : Start} {f g : Nat} {t : TypeId} (hen : ∀ args w, (callFunc f args).run P w = .ok (.enter f args) w)
    (h1 : ∀ (mb : Option Nat) (W : World), Calls P f #[.map mb] W fun e w' => e = .returned (.func (.func g) #[] #[.pointer (some ⟨W.heap.size, 0, none⟩)]) ∧ w' = W.alloc (.cells #[.map mb] t)) :
    CallOK P w0 (fun k vs H => if k = f then keysP g t vs H else none) := by
  intro k vs vs' H v H' μ w h R hvs o a next Q hn
  dsimp only at h
  split at h
  case isFalse => cases h
  rename_i e
  subst e
  unfold keysP at h
  split at h
  case h_2 => cases h
  rename_i r
  simp only [Option.some.injEq, Prod.mk.injEq] at h
  obtain ⟨rfl, rfl⟩ := h
  match vs', hvs with
  | [v1], hvs =>
    obtain ⟨r1, _⟩ := hvs
    obtain ⟨mb, rfl⟩ : ∃ mb, v1 = .map mb := by cases r1 <;> exact ⟨_, rfl⟩
    rw [hen, Oper.upon_enter]
    refine (h1 mb w).mono ?_
    rintro e w' ⟨rfl, rfl⟩
    have hor : OR P μ ⟨w.heap.size, 0, 1, 1, P.cellsOf t, false⟩ (.cells [.map r] t false 0 false) (.cells #[.map mb] t) :=
      OR.closed (P := P) (μ := μ) (blk := w.heap.size) (e := t) (l := [.map r]) (l' := [.map mb]) ⟨r1, trivial⟩ (fun v hv => by rw [List.mem_singleton.1 hv]; rfl)
    have hnew := R.new (w' := w.alloc (.cells #[.map mb] t)) rfl hor rfl ⟨rfl, rfl⟩
    refine hn _ (μ.add H.next ⟨w.heap.size, 0, 1, 1, P.cellsOf t, false⟩) _ ?_ hnew.1 hnew.2
    refine .func _ rfl (fun i hi => absurd hi (Nat.not_lt_zero _)) rfl fun i hi hi' => ?_
    have hi0 : i = 0 := by simp at hi; omega
    subst hi0
    exact .ptr (AR.new rfl)

def strV : Value → Option (List UInt8)
  | .string s => some (lst s)
  | _ => none
/-- a map's keys, if all are strings, and none stands twice -/
def keysL (es : List (Value × Value × Nat)) (clk : Nat) : Option (List (List UInt8)) := match es.mapM (fun e => strV e.1) with
  | some ks => if ks.Nodup ∧ (es.map (·.2.2)).Nodup ∧ (∀ e ∈ es, e.2.2 < clk) ∧ es.length ≤ 100000 ∧ (∀ k ∈ ks, k.length ≤ 100000) then some ks else none
  | none => none
def insS (x : List UInt8) : List (List UInt8) → List (List UInt8)
  | [] => [x]
  | y :: l => if decide (x ≤ y) = true then x :: y :: l else y :: insS x l
/-- sorted, so that the kernel can compute it -/
def sortS : List (List UInt8) → List (List UInt8)
  | [] => []
  | x :: l => insS x (sortS l)
theorem insS_perm (x : List UInt8) : ∀ l, (insS x l).Perm (x :: l)
  | [] => List.Perm.refl _
  | y :: l => by
    unfold insS
    split
    · exact List.Perm.refl _
    · exact ((insS_perm x l).cons y).trans (List.Perm.swap x y l)
theorem sortS_perm : ∀ l, (sortS l).Perm l
  | [] => List.Perm.refl _
  | x :: l => (insS_perm x _).trans ((sortS_perm l).cons x)
theorem insS_sorted (x : List UInt8) : ∀ l : List (List UInt8), l.Pairwise (fun a b => leB a b = true) → (insS x l).Pairwise (fun a b => leB a b = true)
  | [], _ => by simp [insS]
  | y :: l, h => by
    obtain ⟨h1, h2⟩ := List.pairwise_cons.1 h
    unfold insS
    split
    · rename_i hxy
      refine List.pairwise_cons.2 ⟨fun z hz => ?_, h⟩
      rcases List.mem_cons.1 hz with rfl | hz
      · exact hxy
      · have h3 := h1 z hz
        simp only [leB, decide_eq_true_eq] at hxy h3 ⊢
        exact List.le_trans hxy h3
    · rename_i hxy
      refine List.pairwise_cons.2 ⟨fun z hz => ?_, insS_sorted x l h2⟩
      rcases List.mem_cons.1 ((insS_perm x l).mem_iff.1 hz) with rfl | hz
      · simp only [leB, decide_eq_true_eq] at hxy ⊢
        rcases List.le_total z y with e | e
        · exact absurd e hxy
        · exact e
      · exact h1 z hz
theorem sortS_sorted : ∀ l : List (List UInt8), (sortS l).Pairwise (fun a b => leB a b = true)
  | [] => List.Pairwise.nil
  | x :: l => insS_sorted x _ (sortS_sorted l)
theorem sortS_eq {ss ks : List (List UInt8)} (h : ss.Perm ks) : ss.mergeSort (fun x y => decide (x ≤ y)) = sortS ks := by
  have tr : ∀ a b c : List UInt8, leB a b = true → leB b c = true → leB a c = true := fun a b c h1 h2 => by simp only [leB, decide_eq_true_eq] at *; exact List.le_trans h1 h2
  have to : ∀ a b : List UInt8, (leB a b || leB b a) = true := fun a b => by simp only [leB, Bool.or_eq_true, decide_eq_true_eq]; exact List.le_total a b
  refine List.Perm.eq_of_pairwise (le := fun a b => leB a b = true) (fun a b _ _ h1 h2 => ?_) (List.pairwise_mergeSort tr to ss) (sortS_sorted ks) (((List.mergeSort_perm ss leB).trans h).trans (sortS_perm ks).symm)
  simp only [leB, decide_eq_true_eq] at h1 h2
  exact List.le_antisymm h1 h2

/-- slices.Sorted over what maps.Keys gave for a map that is not nil: a new slice of the keys, sorted -/
def sortedP (g : Nat) (t : TypeId) (vs : List Value) (H : Heap) : Res := match vs with
  | [.func (.func g') f c] => if g' = g ∧ f.size = 0 then (match c.toList with
    | [.pointer (some ⟨b, 0, none⟩)] => match H.get b with
      | some (.cells [.map (some m)] _ false 0 false) => match H.get m with
        | some (.map es clk) => match keysL es clk with
          | some ks => if ks = [] then some (.slice none 0 0, H) else
              some (.slice (some ⟨H.next, 0, none⟩) ks.length ks.length, H.new (.cells ((sortS ks).map fun k => .string (S k)) t true 0 false))
          | none => none
        | _ => none
      | _ => none
    | _ => none) else none
  | _ => none

theorem keysL_inv {es : List (Value × Value × Nat)} {clk : Nat} {ks : List (List UInt8)} (h : keysL es clk = some ks) : es.mapM (fun e => strV e.1) = some ks ∧ ks.Nodup ∧ (es.map (·.2.2)).Nodup ∧ (∀ e ∈ es, e.2.2 < clk) ∧ es.length ≤ 100000 ∧ (∀ k ∈ ks, k.length ≤ 100000) := by
  unfold keysL at h
  split at h
  · rename_i l hl
    split at h
    · rename_i hc
      simp only [Option.some.injEq] at h
      subst h
      exact ⟨hl, hc⟩
    · cases h
  · cases h

theorem sorted_ok {P : Program} {w0 : Start} {f g : Nat} {t : TypeId} (hc1 : P.cellsOf t = 1) (hen : ∀ args w, (callFunc f args).run P w = .ok (.enter f args) w) (ht : P.underlying t = some .string)
    (h1 : ∀ (Bm b nn : Nat) (D0 : DataW Unit) (Rr : Value → Option (DataW Unit × List MemPlace)) (w : World), Bm < w.heap.size → w.cell? ⟨Bm, 0, none⟩ = some (.map (some b)) → w.ownsMap P t Rr b nn D0 → Maps.size D0 ≤ maxLen → Maps.size D0 * 16 ≤ 140737488355328 →
      Calls P f #[.func (.func g) #[] #[.pointer (some ⟨Bm, 0, none⟩)]] w fun e w' => ∃ (v : Value) (ss : List (List UInt8)), e = .returned v ∧ ss.Perm (strKeys D0) ∧ w'.ownsRow w.heap.size t 1 v ss.length ((ss.mergeSort (fun x y => decide (x ≤ y))).map encStr) ∧ (v = .slice none 0 0 ↔ ss = []) ∧ Below w.heap.size w w') :
    CallOK P w0 (fun k vs H => if k = f then sortedP g t vs H else none) := by
  intro k vs vs' H v H' μ w h R hvs o a next Q hn
  dsimp only at h
  split at h
  case isFalse => cases h
  rename_i e
  subst e
  unfold sortedP at h
  split at h
  case h_2 => cases h
  rename_i g' ff cc
  split at h
  case isFalse => cases h
  rename_i hg
  obtain ⟨rfl, hff⟩ := hg
  split at h
  case h_2 => cases h
  rename_i b hcc
  split at h
  case h_2 => cases h
  rename_i m ty hgb
  split at h
  case h_2 => cases h
  rename_i es clk hgm
  split at h
  case h_2 => cases h
  rename_i ks hks
  obtain ⟨k1, k2, k3, k4, k5, k6⟩ := keysL_inv hks
  match vs', hvs with
  | [v1], hvs =>
    obtain ⟨r1, _⟩ := hvs
    obtain ⟨a', rfl, ha⟩ : ∃ a', v1 = .func (.func g') #[] #[.pointer (some a')] ∧ AR μ ⟨b, 0, none⟩ a' := by
      cases r1
      rename_i f' c' hf hf' hc hc'
      have e0 : cc = #[.pointer (some ⟨b, 0, none⟩)] := Array.toList_inj.1 (by simpa using hcc)
      subst e0
      have e1 : f' = #[] := Array.eq_empty_of_size_eq_zero (by omega)
      have hcs : c'.size = 1 := by simpa using hc.symm
      have hv := hc' 0 (by simp) (by omega)
      have e2 : c' = #[c'[0]] := by
        apply Array.ext
        · simp [hcs]
        · intro i h1 h2
          have : i = 0 := by omega
          subst this; simp
      rw [e1, e2]
      generalize c'[0] = z at hv
      simp only [List.getElem_toArray, List.getElem_cons_zero] at hv
      cases hv with
      | ptr h => exact ⟨_, rfl, h⟩
    obtain ⟨v', hcell, hvr, _⟩ := cell_ok R ha (show H.ld1 ⟨b, 0, none⟩ = some (.map (some m)) from (ld1_s hgb).trans rfl)
    obtain ⟨mm, rfl, hmm, hsh⟩ : ∃ mm : MB, v' = .map (some mm.blk) ∧ μ m = some mm ∧ mm.sh = 0 := by
      cases hvr
      exact ⟨_, rfl, ‹_›, ‹_›⟩
    obtain ⟨ha1, ha2, mb, ha3, ha4, ha5⟩ := ha
    obtain ⟨c1, fr1, g1, g2⟩ := lookup_cells R ha3 hgb
    have hsh0 : mb.sh = 0 := (g2.2.2.2.2.2.2.1 g2.2.2.1.symm rfl).1
    have ea : a' = ⟨mb.blk, 0, none⟩ := by
      obtain ⟨x1, x2, x3⟩ := a'
      simp only at ha2 ha4 ha5
      subst ha2 ha4
      simp only [Addr.mk.injEq, and_true, true_and]
      omega
    subst ea
    obtain ⟨o1, q1, q2⟩ := R.obj m mm _ hmm hgm
    obtain ⟨es', clk', rfl⟩ : ∃ es' clk', o1 = .map es' clk' := by
      cases o1 <;> simp only [OR] at q2
      exact ⟨_, _, rfl⟩
    obtain ⟨_, rfl, q3, q4⟩ := q2
    have hkl := (mapM_some k1).1
    have hent : ∀ (i : Nat) (x : MapEntry), es'.toList[i]? = some x → ∃ e kk, es[i]? = some e ∧ ks[i]? = some kk ∧ x.key = .string (S kk) ∧ x.born = e.2.2 := by
      intro i x hx
      have hi : i < es.length := by
        have := (List.getElem?_eq_some_iff.1 hx).1
        rw [Array.length_toList] at this; omega
      obtain ⟨e', w1, w2, _, w4⟩ := q4 i es[i] (List.getElem?_eq_getElem hi)
      have hk : ks[i]? = some (ks[i]'(by omega)) := List.getElem?_eq_getElem (by omega)
      have hst := (mapM_some k1).2 i _ _ (List.getElem?_eq_getElem hi) hk
      rw [← Array.getElem?_toList, hx] at w1
      cases w1
      refine ⟨es[i], ks[i]'(by omega), List.getElem?_eq_getElem hi, hk, ?_, w4.symm⟩
      generalize es[i].1 = kv at w2 hst
      unfold strV at hst
      split at hst
      · rename_i s
        rw [w2.string_inv]
        simp only [Option.some.injEq] at hst
        rw [← hst]
        rfl
      · cases hst
    have hkeys : es'.toList.map (·.key) = ks.map fun k => Value.string (S k) := by
      apply List.ext_getElem?
      intro i
      rw [List.getElem?_map, List.getElem?_map]
      cases hx : es'.toList[i]? with
      | none =>
        have h1 : es'.size ≤ i := by simpa using hx
        rw [List.getElem?_eq_none (by omega)]; rfl
      | some x =>
        obtain ⟨e, kk, _, h2, h3, _⟩ := hent i x hx
        rw [h2]; simp [h3]
    have hborn : es'.toList.map (·.born) = es.map (·.2.2) := by
      apply List.ext_getElem?
      intro i
      rw [List.getElem?_map, List.getElem?_map]
      cases hx : es'.toList[i]? with
      | none =>
        have h1 : es'.size ≤ i := by simpa using hx
        rw [List.getElem?_eq_none (by omega)]; rfl
      | some x =>
        obtain ⟨e, kk, h1, _, _, h4⟩ := hent i x hx
        rw [h1]; simp [h4]
    let Rr : Value → Option (DataW Unit × List MemPlace) := fun _ => some (.nil, [])
    have hrd : ∀ x ∈ es'.toList, ∃ kk, kk.length ≤ 100000 ∧ x.key = .string (S kk) ∧ rd P t Rr x = some (.string kk, .nil) := by
      intro x hx
      obtain ⟨i, hi⟩ := List.getElem?_of_mem hx
      obtain ⟨e, kk, _, h2, h3, _⟩ := hent i x hi
      have hl := k6 kk (List.mem_of_getElem? h2)
      refine ⟨kk, hl, h3, ?_⟩
      have hml : (S kk).size ≤ maxLen := by
        have : (S kk).size = kk.length := rfl
        rw [this]; unfold maxLen; omega
      simp only [rd, keyOf, ht, h3, mapKey]
      rw [if_pos hml]
      rfl
    have hfit : Fit P t Rr es' clk := by
      refine ⟨by unfold maxLen; omega, ⟨fun x hx => ?_, by rw [hborn]; exact k3, ?_⟩, fun x hx => ?_⟩
      · obtain ⟨i, hi⟩ := List.getElem?_of_mem hx
        obtain ⟨e, kk, h1, _, _, h4⟩ := hent i x hi
        rw [h4]; exact k4 e (List.mem_of_getElem? h1)
      · rw [hkeys]
        refine List.pairwise_map.2 (k2.imp fun {a b} hne e => hne ?_)
        simpa [S] using e
      · obtain ⟨kk, _, _, h⟩ := hrd x hx
        exact ⟨_, h⟩
    have hown : w.ownsMap P t Rr mm.blk es'.size (.map ((es'.toList.map (rg P t Rr)).foldr DataW.insert [])) := ⟨es', clk, q1, hfit, Nat.le_refl _, rfl⟩
    have hperm0 : ((es'.toList.map (rg P t Rr)).foldr DataW.insert []).Perm (es'.toList.map (rg P t Rr)) := Go.WideShapes.sorted_perm _
    have hsize : Maps.size (DataW.map ((es'.toList.map (rg P t Rr)).foldr DataW.insert [])) = es.length := by
      rw [Maps.size_eq, hperm0.length_eq, List.length_map, Array.length_toList, q3]
    have hstr : (strKeys (DataW.map ((es'.toList.map (rg P t Rr)).foldr DataW.insert []))).Perm ks := by
      refine (hperm0.map _).trans ?_
      rw [List.map_map]
      have : es'.toList.map ((fun p : Lit × DataW Unit => strOf p.1) ∘ rg P t Rr) = ks := by
        apply List.ext_getElem?
        intro i
        rw [List.getElem?_map]
        cases hx : es'.toList[i]? with
        | none =>
          have h1 : es'.size ≤ i := by simpa using hx
          rw [List.getElem?_eq_none (by omega)]; rfl
        | some x =>
          obtain ⟨e, kk, _, h2, h3, _⟩ := hent i x hx
          obtain ⟨kk', _, h5, h6⟩ := hrd x (List.mem_of_getElem? hx)
          rw [h2]
          have : kk' = kk := by rw [h3] at h5; simpa [S] using h5.symm
          subst this
          simp [rg, h6, strOf]
      rw [this]
    rw [hen, Oper.upon_enter]
    refine (h1 mb.blk mm.blk es'.size _ Rr w (R.blk _ _ ha3) hcell hown (by rw [hsize]; unfold maxLen; omega) (by rw [hsize]; omega)).mono ?_
    rintro e w' ⟨v, ss, rfl, hp, hrow, hnil, hb⟩
    have hpk : ss.Perm ks := hp.trans hstr
    have hb' : ∀ k, k < w.heap.size → w'.heap[k]? = w.heap[k]? := hb.block
    by_cases hk0 : ks = []
    · rw [if_pos hk0] at h
      simp only [Option.some.injEq, Prod.mk.injEq] at h
      obtain ⟨rfl, rfl⟩ := h
      have : ss = [] := by rw [hk0] at hpk; exact hpk.eq_nil
      rw [hnil.2 this]
      exact hn _ μ w' .slN (R.later hb.size hb' ⟨hb.os, hb.output⟩) (Ext.refl _ _)
    · rw [if_neg hk0] at h
      simp only [Option.some.injEq, Prod.mk.injEq] at h
      obtain ⟨rfl, rfl⟩ := h
      have hss : ss ≠ [] := fun e => hk0 (by rw [e] at hpk; exact hpk.symm.eq_nil)
      rcases hrow.2 with ⟨rfl, hz⟩ | ⟨gb, cap, cur, rfl, hbase, hgb2, hcap1, hcap2, hcur, htake⟩
      · exact absurd (hnil.1 rfl) hss
      · have hsl := hpk.length_eq
        have hsort : ss.mergeSort (fun x y => decide (x ≤ y)) = sortS ks := sortS_eq hpk
        have hslen : (sortS ks).length = ks.length := (sortS_perm ks).length_eq
        rw [hsort, Nat.mul_one] at htake
        have hvrs : VRs μ ((sortS ks).map fun k => Value.string (S k)) ((sortS ks).map encStr) := by
          generalize sortS ks = L
          induction L with
          | nil => trivial
          | cons x L ih => exact ⟨.string _, ih⟩
        have hor := OR.opened (P := P) (μ := μ) (blk := gb) (e := t) (l := (sortS ks).map fun k => Value.string (S k)) (l' := (sortS ks).map encStr) (rest := cur.toList.drop ss.length) (fr := (0, 0)) (s := false) (fz := 0) hvrs (fun v hv => by obtain ⟨x, _, rfl⟩ := List.mem_map.1 hv; rfl) (Nat.zero_le _) (.inl rfl)
        rw [← htake, List.take_append_drop] at hor
        have hnew := R.newAt (w' := w') hor (Nat.le_trans R.size hbase) (fun b1 m1 o1 z1 _ => by have := R.blk _ _ z1; show m1.blk ≠ gb; omega) hb.size hgb2 (fun k _ hk => hb' k hk) ⟨hb.os, hb.output⟩
        refine hn _ _ w' ?_ hnew.1 hnew.2
        rw [hsl]
        refine .sl (Nat.le_refl _) (.inl ⟨rfl, rfl, _, Mu.add_same _ _ _, rfl, .inr (.inl ⟨rfl, rfl, by omega, ?_, ?_⟩)⟩)
        · simp [hc1, hslen]
        · simp [hc1, hcur]
end Go.Cm
