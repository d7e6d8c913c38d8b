/-
  The clean machine's instructions that turn memory do what the model's operations do: the builtins, strings' bytes, iterators.
  And: The clean machine's instructions that turn memory do what the model's operations do: the theorem. The clean machine's instructions that turn memory: the theorem; and how a whole operation goes. The clean machine's code is run by the model: operations, regions, control. The clean machine's code is run by the model: regions in the order of the text, control, calls. The clean machine's code is run by the model: functions.
-/
import Derived.Test.YthphbdkhbaijlaaDoorCmC
namespace Go.Cm
open Go

section
variable {P : Program} {w0 : Start} {μ : Mu} {H : Heap} {w : World}

theorem exec_builtin {dst : Option Tmp} {type : TypeId} {pos : String} {after : Array Edge} {guard : Option (Nat × Bool)} {b : Builtin} {ts : Array TypeId} {xs : Array Operand} {ρ : Operand → Value} {nx : Next} {w' : World}
    (h : (builtin b ts type (xs.map fun | .const _ => true | _ => false) (xs.map ρ)).run P w = .ok nx w') : (execOp ρ ⟨dst, .call ⟨.builtin b, xs, ts⟩, type, pos, after, guard⟩).run P w = .ok nx w' := by
  simp only [execOp, resolve, Sem.run_bind, Sem.run_pure, Result.andThen_ok, invoke]
  exact h

theorem copy_ok (R : RR P w0 μ H w) {t u ty el : TypeId} {str : Bool} {d x d' x' : Value} {K : Value → Heap → Res} {r : Value × Heap} (e : P.underlying t = some (.slice el)) (hel : (P.info? el).isSome = true)
    (hd : VR μ d d') (hx : VR μ x x') (h1 : str = true → P.cellsOf el = 1) (h : effK (.copy (P.cellsOf el) str) [d, x] H K = some r) :
    ∃ v H' μ' v' w', K v H' = some r ∧ (Builtin.copy_ #[t, u] ty #[d', x']).run P w = .ok v' w' ∧ VR μ' v v' ∧ RR P w0 μ' H' w' ∧ Ext μ H μ' H' := by
  simp only [effK] at h
  obtain ⟨a, len, cc, rfl, hA⟩ := asSl_some h
  obtain ⟨m, hm, hB⟩ := optK_some hA
  have hlen : ∃ b c', d' = .slice b len c' ∧ (a = none → b = none) ∧ (∀ ad, a = some ad → ∃ a', b = some a' ∧ SR μ ad a' len cc c') := by
    cases a with
    | none => obtain ⟨rfl, rfl, rfl⟩ := hd.slN_inv; exact ⟨none, 0, rfl, fun _ => rfl, fun ad h => by cases h⟩
    | some ad => obtain ⟨a', c', rfl, _, ha⟩ := hd.sl_inv; exact ⟨some a', c', rfl, (fun h => by cases h), fun ad h => by cases h; exact ⟨a', rfl, ha⟩⟩
  obtain ⟨b, c', rfl, hb1, hb2⟩ := hlen
  have hlof : (Builtin.lenOf x').run P w = .ok m w := by
    cases str <;> cases x <;> simp only [srcN, Option.some.injEq, reduceCtorEq] at hm
    case true.string s => rw [hx.string_inv]; simp [Builtin.lenOf, ← hm, slen_size]
    case false.slice a2 k c2 =>
      subst hm
      cases a2 with
      | none => obtain ⟨rfl, rfl, rfl⟩ := hx.slN_inv; rfl
      | some a2 => obtain ⟨a', c', rfl, _, _⟩ := hx.sl_inv; rfl
  have hmin : Nat.min m len = min m len := rfl
  split at hB
  · rename_i h0
    refine ⟨_, _, μ, _, w, hB, ?_, .int _ _, R, Ext.refl _ _⟩
    have hsrc : (Builtin.firstCells (P.cellsOf el) 0 x').run P w = .ok #[] w := by
      cases str <;> cases x <;> simp only [srcN, Option.some.injEq, reduceCtorEq] at hm
      case true.string s =>
        rw [hx.string_inv]
        simp only [Builtin.firstCells, Sem.run_pure]
        congr 1
        apply Array.toList_inj.1
        simp
      case false.slice a2 k c2 =>
        cases a2 with
        | none => obtain ⟨rfl, rfl, rfl⟩ := hx.slN_inv; rfl
        | some a2 => obtain ⟨a', c', rfl, _, _⟩ := hx.sl_inv; simp [Builtin.firstCells, loadCells, loadCellsFrom]
    simp only [Builtin.copy_, List.getElem?_toArray, List.getElem?_cons_zero, List.getElem?_cons_succ, Sem.run_bind, run_underlying e, Result.andThen_ok, hlof, hmin, h0, run_sizeOf' hel, hsrc]
    cases b <;> simp [storeCells, goInt]
  · rename_i h0
    split at hB
    · rename_i hsz
      obtain ⟨new, hnew, hC⟩ := optK_some hB
      obtain ⟨l1, new', l2, l3, l4, l5⟩ := src_ok R hx hm (Nat.min_le_left m len) h1 hnew
      cases a with
      | none => cases hC
      | some ad =>
        simp only at hC
        obtain ⟨H', hst, hD⟩ := optK_some hC
        obtain ⟨a', rfl, ha⟩ := hb2 ad rfl
        have hne : new ≠ [] := by
          intro hc
          rw [hc] at l5
          simp only [List.length_nil] at l5
          rcases Nat.mul_eq_zero.1 l5.symm with h | h
          · exact h0 h
          · omega
        obtain ⟨w', s1, s2, s3⟩ := st_ok R (ha.base (by omega)) l3 l4 hne hst
        refine ⟨_, _, μ, _, w', hD, ?_, .int _ _, s2, s3⟩
        simp only [Builtin.copy_, List.getElem?_toArray, List.getElem?_cons_zero, List.getElem?_cons_succ, Sem.run_bind, run_underlying e, Result.andThen_ok, hlof, hmin, run_sizeOf' hel, l2 w rfl, s1]
        simp [goInt]
    · cases hB

theorem clear_ok (R : RR P w0 μ H w) {t ty el : TypeId} {d d' : Value} {z : List Value} {K : Value → Heap → Res} {r : Value × Heap} (e : P.underlying t = some (.slice el)) (hz : zeroL P el = some z)
    (hd : VR μ d d') (h : effK (.clearSl (P.cellsOf el) z) [d] H K = some r) :
    ∃ v H' μ' v' w', K v H' = some r ∧ (Builtin.clear_ #[t] ty #[d']).run P w = .ok v' w' ∧ VR μ' v v' ∧ RR P w0 μ' H' w' ∧ Ext μ H μ' H' := by
  obtain ⟨z1, z2, z3, z4, z5⟩ := run_zeroValue (w := w) hz
  have ho : ∀ v ∈ z, one v = true := fun v hv => one_of_plain (List.all_eq_true.1 z2 v hv)
  simp only [effK] at h
  obtain ⟨a, len, cc, rfl, hA⟩ := asSl_some h
  have tup : ∀ μ, VR μ (.tuple #[]) (.tuple #[]) := fun μ => VR.undef μ
  cases a with
  | none =>
    obtain ⟨rfl, rfl, rfl⟩ := hd.slN_inv
    rw [if_pos (.inl rfl)] at hA
    exact ⟨_, _, μ, _, w, hA, by simp [Builtin.clear_, run_underlying e], tup μ, R, Ext.refl _ _⟩
  | some ad =>
    obtain ⟨a', c', rfl, hl, ha⟩ := hd.sl_inv
    by_cases h0 : len = 0
    · subst h0
      rw [if_pos (.inl rfl)] at hA
      exact ⟨_, _, μ, _, w, hA, by simp [Builtin.clear_, run_underlying e], tup μ, R, Ext.refl _ _⟩
    · obtain ⟨len, rfl⟩ : ∃ k, len = k + 1 := ⟨len - 1, by omega⟩
      have hrep : (Builtin.zeroCells z.toArray (len + 1)).toList = rep z (len + 1) := by
        have := rep_eq z (len + 1)
        unfold Builtin.zeroCells
        simp only [List.size_toArray] at this ⊢
        rw [this]
      have hrun : (Builtin.clear_ #[t] ty #[.slice (some a') (len + 1) c']).run P w = ((storeCells a' (rep z (len + 1))).run P w).andThen fun _ w' => .ok (.tuple #[]) w' := by
        simp only [Builtin.clear_, List.getElem?_toArray, List.getElem?_cons_zero, Sem.run_bind, run_underlying e, Result.andThen_ok, z1, cells_valT z4 ho, hrep]
        rfl
      by_cases hs0 : P.cellsOf el = 0
      · rw [if_pos (.inr hs0)] at hA
        refine ⟨_, _, μ, _, w, hA, ?_, tup μ, R, Ext.refl _ _⟩
        have hn : rep z (len + 1) = [] := List.length_eq_zero_iff.1 (by rw [rep_length, z3, hs0]; simp)
        rw [hrun, hn]
        rfl
      · rw [if_neg (by omega)] at hA
        simp only at hA
        rw [if_pos z3] at hA
        obtain ⟨H', hst, hD⟩ := optK_some hA
        have hne : rep z (len + 1) ≠ [] := by
          intro hc
          have := rep_length z (len + 1)
          rw [hc, z3] at this
          simp only [List.length_nil] at this
          rcases Nat.mul_eq_zero.1 this.symm with h | h <;> omega
        obtain ⟨w', s1, s2, s3⟩ := st_ok R (ha.base (by omega)) (VRs.rep z2 (len + 1)) (rep_one z2 (len + 1)) hne hst
        refine ⟨_, _, μ, _, w', hD, ?_, tup μ, s2, s3⟩
        rw [hrun, s1]
        rfl

theorem run_loadBytes : ∀ (l l' : List Value) (a : Addr) (acc : ByteArray) (r : List UInt8), a.spot = none → VRs μ l l' → bytesOf l = some r → (∀ (k : Nat) v', l'[k]? = some v' → w.cell? (ap a k) = some v') →
    (loadBytes a acc l.length).run P w = .ok (S (lst acc ++ r)) w
  | [], [], a, acc, r, _, _, h, _ => by
    simp only [bytesOf, Option.some.injEq] at h; subst h
    simp [loadBytes]
  | v :: l, v' :: l', a, acc, r, hs, hv, h, hc => by
    unfold bytesOf at h
    split at h
    · rename_i h0; cases h0
    · rename_i heq
      simp only [List.cons.injEq] at heq
      obtain ⟨rfl, rfl⟩ := heq
      split at h
      · rename_i r' hr
        simp only [Option.some.injEq] at h; subst h
        have h0 := hc 0 v' (by simp)
        have e0 : ap a 0 = a := by cases a; simp only at hs; subst hs; rfl
        rw [e0, hv.1.int_inv] at h0
        simp only [List.length_cons, loadBytes, Sem.run_bind, run_load, h0, Result.andThen_ok]
        rw [ap_eq hs, run_loadBytes l l' (ap a 1) _ r' rfl hv.2 hr (fun k v2 hk => by
          have := hc (k + 1) v2 (by simpa using hk)
          have e1 : ap (ap a 1) k = ap a (k + 1) := by simp only [ap]; congr 1; omega
          rw [e1]; exact this)]
        congr 1
        simp [lst, S]
      · cases h
    · cases h

theorem sameLayout_self {d : Nat} {t : TypeId} : sameLayout P (d + 1) t t = true := by
  unfold sameLayout
  simp

theorem rowAt_one {fits : TypeId → Bool} {d : Nat} {e : TypeId} {count off n : Nat} (h1 : P.cellsOf e = 1) (hn : off + n ≤ count) (hf : fits e = true) : rowAt P fits (d + 1) e count off n = true := by
  simp only [rowAt, h1]
  simp [hn, hf, Nat.mod_one]

theorem run_variablesAt {b : Nat} {e : TypeId} {c : Array Value} {fr : Nat × Nat} {off n : Nat} (h : w.heap[b]? = some (.cells c e fr)) (h1 : P.cellsOf e = 1) (hn : off + n ≤ c.size) :
    (variablesAt ⟨b, off, none⟩ e n).run P w = .ok true w := by
  have hs : w.shape? b = some (e, c.size) := by unfold World.shape?; rw [h]
  have hd : P.depth = (2 * (P.types.size + Made.depth) + 1) + 1 := rfl
  have hr : rowAt P (sameLayout P P.depth · e) P.depth e c.size off n = true := by
    have : sameLayout P P.depth e e = true := by rw [hd]; exact sameLayout_self
    conv => lhs; arg 3; rw [hd]
    exact rowAt_one h1 hn this
  have hl : liesAt P P.depth e (c.size / P.cellsOf e) off e n = true := by
    conv => lhs; arg 2; rw [hd]
    unfold liesAt
    rw [h1, Nat.div_one, hr]
    rfl
  simp only [variablesAt, Sem.run_bind, run_program, run_shape, Result.andThen_ok, hs, Sem.run_pure, hl]

theorem push_modify (h : Array Obj) (o : Obj) (f : Obj → Obj) : (h.push o).modify h.size f = h.push (f o) := by
  apply Array.ext_getElem?
  intro k
  rw [Array.getElem?_modify, Array.getElem?_push, Array.getElem?_push]
  by_cases hk : k = h.size
  · subst hk; simp
  · have : ¬ h.size = k := fun e => hk e.symm
    simp [hk, this]

/-- the new block of a string's bytes or runes -/
theorem new_opened (R : RR P w0 μ H w) {e : TypeId} {l l' rest : List Value} {fr : Nat × Nat} {s : Bool} {w' : World} (h1 : P.cellsOf e = 1) (hrel : VRs μ l l') (ho : ∀ v ∈ l, one v = true) (hfr : fr = (0, 0) ∨ (s = true ∧ fr = ((l' ++ rest).length, (l' ++ rest).length + 1)))
    (hw : w'.heap = w.heap.push (.cells (l' ++ rest).toArray e fr)) (hio : w'.os = w.os ∧ w'.output = w.output := by exact ⟨rfl, rfl⟩) :
    ∃ μ', VR μ' (.slice (some ⟨H.next, 0, none⟩) l.length l.length) (.slice (some ⟨w.heap.size, 0, none⟩) l.length (l' ++ rest).length) ∧ RR P w0 μ' (H.new (.cells l e true 0 s)) w' ∧ Ext μ H μ' (H.new (.cells l e true 0 s)) := by
  have hnew := R.new (o := .cells l e true 0 s) (o' := .cells (l' ++ rest).toArray e fr) (w' := w') (m := ⟨w.heap.size, 0, l.length, (l' ++ rest).length, P.cellsOf e, true⟩) rfl (OR.opened hrel ho (Nat.zero_le _) hfr) hw hio
  refine ⟨_, .sl (Nat.le_refl _) (.inl ⟨rfl, rfl, _, Mu.add_same _ _ _, rfl, .inr (.inl ⟨rfl, rfl, ?_, ?_, ?_⟩)⟩), hnew.1, hnew.2⟩
  · rw [List.length_append, hrel.length]; omega
  · show 0 + l.length * P.cellsOf e = l.length
    rw [h1]; omega
  · show 0 + (l' ++ rest).length * P.cellsOf e ≤ (l' ++ rest).length
    rw [h1]; omega

theorem conv_str {s d e : TypeId} {x : ByteArray} (e1 : P.underlying s = some .string) (e2 : P.underlying d = some (.slice e)) :
    (P.underlying e = some (.int .u8) → (convert s d (.string x)).run P w = (Conv.stringToBytes e x).run P w) ∧ (P.underlying e = some (.int .i32) → (convert s d (.string x)).run P w = (Conv.stringToRunes e x).run P w) := by
  refine ⟨fun e3 => ?_, fun e3 => ?_⟩ <;> simp [convert, run_underlying e1, run_underlying e2, run_underlying e3]

/-- bytes that are a text's, as they stand: their block is marked -/
theorem eff_mark {dst : Option Tmp} {type : TypeId} {pos : String} {after : Array Edge} {guard : Option (Nat × Bool)} {s d : TypeId} {x : Operand} (hm : isMark P s d = true) :
    EffOK P ⟨dst, .convert s d x, type, pos, after, guard⟩ .markStr [x] := by
  intro w0 μ H w ρ vs K r R hρ hv h
  unfold isMark at hm
  split at hm
  case h_2 => cases hm
  rename_i e hd
  simp only [Bool.and_eq_true, beq_iff_eq] at hm
  obtain ⟨rfl, hm⟩ := hm
  split at hm
  case h_2 => cases hm
  rename_i hu8
  obtain ⟨u, rfl, hu⟩ := VRs.inv1 hv
  match u, hu, h with
  | .slice none n c, hu, h => simp [effK] at h
  | .slice (some ad) n c, hu, h =>
    simp only [effK] at h
    split at h
    · rename_i l el o fz st hg
      split at h
      · rename_i hcond
        obtain ⟨rfl, rfl, rfl⟩ := hcond
        generalize hz : ρ x = z at hu
        have hu' := hu
        cases hu with
        | @sl _ a' _ _ c' hl ha =>
          rcases ha with ⟨q1, q2, mb, q3, q4, q5⟩ | ⟨rfl, _⟩
          rotate_left
          · simp [dang] at hg
          simp only [q1, Option.isSome_none, Bool.false_eq_true, if_false] at hg
          obtain ⟨o', hblk, hor⟩ := R.obj _ _ _ q3 hg
          cases o' with
          | cells cr el' fr =>
            obtain ⟨f1, f2, f3, f4, f5, f6, f7, f8, f9, f10⟩ := hor
            obtain ⟨f11, f12⟩ := f7 f3.symm rfl
            obtain ⟨f13, f14⟩ := f10 rfl
            have hfr : fr = (0, 0) := by
              obtain ⟨x, y⟩ := fr
              simp only [f11] at f13 f14
              have hy : y = 0 := by omega
              have hx : x = 0 := by omega
              rw [hx, hy]
            subst hfr
            have hlow : w0.heap.size ≤ mb.blk := by
              refine R.own q3 hg ?_
              intro c0 e0 h0
              first | (cases h0; done) | (simp at h0; done) | (simp at h0; omega) | (injection h0 with e1 e2 e3 e4 e5; subst e1; omega)
            have hput := R.put (o2 := .cells l el false 0 true) (w' := { w with heap := w.heap.setIfInBounds mb.blk (.cells cr el' (cr.size, cr.size + 1)) }) (o' := .cells cr el' (cr.size, cr.size + 1)) q3 hg hlow
              ⟨f1, f2, f3, f4, f5, f6, fun _ _ => ⟨f11, f12⟩, f8, fun j j1 j2 _ j3 => by simp only at j3; omega, fun h => by cases h⟩ rfl
            refine ⟨_, _, μ, _, .value (.slice (some a') n c'), { w with heap := w.heap.setIfInBounds mb.blk (.cells cr el' (cr.size, cr.size + 1)) }, h, ?_, rfl, hu', hput.1, hput.2⟩
            refine run_v ?_
            rw [hz]
            have hblk' : w.heap[a'.block]? = some (.cells cr el' (0, 0)) := by rw [q4]; exact hblk
            have hshape : w.shape? a'.block = some (el', cr.size) := by
              unfold World.shape?
              rw [hblk']
            simp only [convert, Sem.run_bind, run_underlying hd, run_underlying hu8, Result.andThen_ok, beq_self_eq_true, markStringish, run_shape, hshape, run_freeze, Sem.run_pure]
            congr 1
            unfold World.freeze
            rw [if_neg (by omega)]
            simp only
            congr 1
            rw [q4]
            apply Array.ext_getElem?
            intro k
            rw [Array.getElem?_modify, Array.getElem?_setIfInBounds]
            by_cases hk : mb.blk = k
            · subst hk
              have hlt := R.blk _ _ q3
              rw [hblk]
              simp [hlt]
            · simp [hk]
          | _ => exact hor.elim
      · cases h
    · cases h
  | .bool _, _, h => simp [effK] at h
  | .int _ _, _, h => simp [effK] at h
  | .string _, _, h => simp [effK] at h
  | .pointer _, _, h => simp [effK] at h
  | .map _, _, h => simp [effK] at h
  | .func _ _ _, _, h => simp [effK] at h
  | .nilFunc, _, h => simp [effK] at h
  | .iface _ _, _, h => simp [effK] at h
  | .nilIface, _, h => simp [effK] at h
  | .agg _, _, h => simp [effK] at h
  | .tuple _, _, h => simp [effK] at h
  | .float _ _, _, h => simp [effK] at h
  | .complex _ _ _, _, h => simp [effK] at h

theorem eff_conv {dst : Option Tmp} {type : TypeId} {pos : String} {after : Array Edge} {guard : Option (Nat × Bool)} {s d : TypeId} {x : Operand} {ei : EI} {xs : List Operand}
    (hc : cOp P ⟨dst, .convert s d x, type, pos, after, guard⟩ = some (.eff ei, xs)) : EffOK P ⟨dst, .convert s d x, type, pos, after, guard⟩ ei xs := by
  intro w0 μ H w ρ vs K r R hρ hv h
  simp only [cOp] at hc
  unfold cConv at hc
  split at hc
  case isTrue hm =>
    simp only [Option.some.injEq, Prod.mk.injEq, CIns.eff.injEq] at hc
    obtain ⟨rfl, rfl⟩ := hc
    exact eff_mark hm w0 μ H w ρ vs K r R hρ hv h
  unfold cConv0 at hc
  split at hc
  · cases hc
  · cases hc
  · cases hc
  · rename_i e e1 e2
    split at hc
    · rename_i e3
      split at hc
      · rename_i hc1
        simp only [Option.some.injEq, Prod.mk.injEq, CIns.eff.injEq] at hc; obtain ⟨rfl, rfl⟩ := hc
        obtain ⟨u, rfl, hu⟩ := VRs.inv1 hv
        match u, hu, h with
        | .string b, hu, h =>
          simp only [effK] at h
          have hsz : slen b = b.size := slen_size b
          let q := Question.appendCap b.size 0 e
          let cap := q.cut (w.tape w.drawn q)
          have hcap : b.size ≤ cap := by simp only [cap, q, Question.cut]; omega
          let l' : List Value := (lst b).map fun x => .int .u8 x.toNat
          let rest : List Value := List.replicate (cap - b.size) (.int .u8 0)
          let w1 : World := { w with drawn := w.drawn + 1 }
          let w' : World := { w1 with heap := w.heap.push (.cells (l' ++ rest).toArray e ((l' ++ rest).length, (l' ++ rest).length + 1)) }
          have hl' : l'.length = slen b := by simp only [l', List.length_map]; rfl
          have hlr : (l' ++ rest).length = cap := by simp only [List.length_append, hl', hsz, rest, List.length_replicate]; omega
          have hrel : VRs μ l' l' := VRs.of rfl fun i v v' h1 h2 => by
            rw [h1] at h2; cases h2
            simp only [l', List.getElem?_map, Option.map_eq_some_iff] at h1
            obtain ⟨b, _, rfl⟩ := h1
            exact .int _ _
          have hone : ∀ v ∈ l', one v = true := fun v hv => by
            simp only [l', List.mem_map] at hv
            obtain ⟨b, _, rfl⟩ := hv
            rfl
          obtain ⟨μ', n1, n2, n3⟩ := new_opened R (w' := w') (rest := rest) (s := true) hc1 hrel hone (.inr ⟨rfl, rfl⟩) rfl
          rw [hl', hlr] at n1
          refine ⟨_, _, μ', _, .value _, w', h, ?_, rfl, n1, n2, n3⟩
          refine run_v ?_
          rw [hu.string_inv, (conv_str e1 e2).1 e3]
          simp only [Conv.stringToBytes, Sem.run_bind]
          have hch : (choose q).run P w = .ok cap w1 := by rw [run_choose]; rfl
          simp only [q] at hch
          rw [hch]
          have harr : (b.data.map (fun x => (Value.int .u8 x.toNat : Value)) ++ Array.replicate (cap - b.size) (.int .u8 0)) = (l' ++ rest).toArray := by
            apply Array.toList_inj.1
            simp [l', rest, lst]
          simp only [Result.andThen_ok, newRow, Sem.run_bind, run_newObj, Sem.run_pure, harr]
          have hshape : World.shape? { w1 with heap := w1.heap.push (.cells (l' ++ rest).toArray e) } w1.heap.size = some (e, (l' ++ rest).length) := by
            unfold World.shape?
            simp
          simp only [markStringish, Sem.run_bind, run_shape, Result.andThen_ok, hshape, run_freeze, hsz]
          congr 1
          unfold World.freeze
          rw [if_neg (by omega)]
          simp only [w', w1]
          congr 1
          rw [push_modify]
          simp
      · cases hc
    · rename_i e3
      split at hc
      · rename_i hc1
        simp only [Option.some.injEq, Prod.mk.injEq, CIns.eff.injEq] at hc; obtain ⟨rfl, rfl⟩ := hc
        obtain ⟨u, rfl, hu⟩ := VRs.inv1 hv
        match u, hu, h with
        | .string b, hu, h =>
          simp only [effK] at h
          have hsz : slen b = b.size := slen_size b
          rw [hsz] at h
          let elems := Conv.runesFrom b b.size 0 #[]
          let q := Question.appendCap elems.size 0 e
          let cap := q.cut (w.tape w.drawn q)
          have hcap : elems.size ≤ cap := by simp only [cap, q, Question.cut]; omega
          let l' : List Value := elems.toList
          let rest : List Value := List.replicate (cap - elems.size) (.int .i32 0)
          let w1 : World := { w with drawn := w.drawn + 1 }
          let w' : World := { w1 with heap := w.heap.push (.cells (l' ++ rest).toArray e (0, 0)) }
          have hl' : l'.length = elems.size := by simp [l']
          have hlr : (l' ++ rest).length = cap := by simp only [List.length_append, hl', rest, List.length_replicate]; omega
          have hints : ∀ (bound i : Nat) (acc : Array Value), (∀ v ∈ acc, ∃ n : Int, v = .int .i32 n) → ∀ v ∈ Conv.runesFrom b bound i acc, ∃ n : Int, v = .int .i32 n := by
            intro bound
            induction bound with
            | zero => intro i acc h; exact h
            | succ k ih =>
              intro i acc h
              unfold Conv.runesFrom
              split
              · exact ih _ _ (fun v hv => by
                  rcases Array.mem_push.1 hv with hv | rfl
                  · exact h v hv
                  · exact ⟨_, rfl⟩)
              · exact h
          have hall : ∀ v ∈ l', ∃ n : Int, v = .int .i32 n := fun v hv => hints b.size 0 #[] (by simp) v (by simpa [l', elems] using hv)
          have hrel : VRs μ l' l' := VRs.of rfl fun i v v' h1 h2 => by
            rw [h1] at h2; cases h2
            obtain ⟨n, rfl⟩ := hall v (List.mem_of_getElem? h1)
            exact .int _ _
          have hone : ∀ v ∈ l', one v = true := fun v hv => by
            obtain ⟨n, rfl⟩ := hall v hv
            rfl
          obtain ⟨μ', n1, n2, n3⟩ := new_opened R (w' := w') (rest := rest) (s := false) hc1 hrel hone (.inl rfl) rfl
          rw [hlr] at n1
          refine ⟨_, _, μ', _, .value _, w', h, ?_, rfl, n1, n2, n3⟩
          refine run_v ?_
          rw [hu.string_inv, (conv_str e1 e2).2 e3]
          simp only [Conv.stringToRunes, Sem.run_bind]
          have hch : (choose q).run P w = .ok cap w1 := by rw [run_choose]; rfl
          simp only [q, elems] at hch
          rw [hch]
          have harr : (elems ++ Array.replicate (cap - elems.size) (Value.int .i32 0)) = (l' ++ rest).toArray := by
            apply Array.toList_inj.1
            simp [l', rest]
          simp only [Result.andThen_ok, newRow, Sem.run_bind, run_newObj, Sem.run_pure]
          have h2 : (Conv.runesFrom b b.size 0 #[] ++ Array.replicate (cap - (Conv.runesFrom b b.size 0 #[]).size) (Value.int .i32 0)) = (l' ++ rest).toArray := harr
          rw [h2, hl']
      · cases hc
    · cases hc
  · split at hc <;> cases hc
  · cases hc
end
end Go.Cm

namespace Go.Cm
open Go

section
variable {P : Program} {w0 : Start} {μ : Mu} {H : Heap} {w : World}

theorem eff_range {dst : Option Tmp} {type : TypeId} {pos : String} {after : Array Edge} {guard : Option (Nat × Bool)} {t : TypeId} {x : Operand} {ei : EI} {xs : List Operand}
    (hc : cOp P ⟨dst, .range t x, type, pos, after, guard⟩ = some (.eff ei, xs)) : EffOK P ⟨dst, .range t x, type, pos, after, guard⟩ ei xs := by
  intro w0 μ H w ρ vs K r R hρ hv h
  simp only [cOp] at hc
  split at hc
  · rename_i e
    simp only [Option.some.injEq, Prod.mk.injEq, CIns.eff.injEq] at hc; obtain ⟨rfl, rfl⟩ := hc
    obtain ⟨u, rfl, hu⟩ := VRs.inv1 hv
    match u, hu, h with
    | .string s, hu, h =>
      simp only [effK] at h
      have hnew := R.new (o := .iter s 0) (o' := .stringIter s 0) (w' := { w with heap := w.heap.push (.stringIter s 0) }) (m := ⟨w.heap.size, 0, 0, 0, 0, false⟩) rfl ⟨rfl, rfl, rfl⟩ rfl
      refine ⟨_, _, _, _, .value _, _, h, ?_, rfl, .ptr (AR.new rfl), hnew.1, hnew.2⟩
      refine run_v ?_
      rw [hu.string_inv]
      simp only [Instr.range, Sem.run_bind, run_underlying e, Result.andThen_ok, Sem.run_pure, run_newObj]
  · cases hc

theorem eff_next {dst : Option Tmp} {type : TypeId} {pos : String} {after : Array Edge} {guard : Option (Nat × Bool)} {it : Operand} {isS : Bool} {ei : EI} {xs : List Operand}
    (hc : cOp P ⟨dst, .next it isS, type, pos, after, guard⟩ = some (.eff ei, xs)) : EffOK P ⟨dst, .next it isS, type, pos, after, guard⟩ ei xs := by
  intro w0 μ H w ρ vs K r R hρ hv h
  simp only [cOp] at hc
  split at hc
  · rename_i hS
    subst hS
    simp only [Option.some.injEq, Prod.mk.injEq, CIns.eff.injEq] at hc; obtain ⟨rfl, rfl⟩ := hc
    obtain ⟨u, rfl, hu⟩ := VRs.inv1 hv
    match u, hu, h with
    | .pointer (some a), hu, h =>
      obtain ⟨a', e', h1, h2, m, h3, h4, h5⟩ := hu.ptr_inv
      simp only [effK] at h
      split at h
      · rename_i s p hg
        split at h
        · rename_i h0
          obtain ⟨o', g1, g2⟩ := R.obj _ _ _ h3 hg
          cases o' <;> simp only [OR] at g2
          obtain ⟨g3, rfl, rfl⟩ := g2
          obtain ⟨ab, ao, as⟩ := a'
          simp only at h2 h4 h5
          subst h2 h4
          have : ao = 0 := by omega
          subst this
          have hget : (getObj m.blk).run P w = .ok (.stringIter s p) w := by
            simp only [getObj, Sem.run, g1]
          have hlow : w0.heap.size ≤ m.blk := by
            refine R.own h3 hg ?_
            intro c0 e0 h0
            first | (cases h0; done) | (simp at h0; done) | (simp at h0; omega) | (injection h0 with e1 e2 e3 e4 e5; subst e1; omega)
          split at h
          · rename_i hp
            have hput := R.put (o2 := .iter s (p + (Utf8.decode s p).2)) (o' := .stringIter s (p + (Utf8.decode s p).2)) (w' := { w with heap := w.heap.setIfInBounds m.blk (.stringIter s (p + (Utf8.decode s p).2)) }) h3 hg hlow ⟨g3, rfl, rfl⟩ rfl
            refine ⟨_, _, _, .tuple #[.bool true, .int .i64 p, .int .i32 (Utf8.decode s p).1], .value _, _, h, run_v ?_, rfl, ?_, hput.1, hput.2⟩
            · rw [e']
              have hset : ∀ o, (setObj m.blk o).run P w = .ok () { w with heap := w.heap.setIfInBounds m.blk o } := by
                intro o
                simp only [setObj, Sem.run, g1]
              simp only [Instr.next, Sem.run_bind, hget, Result.andThen_ok]
              rw [if_pos (by rw [← slen_size]; exact hp)]
              simp only [Sem.run_bind, hset, Result.andThen_ok, Sem.run_pure, goInt]
            · exact VR.tuple_of (l := [.bool true, .int .i64 p, .int .i32 (Utf8.decode s p).1]) (l' := [.bool true, .int .i64 p, .int .i32 (Utf8.decode s p).1]) ⟨.bool _, .int _ _, .int _ _, trivial⟩
          · rename_i hp
            refine ⟨_, _, μ, .tuple #[.bool false], .value _, w, h, run_v ?_, rfl, ?_, R, Ext.refl _ _⟩
            · rw [e']
              simp only [Instr.next, Sem.run_bind, hget, Result.andThen_ok]
              rw [if_neg (by rw [← slen_size]; exact hp)]
              rfl
            · exact VR.tuple_of (l := [.bool false]) (l' := [.bool false]) ⟨.bool _, trivial⟩
        · cases h
      · cases h
  · cases hc
end
end Go.Cm

namespace Go.Cm
open Go

section
variable {P : Program} {w0 : Start} {μ : Mu} {H : Heap} {w : World}

theorem eff_call {dst : Option Tmp} {type : TypeId} {pos : String} {after : Array Edge} {guard : Option (Nat × Bool)} {c : Call} {ei : EI} {xs : List Operand}
    (hc : cOp P ⟨dst, .call c, type, pos, after, guard⟩ = some (.eff ei, xs)) : EffOK P ⟨dst, .call c, type, pos, after, guard⟩ ei xs := by
  intro w0 μ H w ρ vs K r R hρ hv h
  simp only [cOp] at hc
  obtain ⟨callee, args, argTypes⟩ := c
  cases callee with
  | value f => cases f <;> simp at hc
  | invoke r m => cases hc
  | builtin b =>
    simp only at hc
    have arr : ∀ {α : Type} {a : Array α} {l : List α}, a.toList = l → a = l.toArray := fun h => by rw [← h]
    have fin : ∀ {v : Value} {H' : Heap} {μ' : Mu} {v' : Value} {w' : World}, K v H' = some r → (builtin b argTypes type (args.map fun | .const _ => true | _ => false) (args.map ρ)).run P w = .ok (.value v') w' → VR μ' v v' → RR P w0 μ' H' w' → Ext μ H μ' H' →
        ∃ v H' μ' v' nx w', K v H' = some r ∧ (execOp ρ ⟨dst, .call ⟨.builtin b, args, argTypes⟩, type, pos, after, guard⟩).run P w = .ok nx w' ∧ nxv nx = some v' ∧ VR μ' v v' ∧ RR P w0 μ' H' w' ∧ Ext μ H μ' H' := by
      intro v H' μ' v' w' h1 h2 h3 h4 h5
      exact ⟨v, H', μ', v', _, w', h1, exec_builtin h2, rfl, h3, h4, h5⟩
    unfold cBuiltin at hc
    split at hc
    · repeat' split at hc
      all_goals cases hc
    · repeat' split at hc
      all_goals cases hc
    · repeat' split at hc
      all_goals cases hc
    · rename_i t u s x ht ha
      have hA := arr ht
      have hB := arr ha
      subst hA hB
      have two : ∀ {el : TypeId} {str : Bool}, P.underlying t = some (.slice el) → (∀ k, P.underlying u ≠ some (.int k)) → (P.underlying u).isSome = true → (zeroL P el).isSome = true → (str = true → P.cellsOf el = 1) →
          ei = .append el (P.cellsOf el) (P.bytesOf el) str → xs = [s, x] → ∃ v H' μ' v' nx w', K v H' = some r ∧ (execOp ρ ⟨dst, .call ⟨.builtin .append, [s, x].toArray, [t, u].toArray⟩, type, pos, after, guard⟩).run P w = .ok nx w' ∧ nxv nx = some v' ∧ VR μ' v v' ∧ RR P w0 μ' H' w' ∧ Ext μ H μ' H' := by
        intro el str e hu hus hz hsz h1 h2
        subst h1 h2
        obtain ⟨p, q, rfl, hp, hq⟩ := VRs.inv2 hv
        obtain ⟨z, hz⟩ := Option.isSome_iff_exists.1 hz
        simp only [effK] at h
        obtain ⟨v, H', μ', v', w', k1, k2, k3, k4, k5⟩ := append_ok R (ty := type) e hu hus hz hp hq hsz h
        exact fin k1 (by rw [show ([s, x].toArray : Array Operand).map ρ = #[ρ s, ρ x] by simp]; exact run_v (s := Builtin.append_ #[t, u] type #[ρ s, ρ x]) k2) k3 k4 k5
      split at hc
      · rename_i el eu e1 e2
        split at hc
        · rename_i hk
          simp only [Bool.and_eq_true] at hk
          simp only [Option.some.injEq, Prod.mk.injEq, CIns.eff.injEq] at hc
          exact two e1 (fun k hk => by rw [e2] at hk; cases hk) (by simp [e2]) hk.2 (fun h => by cases h) hc.1.symm hc.2.symm
        · cases hc
      · rename_i el e1 e2
        split at hc
        · rename_i hk
          simp only [Bool.and_eq_true, decide_eq_true_eq] at hk
          simp only [Option.some.injEq, Prod.mk.injEq, CIns.eff.injEq] at hc
          exact two e1 (fun k hk => by rw [e2] at hk; cases hk) (by simp [e2]) hk.1.2 (fun _ => hk.2) (by rw [← hc.1, hk.2]) hc.2.symm
        · cases hc
      · cases hc
    · rename_i t u d x ht ha
      have hA := arr ht
      have hB := arr ha
      subst hA hB
      have two : ∀ {el : TypeId} {str : Bool}, P.underlying t = some (.slice el) → okElem P el = true → (str = true → P.cellsOf el = 1) →
          ei = .copy (P.cellsOf el) str → xs = [d, x] → ∃ v H' μ' v' nx w', K v H' = some r ∧ (execOp ρ ⟨dst, .call ⟨.builtin .copy, [d, x].toArray, [t, u].toArray⟩, type, pos, after, guard⟩).run P w = .ok nx w' ∧ nxv nx = some v' ∧ VR μ' v v' ∧ RR P w0 μ' H' w' ∧ Ext μ H μ' H' := by
        intro el str e hok hsz h1 h2
        subst h1 h2
        obtain ⟨p, q, rfl, hp, hq⟩ := VRs.inv2 hv
        obtain ⟨v, H', μ', v', w', k1, k2, k3, k4, k5⟩ := copy_ok R (ty := type) (u := u) e (info_some hok) hp hq hsz h
        exact fin k1 (by rw [show ([d, x].toArray : Array Operand).map ρ = #[ρ d, ρ x] by simp]; exact run_v (s := Builtin.copy_ #[t, u] type #[ρ d, ρ x]) k2) k3 k4 k5
      split at hc
      · rename_i el eu e1 e2
        split at hc
        · rename_i hk
          simp only [Option.some.injEq, Prod.mk.injEq, CIns.eff.injEq] at hc
          exact two e1 hk (fun h => by cases h) hc.1.symm hc.2.symm
        · cases hc
      · rename_i el e1 e2
        split at hc
        · rename_i hk
          simp only [Bool.and_eq_true, decide_eq_true_eq] at hk
          simp only [Option.some.injEq, Prod.mk.injEq, CIns.eff.injEq] at hc
          exact two e1 hk.1 (fun _ => hk.2) (by rw [← hc.1, hk.2]) hc.2.symm
        · cases hc
      · cases hc
    · rename_i t d ht ha
      have hA := arr ht
      have hB := arr ha
      subst hA hB
      split at hc
      · rename_i el e1
        split at hc
        · rename_i z hz
          simp only [Option.some.injEq, Prod.mk.injEq, CIns.eff.injEq] at hc; obtain ⟨rfl, rfl⟩ := hc
          obtain ⟨p, rfl, hp⟩ := VRs.inv1 hv
          obtain ⟨v, H', μ', v', w', k1, k2, k3, k4, k5⟩ := clear_ok R (ty := type) e1 hz hp h
          exact fin k1 (by rw [show ([d].toArray : Array Operand).map ρ = #[ρ d] by simp]; exact run_v (s := Builtin.clear_ #[t] type #[ρ d]) k2) k3 k4 k5
        · cases hc
      · cases hc
    · cases hc
    · cases hc
    · cases hc

/-- EVERY INSTRUCTION THAT TURNS MEMORY. -/
theorem eff_ok {o : Oper} {ei : EI} {xs : List Operand} (hc : cOp P o = some (.eff ei, xs)) : EffOK P o ei xs := by
  obtain ⟨dst, op, type, pos, after, guard⟩ := o
  cases op
  case alloc => exact eff_alloc hc
  case box => exact eff_box hc
  case buildSlice => exact eff_buildSl hc
  case makeSlice => exact eff_mkSl hc
  case store => exact eff_store hc
  case convert => exact eff_conv hc
  case range => exact eff_range hc
  case next => exact eff_next hc
  case call => exact eff_call hc
  case binOp =>
    simp only [cOp] at hc
    unfold cBin cEq at hc
    repeat' split at hc
    all_goals cases hc
  case slice =>
    simp only [cOp] at hc
    unfold cSlice at hc
    simp only at hc
    repeat' split at hc
    all_goals cases hc
  all_goals
    simp only [cOp] at hc
    repeat' split at hc
    all_goals cases hc
end
end Go.Cm

namespace Go.Cm
open Go

/-- The frames: what the clean one holds is in the real one. -/
def FR (μ : Mu) (nt : Nat) (fr : Fr) (a : Act) : Prop := nt ≤ a.tmps.size ∧ a.defers = [] ∧ ∀ t v, fr.get t = some v → ∃ v', a.tmps[t]? = some v' ∧ VR μ v v'

section
variable {P : Program} {w0 : Start} {gl : List Nat} {nt : Nat}

theorem FR.mono {μ μ' : Mu} (hm : μ.le μ') {fr : Fr} {a : Act} (h : FR μ nt fr a) : FR μ' nt fr a :=
  ⟨h.1, h.2.1, fun t v hv => let ⟨v', h1, h2⟩ := h.2.2 t v hv; ⟨v', h1, h2.mono hm⟩⟩

theorem Fr.get_cons (fr : Fr) (u t : Nat) (v : Value) : Fr.get ((u, v) :: fr) t = if t = u then some v else fr.get t := rfl
theorem Fr.get_del : ∀ (fr : Fr) (u t : Nat), (fr.del u).get t = if t = u then none else fr.get t
  | [], u, t => by simp [Fr.del, Fr.get]
  | (k, v) :: fr, u, t => by
    simp only [Fr.del]
    by_cases hk : u = k
    · rw [if_pos hk, Fr.get_del fr u t]
      subst hk
      by_cases ht : t = u
      · simp [ht]
      · simp [ht, Fr.get]
    · rw [if_neg hk]
      simp only [Fr.get, Fr.get_del fr u t]
      by_cases ht : t = k
      · subst ht
        have : ¬ t = u := fun e => hk e.symm
        simp [this]
      · simp [ht]

theorem FR.put {μ : Mu} {fr : Fr} {a : Act} {d : Option Nat} {v v' : Value} (h : FR μ nt fr a) (hd : dstOk nt d = true) (hv : VR μ v v') : FR μ nt (fr.setO d v) (a.put d v') := by
  cases d with
  | none => exact h
  | some d =>
    simp only [dstOk, decide_eq_true_eq] at hd
    obtain ⟨h1, h2, h3⟩ := h
    refine ⟨by simpa [Act.put] using h1, h2, ?_⟩
    intro t x hx
    simp only [Fr.setO, Fr.get_cons] at hx
    simp only [Act.put, Array.getElem?_setIfInBounds]
    by_cases ht : t = d
    · subst ht
      rw [if_pos rfl] at hx
      cases hx
      exact ⟨v', by simp; omega, hv⟩
    · rw [if_neg ht] at hx
      have : ¬ d = t := fun e => ht e.symm
      rw [if_neg this]
      exact h3 t x hx
theorem FR.skip {μ : Mu} {fr : Fr} {a : Act} {d : Option Nat} (h : FR μ nt fr a) (hd : dstOk nt d = true) : FR μ nt (fr.delO d) (a.put d Go.undef) := by
  cases d with
  | none => exact h
  | some d => exact FR.put (d := some d) h hd (VR.undef μ)

theorem eval_tmp {a : Act} {t : Nat} {v : Value} (h : a.tmps[t]? = some v) : a.eval (.tmp t) = v := by
  simp [Act.eval, h]

theorem ev_ok {μ : Mu} {H : Heap} {w : World} {fr : Fr} {a : Act} (R : RR P w0 μ H w) (F : FR μ nt fr a) (hgl : ∀ g ∈ gl, g < w0.ng) {o : Operand} {x : COpd} {v : Value} (hc : copd gl o = some x) (h : ev fr x = some v) : VR μ v (a.eval o) := by
  cases o <;> simp only [copd] at hc
  case tmp t =>
    cases hc
    obtain ⟨v', h1, h2⟩ := F.2.2 t v h
    rw [eval_tmp h1]; exact h2
  case const c =>
    split at hc
    · rename_i hp
      cases hc
      simp only [ev, Option.some.injEq] at h
      subst h
      exact VR.of_plainV hp
    · cases hc
  case global g =>
    split at hc
    · rename_i hg
      cases hc
      simp only [ev, Option.some.injEq] at h
      subst h
      obtain ⟨m, h1, h2, h3⟩ := R.idn g (hgl g (by simpa using hg))
      exact .ptr ⟨rfl, rfl, m, h1, h2.symm, by simp [h3]⟩
    · cases hc
  case func f =>
    cases hc
    simp only [ev, Option.some.injEq] at h
    subst h
    exact .func _ rfl (fun i h => by simp at h) rfl (fun i h => by simp at h)

theorem evs_ok {μ : Mu} {H : Heap} {w : World} {fr : Fr} {a : Act} (R : RR P w0 μ H w) (F : FR μ nt fr a) (hgl : ∀ g ∈ gl, g < w0.ng) : ∀ {os : List Operand} {xs : List COpd} {vs : List Value}, copds gl os = some xs → evs fr xs = some vs → VRs μ vs (os.map a.eval)
  | [], xs, vs, hc, h => by
    simp only [copds, Option.some.injEq] at hc
    subst hc
    simp only [evs, Option.some.injEq] at h
    subst h
    trivial
  | o :: os, xs, vs, hc, h => by
    unfold copds at hc
    split at hc
    · rename_i y ys h1 h2
      cases hc
      unfold evs at h
      split at h
      · rename_i v hv
        split at h
        · rename_i vs' hvs
          cases h
          exact ⟨ev_ok R F hgl h1 hv, evs_ok R F hgl h2 hvs⟩
        · cases h
      · cases h
    · cases hc

/-- what is asked of the clean calls -/
def CallOK (P : Program) (w0 : Start) (call : CallF) : Prop :=
  ∀ (f : Nat) (vs vs' : List Value) (H : Heap) (v : Value) (H' : Heap) (μ : Mu) (w : World), call f vs H = some (v, H') → RR P w0 μ H w → VRs μ vs vs' →
    ∀ (o : Oper) (a : Act) (next : Act → World → Prop) (Q : Exit → Act → World → Prop),
      (∀ v' μ' w', VR μ' v v' → RR P w0 μ' H' w' → Ext μ H μ' H' → next (a.put o.dst v') w') → o.upon P a next Q ((callFunc f vs'.toArray).run P w)

theorem callK_some {x : Res} {K : Value → Heap → Res} {r : Value × Heap} (h : callK x K = some r) : ∃ v H, x = some (v, H) ∧ K v H = some r := by
  unfold callK at h
  split at h
  · exact ⟨_, _, rfl, h⟩
  · cases h

theorem pick_ok {ρ : Operand → Value} {dst : Option Tmp} {type : TypeId} {pos : String} {after : Array Edge} {guard : Option (Nat × Bool)} {c a b : Operand} {t : Bool} {w : World} (h : ρ c = .bool t) :
    (execOp ρ ⟨dst, .pick c a b, type, pos, after, guard⟩).run P w = .ok (.value (ρ (if t then a else b))) w := by
  simp only [execOp, h, asBool, Sem.run_bind, Sem.run_pure, Result.andThen_ok]
  cases t <;> rfl

theorem cOp_pick {o : Oper} {os : List Operand} (hi : cOp P o = some (.pick, os)) : ∃ x y z, o.op = .pick x y z ∧ os = [x, y, z] := by
  obtain ⟨dst, op, type, pos, after, guard⟩ := o
  cases op with
  | pick x y z => simp only [cOp, Option.some.injEq, Prod.mk.injEq, true_and] at hi; exact ⟨x, y, z, rfl, hi.symm⟩
  | binOp => simp only [cOp] at hi; unfold cBin cEq at hi; repeat' split at hi
             all_goals cases hi
  | convert => simp only [cOp] at hi; unfold cConv cConv0 at hi; repeat' split at hi
               all_goals cases hi
  | slice => simp only [cOp] at hi; unfold cSlice at hi; simp only at hi; repeat' split at hi
             all_goals cases hi
  | call c =>
    simp only [cOp] at hi
    split at hi
    · unfold cBuiltin at hi
      repeat' split at hi
      all_goals cases hi
    all_goals cases hi
  | _ =>
    simp only [cOp] at hi
    repeat' split at hi
    all_goals cases hi

theorem cOp_call {o : Oper} {os : List Operand} {f : Nat} (hi : cOp P o = some (.call f, os)) : ∃ c, o.op = .call c ∧ c.callee = .value (.func f) ∧ os = c.args.toList := by
  obtain ⟨dst, op, type, pos, after, guard⟩ := o
  cases op with
  | call c =>
    simp only [cOp] at hi
    obtain ⟨callee, args, argTypes⟩ := c
    cases callee with
    | builtin b =>
      simp only at hi
      unfold cBuiltin at hi
      repeat' split at hi
      all_goals cases hi
    | invoke => cases hi
    | value q =>
      cases q <;> simp only [Option.some.injEq, Prod.mk.injEq, reduceCtorEq, false_and, CIns.call.injEq] at hi
      obtain ⟨rfl, rfl⟩ := hi
      exact ⟨_, rfl, rfl, rfl⟩
  | binOp => simp only [cOp] at hi; unfold cBin cEq at hi; repeat' split at hi
             all_goals cases hi
  | convert => simp only [cOp] at hi; unfold cConv cConv0 at hi; repeat' split at hi
               all_goals cases hi
  | slice => simp only [cOp] at hi; unfold cSlice at hi; simp only at hi; repeat' split at hi
             all_goals cases hi
  | _ =>
    simp only [cOp] at hi
    repeat' split at hi
    all_goals cases hi

theorem cOp_callv {o : Oper} {os : List Operand} (hi : cOp P o = some (.callv, os)) : ∃ c x, o.op = .call c ∧ c.callee = .value x ∧ os = x :: c.args.toList := by
  obtain ⟨dst, op, type, pos, after, guard⟩ := o
  cases op with
  | call c =>
    simp only [cOp] at hi
    obtain ⟨callee, args, argTypes⟩ := c
    cases callee with
    | builtin b =>
      simp only at hi
      unfold cBuiltin at hi
      repeat' split at hi
      all_goals cases hi
    | invoke => cases hi
    | value q =>
      cases q <;> simp only [Option.some.injEq, Prod.mk.injEq, reduceCtorEq, false_and, true_and] at hi <;> exact ⟨_, _, rfl, rfl, hi.symm⟩
  | binOp => simp only [cOp] at hi; unfold cBin cEq at hi; repeat' split at hi
             all_goals cases hi
  | convert => simp only [cOp] at hi; unfold cConv cConv0 at hi; repeat' split at hi
               all_goals cases hi
  | slice => simp only [cOp] at hi; unfold cSlice at hi; simp only at hi; repeat' split at hi
             all_goals cases hi
  | _ =>
    simp only [cOp] at hi
    repeat' split at hi
    all_goals cases hi

theorem run_callVal {ρ : Operand → Value} {dst : Option Tmp} {type : TypeId} {pos : String} {after : Array Edge} {guard : Option (Nat × Bool)} {args : Array Operand} {argTypes : Array TypeId} {x : Operand} {f : Nat} {first cap : Array Value} (h : ρ x = .func (.func f) first cap) :
    execOp ρ ⟨dst, .call ⟨.value x, args, argTypes⟩, type, pos, after, guard⟩ = callFunc f (first ++ args.map ρ ++ cap) := by
  simp only [execOp, resolve, h, Deferred.ofValue]
  rfl

/-- ONE OPERATION. -/
theorem ins_ok {call : CallF} (hcall : CallOK P w0 call) (hgl : ∀ g ∈ gl, g < w0.ng) {ops : Array Oper} {o : Oper} {c : COp} (hc : cOper gl nt P ops o = some (stripOp c)) {μ : Mu} {H : Heap} {w : World} {fr : Fr} {a : Act}
    {K : Value → Heap → Res} {r : Value × Heap} (R : RR P w0 μ H w) (F : FR μ nt fr a) (h : insK call c fr H K = some r) {next : Act → World → Prop} {Q : Exit → Act → World → Prop}
    (hn : ∀ μ' v v' H' w', K v H' = some r → VR μ' v v' → RR P w0 μ' H' w' → Ext μ H μ' H' → next (a.put o.dst v') w') : o.wp P a w next Q := by
  have hρ : ∀ v, a.eval (.const v) = v := fun _ => rfl
  unfold cOper at hc
  split at hc
  · rename_i g hg
    split at hc
    · split at hc
      · rename_i i os hi
        split at hc
        · rename_i xs hxs
          obtain ⟨cd, ck, cg, ci, ca⟩ := c
          simp only [stripOp, Option.some.injEq, COp.mk.injEq] at hc
          obtain ⟨_, _, _, rfl, rfl⟩ := hc
          unfold Oper.wp
          cases i with
          | bad => simp [insK] at h
          | pure p =>
            simp only [insK] at h
            obtain ⟨vs, h1, h2⟩ := optK_some h
            obtain ⟨v, v', h3, h4, h5⟩ := pure_ok hi μ a.eval vs w _ r hρ (evs_ok R F hgl hxs h1) h2
            rw [h4, Oper.upon_value]
            exact hn μ v v' H w (cast_some h3) h5 R (Ext.refl _ _)
          | pick =>
            obtain ⟨dst, op, type, pos, after, guard⟩ := o
            have hop := cOp_pick hi
            simp only at hop
            obtain ⟨x, y, z, rfl, rfl⟩ := hop
            simp only [copds] at hxs
            split at hxs
            · rename_i x1 l1 hx1 hl1
              split at hl1
              · rename_i y1 l2 hy1 hl2
                split at hl2
                · rename_i z1 l3 hz1 hl3
                  cases hl3; cases hl2; cases hl1; cases hxs
                  simp only [insK] at h
                  obtain ⟨cv, h1, h2⟩ := optK_some h
                  obtain ⟨b, rfl, h3⟩ := asB_some h2
                  obtain ⟨v, h4, h5⟩ := optK_some h3
                  have e1 := (ev_ok R F hgl hx1 h1).bool_inv
                  rw [pick_ok e1, Oper.upon_value]
                  refine hn μ v _ H w (cast_some h5) ?_ R (Ext.refl _ _)
                  cases b
                  · exact ev_ok R F hgl hz1 h4
                  · exact ev_ok R F hgl hy1 h4
                · cases hl2
              · cases hl1
            · cases hxs
          | read ri =>
            simp only [insK] at h
            obtain ⟨vs, h1, h2⟩ := optK_some h
            obtain ⟨v, h3, h4⟩ := optK_some h2
            obtain ⟨v', h5, h6⟩ := read_ok hi w0 μ H w a.eval vs v R hρ (evs_ok R F hgl hxs h1) h3
            rw [h5, Oper.upon_value]
            exact hn μ v v' H w (cast_some h4) h6 R (Ext.refl _ _)
          | eff ei =>
            simp only [insK] at h
            obtain ⟨vs, h1, h2⟩ := optK_some h
            obtain ⟨v, H', μ', v', nx, w', h3, h4, h5, h6, h7, h8⟩ := eff_ok hi w0 μ H w a.eval vs _ r R hρ (evs_ok R F hgl hxs h1) h2
            rw [h4]
            cases nx <;> simp only [nxv, Option.some.injEq, reduceCtorEq] at h5
            · subst h5
              rw [Oper.upon_value]
              exact hn μ' v _ H' w' (cast_some h3) h6 h7 h8
            · subst h5
              rw [Oper.upon_skip]
              exact hn μ' v _ H' w' (cast_some h3) h6 h7 h8
          | call f =>
            simp only [insK] at h
            obtain ⟨vs, h1, h2⟩ := optK_some h
            obtain ⟨v, H', h3, h4⟩ := callK_some h2
            obtain ⟨c, hop, hcal, rfl⟩ := cOp_call hi
            obtain ⟨dst, op, type, pos, after, guard⟩ := o
            simp only at hop
            subst hop
            obtain ⟨callee, args, argTypes⟩ := c
            simp only at hcal
            subst hcal
            have hrun := run_callVal (ρ := a.eval) (dst := dst) (type := type) (pos := pos) (after := after) (guard := guard) (args := args) (argTypes := argTypes) (x := .func f) (f := f) (first := #[]) (cap := #[]) rfl
            rw [hrun]
            have harr : (#[] ++ args.map a.eval ++ #[] : Array Value) = (args.toList.map a.eval).toArray := by
              apply Array.toList_inj.1; simp
            rw [harr]
            exact hcall f vs _ H v H' μ w h3 R (evs_ok R F hgl hxs h1) _ a next Q (fun v' μ' w' k1 k2 k3 => hn μ' v v' H' w' (cast_some h4) k1 k2 k3)
          | callv =>
            simp only [insK] at h
            obtain ⟨vs, h1, h2⟩ := optK_some h
            split at h2
            · rename_i f first cap vs'
              obtain ⟨v, H', h3, h4⟩ := callK_some h2
              obtain ⟨c, x, hop, hcal, rfl⟩ := cOp_callv hi
              obtain ⟨dst, op, type, pos, after, guard⟩ := o
              simp only at hop
              subst hop
              obtain ⟨callee, args, argTypes⟩ := c
              simp only at hcal
              subst hcal
              have hv := evs_ok R F hgl hxs h1
              simp only [List.map_cons] at hv
              obtain ⟨hf, hv⟩ := hv
              generalize hz : a.eval x = z at hf
              cases hf with
              | func _ hs1 hs2 hs3 hs4 =>
                rw [run_callVal hz]
                rename_i f' c'
                have harr : (f' ++ args.map a.eval ++ c' : Array Value) = (f'.toList ++ args.toList.map a.eval ++ c'.toList).toArray := by
                  apply Array.toList_inj.1; simp
                rw [harr]
                have arrs : ∀ {p q : Array Value} (h1 : p.size = q.size), (∀ (i : Nat) (h : i < p.size) (h' : i < q.size), VR μ p[i] q[i]) → VRs μ p.toList q.toList := by
                  intro p q h1 h2
                  refine VRs.of (by simpa using h1) fun i v v' e1 e2 => ?_
                  simp only [Array.getElem?_toList] at e1 e2
                  obtain ⟨e3, rfl⟩ := Array.getElem?_eq_some_iff.1 e1
                  obtain ⟨e4, rfl⟩ := Array.getElem?_eq_some_iff.1 e2
                  exact h2 i e3 e4
                exact hcall f _ _ H v H' μ w h3 R (((arrs hs1 hs2).append hv).append (arrs hs3 hs4)) _ a next Q (fun v' μ' w' k1 k2 k3 => hn μ' v v' H' w' (cast_some h4) k1 k2 k3)
            · cases h2
        · obtain ⟨cd, ck, cg, ci, ca⟩ := c
          simp only [stripOp, badOp, Option.some.injEq, COp.mk.injEq] at hc
          obtain ⟨_, _, _, rfl, _⟩ := hc
          simp [insK] at h
      · obtain ⟨cd, ck, cg, ci, ca⟩ := c
        simp only [stripOp, badOp, Option.some.injEq, COp.mk.injEq] at hc
        obtain ⟨_, _, _, rfl, _⟩ := hc
        simp [insK] at h
    · cases hc
  · cases hc
end
end Go.Cm

namespace Go.Cm
open Go

section
variable {P : Program} {w0 : Start} {gl : List Nat} {nt : Nat}

/-- the guard's slot, clean and real -/
theorem guard_ok {μ : Mu} {fr : Fr} {a : Act} {ops : Array Oper} {g : Option (Nat × Bool)} {cg : Option (Nat × Bool)} (F : FR μ nt fr a) (hg : guardOf ops g = some cg) {yes no : Fr → Res} {r : Value × Heap} (h : guardK cg fr yes no = some r) (o : Oper) (ho : o.guard = g) :
    ∃ fr', FR μ nt fr' a ∧ ((Region.wanted o (yielded ops a.tmps) = true ∧ yes fr' = some r) ∨ (Region.wanted o (yielded ops a.tmps) = false ∧ no fr' = some r)) := by
  cases g with
  | none =>
    simp only [guardOf, Option.some.injEq] at hg
    subst hg
    exact ⟨fr, F, .inl ⟨by simp [Region.wanted, ho], h⟩⟩
  | some q =>
    obtain ⟨j, want⟩ := q
    simp only [guardOf] at hg
    split at hg
    · rename_i t ht
      simp only [Option.some.injEq] at hg
      subst hg
      simp only [guardK] at h
      obtain ⟨v, h1, h2⟩ := optK_some h
      obtain ⟨v', h4, h5⟩ := F.2.2 t _ h1
      by_cases hb : ∀ b, v ≠ .bool b
      · refine ⟨fr, F, .inr ⟨?_, ?_⟩⟩
        · have hy : yielded ops a.tmps j = none := by
            unfold yielded
            rw [ht]
            simp only [Option.bind_some, h4]
            cases h5 <;> first | rfl | exact absurd rfl (hb _)
          unfold Region.wanted
          rw [ho]
          simp only [hy]
          rfl
        · unfold gB at h2
          split at h2
          · exact absurd rfl (hb _)
          · exact h2
      obtain ⟨b, rfl⟩ : ∃ b, v = .bool b := Classical.byContradiction fun h => hb fun b e => h ⟨b, e⟩
      have h3 := h2
      simp only [gB] at h3
      have hy : yielded ops a.tmps j = some b := by
        unfold yielded
        rw [ht]
        simp only [Option.bind_some, h4, h5.bool_inv]
      have hF : FR μ nt ((t, .bool b) :: fr) a := by
        refine ⟨F.1, F.2.1, fun u x hx => ?_⟩
        rw [Fr.get_cons] at hx
        split at hx
        · rename_i e; subst e; cases hx; exact ⟨v', h4, h5⟩
        · exact F.2.2 u x hx
      refine ⟨_, hF, ?_⟩
      have hw : Region.wanted o (yielded ops a.tmps) = (b == want) := by
        unfold Region.wanted
        rw [ho]
        simp only [hy]
        cases b <;> cases want <;> rfl
      rw [hw]
      cases b <;> cases want <;> simp at h3 ⊢ <;> exact h3
    · cases hg

theorem cOper_guard {ops : Array Oper} {o : Oper} {c : COp} (hc : cOper gl nt P ops o = some (stripOp c)) : guardOf ops o.guard = some c.guard ∧ dstOk nt o.dst = true ∧ c.dst = o.dst := by
  unfold cOper at hc
  split at hc
  · rename_i g hg
    split at hc
    · rename_i hd
      have : c.guard = g ∧ c.dst = o.dst := by
        obtain ⟨cd, ck, cg, ci, ca⟩ := c
        split at hc
        · split at hc
          · simp only [stripOp, Option.some.injEq, COp.mk.injEq] at hc; exact ⟨hc.2.2.1.symm, hc.1.symm⟩
          · simp only [stripOp, badOp, Option.some.injEq, COp.mk.injEq] at hc; exact ⟨hc.2.2.1.symm, hc.1.symm⟩
        · simp only [stripOp, badOp, Option.some.injEq, COp.mk.injEq] at hc; exact ⟨hc.2.2.1.symm, hc.1.symm⟩
      rw [this.1]
      exact ⟨hg, hd, this.2⟩
    · cases hc
  · cases hc

/-- A REGION IN THE ORDER OF THE TEXT. -/
theorem ops_ok {call : CallF} (hcall : CallOK P w0 call) (hgl : ∀ g ∈ gl, g < w0.ng) {ops : Array Oper} {Q : Exit → Act → World → Prop} {K : Fr → Heap → Res} {r : Value × Heap} : ∀ (l : List Oper) (cs : List COp), cOpers gl nt P ops l = some (cs.map stripOp) →
    ∀ (μ : Mu) (H : Heap) (w : World) (fr : Fr) (a : Act), RR P w0 μ H w → FR μ nt fr a → runOps call cs fr H K = some r →
    (∀ μ' fr' H' a' w', K fr' H' = some r → RR P w0 μ' H' w' → FR μ' nt fr' a' → Ext μ H μ' H' → Q .normal a' w') → wpList P ops Q l a w
  | [], [], _, μ, H, w, fr, a, R, F, h, hQ => hQ μ fr H a w h R F (Ext.refl _ _)
  | [], _ :: _, hc, _, _, _, _, _, _, _, _, _ => by simp [cOpers] at hc
  | o :: l, [], hc, _, _, _, _, _, _, _, _, _ => by
    unfold cOpers at hc
    split at hc <;> simp at hc
  | o :: l, c :: cs, hc, μ, H, w, fr, a, R, F, h, hQ => by
    unfold cOpers at hc
    split at hc
    · rename_i c1 cs1 h1 h2
      simp only [List.map_cons, Option.some.injEq, List.cons.injEq] at hc
      obtain ⟨rfl, rfl⟩ := hc
      obtain ⟨g1, g2, g3⟩ := cOper_guard h1
      simp only [runOps] at h
      obtain ⟨fr', F', hh⟩ := guard_ok F g1 h o rfl
      unfold wpList
      rcases hh with ⟨hw, hy⟩ | ⟨hw, hy⟩
      · rw [if_pos hw]
        left
        refine ins_ok hcall hgl h1 R F' hy ?_
        intro μ' v v' H' w' k1 k2 k3 k4
        refine ops_ok hcall hgl l cs h2 μ' H' w' _ _ k3 ?_ k1 (fun μ'' fr'' H'' a'' w'' q1 q2 q3 q4 => hQ μ'' fr'' H'' a'' w'' q1 q2 q3 (k4.trans q4))
        rw [g3]
        exact (F'.mono k4.le).put g2 k2
      · rw [if_neg (by rw [hw]; simp)]
        refine ops_ok hcall hgl l cs h2 μ H w _ _ R ?_ hy hQ
        rw [g3]
        exact F'.skip g2
    · cases hc

/-! ### loops -/
def LoopWp (P : Program) (c : Code) (Q : Exit → Act → World → Prop) (a : Act) (w : World) : Prop :=
  ∀ (b : Frame) (k : List Item) (cs : List Frame), ∃ e a' w', Q e a' w' ∧ Arrives P (lone (b.at a (.code c :: .inLoop c :: k)) cs w) b k cs e a' w'

theorem LoopWp.loop {c : Code} {Q : Exit → Act → World → Prop} {a : Act} {w : World} (h : LoopWp P c Q a w) : (Code.loop c).wp P Q a w :=
  fun b k cs => let ⟨e, a', w', q, r⟩ := h b k cs; ⟨e, a', w', q, .of_steps (.one step_loop) r⟩

theorem LoopWp.step {c : Code} {Q : Exit → Act → World → Prop} {a : Act} {w : World} (h : c.wp P (Exit.then (LoopWp P c Q) Q) a w) : LoopWp P c Q a w := by
  intro b k cs
  obtain ⟨e, a₁, w₁, hq, harr⟩ := h b (.inLoop c :: k) cs
  cases e with
  | normal =>
    obtain ⟨e₂, a₂, w₂, hq₂, harr₂⟩ := hq b k cs
    exact ⟨e₂, a₂, w₂, hq₂, .of_steps (Steps.trans harr (.one step_inLoop)) harr₂⟩
  | exit id => exact ⟨_, a₁, w₁, hq, .pass (x := .inLoop c) rfl (fun _ _ => .inl (by simp)) harr⟩
  | goto l => exact ⟨_, a₁, w₁, hq, .pass (x := .inLoop c) rfl (fun _ _ => .inl (by simp)) harr⟩
  | ret => exact ⟨_, a₁, w₁, hq, .pass (x := .inLoop c) rfl (fun _ _ => .inl (by simp)) harr⟩
  | panic ch => exact ⟨_, a₁, w₁, hq, .pass (x := .inLoop c) rfl (fun _ _ => .inl (by simp)) harr⟩
  | outgrown => exact ⟨_, a₁, w₁, hq, .pass (x := .inLoop c) rfl (fun _ _ => .inl (by simp)) harr⟩

/-- the live slots alone -/
theorem live_ok {r : Value × Heap} : ∀ {l : List (Nat × Kd0)} {fr : Fr} {K : Fr → Res}, liveK l fr K = some r → ∃ fr', K fr' = some r ∧ ∀ t v, fr'.get t = some v → fr.get t = some v
  | [], fr, K, h => ⟨[], h, fun t v h => by simp [Fr.get] at h⟩
  | (t, d) :: l, fr, K, h => by
    simp only [liveK] at h
    obtain ⟨v, h1, h2⟩ := optK_some h
    have h3 := cast0_some h2
    obtain ⟨fr', h4, h5⟩ := live_ok h3
    refine ⟨_, h4, fun u x hx => ?_⟩
    rw [Fr.get_cons] at hx
    split at hx
    · rename_i e; subst e; cases hx; exact h1
    · exact h5 u x hx

theorem FR.sub {μ : Mu} {fr fr' : Fr} {a : Act} (h : FR μ nt fr a) (hs : ∀ t v, fr'.get t = some v → fr.get t = some v) : FR μ nt fr' a :=
  ⟨h.1, h.2.1, fun t v hv => h.2.2 t v (hs t v hv)⟩

/-- what is asked of a region that draws (shown elsewhere) -/
def DrawOK (P : Program) (w0 : Start) (gl : List Nat) (nt : Nat) (call : CallF) : Prop :=
  ∀ (id : Nat) (ops : Array Oper) (al : List COp) (cs : List (COp × Nat × Nat)), cDraw gl nt P ops = some (.regD (al.map stripOp) (cs.map fun (c, l, h) => (stripOp c, l, h))) →
    ∀ (μ : Mu) (H : Heap) (w : World) (fr : Fr) (a : Act) (K : Fr → Heap → Res) (r : Value × Heap) (Q : Exit → Act → World → Prop), RR P w0 μ H w → FR μ nt fr a →
      (runOps call al fr H fun fr H => runD call cs fr H [H] [] K) = some r →
      (∀ μ' fr' H' a' w', K fr' H' = some r → RR P w0 μ' H' w' → FR μ' nt fr' a' → Ext μ H μ' H' → Q .normal a' w') → (Code.region id ops true).wp P Q a w

/-- what a continuation is good for -/
def KOK (P : Program) (w0 : Start) (nt : Nat) (μ0 : Mu) (H0 : Heap) (r : Value × Heap) (K : Kt) (Q : Act → World → Prop) : Prop :=
  ∀ μ fr H a w, K fr H = some r → RR P w0 μ H w → FR μ nt fr a → Ext μ0 H0 μ H → Q a w

theorem look_cons {ke : List (Nat × Kt)} {i id : Nat} {k : Kt} : look ((i, k) :: ke) id = if id = i then k else look ke id := rfl

/-- what a region's clean code looks like -/
theorem region_form {id : Nat} {ops : Array Oper} {draw : Bool} {c : CCode} (h : compile gl nt P (.region id ops draw) = some c) :
    (draw = true ∧ cDraw gl nt P ops = some c ∧ ∃ al cs, c = .regD al cs) ∨ (draw = false ∧ ∃ cs, cOpers gl nt P ops ops.toList = some cs ∧ c = .reg cs) := by
  cases draw with
  | true =>
    simp only [compile, if_true] at h
    refine .inl ⟨rfl, h, ?_⟩
    unfold cDraw at h
    split at h
    · simp only at h
      split at h
      · simp only [Option.some.injEq] at h
        exact ⟨_, _, h.symm⟩
      · cases h
    · cases h
  | false =>
    simp only [compile, Bool.false_eq_true, if_false] at h
    refine .inr ⟨rfl, ?_⟩
    split at h
    · rename_i cs e
      simp only [Option.some.injEq] at h
      exact ⟨cs, e, h.symm⟩
    · cases h

/-- CODE. -/
theorem run_ok {call : CallF} {N : Nat} (hcall : CallOK P w0 call) (hdraw : DrawOK P w0 gl nt call) (hgl : ∀ g ∈ gl, g < w0.ng) {μ0 : Mu} {H0 : Heap} {r : Value × Heap} : ∀ (c : CCode) (code : Code), compile gl nt P code = some (strip c) →
    ∀ (kn : Kt) (ke : List (Nat × Kt)) (kr : Kt) (Q : Exit → Act → World → Prop) (μ : Mu) (fr : Fr) (H : Heap) (a : Act) (w : World),
    run call N c kn ke kr fr H = some r → RR P w0 μ H w → FR μ nt fr a → Ext μ0 H0 μ H →
    KOK P w0 nt μ0 H0 r kn (Q .normal) → (∀ id, KOK P w0 nt μ0 H0 r (look ke id) (Q (.exit id))) → KOK P w0 nt μ0 H0 r kr (Q .ret) → code.wp P Q a w := by
  intro c
  induction c with
  | skip =>
    intro code hc kn ke kr Q μ fr H a w h R F E hn he hr
    cases code
    case region => rcases region_form hc with ⟨_, _, _, _, e⟩ | ⟨_, _, _, e⟩ <;> cases e
    all_goals simp only [compile, strip] at hc
    case skip => exact wp_skip (hn μ fr H a w h R F E)
    all_goals (repeat' split at hc)
    all_goals cases hc
  | seq x y ihx ihy =>
    intro code hc kn ke kr Q μ fr H a w h R F E hn he hr
    cases code
    case region => rcases region_form hc with ⟨_, _, _, _, e⟩ | ⟨_, _, _, e⟩ <;> cases e
    all_goals simp only [compile, strip] at hc
    case seq c1 c2 =>
      split at hc
      · rename_i x1 y1 e1 e2
        simp only [Option.some.injEq, CCode.seq.injEq] at hc
        obtain ⟨rfl, rfl⟩ := hc
        refine wp_seq (ihx c1 e1 _ ke kr _ μ fr H a w h R F E ?_ ?_ ?_)
        · intro μ' fr' H' a' w' h' R' F' E'
          exact ihy c2 e2 kn ke kr Q μ' fr' H' a' w' h' R' F' E' hn he hr
        · exact he
        · exact hr
      · cases hc
    all_goals (repeat' split at hc)
    all_goals cases hc
  | reg ops =>
    intro code hc kn ke kr Q μ fr H a w h R F E hn he hr
    cases code
    case region id rops draw =>
      rcases region_form hc with ⟨_, _, _, _, e⟩ | ⟨rfl, cs, e1, e2⟩
      · cases e
      · simp only [strip, CCode.reg.injEq] at e2
        subst e2
        refine wp_region_list (ops_ok hcall hgl rops.toList ops e1 μ H w fr a R F h ?_)
        intro μ' fr' H' a' w' q1 q2 q3 q4
        exact hn μ' fr' H' a' w' q1 q2 q3 (E.trans q4)
    all_goals simp only [compile, strip] at hc
    all_goals (repeat' split at hc)
    all_goals cases hc
  | regD al ops =>
    intro code hc kn ke kr Q μ fr H a w h R F E hn he hr
    cases code
    case region id rops draw =>
      rcases region_form hc with ⟨rfl, e1, _, _, e2⟩ | ⟨_, _, _, e⟩
      · refine hdraw id rops al ops e1 μ H w fr a kn r Q R F h ?_
        intro μ' fr' H' a' w' q1 q2 q3 q4
        exact hn μ' fr' H' a' w' q1 q2 q3 (E.trans q4)
      · cases e
    all_goals simp only [compile, strip] at hc
    all_goals (repeat' split at hc)
    all_goals cases hc
  | cond x c1 c2 ih1 ih2 =>
    intro code hc kn ke kr Q μ fr H a w h R F E hn he hr
    cases code
    case region => rcases region_form hc with ⟨_, _, _, _, e⟩ | ⟨_, _, _, e⟩ <;> cases e
    all_goals simp only [compile, strip] at hc
    case cond o d1 d2 =>
      split at hc
      · rename_i y x1 y1 e0 e1 e2
        simp only [Option.some.injEq, CCode.cond.injEq] at hc
        obtain ⟨rfl, rfl, rfl⟩ := hc
        simp only [run] at h
        obtain ⟨v, h1, h2⟩ := optK_some h
        obtain ⟨t, rfl, h3⟩ := asB_some h2
        have hev := (ev_ok R F hgl e0 h1).bool_inv
        cases t with
        | true => exact wp_cond_true hev (ih1 d1 e1 kn ke kr Q μ fr H a w (by simpa using h3) R F E hn he hr)
        | false => exact wp_cond_false hev (ih2 d2 e2 kn ke kr Q μ fr H a w (by simpa using h3) R F E hn he hr)
      · cases hc
    all_goals (repeat' split at hc)
    all_goals cases hc
  | block id c ih =>
    intro code hc kn ke kr Q μ fr H a w h R F E hn he hr
    cases code
    case region => rcases region_form hc with ⟨_, _, _, _, e⟩ | ⟨_, _, _, e⟩ <;> cases e
    all_goals simp only [compile, strip] at hc
    case block id2 d =>
      split at hc
      · rename_i x e1
        simp only [Option.some.injEq, CCode.block.injEq] at hc
        obtain ⟨rfl, rfl⟩ := hc
        refine wp_block (ih d e1 kn _ kr _ μ fr H a w h R F E hn ?_ hr)
        intro j μ' fr' H' a' w' h' R' F' E'
        rw [look_cons] at h'
        show if j = id2 then Q .normal a' w' else Q (.exit j) a' w'
        split at h'
        · rename_i e; rw [if_pos e]; exact hn μ' fr' H' a' w' h' R' F' E'
        · rename_i e; rw [if_neg e]; exact he j μ' fr' H' a' w' h' R' F' E'
      · cases hc
    all_goals (repeat' split at hc)
    all_goals cases hc
  | loop c ih =>
    intro code hc kn ke kr Q μ fr H a w h R F E hn he hr
    cases code
    case region => rcases region_form hc with ⟨_, _, _, _, e⟩ | ⟨_, _, _, e⟩ <;> cases e
    all_goals simp only [compile, strip] at hc
    case loop d =>
      split at hc
      · rename_i x e1
        simp only [Option.some.injEq, CCode.loop.injEq] at hc
        subst hc
        refine LoopWp.loop ?_
        simp only [run] at h
        have key : ∀ (n : Nat) (μ : Mu) (fr : Fr) (H : Heap) (a : Act) (w : World), iter (fun k => run call N c k ke kr) n fr H = some r → RR P w0 μ H w → FR μ nt fr a → Ext μ0 H0 μ H → LoopWp P d Q a w := by
          intro n
          induction n with
          | zero => intro μ fr H a w h; simp [iter] at h
          | succ n ihn =>
            intro μ fr H a w h R F E
            refine LoopWp.step (ih d e1 _ ke kr _ μ fr H a w h R F E ?_ ?_ ?_)
            · intro μ' fr' H' a' w' h' R' F' E'
              exact ihn μ' fr' H' a' w' h' R' F' E'
            · exact he
            · exact hr
        exact key N μ fr H a w h R F E
      · cases hc
    all_goals (repeat' split at hc)
    all_goals cases hc
  | exit id =>
    intro code hc kn ke kr Q μ fr H a w h R F E hn he hr
    cases code
    case region => rcases region_form hc with ⟨_, _, _, _, e⟩ | ⟨_, _, _, e⟩ <;> cases e
    all_goals simp only [compile, strip] at hc
    case exit id2 =>
      simp only [Option.some.injEq, CCode.exit.injEq] at hc
      subst hc
      exact wp_exit (he _ μ fr H a w h R F E)
    all_goals (repeat' split at hc)
    all_goals cases hc
  | ret =>
    intro code hc kn ke kr Q μ fr H a w h R F E hn he hr
    cases code
    case region => rcases region_form hc with ⟨_, _, _, _, e⟩ | ⟨_, _, _, e⟩ <;> cases e
    all_goals simp only [compile, strip] at hc
    case ret => exact wp_ret (hr μ fr H a w h R F E)
    all_goals (repeat' split at hc)
    all_goals cases hc
  | bad =>
    intro code hc kn ke kr Q μ fr H a w h R F E hn he hr
    simp [run] at h
  | cut live c ih =>
    intro code hc kn ke kr Q μ fr H a w h R F E hn he hr
    simp only [run, opq_eq, backK] at h
    obtain ⟨fr', h1, h2⟩ := live_ok h
    exact ih code hc kn ke kr Q μ fr' H a w h1 R (F.sub h2) E hn he hr
  | loopC live c ih =>
    intro code hc kn ke kr Q μ fr H a w h R F E hn he hr
    cases code
    case region => rcases region_form hc with ⟨_, _, _, _, e⟩ | ⟨_, _, _, e⟩ <;> cases e
    all_goals simp only [compile, strip] at hc
    case loop d =>
      split at hc
      · rename_i x e1
        simp only [Option.some.injEq, CCode.loop.injEq] at hc
        subst hc
        refine LoopWp.loop ?_
        simp only [run, opq_eq, backK] at h
        obtain ⟨fr0, h1, h2⟩ := live_ok h
        have key : ∀ (n : Nat) (μ : Mu) (fr : Fr) (H : Heap) (a : Act) (w : World), iter (fun k => run call N c (backK live k) ke kr) n fr H = some r → RR P w0 μ H w → FR μ nt fr a → Ext μ0 H0 μ H → LoopWp P d Q a w := by
          intro n
          induction n with
          | zero => intro μ fr H a w h; simp [iter] at h
          | succ n ihn =>
            intro μ fr H a w h R F E
            refine LoopWp.step (ih d e1 _ ke kr _ μ fr H a w h R F E ?_ ?_ ?_)
            · intro μ' fr' H' a' w' h' R' F' E'
              simp only [backK] at h'
              obtain ⟨fr2, h3, h4⟩ := live_ok h'
              exact ihn μ' fr2 H' a' w' h3 R' (F'.sub h4) E'
            · exact he
            · exact hr
        exact key N μ fr0 H a w h1 R (F.sub h2) E
      · cases hc
    all_goals (repeat' split at hc)
    all_goals cases hc
end
end Go.Cm

namespace Go.Cm
open Go

section
variable {P : Program} {w0 : Start} {gl : List Nat} {nt : Nat}

theorem load_form {n : Nat} {agg : Bool} {v x : Value} {H : Heap} (h : readD (.load n agg) [v] H = some x) : ∃ ad, v = .pointer (some ad) := by
  cases v
  case pointer o =>
    cases o
    · simp [readD] at h
    · exact ⟨_, rfl⟩
  all_goals simp [readD] at h

theorem run_enter {f : FuncId} {fn : Func} {c : Code} (hf : P.funcs[f]? = some fn) (hname : (fn.name == "runtime.NumGoroutine") = false) (hb : fn.body = some c) (args : Array Value) (w : World) :
    (callFunc f args).run P w = .ok (.enter f args) w := by
  have h1 : fn.name ≠ "runtime.NumGoroutine" := by simpa using hname
  simp [callFunc, hf, h1, hb]

/-- a list of results -/
theorem resL_ok {μ : Mu} {H : Heap} {w : World} (R : RR P w0 μ H w) {fr : Fr} {a : Act} (F : FR μ nt fr a) (f : ResultVar → Sem Value) (hf : ∀ u, f (.tmp u) = pure (a.tmps.getD u undef)) (hc : ∀ x t, f (.cell x t) = (do loadVar t (← asAddr (a.tmps.getD x undef)))) :
    ∀ (l : List ResultVar) (rs : List CRes) (vs : List Value), cRess P l = some rs → resL H fr rs = some vs → ∃ vs', (l.mapM f).run P w = .ok vs' w ∧ VRs μ vs vs' := by
  intro l
  induction l with
  | nil =>
    intro rs vs h1 h2
    simp only [cRess, Option.some.injEq] at h1
    subst h1
    simp only [resL, Option.some.injEq] at h2
    subst h2
    exact ⟨[], by simp, trivial⟩
  | cons x l ih =>
    intro rs vs h1 h2
    cases x with
    | tmp u =>
      simp only [cRess] at h1
      split at h1
      · rename_i r hr
        simp only [Option.some.injEq] at h1
        subst h1
        simp only [resL] at h2
        split at h2
        · rename_i v hv
          split at h2
          · rename_i vs1 hvs
            simp only [Option.some.injEq] at h2
            subst h2
            obtain ⟨vs', h3, h4⟩ := ih r vs1 hr hvs
            obtain ⟨v', h5, h6⟩ := F.2.2 u v hv
            refine ⟨v' :: vs', ?_, h6, h4⟩
            have e : a.tmps.getD u undef = v' := by simp [Array.getD_eq_getD_getElem?, h5]
            simp [List.mapM_cons, hf, h3, e]
          · cases h2
        · cases h2
      · cases h1
    | cell u t =>
      simp only [cRess] at h1
      split at h1
      · rename_i r hr
        split at h1
        · rename_i hok
          simp only [Option.some.injEq] at h1
          subst h1
          simp only [resL] at h2
          split at h2
          · rename_i v hv
            split at h2
            · rename_i x hx
              split at h2
              · rename_i vs1 hvs
                simp only [Option.some.injEq] at h2
                subst h2
                obtain ⟨vs', h3, h4⟩ := ih r vs1 hr hvs
                obtain ⟨v', h5, h6⟩ := F.2.2 u v hv
                have e : a.tmps.getD u undef = v' := by simp [Array.getD_eq_getD_getElem?, h5]
                have hp := load_form hx
                obtain ⟨ad, rfl⟩ := hp
                cases h6 with
                | ptr ha =>
                  obtain ⟨x', h7, h8⟩ := loadVar_ok R hok ha hx
                  refine ⟨x' :: vs', ?_, h8, h4⟩
                  rw [List.mapM_cons, hc, e]
                  simp [asAddr, h7, h3]
              · cases h2
            · cases h2
          · cases h2
        · cases h1
      · cases h1

theorem results_ok {μ : Mu} {H : Heap} {w : World} (R : RR P w0 μ H w) {fr : Fr} {a : Act} (F : FR μ nt fr a) {fn : Func} {rs : List CRes} (hr : cRess P fn.results.toList = some rs) {v : Value} {H' : Heap} (h : retK rs fr H = some (v, H')) :
    ∃ v', (results fn a.tmps).run P w = .ok v' w ∧ VR μ v v' ∧ H' = H := by
  unfold retK at h
  have key : ∀ vs, resL H fr rs = some vs → ∃ vs', (results fn a.tmps).run P w = .ok (if h : vs'.toArray.size = 1 then vs'.toArray[0] else .tuple vs'.toArray) w ∧ VRs μ vs vs' := by
    intro vs hvs
    obtain ⟨vs', h1, h2⟩ := resL_ok R F (fun | .tmp t => pure (a.tmps.getD t undef) | .cell x t => do loadVar t (← asAddr (a.tmps.getD x undef))) (fun _ => rfl) (fun _ _ => rfl) _ _ _ hr hvs
    refine ⟨vs', ?_, h2⟩
    unfold results
    rw [show fn.results = fn.results.toList.toArray by simp, List.mapM_toArray]
    simp only [Sem.run_bind, Sem.run_map]
    erw [h1]
    rfl
  split at h
  · rename_i x hx
    simp only [Option.some.injEq, Prod.mk.injEq] at h
    obtain ⟨rfl, rfl⟩ := h
    obtain ⟨vs', h1, h2⟩ := key _ hx
    match vs', h2 with
    | [x'], h2 => exact ⟨x', by simpa using h1, h2.1, rfl⟩
  · rename_i vs hn hvs
    simp only [Option.some.injEq, Prod.mk.injEq] at h
    obtain ⟨rfl, rfl⟩ := h
    obtain ⟨vs', h1, h2⟩ := key _ hvs
    refine ⟨.tuple vs'.toArray, ?_, ?_, rfl⟩
    · rw [h1]
      have hl : vs'.length ≠ 1 := by
        rw [← h2.length]
        intro e
        match vs, e with
        | [x], _ => exact hn x rfl
      simp [hl]
    · refine VR.tuple (by simpa using h2.length) fun i h h' => ?_
      obtain ⟨v', h3, h4⟩ := h2.get i _ (by simpa using List.getElem?_eq_getElem (by simpa using h))
      have : vs'.toArray[i] = v' := by simpa [List.getElem?_eq_some_iff] using (List.getElem?_eq_some_iff.1 h3).2
      rw [this]; exact h4
  · cases h

/-- the frame that a call starts with -/
theorem frame0_get : ∀ (vs : List Value) (i t : Nat) (v : Value), (frame0 i vs).get t = some v → i ≤ t ∧ vs[t - i]? = some v
  | [], i, t, v, h => by simp [frame0, Fr.get] at h
  | x :: vs, i, t, v, h => by
    simp only [frame0, Fr.get_cons] at h
    split at h
    · rename_i e
      subst e
      simp only [Option.some.injEq] at h
      subst h
      simp
    · obtain ⟨h1, h2⟩ := frame0_get vs (i + 1) t v h
      refine ⟨by omega, ?_⟩
      have : t - i = (t - (i + 1)) + 1 := by omega
      rw [this]
      simpa using h2

/-- what is asked of the functions -/
structure ProgOK (P : Program) (w0 : Start) (gl : List Nat) (C : CProg) : Prop where
  globs : ∀ g ∈ gl, g < w0.ng
  fn : ∀ f c, C.fn f = some c → cFunc gl P f c
  prim : ∀ f p, C.prim f = some p → CallOK P w0 (fun g vs H => if g = f then p vs H else none)
  draw : ∀ call, CallOK P w0 call → ∀ nt, DrawOK P w0 gl nt call

/-- EVERY CALL. -/
theorem callD_ok {C : CProg} {N : Nat} (hC : ProgOK P w0 gl C) : ∀ d, CallOK P w0 (callD C N d) := by
  intro d
  induction d with
  | zero => intro f vs vs' H v H' μ w h; simp [callD] at h
  | succ d ih =>
    intro f vs vs' H v H' μ w h R hvs o a next Q hn
    simp only [callD] at h
    split at h
    · rename_i p hp
      exact hC.prim f p hp f vs vs' H v H' μ w (by simpa using h) R hvs o a next Q hn
    · split at h
      · rename_i c hc
        obtain ⟨fn, body, h1, h2, h3, h4, h5⟩ := hC.fn f c hc
        rw [run_enter h1 h5 h2, Oper.upon_enter]
        refine Calls.mono (calls_of_wp (R := fun | .returned v', w' => next (a.put o.dst v') w' | _, _ => False) h1 h2 ?_) ?_
        · have hfr : FR μ fn.ntmps (frame0 0 vs) { tmps := vs'.toArray ++ Array.replicate (fn.ntmps - vs'.toArray.size) undef, defers := [] } := by
            refine ⟨by simp; omega, rfl, fun t x hx => ?_⟩
            obtain ⟨_, hx⟩ := frame0_get vs 0 t x hx
            obtain ⟨x', h6, h7⟩ := hvs.get _ x hx
            refine ⟨x', ?_, h7⟩
            have hlt := (List.getElem?_eq_some_iff.1 h6).1
            simp only [Nat.sub_zero] at h6 hlt
            rw [Array.getElem?_append_left (by simpa using hlt)]
            simpa using h6
          have hk : KOK P w0 fn.ntmps μ H (v, H') (retK c.results) (fun a1 w1 => a1.defers = [] ∧ ∃ x, (results fn a1.tmps).run P w1 = .ok x w1 ∧ next (a.put o.dst x) w1) := by
            intro μ1 fr1 H1 a1 w1 k1 k2 k3 k4
            obtain ⟨x, h6, h7, rfl⟩ := results_ok k2 k3 h4 k1
            exact ⟨k3.2.1, x, h6, hn x μ1 w1 h7 k2 k4⟩
          refine run_ok (N := N) ih (hC.draw _ ih _) hC.globs c.body body h3 (retK c.results) [] (retK c.results) _ μ _ H _ w h R hfr (Ext.refl _ _) ?_ ?_ ?_
          · exact hk
          · intro id μ1 fr1 H1 a1 w1 k1
            simp [look] at k1
          · exact hk
        · intro e w' hR
          cases e with
          | returned x => exact hR
          | panicked ch => exact hR.elim
          | outgrown => exact hR.elim
      · cases h
end
end Go.Cm
