/-
  The clean run of a region that draws its order, told place by place.
  And: A region that draws its order: whatever order is drawn, the clean run in the order of the text is what happens. A region that draws its order: one more operation, whichever is drawn. A region that draws its order, whole. A region that draws its order: the plan from the compiled code. A program's functions, compiled as they are called; a call from a start. A closed function as one step; what a law asks of the memory behind the call. A call's start: its arguments' memory, as windows. A clean call is the model's call. Windows from what the kit tells of an argument.
-/
import Derived.Test.YtkkhljcjjhcnhaaGreatDoorCmE
import Derived.Orders
import Derived.ChangeSame
import Derived.Carry
import Derived.WalkKit
import Derived.ProofKit
import Derived.OpenShut
import Derived.JoinedCond
namespace Go.Cm
open Go

theorem ev_congr {fr fr' : Fr} {x : COpd} (h : ∀ t, x = .tmp t → fr'.get t = fr.get t) : ev fr' x = ev fr x := by
  cases x <;> simp only [ev]
  exact h _ rfl
theorem evs_congr {fr fr' : Fr} : ∀ {xs : List COpd}, (∀ t, COpd.tmp t ∈ xs → fr'.get t = fr.get t) → evs fr' xs = evs fr xs
  | [], _ => rfl
  | x :: xs, h => by
    simp only [evs, ev_congr (x := x) (fun t e => h t (by simp [e])), evs_congr (xs := xs) (fun t e => h t (by simp [e]))]

theorem insK_congr {call : CallF} {c : COp} {fr fr' : Fr} (h : ∀ t, COpd.tmp t ∈ c.args → fr'.get t = fr.get t) (H : Heap) (K : Value → Heap → Res) : insK call c fr' H K = insK call c fr H K := by
  unfold insK
  rw [evs_congr h]
  cases hi : c.ins <;> dsimp only
  split
  · rename_i x y z e
    rw [e] at h
    rw [ev_congr (x := x) (fun t e => h t (by simp [e]))]
    congr 1; funext v
    congr 1; funext b
    congr 1
    cases b
    · exact ev_congr (x := z) (fun t e => h t (by simp [e]))
    · exact ev_congr (x := y) (fun t e => h t (by simp [e]))
  · rfl

theorem ins_alg (call : CallF) (c : COp) (fr : Fr) (H : Heap) : Alg apE (insK call c fr H) := by
  show Alg apE (fun K => insK call c fr H K)
  unfold insK
  cases c.ins with
  | bad => exact .nil
  | pure p => exact Alg.optK fun vs => Alg.bind (pure_alg p vs) fun v => Alg.cast fun v => Alg.e _ _
  | pick =>
    dsimp only
    rcases c.args with _ | ⟨x, _ | ⟨y, _ | ⟨z, _ | ⟨u, l⟩⟩⟩⟩ <;> dsimp only <;> first | exact .nil | skip
    exact Alg.optK fun _ => Alg.asB fun _ => Alg.optK fun _ => Alg.cast fun _ => Alg.e _ _
  | read r => exact Alg.optK fun _ => Alg.optK fun _ => Alg.cast fun _ => Alg.e _ _
  | eff e => exact Alg.optK fun vs => Alg.bind (g := fun (K : Value → Heap → Res) (v : Value) (H : Heap) => cast c.kd v fun v => K v H) (eff_alg e vs H) fun _ => Alg.cast fun _ => Alg.e _ _
  | call f => exact Alg.optK fun vs => Alg.callK fun v H => Alg.cast fun _ => Alg.e _ _
  | callv =>
    refine Alg.optK fun vs => ?_
    rcases vs with _ | ⟨x, vs⟩ <;> try dsimp only
    · exact .nil
    · cases x <;> try exact .nil
      rename_i fn first cap
      cases fn <;> try exact .nil
      exact Alg.callK fun v H => Alg.cast fun _ => Alg.e _ _

/-- what needs no memory -/
theorem ins_pure (call : CallF) (c : COp) (fr : Fr) (hp : (∃ p, c.ins = .pure p) ∨ c.ins = .pick) : (∀ H K, insK call c fr H K = none) ∨ ∃ v, ∀ H K, insK call c fr H K = K v H := by
  have key : Alg apV (fun K => insK call c fr (⟨.leaf, 0, fun _ => none⟩ : Heap) fun v _ => K v) ∧ ∀ H K, insK call c fr H K = insK call c fr ⟨.leaf, 0, fun _ => none⟩ (fun v _ => K v H) := by
    rcases hp with ⟨p, hp⟩ | hp <;> unfold insK <;> rw [hp] <;> dsimp only
    · exact ⟨Alg.optK fun vs => Alg.bind (pure_alg p vs) fun v => Alg.cast fun v => Alg.v _, fun H K => rfl⟩
    · rcases c.args with _ | ⟨x, _ | ⟨y, _ | ⟨z, _ | ⟨u, l⟩⟩⟩⟩ <;> dsimp only <;> first | exact ⟨.nil, fun _ _ => rfl⟩ | skip
      exact ⟨Alg.optK fun _ => Alg.asB fun _ => Alg.optK fun _ => Alg.cast fun _ => Alg.v _, fun _ _ => rfl⟩
  obtain ⟨h | ⟨v, h⟩, h2⟩ := key
  · exact .inl fun H K => (h2 H K).trans (h _)
  · exact .inr ⟨v, fun H K => (h2 H K).trans (h _)⟩

/-- is it to be carried out? -/
def wantC (c : COp) (fr : Fr) : Option Bool := match c.guard with
  | none => some true
  | some (t, w) => match fr.get t with
    | some v => (match v with
      | .bool b => some (b == w)
      | _ => some false)
    | none => none

theorem guardK_ran {c : COp} {fr : Fr} {yes no : Fr → Res} {r : Value × Heap} (h : guardK c.guard fr yes no = some r) :
    ∃ fr1, (∀ t, fr1.get t = fr.get t) ∧ ((wantC c fr = some true ∧ yes fr1 = some r) ∨ (wantC c fr = some false ∧ no fr1 = some r)) := by
  unfold guardK at h
  unfold wantC
  split at h
  · rename_i e
    exact ⟨fr, fun _ => rfl, .inl ⟨by simp [e], h⟩⟩
  · rename_i t w e
    obtain ⟨v, h1, h2⟩ := optK_some h
    by_cases hb : ∀ b, v ≠ .bool b
    · refine ⟨fr, fun _ => rfl, .inr ⟨?_, ?_⟩⟩
      · rw [e]
        dsimp only
        rw [h1]
        cases v <;> first | rfl | exact absurd rfl (hb _)
      · unfold gB at h2
        split at h2
        · exact absurd rfl (hb _)
        · exact h2
    obtain ⟨b, rfl⟩ : ∃ b, v = .bool b := Classical.byContradiction fun h => hb fun b e => h ⟨b, e⟩
    have h3 := h2
    simp only [gB] at h3
    have hs : ∀ u, Fr.get ((t, .bool b) :: fr) u = fr.get u := fun u => by
      rw [Fr.get_cons]; split
      · rename_i e; subst e; exact h1.symm
      · rfl
    refine ⟨_, hs, ?_⟩
    rw [e]
    simp only [h1]
    cases b <;> cases w <;> simp at h3 ⊢ <;> exact h3

/-- one place -/
structure Ran (call : CallF) (c : COp) (fr : Fr) (H : Heap) (fr' : Fr) (H' : Heap) : Prop where
  other : ∀ t, c.dst ≠ some t → fr'.get t = fr.get t
  how : (∃ v, wantC c fr = some true ∧ (∀ K, insK call c fr H K = K v H') ∧ ∀ t, c.dst = some t → fr'.get t = some v) ∨
    (wantC c fr = some false ∧ H' = H ∧ ∀ t, c.dst = some t → fr'.get t = some Go.undef)

theorem setO_other {fr : Fr} {d : Option Nat} {v : Value} {t : Nat} (h : d ≠ some t) : (fr.setO d v).get t = fr.get t := by
  cases d with
  | none => rfl
  | some u => rw [Fr.setO, Fr.get_cons, if_neg (fun e => h (by rw [e]))]
theorem setO_same {fr : Fr} {d : Option Nat} {v : Value} {t : Nat} (h : d = some t) : (fr.setO d v).get t = some v := by
  subst h; rw [Fr.setO, Fr.get_cons, if_pos rfl]
theorem delO_other {fr : Fr} {d : Option Nat} {t : Nat} (h : d ≠ some t) : (fr.delO d).get t = fr.get t := by
  cases d with
  | none => rfl
  | some u => rw [Fr.delO, Fr.get_cons, if_neg (fun e => h (by rw [e]))]
theorem delO_same {fr : Fr} {d : Option Nat} {t : Nat} (h : d = some t) : (fr.delO d).get t = some Go.undef := by
  subst h; rw [Fr.delO, Fr.get_cons, if_pos rfl]

theorem Ran.yes {call : CallF} {c : COp} {fr fr1 : Fr} {H H' : Heap} {v : Value} (hs : ∀ t, fr1.get t = fr.get t) (hw : wantC c fr = some true) (hi : ∀ K, insK call c fr1 H K = K v H') : Ran call c fr H (fr1.setO c.dst v) H' :=
  ⟨fun t ht => (setO_other ht).trans (hs t), .inl ⟨v, hw, fun K => (insK_congr (fun t _ => (hs t).symm) H K).trans (hi K), fun _ ht => setO_same ht⟩⟩
theorem Ran.no {call : CallF} {c : COp} {fr fr1 : Fr} {H : Heap} (hs : ∀ t, fr1.get t = fr.get t) (hw : wantC c fr = some false) : Ran call c fr H (fr1.delO c.dst) H :=
  ⟨fun t ht => (delO_other ht).trans (hs t), .inr ⟨hw, rfl, fun _ ht => delO_same ht⟩⟩

theorem ins_ran {call : CallF} {c : COp} {fr : Fr} {H : Heap} {K : Value → Heap → Res} {r : Value × Heap} (h : insK call c fr H K = some r) : ∃ v H', K v H' = some r ∧ ∀ K, insK call c fr H K = K v H' := by
  rcases ins_alg call c fr H with h1 | ⟨⟨v, H'⟩, h1⟩
  · rw [h1] at h; cases h
  · exact ⟨v, H', by rw [h1] at h; exact h, h1⟩

theorem runOps_ran {call : CallF} {K : Fr → Heap → Res} {r : Value × Heap} : ∀ (cs : List COp) (fr : Fr) (H : Heap), runOps call cs fr H K = some r →
    ∃ (F : Nat → Fr) (G : Nat → Heap), F 0 = fr ∧ G 0 = H ∧ (∀ p c, cs[p]? = some c → Ran call c (F p) (G p) (F (p + 1)) (G (p + 1))) ∧ K (F cs.length) (G cs.length) = some r
  | [], fr, H, h => ⟨fun _ => fr, fun _ => H, rfl, rfl, fun p c e => by simp at e, h⟩
  | c :: cs, fr, H, h => by
    simp only [runOps] at h
    obtain ⟨fr1, hs, hh⟩ := guardK_ran h
    have key : ∃ fr2 H2, Ran call c fr H fr2 H2 ∧ runOps call cs fr2 H2 K = some r := by
      rcases hh with ⟨hw, hy⟩ | ⟨hw, hy⟩
      · obtain ⟨v, H', h1, h2⟩ := ins_ran hy
        exact ⟨_, _, Ran.yes hs hw h2, h1⟩
      · exact ⟨_, _, Ran.no hs hw, hy⟩
    obtain ⟨fr2, H2, hr, hk⟩ := key
    obtain ⟨F, G, f0, g0, hF, hK⟩ := runOps_ran cs fr2 H2 hk
    refine ⟨fun | 0 => fr | p + 1 => F p, fun | 0 => H | p + 1 => G p, rfl, rfl, ?_, hK⟩
    intro p c' e
    cases p with
    | zero =>
      simp at e; subst e
      show Ran call c fr H (F 0) (G 0)
      rw [f0, g0]; exact hr
    | succ p => exact hF p c' (by simpa using e)

/-- how many effects there are among the first -/
def eCnt (os : List (COp × Nat × Nat)) (q : Nat) : Nat := ((os.take q).filter fun x => !x.1.ins.still).length

theorem runD_ran {call : CallF} {K : Fr → Heap → Res} {r : Value × Heap} : ∀ (os : List (COp × Nat × Nat)) (fr : Fr) (H : Heap) (hs : List Heap) (rds : List Rd), runD call os fr H (H :: hs) rds K = some r →
    ∃ (F : Nat → Fr) (G : Nat → Heap) (hsF : List Heap) (rdsF : List Rd), F 0 = fr ∧ G 0 = H ∧ (∀ p c, os[p]? = some c → Ran call c.1 (F p) (G p) (F (p + 1)) (G (p + 1))) ∧ K (F os.length) (G os.length) = some r ∧
      rdsOk hsF rdsF = true ∧ (∀ d ∈ rds, d ∈ rdsF) ∧ (∀ k < (H :: hs).length, hsF[k]? = (H :: hs).reverse[k]?) ∧ (∀ p ≤ os.length, hsF[hs.length + eCnt os p]? = some (G p)) ∧
      (∀ (p : Nat) (c : COp) (lo hi : Nat) (ri : RI), os[p]? = some (c, lo, hi) → c.ins = .read ri → wantC c (F p) = some true → lo < hi → ∃ vs v, evs (F p) c.args = some vs ∧ readD ri vs (G p) = some v ∧ Rd.mk ri vs v lo hi ∈ rdsF)
  | [], fr, H, hs, rds, h => by
    simp only [runD] at h
    have h' : rdsOk (H :: hs).reverse rds = true ∧ K fr H = some r := by
      unfold chk at h
      split at h
      · exact ⟨by assumption, h⟩
      · cases h
    refine ⟨fun _ => fr, fun _ => H, (H :: hs).reverse, rds, rfl, rfl, fun p c e => by simp at e, h'.2, h'.1, fun _ h => h, fun _ _ => rfl, ?_, fun p c lo hi ri e => by simp at e⟩
    intro p _
    simp [eCnt]
  | (c, lo, hi) :: os, fr, H, hs, rds, h => by
    simp only [runD] at h
    obtain ⟨fr1, hq, hh⟩ := guardK_ran h
    -- the rest
    have fin : ∀ (fr2 : Fr) (H2 : Heap) (hs2 : List Heap) (rds2 : List Rd), Ran call c fr H fr2 H2 → runD call os fr2 H2 (H2 :: hs2) rds2 K = some r → (∀ d ∈ rds, d ∈ rds2) →
        ((c.ins.still = true ∧ H2 = H ∧ hs2 = hs) ∨ (c.ins.still = false ∧ hs2 = H :: hs)) →
        (∀ ri, c.ins = .read ri → wantC c fr = some true → lo < hi → ∃ vs v, evs fr c.args = some vs ∧ readD ri vs H = some v ∧ Rd.mk ri vs v lo hi ∈ rds2) →
        ∃ (F : Nat → Fr) (G : Nat → Heap) (hsF : List Heap) (rdsF : List Rd), F 0 = fr ∧ G 0 = H ∧ (∀ p c', ((c, lo, hi) :: os)[p]? = some c' → Ran call c'.1 (F p) (G p) (F (p + 1)) (G (p + 1))) ∧ K (F ((c, lo, hi) :: os).length) (G ((c, lo, hi) :: os).length) = some r ∧
      rdsOk hsF rdsF = true ∧ (∀ d ∈ rds, d ∈ rdsF) ∧ (∀ k < (H :: hs).length, hsF[k]? = (H :: hs).reverse[k]?) ∧ (∀ p ≤ ((c, lo, hi) :: os).length, hsF[hs.length + eCnt ((c, lo, hi) :: os) p]? = some (G p)) ∧
      (∀ (p : Nat) (c' : COp) (lo' hi' : Nat) (ri : RI), ((c, lo, hi) :: os)[p]? = some (c', lo', hi') → c'.ins = .read ri → wantC c' (F p) = some true → lo' < hi' → ∃ vs v, evs (F p) c'.args = some vs ∧ readD ri vs (G p) = some v ∧ Rd.mk ri vs v lo' hi' ∈ rdsF) := by
      intro fr2 H2 hs2 rds2 hr hk hsub hst hrd
      obtain ⟨F, G, hsF, rdsF, f0, g0, hF, hK, hok, hin, hpre, hat, hre⟩ := runD_ran os fr2 H2 hs2 rds2 hk
      have hlen : (H :: hs).length ≤ (H2 :: hs2).length ∧ ∀ k < (H :: hs).length, (H2 :: hs2).reverse[k]? = (H :: hs).reverse[k]? := by
        rcases hst with ⟨_, rfl, rfl⟩ | ⟨_, rfl⟩
        · exact ⟨Nat.le_refl _, fun _ _ => rfl⟩
        · refine ⟨by simp, fun k hk => ?_⟩
          rw [List.reverse_cons (a := H2), List.getElem?_append_left (by simpa using hk)]
      refine ⟨fun | 0 => fr | p + 1 => F p, fun | 0 => H | p + 1 => G p, hsF, rdsF, rfl, rfl, ?_, hK, hok, fun d hd => hin d (hsub d hd), fun k hk => (hpre k (Nat.lt_of_lt_of_le hk hlen.1)).trans (hlen.2 k hk), ?_, ?_⟩
      · intro p c' e
        cases p with
        | zero =>
          simp at e; subst e
          show Ran call c fr H (F 0) (G 0)
          rw [f0, g0]; exact hr
        | succ p => exact hF p c' (by simpa using e)
      · intro p hp
        cases p with
        | zero =>
          show hsF[hs.length + 0]? = some H
          have h1 : hs.length < (H :: hs).length := by simp
          rw [Nat.add_zero, hpre _ (Nat.lt_of_lt_of_le h1 hlen.1), hlen.2 _ h1]
          simp
        | succ p =>
          have := hat p (by simpa using hp)
          show hsF[hs.length + eCnt ((c, lo, hi) :: os) (p + 1)]? = some (G p)
          rw [← this]
          congr 1
          rcases hst with ⟨h1, _, h3⟩ | ⟨h1, h3⟩
          · subst h3; simp [eCnt, h1]
          · subst h3; simp [eCnt, h1]; omega
      · intro p c' lo' hi' ri e
        cases p with
        | zero =>
          simp at e; obtain ⟨rfl, rfl, rfl⟩ := e
          intro h1 h2 h3
          obtain ⟨vs, v, h4, h5, h6⟩ := hrd ri h1 h2 h3
          exact ⟨vs, v, h4, h5, hin _ h6⟩
        | succ p => exact hre p c' lo' hi' ri (by simpa using e)
    rcases hh with ⟨hw, hy⟩ | ⟨hw, hy⟩
    · cases hi' : c.ins with
      | read ri =>
        simp only [hi'] at hy
        obtain ⟨vs, h1, h2⟩ := optK_some hy
        obtain ⟨v, h3, h4⟩ := optK_some h2
        rcases Alg.cast (ap := apV) (d := c.kd) (v := v) (g := fun x K => K x) (fun x => Alg.v x) with h5 | ⟨x, h5⟩
        · exact absurd (h4.symm.trans (h5 _)) (by simp)
        · have h6 := (h5 _).symm.trans h4
          have hev : evs fr c.args = some vs := by rw [← h1]; exact (evs_congr fun t _ => (hq t)).symm
          refine fin _ _ _ _ (Ran.yes (v := x) hq hw ?_) h6 ?_ (.inl ⟨by simp [CIns.still, hi'], rfl, rfl⟩) ?_
          · intro K'
            unfold insK
            rw [hi']
            dsimp only
            rw [h1]
            simp only [optK, h3]
            exact h5 (fun v => K' v H)
          · intro d hd
            split
            · exact List.mem_cons_of_mem _ hd
            · exact hd
          · intro ri' e1 _ hlt
            rw [hi'] at e1; cases e1
            rw [if_pos hlt]
            exact ⟨vs, v, hev, h3, List.mem_cons_self⟩
      | pure p =>
        simp only [hi'] at hy
        obtain ⟨v, H', h1, h2⟩ := ins_ran hy
        have hH : H' = H := by
          rcases ins_pure call c fr1 (.inl ⟨p, hi'⟩) with h3 | ⟨v', h3⟩
          · have := (h2 fun v H => some (v, H)).symm.trans (h3 _ _); cases this
          · have := (h2 fun v H => some (v, H)).symm.trans (h3 _ _); simp at this; exact this.2
        subst hH
        exact fin _ _ _ _ (Ran.yes hq hw h2) h1 (fun _ h => h) (.inl ⟨by simp [CIns.still, hi'], rfl, rfl⟩) (fun ri e => by rw [hi'] at e; cases e)
      | pick =>
        simp only [hi'] at hy
        obtain ⟨v, H', h1, h2⟩ := ins_ran hy
        have hH : H' = H := by
          rcases ins_pure call c fr1 (.inr hi') with h3 | ⟨v', h3⟩
          · have := (h2 fun v H => some (v, H)).symm.trans (h3 _ _); cases this
          · have := (h2 fun v H => some (v, H)).symm.trans (h3 _ _); simp at this; exact this.2
        subst hH
        exact fin _ _ _ _ (Ran.yes hq hw h2) h1 (fun _ h => h) (.inl ⟨by simp [CIns.still, hi'], rfl, rfl⟩) (fun ri e => by rw [hi'] at e; cases e)
      | _ =>
        simp only [hi'] at hy
        obtain ⟨v, H', h1, h2⟩ := ins_ran hy
        exact fin _ _ _ _ (Ran.yes hq hw h2) h1 (fun _ h => h) (.inr ⟨by simp [CIns.still, hi'], rfl⟩) (fun ri e => by rw [hi'] at e; cases e)
    · cases hi' : c.ins with
      | read ri =>
        simp only [hi'] at hy
        exact fin _ _ _ _ (Ran.no hq hw) hy (fun _ h => h) (.inl ⟨by simp [CIns.still, hi'], rfl, rfl⟩) (fun ri e h => by rw [hw] at h; cases h)
      | pure p =>
        simp only [hi'] at hy
        exact fin _ _ _ _ (Ran.no hq hw) hy (fun _ h => h) (.inl ⟨by simp [CIns.still, hi'], rfl, rfl⟩) (fun ri e h => by rw [hw] at h; cases h)
      | pick =>
        simp only [hi'] at hy
        exact fin _ _ _ _ (Ran.no hq hw) hy (fun _ h => h) (.inl ⟨by simp [CIns.still, hi'], rfl, rfl⟩) (fun ri e h => by rw [hw] at h; cases h)
      | _ =>
        simp only [hi'] at hy
        exact fin _ _ _ _ (Ran.no hq hw) hy (fun _ h => h) (.inr ⟨by simp [CIns.still, hi'], rfl⟩) (fun ri e h => by rw [hw] at h; cases h)

/-! ### 'same' is equality -/
theorem sEq_eq {a b : ByteArray} (h : sEq a b = true) : a = b := by
  unfold sEq lst at h
  simp only [beq_iff_eq, Array.toList_inj] at h
  exact ByteArray.ext h
theorem same0_eq {a b : Value} (h : same0 a b = true) : a = b := by
  unfold same0 at h
  split at h
  case h_3 => rw [sEq_eq h]
  all_goals first | (simp only [Bool.and_eq_true, decide_eq_true_eq, beq_iff_eq] at h) | skip
  all_goals first | rfl | (subst h; rfl) | (obtain ⟨h1, h2⟩ := h; subst h1; subst h2; rfl) | (obtain ⟨⟨h1, h2⟩, h3⟩ := h; subst h1; subst h2; subst h3; rfl) | cases h
theorem sameL_eq : ∀ {a b : List Value}, sameL a b = true → a = b
  | [], [], _ => rfl
  | [], _ :: _, h => by simp [sameL] at h
  | _ :: _, [], h => by simp [sameL] at h
  | a :: as, b :: bs, h => by
    simp only [sameL, Bool.and_eq_true] at h
    rw [same0_eq h.1, sameL_eq h.2]
theorem same_eq {a b : Value} (h : same a b = true) : a = b := by
  unfold same at h
  split at h
  · rename_i x y
    have := sameL_eq h
    rw [Array.toList_inj] at this
    rw [this]
  · rename_i x y
    have := sameL_eq h
    rw [Array.toList_inj] at this
    rw [this]
  · exact same0_eq h

theorem rdOk_spec {hs : List Heap} {d : Rd} : ∀ (n k : Nat), rdOk hs d k n = true → ∀ j, k ≤ j → j < k + n → ∃ H, hs[j]? = some H ∧ readD d.r d.vs H = some d.v
  | 0, k, _, j, h1, h2 => by omega
  | n + 1, k, h, j, h1, h2 => by
    simp only [rdOk, Bool.and_eq_true] at h
    obtain ⟨h3, h4⟩ := h
    by_cases e : j = k
    · subst e
      split at h3
      · rename_i H hH
        split at h3
        · rename_i v hv
          exact ⟨H, hH, by rw [hv, same_eq h3]⟩
        · cases h3
      · cases h3
    · exact rdOk_spec n (k + 1) h4 j (by omega) (by omega)
theorem rdsOk_spec {hs : List Heap} : ∀ {ds : List Rd}, rdsOk hs ds = true → ∀ d ∈ ds, ∀ j, d.lo ≤ j → j ≤ d.hi → ∃ H, hs[j]? = some H ∧ readD d.r d.vs H = some d.v
  | [], _, d, hd, _, _, _ => by simp at hd
  | x :: ds, h, d, hd, j, h1, h2 => by
    simp only [rdsOk, Bool.and_eq_true] at h
    rcases List.mem_cons.1 hd with rfl | hd
    · exact rdOk_spec _ _ h.1 j h1 (by omega)
    · exact rdsOk_spec h.2 d hd j h1 h2
end Go.Cm

namespace Go.Cm
open Go

section
variable {P : Program} {w0 : Start} {gl : List Nat} {nt : Nat}

theorem cOp_alloc {o : Oper} {os : List Operand} {e : TypeId} {z : List Value} (hi : cOp P o = some (.eff (.alloc e z), os)) : o.op = .alloc e ∧ zeroL P e = some z := by
  obtain ⟨dst, op, type, pos, after, guard⟩ := o
  cases op with
  | alloc t =>
    simp only [cOp] at hi
    split at hi
    · rename_i z' hz
      simp only [Option.some.injEq, Prod.mk.injEq, CIns.eff.injEq, EI.alloc.injEq] at hi
      obtain ⟨⟨rfl, rfl⟩, _⟩ := hi
      exact ⟨rfl, hz⟩
    · cases hi
  | call c =>
    simp only [cOp] at hi
    obtain ⟨callee, args, argTypes⟩ := c
    cases callee with
    | builtin b =>
      simp only at hi
      unfold cBuiltin at hi
      repeat' split at hi
      all_goals cases hi
    | invoke => cases hi
    | value q => cases q <;> cases hi
  | binOp => simp only [cOp] at hi; unfold cBin cEq at hi; repeat' split at hi
             all_goals cases hi
  | convert => simp only [cOp] at hi; unfold cConv cConv0 at hi; repeat' split at hi
               all_goals cases hi
  | slice => simp only [cOp] at hi; unfold cSlice at hi; simp only at hi; repeat' split at hi
             all_goals cases hi
  | _ =>
    simp only [cOp] at hi
    repeat' split at hi
    all_goals cases hi

theorem cOper_ins {ops : Array Oper} {o : Oper} {c : COp} (hc : cOper gl nt P ops o = some (stripOp c)) (hb : c.ins ≠ .bad) : ∃ xs, cOp P o = some (c.ins, xs) := by
  unfold cOper at hc
  obtain ⟨cd, ck, cg, ci, ca⟩ := c
  split at hc
  · split at hc
    · split at hc
      · rename_i i os hi
        split at hc
        · simp only [stripOp, Option.some.injEq, COp.mk.injEq] at hc
          obtain ⟨_, _, _, rfl, _⟩ := hc
          exact ⟨_, hi⟩
        · simp only [stripOp, badOp, Option.some.injEq, COp.mk.injEq] at hc
          exact absurd hc.2.2.2.1.symm hb
      · simp only [stripOp, badOp, Option.some.injEq, COp.mk.injEq] at hc
        exact absurd hc.2.2.2.1.symm hb
    · cases hc
  · cases hc

/-- a clean block that was made ahead is now known -/
theorem RR.know {μ : Mu} {H : Heap} {w w' : World} (R : RR P w0 μ H w) {b : Nat} {m : MB} {o : CObj} {o' : Obj} (hb0 : w0.n0 ≤ b) (hb : μ b = none) (hlt : b < H.next) (hg : H.get b = some o) (hm : m.blk = w.heap.size) (hor : OR P μ m o o') (hw : w'.heap = w.heap.push o') (hio : w'.os = w.os ∧ w'.output = w.output := by exact ⟨rfl, rfl⟩) :
    RR P w0 (μ.add b m) H w' := by
  have hle : μ.le (μ.add b m) := Mu.le_add hb
  have hold : ∀ k, k < w.heap.size → w'.heap[k]? = w.heap[k]? := fun k hk => by
    rw [hw, Array.getElem?_push_lt hk, Array.getElem?_eq_getElem hk]
  have hnew : w'.heap[m.blk]? = some o' := by rw [hw, hm]; simp
  have hsz : w'.heap.size = w.heap.size + 1 := by rw [hw]; simp
  refine ⟨?_, ?_, ?_, ?_, ?_, R.nle, (fun b hb => let ⟨m1, h1, h2, h3⟩ := R.idn b hb; ⟨m1, hle _ _ h1, h2, h3⟩), ?_, R.lown, ?_, R.still, ⟨hio.1.trans R.io.1, hio.2.trans R.io.2⟩⟩
  · intro b1 m1 o1 h1 h2
    unfold Mu.add at h1
    by_cases e : b1 = b
    · rw [if_pos e] at h1
      subst e
      rw [hg] at h2
      cases h1; cases h2
      exact ⟨o', hnew, hor.mono hle⟩
    · rw [if_neg e] at h1
      obtain ⟨o2, h3, h4⟩ := R.obj b1 m1 o1 h1 h2
      exact ⟨o2, by rw [hold _ (R.blk _ _ h1)]; exact h3, h4.mono hle⟩
  · intro b1 b2 m1 m2 o1 o2 n1 n2 h1 h2 h3 h4 h5
    unfold Mu.add at h1 h2
    by_cases e1 : b1 = b <;> by_cases e2 : b2 = b
    · rw [e1, e2]
    · rw [if_pos e1] at h1
      rw [if_neg e2] at h2
      cases h1
      have := R.blk _ _ h2
      omega
    · rw [if_neg e1] at h1
      rw [if_pos e2] at h2
      cases h2
      have := R.blk _ _ h1
      omega
    · rw [if_neg e1] at h1
      rw [if_neg e2] at h2
      exact R.inj _ _ _ _ _ _ n1 n2 h1 h2 h3 h4 h5
  · intro b1 h1
    unfold Mu.add
    rw [if_neg (by omega)]
    exact R.fresh _ h1
  · intro b1 m1 h1
    unfold Mu.add at h1
    split at h1
    · cases h1; omega
    · have := R.blk _ _ h1; omega
  · have := R.size; omega
  · intro b1 m1 h1
    unfold Mu.add at h1
    have := R.size
    split at h1
    · rename_i e
      cases h1
      exact .inr ⟨by omega, by omega⟩
    · exact R.low _ _ h1
  · intro b1 h1
    rw [hold _ (Nat.lt_of_lt_of_le h1 R.size)]
    exact R.base b1 h1

/-- a block made ahead of the real one -/
theorem RR.ahead {μ : Mu} {H : Heap} {w : World} (R : RR P w0 μ H w) (o : CObj) : RR P w0 μ (H.new o) w := by
  have hne : ∀ b m, μ b = some m → b ≠ H.next := fun b m h e => by rw [R.fresh b (by omega)] at h; cases h
  refine ⟨?_, ?_, ?_, R.blk, R.size, R.nle, R.idn, R.low, ?_, R.base, ?_, R.io⟩
  · intro b m o1 h1 h2
    rw [Heap.get_new, if_neg (hne b m h1)] at h2
    exact R.obj b m o1 h1 h2
  · intro b1 b2 m1 m2 o1 o2 n1 n2 h1 h2 h3 h4 h5
    rw [Heap.get_new, if_neg (hne _ _ h1)] at h3
    rw [Heap.get_new, if_neg (hne _ _ h2)] at h4
    exact R.inj _ _ _ _ _ _ n1 n2 h1 h2 h3 h4 h5
  · intro b hb
    simp only [Heap.next_new] at hb
    exact R.fresh b (by omega)
  · have := R.lown; simp; omega
  · intro b o1 hb h1
    have := R.lown
    rw [Heap.get_new, if_neg (by omega)] at h1
    exact R.still _ _ hb h1

theorem RR.heap {μ : Mu} {H : Heap} {w w' : World} (R : RR P w0 μ H w) (h : w'.heap = w.heap) (hio : w'.os = w.os ∧ w'.output = w.output := by exact ⟨rfl, rfl⟩) : RR P w0 μ H w' :=
  ⟨by rw [h]; exact R.obj, R.inj, R.fresh, by rw [h]; exact R.blk, by rw [h]; exact R.size, R.nle, R.idn, R.low, R.lown, by rw [h]; exact R.base, R.still, ⟨hio.1.trans R.io.1, hio.2.trans R.io.2⟩⟩

/-- an allocation that is carried out when the clean machine has long made its block -/
theorem alloc_at {ops : Array Oper} {o : Oper} {c : COp} (hc : cOper gl nt P ops o = some (stripOp c)) {e : TypeId} {z : List Value} (hi : c.ins = .eff (.alloc e z)) {μ : Mu} {H : Heap} {w : World} (R : RR P w0 μ H w) {b : Nat} (hb0 : w0.n0 ≤ b) (hb : μ b = none) (hlt : b < H.next) (hg : H.get b = some (.cells z e false 0 false)) (ρ : Operand → Value) :
    ∃ m w', (execOp ρ o).run P w = .ok (.value (.pointer (some ⟨m.blk, 0, none⟩))) w' ∧ RR P w0 (μ.add b m) H w' ∧ m.sh = 0 := by
  obtain ⟨xs, h1⟩ := cOper_ins hc (by rw [hi]; simp)
  rw [hi] at h1
  obtain ⟨h2, h3⟩ := cOp_alloc h1
  obtain ⟨dst, op, type, pos, after, guard⟩ := o
  simp only at h2
  subst h2
  obtain ⟨z1, z2, z3, z4, z5⟩ := run_zeroValue (w := w) h3
  have ho : ∀ v ∈ z, one v = true := fun v hv => one_of_plain (List.all_eq_true.1 z2 v hv)
  refine ⟨⟨w.heap.size, 0, z.length, z.length, P.cellsOf e, false⟩, { w with heap := w.heap.push (.cells z.toArray e (0, 0)) }, ?_, ?_, rfl⟩
  · simp only [execOp, Instr.alloc, Sem.run_bind, z1, Result.andThen_ok, run_newVar, Sem.run_pure, cells_valT z4 ho]
  · exact R.know hb0 hb hlt hg rfl (OR.closed (VRs.of_plain z2) ho) rfl

/-- the guard's answer -/
theorem wanted_ok {μ : Mu} {fr : Fr} {a : Act} {ops : Array Oper} {c : COp} {o : Oper} (F : ∀ t v, t ∈ c.looks → fr.get t = some v → ∃ v', a.tmps[t]? = some v' ∧ VR μ v v') (hg : guardOf ops o.guard = some c.guard) {b : Bool} (h : wantC c fr = some b) :
    Region.wanted o (yielded ops a.tmps) = b := by
  unfold wantC at h
  unfold Region.wanted
  cases ho : o.guard with
  | none =>
    rw [ho] at hg
    simp only [guardOf, Option.some.injEq] at hg
    rw [← hg] at h
    simpa using h
  | some q =>
    obtain ⟨j, want⟩ := q
    rw [ho] at hg
    simp only [guardOf] at hg
    split at hg
    · rename_i t ht
      simp only [Option.some.injEq] at hg
      rw [← hg] at h
      simp only at h
      split at h
      · rename_i v hb
        obtain ⟨v', h1, h2⟩ := F t _ (by unfold COp.looks; rw [← hg]; simp) hb
        split at h
        rotate_left
        · rename_i hnb
          simp only [Option.some.injEq] at h
          subst h
          have hy : yielded ops a.tmps j = none := by
            unfold yielded
            rw [ht]
            simp only [Option.bind_some, h1]
            cases h2 <;> first | rfl | exact absurd rfl (hnb _)
          simp only [hy]
          rfl
        rename_i b'
        simp only [Option.some.injEq] at h
        have hy : yielded ops a.tmps j = some b' := by
          unfold yielded
          rw [ht]
          simp only [Option.bind_some, h1, h2.bool_inv]
        simp only [hy]
        subst h
        cases b' <;> cases want <;> rfl
      · cases h
    · cases hg

/-! ### the plan -/
structure Plan (P : Program) (gl : List Nat) (nt : Nat) (call : CallF) (ops : Array Oper) (nA : Nat) (od : List Nat) (an : Nat → Nat → Prop) (cl : List COp) (F : Nat → Fr) (G W : Nat → Heap) (E : Nat → Nat) (eff : List Nat) : Prop where
  len : od.length = ops.size
  clen : cl.length = od.length
  nAle : nA ≤ od.length
  nd : od.Nodup
  all : ∀ i, i < ops.size → i ∈ od
  op : ∀ (p i : Nat), od[p]? = some i → ∃ o c, ops[i]? = some o ∧ cl[p]? = some c ∧ cOper gl nt P ops o = some (stripOp c)
  after : ∀ (i : Nat) o e, ops[i]? = some o → e ∈ o.after → Region.binds .any e = true → e.on < i
  anc : ∀ (j : Nat) o x, ops[j]? = some o → an x j → ∃ e ∈ o.after, Region.binds .any e = true ∧ (e.on = x ∨ an x e.on)
  slots : ∀ (p q : Nat) x y i j, p ≠ q → cl[p]? = some x → cl[q]? = some y → od[p]? = some i → od[q]? = some j → x.clash y = true → (p < q ∧ an i j) ∨ (q < p ∧ an j i)
  chain : ∀ (x y : Nat) i j, x < y → eff[x]? = some i → eff[y]? = some j → an i j
  ran : ∀ (p : Nat) c, cl[p]? = some c → Ran call c (F p) (G p) (F (p + 1)) (G (p + 1))
  alloc : ∀ (p : Nat) c, p < nA → cl[p]? = some c → c.guard = none ∧ ∃ e z, c.ins = .eff (.alloc e z)
  allocn : ∀ (p : Nat) i, p < nA → od[p]? = some i → i ∉ eff
  rest : ∀ (p : Nat) c i, nA ≤ p → cl[p]? = some c → od[p]? = some i → (c.ins.still = false ↔ i ∈ eff)
  effod : ∀ i ∈ eff, i ∈ od
  effnd : eff.Nodup
  eat : ∀ (p i : Nat), nA ≤ p → od[p]? = some i → i ∈ eff → eff[E p]? = some i
  wat : ∀ p, nA ≤ p → p ≤ od.length → W (E p) = G p
  e1 : ∀ (p i : Nat), nA ≤ p → od[p]? = some i → i ∈ eff → E (p + 1) = E p + 1
  eA : E nA = 0
  eN : E od.length = eff.length
  read : ∀ (p : Nat) c i r, nA ≤ p → cl[p]? = some c → od[p]? = some i → c.ins = .read r → wantC c (F p) = some true → ∃ vs v, evs (F p) c.args = some vs ∧ readD r vs (G p) = some v ∧
    ∀ k, k ≤ eff.length → (∀ (y : Nat) j, eff[y]? = some j → an j i → y < k) → (∀ (y : Nat) j, eff[y]? = some j → an i j → k ≤ y) → readD r vs (W k) = some v

/-- what holds while the order is being drawn -/
structure Inv (P : Program) (w0 : Start) (nt : Nat) (ops : Array Oper) (nA : Nat) (od : List Nat) (an : Nat → Nat → Prop) (cl : List COp) (F : Nat → Fr) (W : Nat → Heap) (eff : List Nat) (μ0 : Mu) (n0 : Nat) (L : Nat → Prop) (μ : Mu) (k : Nat) (a : Act) (w : World) : Prop where
  rr : RR P w0 μ (W k) w
  sz : nt ≤ a.tmps.size
  df : a.defers = []
  kle : k ≤ eff.length
  clo : ∀ i, L i → ∀ x, an x i → L x
  ef : ∀ (y i : Nat), eff[y]? = some i → (L i ↔ y < k)
  fr : ∀ (p t : Nat), p ≤ od.length → (∀ (q : Nat) c i, q < p → cl[q]? = some c → od[q]? = some i → c.dst = some t → L i) → (∀ (q : Nat) c i, p ≤ q → cl[q]? = some c → od[q]? = some i → c.dst = some t → ¬ L i) →
    ∀ v, (F p).get t = some v → ∃ v', a.tmps[t]? = some v' ∧ VR μ v v'
  al : ∀ (p i : Nat), p < nA → od[p]? = some i → ¬ L i → μ (n0 + p) = none
  le : μ0.le μ
  kp : ∀ b, b < n0 → μ0 b = none → μ b = none
  same : ∀ b, b < (W 0).next → μ b = none → (W k).get b = (W 0).get b
  nx : (W 0).next ≤ (W k).next

section
variable {call : CallF} {ops : Array Oper} {nA : Nat} {od : List Nat} {an : Nat → Nat → Prop} {cl : List COp} {F : Nat → Fr} {G W : Nat → Heap} {E : Nat → Nat} {eff : List Nat} {μ0 : Mu} {n0 : Nat}

theorem nodup_inj {l : List Nat} (hn : l.Nodup) {p q i : Nat} (h : l[p]? = some i) (h' : l[q]? = some i) : p = q := by
  obtain ⟨h1, e1⟩ := List.getElem?_eq_some_iff.1 h
  obtain ⟨h2, e2⟩ := List.getElem?_eq_some_iff.1 h'
  have hpw := List.pairwise_iff_getElem.1 hn
  rcases Nat.lt_trichotomy p q with h3 | h3 | h3
  · exact absurd (e1.trans e2.symm) (hpw p q h1 h2 h3)
  · exact h3
  · exact absurd (e2.trans e1.symm) (hpw q p h2 h1 h3)
theorem Plan.inj (X : Plan P gl nt call ops nA od an cl F G W E eff) {p q i : Nat} (h : od[p]? = some i) (h' : od[q]? = some i) : p = q := by
  exact nodup_inj X.nd h h'

/-- where no writer stands, a slot keeps -/
theorem Plan.keep (X : Plan P gl nt call ops nA od an cl F G W E eff) {t : Nat} : ∀ (d p : Nat), p + d ≤ od.length → (∀ (q : Nat) c, p ≤ q → q < p + d → cl[q]? = some c → c.dst ≠ some t) → (F (p + d)).get t = (F p).get t
  | 0, p, _, _ => rfl
  | d + 1, p, h, hn => by
    have hlt : p + d < cl.length := by rw [X.clen]; omega
    have h1 := (X.ran (p + d) _ (List.getElem?_eq_getElem hlt)).other t (hn (p + d) _ (by omega) (by omega) (List.getElem?_eq_getElem hlt))
    exact h1.trans (X.keep d p (by omega) (fun q c h2 h3 => hn q c h2 (by omega)))

/-- the slots after one more operation -/
theorem Inv.fr' (X : Plan P gl nt call ops nA od an cl F G W E eff) {L : Nat → Prop} {μ μ' : Mu} {k : Nat} {a : Act} {w : World} (I : Inv P w0 nt ops nA od an cl F W eff μ0 n0 L μ k a w) (hle : μ.le μ')
    {p i : Nat} {c : COp} (hp : od[p]? = some i) (hc : cl[p]? = some c) (hL : ¬ L i) {v' : Value} (hd : dstOk nt c.dst = true) (hv : ∀ t v, c.dst = some t → (F (p + 1)).get t = some v → VR μ' v v') :
    ∀ (q t : Nat), q ≤ od.length → (∀ (s : Nat) c i', s < q → cl[s]? = some c → od[s]? = some i' → c.dst = some t → (L i' ∨ i' = i)) → (∀ (s : Nat) c i', q ≤ s → cl[s]? = some c → od[s]? = some i' → c.dst = some t → ¬ (L i' ∨ i' = i)) →
      ∀ v, (F q).get t = some v → ∃ v'', (a.put c.dst v').tmps[t]? = some v'' ∧ VR μ' v v'' := by
  intro q t hq h1 h2 v hvq
  by_cases ht : c.dst = some t
  · -- the writer itself
    have hpq : p < q := by
      rcases Nat.lt_or_ge p q with h | h
      · exact h
      · exact absurd (Or.inr rfl) (h2 p c i h hc hp ht)
    have hno : ∀ (s : Nat) c', p + 1 ≤ s → s < p + 1 + (q - (p + 1)) → cl[s]? = some c' → c'.dst ≠ some t := by
      intro s c' h3 h4 h5 h6
      have hs : s < od.length := by omega
      obtain ⟨j, hj⟩ : ∃ j, od[s]? = some j := ⟨_, List.getElem?_eq_getElem hs⟩
      have hLj : L j := by
        rcases h1 s c' j (by omega) h5 hj h6 with h | h
        · exact h
        · subst h; have := X.inj hp hj; omega
      have hcl : c.clash c' = true := by unfold COp.clash; rw [ht]; simp [h6]
      rcases X.slots p s c c' i j (by omega) hc h5 hp hj hcl with ⟨_, h7⟩ | ⟨h7, _⟩
      · exact hL (I.clo j hLj i h7)
      · omega
    have e := X.keep (t := t) (q - (p + 1)) (p + 1) (by omega) hno
    rw [show p + 1 + (q - (p + 1)) = q by omega] at e
    rw [e] at hvq
    refine ⟨v', ?_, hv t v ht hvq⟩
    rw [ht] at hd ⊢
    simp only [dstOk, decide_eq_true_eq] at hd
    have := I.sz
    simp only [Act.put]
    rw [Array.getElem?_setIfInBounds, if_pos rfl, if_pos (by omega)]
  · obtain ⟨v'', h3, h4⟩ := I.fr q t hq (fun s c' i' h3 h4 h5 h6 => by
      rcases h1 s c' i' h3 h4 h5 h6 with h | h
      · exact h
      · subst h
        have := X.inj hp h5
        subst this
        rw [hc] at h4; cases h4
        exact absurd h6 ht) (fun s c' i' h3 h4 h5 h6 h7 => h2 s c' i' h3 h4 h5 h6 (.inl h7)) v hvq
    refine ⟨v'', ?_, h4.mono hle⟩
    cases hd' : c.dst with
    | none => exact h3
    | some d =>
      have : ¬ d = t := fun e => ht (by rw [hd', e])
      simp only [Act.put]
      rw [Array.getElem?_setIfInBounds, if_neg this]
      exact h3
end
end
end Go.Cm

namespace Go.Cm
open Go

/-- a frame's slots of a list -/
def Fr.only (l : List Nat) : Fr → Fr
  | [] => []
  | (u, v) :: fr => if u ∈ l then (u, v) :: Fr.only l fr else Fr.only l fr
theorem Fr.get_only (l : List Nat) : ∀ (fr : Fr) (t : Nat), (Fr.only l fr).get t = if t ∈ l then fr.get t else none
  | [], t => by simp [Fr.only, Fr.get]
  | (u, v) :: fr, t => by
    simp only [Fr.only]
    by_cases hu : u ∈ l
    · rw [if_pos hu, Fr.get_cons, Fr.get_cons, Fr.get_only l fr t]
      by_cases ht : t = u
      · subst ht; simp [hu]
      · simp [ht]
    · rw [if_neg hu, Fr.get_cons, Fr.get_only l fr t]
      by_cases ht : t = u
      · subst ht; simp [hu]
      · simp [ht]

theorem looks_arg {c : COp} {t : Nat} (h : COpd.tmp t ∈ c.args) : t ∈ c.looks := by
  unfold COp.looks
  exact List.mem_append_left _ (List.mem_filterMap.2 ⟨_, h, rfl⟩)

theorem alloc_ran {call : CallF} {c : COp} {fr : Fr} {H H' : Heap} {v : Value} {e : TypeId} {z : List Value} (hi : c.ins = .eff (.alloc e z)) (h : ∀ K, insK call c fr H K = K v H') :
    v = .pointer (some ⟨H.next, 0, none⟩) ∧ H' = H.new (.cells z e false 0 false) := by
  have h1 := h fun v H => some (v, H)
  unfold insK at h1
  rw [hi] at h1
  dsimp only at h1
  obtain ⟨vs, _, h2⟩ := optK_some h1
  cases vs with
  | nil =>
    simp only [effK] at h2
    have h3 := cast_some h2
    simp only [Option.some.injEq, Prod.mk.injEq] at h3
    exact ⟨h3.1.symm, h3.2.symm⟩
  | cons x vs => simp [effK] at h2

section
variable {P : Program} {w0 : Start} {gl : List Nat} {nt : Nat} {call : CallF} {ops : Array Oper} {nA : Nat} {od : List Nat} {an : Nat → Nat → Prop} {cl : List COp} {F : Nat → Fr} {G W : Nat → Heap} {E : Nat → Nat} {eff : List Nat} {μ0 : Mu} {n0 : Nat}

/-- the blocks made ahead -/
theorem Plan.made (X : Plan P gl nt call ops nA od an cl F G W E eff) (h0 : (G 0).next = n0) : ∀ p, p ≤ nA → (G p).next = n0 + p ∧ (∀ b, b < n0 → (G p).get b = (G 0).get b) ∧
    ∀ (q : Nat) c e z, q < p → cl[q]? = some c → c.ins = .eff (.alloc e z) → (G p).get (n0 + q) = some (.cells z e false 0 false)
  | 0, _ => ⟨h0, fun _ _ => rfl, fun q c e z h => by omega⟩
  | p + 1, hp => by
    obtain ⟨h1, h2, h3⟩ := X.made h0 p (by omega)
    have hlt : p < cl.length := by have := X.nAle; rw [X.clen]; omega
    obtain ⟨c, hc⟩ : ∃ c, cl[p]? = some c := ⟨_, List.getElem?_eq_getElem hlt⟩
    obtain ⟨hg, e, z, hi⟩ := X.alloc p c (by omega) hc
    rcases (X.ran p c hc).how with ⟨v, _, h4, _⟩ | ⟨h4, _⟩
    · obtain ⟨_, h5⟩ := alloc_ran hi h4
      rw [h5]
      refine ⟨by simp [h1]; omega, fun b hb => ?_, fun q c' e' z' hq hc' hi' => ?_⟩
      · rw [Heap.get_new_ne _ _ (by omega)]; exact h2 b hb
      · by_cases e1 : q = p
        · subst e1
          rw [hc] at hc'; cases hc'
          rw [hi] at hi'; cases hi'
          rw [Heap.get_new, if_pos (by omega)]
        · rw [Heap.get_new_ne _ _ (by omega)]
          exact h3 q c' e' z' (by omega) hc' hi'
    · unfold wantC at h4
      rw [hg] at h4
      cases h4

theorem Plan.wz (X : Plan P gl nt call ops nA od an cl F G W E eff) : W 0 = G nA := by
  have := X.wat nA (Nat.le_refl _) X.nAle
  rwa [X.eA] at this

/-- one more operation that is no allocation -/
theorem Inv.next (X : Plan P gl nt call ops nA od an cl F G W E eff) {L : Nat → Prop} {μ μ' : Mu} {k k' : Nat} {a : Act} {w w' : World} (I : Inv P w0 nt ops nA od an cl F W eff μ0 n0 L μ k a w) (hn0 : n0 + nA = (W 0).next)
    {p i : Nat} {c : COp} (hp : od[p]? = some i) (hc : cl[p]? = some c) (_ : nA ≤ p) (hL : ¬ L i) (hanc : ∀ x, an x i → L x) (R' : RR P w0 μ' (W k') w') (X' : Ext μ (W k) μ' (W k')) {v' : Value} (hd : dstOk nt c.dst = true)
    (hv : ∀ t v, c.dst = some t → (F (p + 1)).get t = some v → VR μ' v v') (hk : (i ∈ eff ∧ eff[k]? = some i ∧ k' = k + 1) ∨ (i ∉ eff ∧ k' = k)) :
    Inv P w0 nt ops nA od an cl F W eff μ0 n0 (fun j => L j ∨ j = i) μ' k' (a.put c.dst v') w' := by
  have hsize : (a.put c.dst v').tmps.size = a.tmps.size := by unfold Act.put; cases c.dst <;> simp
  have hdef : (a.put c.dst v').defers = a.defers := by unfold Act.put; cases c.dst <;> rfl
  refine ⟨R', by rw [hsize]; exact I.sz, by rw [hdef]; exact I.df, ?_, ?_, ?_, I.fr' X X'.le hp hc hL hd hv, ?_, Mu.le_trans I.le X'.le, ?_, ?_, ?_⟩
  · rcases hk with ⟨_, h, rfl⟩ | ⟨_, rfl⟩
    · have := (List.getElem?_eq_some_iff.1 h).1; omega
    · exact I.kle
  · rintro j (hj | rfl) x hx
    · exact .inl (I.clo j hj x hx)
    · exact .inl (hanc x hx)
  · intro y j hy
    rcases hk with ⟨_, h, rfl⟩ | ⟨h, rfl⟩
    · by_cases e : j = i
      · subst e
        have := nodup_inj X.effnd hy h
        subst this
        exact ⟨fun _ => by omega, fun _ => .inr rfl⟩
      · have hne : y ≠ k := fun e2 => by subst e2; rw [h] at hy; cases hy; exact e rfl
        refine ⟨fun h2 => ?_, fun h2 => .inl ((I.ef y j hy).2 (by omega))⟩
        rcases h2 with h2 | h2
        · have := (I.ef y j hy).1 h2; omega
        · exact absurd h2 e
    · have e : j ≠ i := fun e => h (e ▸ List.mem_of_getElem? hy)
      exact ⟨fun h2 => (I.ef y j hy).1 (h2.resolve_right e), fun h2 => .inl ((I.ef y j hy).2 h2)⟩
  · intro q j hq hj hn
    have h1 := I.al q j hq hj (fun h => hn (.inl h))
    have := I.nx
    exact (X'.keep _ (by omega) h1).1
  · intro b hb h1
    have := I.nx
    exact (X'.keep b (by omega) (I.kp b hb h1)).1
  · intro b hb h1
    have h2 : μ b = none := by
      cases h : μ b with
      | none => rfl
      | some m => rw [X'.le b m h] at h1; cases h1
    have := I.nx
    rw [(X'.keep b (by omega) h2).2]
    exact I.same b hb h2
  · exact Nat.le_trans I.nx X'.next

/-- ONE MORE OPERATION. -/
theorem Plan.step (X : Plan P gl nt call ops nA od an cl F G W E eff) (hcall : CallOK P w0 call) (hgl : ∀ g ∈ gl, g < w0.ng) (h0 : (G 0).next = n0) (hlow : w0.n0 ≤ n0)
    {L : Nat → Prop} {μ : Mu} {k : Nat} {a : Act} {w : World} (I : Inv P w0 nt ops nA od an cl F W eff μ0 n0 L μ k a w) {i : Nat} (hi : i < ops.size) (hL : ¬ L i)
    (hr : ∀ o e, ops[i]? = some o → e ∈ o.after → Region.binds .any e = true → L e.on) {Q : Exit → Act → World → Prop} {K : Act → World → Prop}
    (hK : ∀ μ' k' a' w', Inv P w0 nt ops nA od an cl F W eff μ0 n0 (fun j => L j ∨ j = i) μ' k' a' w' → K a' w') : wpOp P ops Q i K a w := by
  obtain ⟨p, hp⟩ := List.getElem?_of_mem (X.all i hi)
  obtain ⟨o, c, ho, hc, hop⟩ := X.op p i hp
  have hanc : ∀ x, an x i → L x := by
    intro x hx
    obtain ⟨e, h1, h2, h3⟩ := X.anc i o x ho hx
    have h4 := hr o e ho h1 h2
    rcases h3 with rfl | h3
    · exact h4
    · exact I.clo _ h4 x h3
  obtain ⟨g1, g2, g3⟩ := cOper_guard hop
  have hd : dstOk nt c.dst = true := by rw [g3]; exact g2
  have hplt : p < od.length := (List.getElem?_eq_some_iff.1 hp).1
  obtain ⟨hm1, hm2, hm3⟩ := X.made h0 nA (Nat.le_refl _)
  have hW0 := X.wz
  have hn0 : n0 + nA = (W 0).next := by rw [hW0, hm1]
  unfold wpOp
  rw [ho]
  dsimp only
  by_cases hpA : p < nA
  · -- an allocation
    obtain ⟨hgn, e, z, hins⟩ := X.alloc p c hpA hc
    have hw : Region.wanted o (yielded ops a.tmps) = true := by
      have : o.guard = none := by
        cases hg : o.guard with
        | none => rfl
        | some q =>
          rw [hg, hgn] at g1
          obtain ⟨j, want⟩ := q
          simp only [guardOf] at g1
          split at g1 <;> simp at g1
      simp [Region.wanted, this]
    rw [if_pos hw]
    left
    have hb := I.al p i hpA hp hL
    have hnx := I.nx
    have hg : (W k).get (n0 + p) = some (.cells z e false 0 false) := by
      rw [I.same _ (by omega) hb, hW0]
      exact hm3 p c e z hpA hc hins
    obtain ⟨m, w', hrun, R', hs⟩ := alloc_at hop hins I.rr (by omega) hb (by omega) hg a.eval
    unfold Oper.wp
    rw [hrun, Oper.upon_value, ← g3]
    have hle : μ.le (μ.add (n0 + p) m) := Mu.le_add hb
    have hsize : ∀ v', (a.put c.dst v').tmps.size = a.tmps.size := by intro v'; unfold Act.put; cases c.dst <;> simp
    have hdef : ∀ v', (a.put c.dst v').defers = a.defers := by intro v'; unfold Act.put; cases c.dst <;> rfl
    refine hK (μ.add (n0 + p) m) k _ w' ⟨R', by rw [hsize]; exact I.sz, by rw [hdef]; exact I.df, I.kle, ?_, ?_, I.fr' X hle hp hc hL hd ?_, ?_, Mu.le_trans I.le hle, ?_, ?_, I.nx⟩
    · rintro j (hj | rfl) x hx
      · exact .inl (I.clo j hj x hx)
      · exact .inl (hanc x hx)
    · intro y j hy
      have e1 : j ≠ i := fun e => X.allocn p i hpA hp (e ▸ List.mem_of_getElem? hy)
      exact ⟨fun h2 => (I.ef y j hy).1 (h2.resolve_right e1), fun h2 => .inl ((I.ef y j hy).2 h2)⟩
    · intro t v ht hv
      obtain ⟨hp1, _, _⟩ := X.made h0 p (by omega)
      rcases (X.ran p c hc).how with ⟨v0, _, h4, h5⟩ | ⟨h4, _⟩
      · rw [h5 t ht] at hv
        cases hv
        obtain ⟨rfl, _⟩ := alloc_ran hins h4
        rw [hp1]
        exact .ptr (AR.new hs)
      · unfold wantC at h4
        rw [hgn] at h4
        cases h4
    · intro q j hq hj hn
      have h1 := I.al q j hq hj (fun h => hn (.inl h))
      have hne : q ≠ p := fun e => by subst e; rw [hp] at hj; cases hj; exact hn (.inr rfl)
      unfold Mu.add
      rw [if_neg (by omega)]
      exact h1
    · intro b hb' h1
      unfold Mu.add
      rw [if_neg (by omega)]
      exact I.kp b hb' h1
    · intro b hb' h1
      unfold Mu.add at h1
      split at h1
      · cases h1
      · exact I.same b hb' h1
  · -- any other
    have hA : nA ≤ p := by omega
    have hF : ∀ t v, t ∈ c.looks → (F p).get t = some v → ∃ v', a.tmps[t]? = some v' ∧ VR μ v v' := by
      intro t v ht hv
      refine I.fr p t (by omega) ?_ ?_ v hv
      · intro s x j hs hx hj hdst
        have hcl : x.clash c = true := by unfold COp.clash; rw [hdst]; simp [ht]
        rcases X.slots s p x c j i (by omega) hx hc hj hp hcl with ⟨_, h⟩ | ⟨h, _⟩
        · exact hanc j h
        · omega
      · intro s x j hs hx hj hdst hLj
        have hcl : x.clash c = true := by unfold COp.clash; rw [hdst]; simp [ht]
        by_cases e : s = p
        · subst e; rw [hp] at hj; cases hj; exact hL hLj
        · rcases X.slots s p x c j i e hx hc hj hp hcl with ⟨h, _⟩ | ⟨_, h⟩
          · omega
          · exact hL (I.clo j hLj i h)
    have hFR : FR μ nt (Fr.only c.looks (F p)) a := by
      refine ⟨I.sz, I.df, fun t v hv => ?_⟩
      rw [Fr.get_only] at hv
      split at hv
      · rename_i ht; exact hF t v ht hv
      · cases hv
    have hcongr : ∀ H K, insK call c (Fr.only c.looks (F p)) H K = insK call c (F p) H K := fun H K => insK_congr (fun t ht => by rw [Fr.get_only, if_pos (looks_arg ht)]) H K
    -- the times
    have hkE : i ∈ eff → k = E p ∧ eff[k]? = some i := by
      intro he
      have h1 := X.eat p i hA hp he
      have h2 : ¬ E p < k := fun h => hL ((I.ef _ _ h1).2 h)
      have h3 : ¬ k < E p := by
        intro h
        have hl := (List.getElem?_eq_some_iff.1 h1).1
        obtain ⟨j, hj⟩ : ∃ j, eff[k]? = some j := ⟨_, List.getElem?_eq_getElem (by omega)⟩
        have := (I.ef k j hj).1 (hanc j (X.chain k (E p) j i h hj h1))
        omega
      have h4 : k = E p := by omega
      exact ⟨h4, by rw [h4]; exact h1⟩
    have hst := X.rest p c i hA hc hp
    have hran := X.ran p c hc
    rcases hran.how with ⟨v, hw, hins, hdst⟩ | ⟨hw, hH, hdst⟩
    · rw [if_pos (wanted_ok hF g1 hw)]
      left
      have main : ∃ k', ((i ∈ eff ∧ eff[k]? = some i ∧ k' = k + 1) ∨ (i ∉ eff ∧ k' = k)) ∧ ∀ K, insK call c (Fr.only c.looks (F p)) (W k) K = K v (W k') := by
        by_cases he : i ∈ eff
        · obtain ⟨h1, h2⟩ := hkE he
          refine ⟨k + 1, .inl ⟨he, h2, rfl⟩, fun K => ?_⟩
          have e1 : W k = G p := by rw [h1]; exact X.wat p hA (by omega)
          have e2 : W (k + 1) = G (p + 1) := by rw [h1, ← X.e1 p i hA hp he]; exact X.wat (p + 1) (by omega) (by omega)
          rw [hcongr, e1, e2]
          exact hins K
        · refine ⟨k, .inr ⟨he, rfl⟩, fun K => ?_⟩
          have hs : c.ins.still = true := by
            cases h : c.ins.still with
            | true => rfl
            | false => exact absurd (hst.1 h) he
          rw [hcongr]
          have pp : ((∃ p, c.ins = .pure p) ∨ c.ins = .pick) → insK call c (F p) (W k) K = K v (W k) := by
            intro hpp
            rcases ins_pure call c (F p) hpp with h1 | ⟨v', h1⟩
            · have := (hins fun v H => some (v, H)).symm.trans (h1 _ _); cases this
            · have := (hins fun v H => some (v, H)).symm.trans (h1 _ _)
              simp only [Option.some.injEq, Prod.mk.injEq] at this
              rw [this.1]
              exact h1 _ _
          cases hins' : c.ins with
          | pure q => exact pp (.inl ⟨q, hins'⟩)
          | pick => exact pp (.inr hins')
          | read ri =>
            obtain ⟨vs, v2, h1, h2, h3⟩ := X.read p c i ri hA hc hp hins' hw
            have h4 : readD ri vs (W k) = some v2 := h3 k I.kle (fun y j hy hj => (I.ef y j hy).1 (hanc j hj)) (fun y j hy hj => by
              rcases Nat.lt_or_ge y k with h | h
              · exact absurd (I.clo j ((I.ef y j hy).2 h) i hj) hL
              · exact h)
            have form : ∀ H K, readD ri vs H = some v2 → insK call c (F p) H K = cast c.kd v2 fun x => K x H := by
              intro H K hH
              unfold insK
              rw [hins']
              simp only [h1, optK, hH]
            rw [form _ _ h4]
            have h5 := hins
            rcases Alg.cast (ap := apV) (d := c.kd) (v := v2) (g := fun x K => K x) (fun x => Alg.v x) with h6 | ⟨x, h6⟩
            · have := (hins fun v H => some (v, H)).symm.trans ((form _ _ h2).trans (h6 _)); cases this
            · have := (hins fun v H => some (v, H)).symm.trans ((form _ _ h2).trans (h6 _))
              simp only [apV, Option.some.injEq, Prod.mk.injEq] at this
              rw [this.1]
              exact h6 fun x => K x (W k)
          | bad => rw [hins'] at hs; cases hs
          | eff => rw [hins'] at hs; cases hs
          | call => rw [hins'] at hs; cases hs
          | callv => rw [hins'] at hs; cases hs
      obtain ⟨k', hk', hmain⟩ := main
      refine ins_ok hcall hgl hop I.rr hFR (hmain fun v H => some (v, H)) ?_
      intro μ' v1 v1' H' w' e1 hVR R' X'
      simp only [Option.some.injEq, Prod.mk.injEq] at e1
      obtain ⟨rfl, rfl⟩ := e1
      rw [← g3]
      exact hK μ' k' _ w' (I.next X hn0 hp hc hA hL hanc R' X' hd (fun t x ht hx => by rw [hdst t ht] at hx; cases hx; exact hVR) hk')
    · rw [if_neg (by rw [wanted_ok hF g1 hw]; simp)]
      rw [← g3]
      have hk' : ∃ k', ((i ∈ eff ∧ eff[k]? = some i ∧ k' = k + 1) ∨ (i ∉ eff ∧ k' = k)) ∧ W k' = W k := by
        by_cases he : i ∈ eff
        · obtain ⟨h1, h2⟩ := hkE he
          refine ⟨k + 1, .inl ⟨he, h2, rfl⟩, ?_⟩
          have e1 : W k = G p := by rw [h1]; exact X.wat p hA (by omega)
          have e2 : W (k + 1) = G (p + 1) := by rw [h1, ← X.e1 p i hA hp he]; exact X.wat (p + 1) (by omega) (by omega)
          rw [e1, e2, hH]
        · exact ⟨k, .inr ⟨he, rfl⟩, rfl⟩
      obtain ⟨k', hk1, hk2⟩ := hk'
      exact hK μ k' _ w (I.next X hn0 hp hc hA hL hanc (by rw [hk2]; exact I.rr) (by rw [hk2]; exact Ext.refl _ _) hd (fun t x ht hx => by rw [hdst t ht] at hx; cases hx; exact VR.undef _) hk1)
end
end Go.Cm

namespace Go.Cm
open Go

theorem count_set : ∀ (l : List Bool) (i : Nat), l[i]? = some false → (l.set i true).count false + 1 = l.count false
  | [], i, h => by simp at h
  | b :: l, 0, h => by simp at h; subst h; simp
  | b :: l, i + 1, h => by
    have := count_set l i (by simpa using h)
    simp only [List.set_cons_succ, List.count_cons]
    omega

section
variable {P : Program} {w0 : Start} {gl : List Nat} {nt : Nat} {call : CallF} {ops : Array Oper} {nA : Nat} {od : List Nat} {an : Nat → Nat → Prop} {cl : List COp} {F : Nat → Fr} {G W : Nat → Heap} {E : Nat → Nat} {eff : List Nat} {μ0 : Mu} {n0 : Nat}

theorem Inv.congr {L L' : Nat → Prop} {μ : Mu} {k : Nat} {a : Act} {w : World} (h : ∀ i, L i ↔ L' i) (I : Inv P w0 nt ops nA od an cl F W eff μ0 n0 L μ k a w) : Inv P w0 nt ops nA od an cl F W eff μ0 n0 L' μ k a w := by
  have : L = L' := funext fun i => propext (h i)
  subst this; exact I

theorem mem_ready {listed : Array Bool} {i : Nat} : i ∈ Region.ready .any ops listed ↔ i < ops.size ∧ listed.getD i true = false ∧ ∀ o, ops[i]? = some o → ∀ e ∈ o.after, Region.binds .any e = true → listed.getD e.on false = true := by
  unfold Region.ready
  simp only [List.mem_filter, List.mem_range]
  constructor
  · rintro ⟨h1, h2⟩
    simp only [Bool.and_eq_true, Bool.not_eq_true'] at h2
    refine ⟨h1, h2.1, fun o ho e he hb => ?_⟩
    have h3 := h2.2
    rw [ho] at h3
    simp only [Option.map_some, Option.getD_some, Array.all_eq_true'] at h3
    have := h3 e he
    rw [hb] at this
    simpa using this
  · rintro ⟨h1, h2, h3⟩
    refine ⟨h1, ?_⟩
    simp only [Bool.and_eq_true, Bool.not_eq_true']
    refine ⟨h2, ?_⟩
    rw [Array.getElem?_eq_getElem h1]
    simp only [Option.map_some, Option.getD_some, Array.all_eq_true']
    intro e he
    cases hb : Region.binds .any e with
    | false => rfl
    | true => simpa using h3 _ (Array.getElem?_eq_getElem h1) e he hb

theorem Plan.go (X : Plan P gl nt call ops nA od an cl F G W E eff) (hcall : CallOK P w0 call) (hgl : ∀ g ∈ gl, g < w0.ng) (h0 : (G 0).next = n0) (hlow : w0.n0 ≤ n0) {Q : Exit → Act → World → Prop}
    (hQ : ∀ μ k a w, Inv P w0 nt ops nA od an cl F W eff μ0 n0 (fun i => i < ops.size) μ k a w → Q .normal a w) :
    ∀ (fuel : Nat) (listed : Array Bool) (μ : Mu) (k : Nat) (a : Act) (w : World), listed.size = ops.size → listed.toList.count false = fuel → Inv P w0 nt ops nA od an cl F W eff μ0 n0 (fun i => listed.getD i false = true) μ k a w → wpAny P .any ops Q fuel listed a w := by
  intro fuel
  induction fuel with
  | zero =>
    intro listed μ k a w hs hc I
    have hall : ∀ i, i < ops.size → listed.getD i false = true := by
      intro i hi
      have h1 : listed.toList[i]? ≠ some false := fun h => List.count_eq_zero.1 hc (List.mem_of_getElem? h)
      rw [Array.getD_eq_getD_getElem?, Array.getElem?_eq_getElem (by omega)]
      simp only [Option.getD_some]
      cases h : listed[i]'(by omega) with
      | true => rfl
      | false => exact absurd (by rw [Array.getElem?_toList, Array.getElem?_eq_getElem (by omega), h]) h1
    refine ⟨?_, hQ μ k a w (I.congr fun i => ⟨fun h => ?_, hall i⟩)⟩
    · rw [List.eq_nil_iff_forall_not_mem]
      intro i hi
      obtain ⟨h1, h2, _⟩ := mem_ready.1 hi
      have h3 := hall i h1
      rw [Array.getD_eq_getD_getElem?, Array.getElem?_eq_getElem (by omega)] at h2 h3
      simp only [Option.getD_some] at h2 h3
      rw [h2] at h3; cases h3
    · rcases Nat.lt_or_ge i ops.size with h1 | h1
      · exact h1
      · rw [Array.getD_eq_getD_getElem?, Array.getElem?_eq_none (by omega)] at h
        cases h
  | succ fuel ih =>
    intro listed μ k a w hs hc I
    refine ⟨fun hnil => ?_, fun i hi => ?_⟩
    · -- nothing is ready: all is done
      have hall : ∀ i, i < ops.size → listed.getD i false = true := by
        intro i
        induction i using Nat.strongRecOn with
        | ind i ihi =>
          intro hi
          have hn : i ∉ Region.ready .any ops listed := by rw [hnil]; simp
          rw [mem_ready] at hn
          cases h : listed.getD i false with
          | true => rfl
          | false =>
            exfalso
            refine hn ⟨hi, ?_, fun o ho e he hb => ?_⟩
            · rw [Array.getD_eq_getD_getElem?, Array.getElem?_eq_getElem (by omega)] at h ⊢
              exact h
            · have := X.after i o e ho he hb
              exact ihi e.on this (by omega)
      refine hQ μ k a w (I.congr fun i => ⟨fun h => ?_, hall i⟩)
      rcases Nat.lt_or_ge i ops.size with h1 | h1
      · exact h1
      · rw [Array.getD_eq_getD_getElem?, Array.getElem?_eq_none (by omega)] at h
        cases h
    · obtain ⟨h1, h2, h3⟩ := mem_ready.1 hi
      have hf : listed[i]? = some false := by
        rw [Array.getD_eq_getD_getElem?, Array.getElem?_eq_getElem (by omega)] at h2
        rw [Array.getElem?_eq_getElem (by omega)]
        simpa using h2
      refine X.step hcall hgl h0 hlow I h1 (by rw [Array.getD_eq_getD_getElem?, hf]; simp) (fun o e ho he hb => h3 o ho e he hb) ?_
      intro μ' k' a' w' I'
      refine ih _ μ' k' a' w' (by simpa using hs) ?_ (I'.congr fun j => ?_)
      · have h4 := count_set listed.toList i (by rw [Array.getElem?_toList]; exact hf)
        rw [Array.toList_setIfInBounds]
        omega
      · rw [Array.getD_eq_getD_getElem?, Array.getD_eq_getD_getElem?, Array.getElem?_setIfInBounds]
        by_cases e : i = j
        · subst e; simp [hs, h1]
        · have e' : ¬ j = i := fun h => e h.symm
          simp [e, e']

/-- the plan is carried out -/
theorem Plan.done (X : Plan P gl nt call ops nA od an cl F G W E eff) (hm : P.follows .mixedOrders = true) (hcall : CallOK P w0 call) (hgl : ∀ g ∈ gl, g < w0.ng) {w : World} {a : Act} (R : RR P w0 μ0 (G 0) w) (hF : FR μ0 nt (F 0) a) {id : Nat} {Q : Exit → Act → World → Prop}
    (hQ : ∀ μ a w, RR P w0 μ (G od.length) w → FR μ nt (F od.length) a → Ext μ0 (G 0) μ (G od.length) → Q .normal a w) : (Code.region id ops true).wp P Q a w := by
  refine wp_region_any hm (X.go (μ0 := μ0) (n0 := (G 0).next) hcall hgl rfl R.lown ?_ ops.size _ μ0 0 a _ (by simp) (by simp) ?_)
  · intro μ k a w I
    obtain ⟨hm1, hm2, hm3⟩ := X.made rfl nA (Nat.le_refl _)
    have hW0 := X.wz
    have hk : k = eff.length := by
      have := I.kle
      rcases Nat.lt_or_ge k eff.length with h | h
      · obtain ⟨j, hj⟩ : ∃ j, eff[k]? = some j := ⟨_, List.getElem?_eq_getElem h⟩
        have hjo := X.effod j (List.mem_of_getElem? hj)
        obtain ⟨q, hq⟩ := List.getElem?_of_mem hjo
        obtain ⟨o, c, ho, _, _⟩ := X.op q j hq
        have := (I.ef k j hj).1 (Array.getElem?_eq_some_iff.1 ho).1
        omega
      · omega
    have hWk : W k = G od.length := by rw [hk, ← X.eN]; exact X.wat _ X.nAle (Nat.le_refl _)
    have hR := I.rr
    rw [hWk] at hR
    refine hQ μ a w hR ⟨I.sz, I.df, fun t v hv => ?_⟩ ⟨I.le, ?_, ?_⟩
    · refine I.fr od.length t (Nat.le_refl _) (fun q c i _ _ hi _ => ?_) (fun q c i hq hc _ _ => ?_) v hv
      · obtain ⟨o, c, ho, _, _⟩ := X.op q i hi
        exact (Array.getElem?_eq_some_iff.1 ho).1
      · have := (List.getElem?_eq_some_iff.1 hc).1
        rw [X.clen] at this
        omega
    · intro b hb h1
      have h2 := I.kp b hb h1
      refine ⟨h2, ?_⟩
      rw [← hWk, I.same b (by rw [hW0]; omega) h2, hW0]
      exact hm2 b hb
    · have := I.nx
      rw [hWk, hW0] at this
      omega
  · obtain ⟨hm1, hm2, hm3⟩ := X.made rfl nA (Nat.le_refl _)
    have hW0 := X.wz
    have hfalse : ∀ i, (Array.replicate ops.size false).getD i false = false := by
      intro i
      rw [Array.getD_eq_getD_getElem?]
      by_cases h : i < ops.size
      · rw [Array.getElem?_eq_getElem (by simpa using h)]; simp
      · rw [Array.getElem?_eq_none (by simpa using h)]; rfl
    have hRR : ∀ p, p ≤ nA → RR P w0 μ0 (G p) w := by
      intro p
      induction p with
      | zero => intro _; exact R
      | succ p ihp =>
        intro hp
        have hlt : p < cl.length := by have := X.nAle; rw [X.clen]; omega
        obtain ⟨c, hc⟩ : ∃ c, cl[p]? = some c := ⟨_, List.getElem?_eq_getElem hlt⟩
        obtain ⟨hg, e, z, hi⟩ := X.alloc p c (by omega) hc
        rcases (X.ran p c hc).how with ⟨v, _, h4, _⟩ | ⟨h4, _⟩
        · obtain ⟨_, h5⟩ := alloc_ran hi h4
          rw [h5]
          exact (ihp (by omega)).ahead _
        · unfold wantC at h4
          rw [hg] at h4
          cases h4
    refine ⟨?_, hF.1, hF.2.1, Nat.zero_le _, ?_, ?_, ?_, ?_, Mu.le_refl _, fun _ _ h => h, fun _ _ _ => rfl, Nat.le_refl _⟩
    · rw [hW0]
      exact (hRR nA (Nat.le_refl _)).heap rfl
    · intro i hi
      rw [hfalse] at hi; cases hi
    · intro y i _
      rw [hfalse]; simp
    · intro p t hp h1 h2 v hv
      refine hF.2.2 t v ?_
      rw [← hv]
      have := X.keep (t := t) p 0 (by omega) (fun q c _ h4 h5 h6 => by
        have hq : q < od.length := by omega
        have := h1 q c od[q] (by omega) h5 (List.getElem?_eq_getElem hq) h6
        rw [hfalse] at this; cases this)
      rw [Nat.zero_add] at this
      exact this.symm
    · intro p i hp _ _
      exact R.fresh _ (by omega)
end
end Go.Cm

namespace Go.Cm
open Go

theorem dAll_spec {n : Nat} {p : Nat → Bool} (h : dAll n p = true) : ∀ i, i < n → p i = true := fun i hi => List.all_eq_true.1 h i (List.mem_range.2 hi)

theorem filter_len (p : Nat → Bool) : ∀ l : List Nat, (l.filter p).length + (l.filter fun i => !p i).length = l.length
  | [] => rfl
  | x :: l => by
    have := filter_len p l
    cases h : p x <;> simp [h] <;> omega

theorem filter_take (p : Nat → Bool) : ∀ (l : List Nat) (q i : Nat), l[q]? = some i → p i = true → (l.filter p)[((l.take q).filter p).length]? = some i
  | [], q, i, h, _ => by simp at h
  | x :: l, 0, i, h, hp => by simp at h; subst h; simp [hp]
  | x :: l, q + 1, i, h, hp => by
    have := filter_take p l q i (by simpa using h) hp
    cases hx : p x <;> simp [hx, this]

section
variable {P : Program} {w0 : Start} {gl : List Nat} {nt : Nat}

theorem cOpers_get {ops : Array Oper} : ∀ {l : List Oper} {cs : List COp}, cOpers gl nt P ops l = some cs → cs.length = l.length ∧ ∀ (i : Nat) o, l[i]? = some o → cOper gl nt P ops o = some (posOp cs i)
  | [], cs, h => by
    simp only [cOpers, Option.some.injEq] at h
    subst h
    exact ⟨rfl, fun i o h => by simp at h⟩
  | x :: l, cs, h => by
    unfold cOpers at h
    split at h
    · rename_i c cs' h1 h2
      cases h
      obtain ⟨h3, h4⟩ := cOpers_get h2
      refine ⟨by simp [h3], fun i o ho => ?_⟩
      cases i with
      | zero => simp at ho; subst ho; exact h1
      | succ i => exact h4 i o (by simpa using ho)
    · cases h

theorem eCnt_eq {cs0 : List COp} : ∀ {rs : List (COp × Nat × Nat)} {l : List Nat}, (rs.map fun x => stripOp x.1) = l.map (posOp cs0) → ∀ q, eCnt rs q = ((l.take q).filter fun i => !(posOp cs0 i).ins.still).length
  | [], [], _, q => by simp [eCnt]
  | [], _ :: _, h, _ => by simp at h
  | _ :: _, [], h, _ => by simp at h
  | x :: rs, i :: l, h, 0 => by simp [eCnt]
  | x :: rs, i :: l, h, q + 1 => by
    simp only [List.map_cons, List.cons.injEq] at h
    have ih := eCnt_eq (cs0 := cs0) h.2 q
    have e : (posOp cs0 i).ins.still = x.1.ins.still := by rw [← h.1]; rfl
    unfold eCnt at ih ⊢
    simp only [List.take_succ_cons, List.filter_cons, e]
    cases x.1.ins.still <;> simp [ih]

theorem read_form {call : CallF} {c : COp} {fr : Fr} {H H' : Heap} {v : Value} {r : RI} (hi : c.ins = .read r) (h : ∀ K, insK call c fr H K = K v H') : ∃ vs x, evs fr c.args = some vs ∧ readD r vs H = some x := by
  have h1 := h fun v H => some (v, H)
  unfold insK at h1
  rw [hi] at h1
  dsimp only at h1
  obtain ⟨vs, h2, h3⟩ := optK_some h1
  obtain ⟨x, h4, _⟩ := optK_some h3
  exact ⟨vs, x, h2, h4⟩

/-- EVERY REGION THAT DRAWS. -/
theorem draw_ok (hm : P.follows .mixedOrders = true) (hgl : ∀ g ∈ gl, g < w0.ng) {call : CallF} (hcall : CallOK P w0 call) : DrawOK P w0 gl nt call := by
  intro id ops al rs hc μ H w fr a K r Q R Fr0 h hQ
  unfold cDraw at hc
  split at hc
  case h_2 => cases hc
  rename_i cs0 hcs
  dsimp only at hc
  split at hc
  case isFalse => cases hc
  rename_i hok
  simp only [Option.some.injEq, CCode.regD.injEq] at hc
  obtain ⟨eA, eR⟩ := hc
  obtain ⟨hl0, hop0⟩ := cOpers_get hcs
  have hsz : cs0.length = ops.size := by simpa using hl0
  generalize hana : ancs ops.toList [] = ana at hok eR
  unfold drawOk at hok
  simp only [Bool.and_eq_true, decide_eq_true_eq] at hok
  obtain ⟨⟨⟨⟨⟨⟨⟨⟨k1, k2⟩, k3⟩, k4⟩, k5⟩, k6⟩, k7⟩, k8⟩, k9⟩ := hok
  obtain ⟨FA, GA, fA0, gA0, hranA, hA⟩ := runOps_ran al fr H h
  obtain ⟨FB, GB, hsF, rdsF, fB0, gB0, hranB, hB, hrok, _, _, hat, hrd⟩ := runD_ran rs _ _ [] [] hA
  -- lengths
  have lA : al.length = (ordA cs0).length := by simpa using (congrArg List.length eA).symm
  have lR : rs.length = (ordR cs0).length := by simpa using (congrArg List.length eR).symm
  have lO : (ordA cs0 ++ ordR cs0).length = ops.size := by
    rw [List.length_append, ← hsz]
    have := filter_len (fun i => (posOp cs0 i).ins.isAlloc) (List.range cs0.length)
    simpa [ordA, ordR] using this
  -- places
  have getA : ∀ (p i : Nat), (ordA cs0)[p]? = some i → ∃ c, al[p]? = some c ∧ stripOp c = posOp cs0 i := by
    intro p i hi
    have := congrArg (fun l => l[p]?) eA
    simp only [List.getElem?_map, hi, Option.map_some] at this
    cases hx : al[p]? with
    | none => rw [hx] at this; simp at this
    | some c => rw [hx] at this; simp only [Option.map_some, Option.some.injEq] at this; exact ⟨c, rfl, this.symm⟩
  have getR : ∀ (q i : Nat), (ordR cs0)[q]? = some i → ∃ c, rs[q]? = some (c, loOf ana (effs cs0) i, hiOf ana (effs cs0) i) ∧ stripOp c = posOp cs0 i := by
    intro p i hi
    have := congrArg (fun l => l[p]?) eR
    simp only [List.getElem?_map, hi, Option.map_some] at this
    cases hx : rs[p]? with
    | none => rw [hx] at this; simp at this
    | some c =>
      rw [hx] at this
      simp only [Option.map_some, Option.some.injEq, Prod.mk.injEq] at this
      obtain ⟨c, lo, hi⟩ := c
      obtain ⟨h1, rfl, rfl⟩ := this
      exact ⟨c, rfl, h1.symm⟩
  have place : ∀ (p i : Nat), (ordA cs0 ++ ordR cs0)[p]? = some i → ∃ c, (al ++ rs.map (·.1))[p]? = some c ∧ stripOp c = posOp cs0 i := by
    intro p i hi
    rcases Nat.lt_or_ge p al.length with hp | hp
    · rw [List.getElem?_append_left (by omega)] at hi
      obtain ⟨c, h1, h2⟩ := getA p i hi
      exact ⟨c, by rw [List.getElem?_append_left hp]; exact h1, h2⟩
    · rw [List.getElem?_append_right (by omega)] at hi
      obtain ⟨c, h1, h2⟩ := getR _ i hi
      refine ⟨c, ?_, h2⟩
      rw [List.getElem?_append_right hp, List.getElem?_map, lA, h1]; rfl
  have back : ∀ (p : Nat) c i, (al ++ rs.map (·.1))[p]? = some c → (ordA cs0 ++ ordR cs0)[p]? = some i → stripOp c = posOp cs0 i := by
    intro p c i h1 h2
    obtain ⟨c', h3, h4⟩ := place p i h2
    rw [h1] at h3; cases h3; exact h4
  have rng : ∀ i, i ∈ ordA cs0 ++ ordR cs0 → i < ops.size := by
    intro i hi
    rw [← hsz]
    rcases List.mem_append.1 hi with h | h
    · exact List.mem_range.1 (List.mem_filter.1 h).1
    · exact List.mem_range.1 (List.mem_filter.1 h).1
  have opsl : ops.toList.length = ops.size := by simp
  have eR' : (rs.map fun x => stripOp x.1) = (ordR cs0).map (posOp cs0) := by
    have := congrArg (List.map Prod.fst) eR
    simp only [List.map_map] at this
    rw [← List.map_id' ((ordR cs0).map (posOp cs0)), List.map_map]
    exact this.symm
  have hcnt := eCnt_eq eR'
  have clash_strip : ∀ x y : COp, (stripOp x).clash (stripOp y) = x.clash y := fun _ _ => rfl
  have inA : ∀ p i, p < al.length → (ordA cs0 ++ ordR cs0)[p]? = some i → i ∈ ordA cs0 := by
    intro p i hp hi
    rw [List.getElem?_append_left (by omega)] at hi
    exact List.mem_of_getElem? hi
  have inR : ∀ p i, al.length ≤ p → (ordA cs0 ++ ordR cs0)[p]? = some i → (ordR cs0)[p - al.length]? = some i := by
    intro p i hp hi
    rw [List.getElem?_append_right (by omega), ← lA] at hi
    exact hi
  have effR : ∀ i, i ∈ effs cs0 ↔ i ∈ ordR cs0 ∧ (posOp cs0 i).ins.still = false := by
    intro i
    unfold effs
    simp [List.mem_filter]
  have X : Plan P gl nt call ops al.length (ordA cs0 ++ ordR cs0) (fun x j => anc ana x j = true) (al ++ rs.map (·.1)) (fun p => if p < al.length then FA p else FB (p - al.length)) (fun p => if p < al.length then GA p else GB (p - al.length)) (fun k => hsF.getD k H) (fun p => eCnt rs (p - al.length)) (effs cs0) := by
    refine ⟨lO, ?_, ?_, k3, ?_, ?_, ?_, ?_, ?_, ?_, ?_, ?_, ?_, ?_, ?_, k7, ?_, ?_, ?_, ?_, ?_, ?_⟩
    · simp [lA, lR]
    · rw [List.length_append]; omega
    · intro i hi
      have := dAll_spec k4 i (by omega)
      simpa using this
    · intro p i hi
      obtain ⟨c, h1, h2⟩ := place p i hi
      have hlt := rng i (List.mem_of_getElem? hi)
      refine ⟨ops[i], c, Array.getElem?_eq_getElem hlt, h1, ?_⟩
      rw [h2]
      exact hop0 i _ (by rw [Array.getElem?_toList]; exact Array.getElem?_eq_getElem hlt)
    · intro i o e ho he hb
      have := dAll_spec k1 i (by rw [opsl]; exact (Array.getElem?_eq_some_iff.1 ho).1)
      rw [Array.getElem?_toList, ho] at this
      simp only [Array.all_eq_true'] at this
      have h1 := this e he
      rw [hb] at h1
      simpa using h1
    · intro j o x ho hx
      have := dAll_spec k2 j (by rw [opsl]; exact (Array.getElem?_eq_some_iff.1 ho).1)
      rw [Array.getElem?_toList, ho] at this
      unfold anc at hx
      have h1 := List.all_eq_true.1 this x (by simpa using hx)
      simp only [Array.any_eq_true'] at h1
      obtain ⟨e, he, h2⟩ := h1
      simp only [Bool.and_eq_true, Bool.or_eq_true, beq_iff_eq] at h2
      exact ⟨e, he, h2.1, h2.2⟩
    · intro p q x y i j hpq hx hy hi hj hcl
      have hp := (List.getElem?_eq_some_iff.1 hi).1
      have hq := (List.getElem?_eq_some_iff.1 hj).1
      have h1 := dAll_spec (dAll_spec k5 p hp) q hq
      have e1 : (ordA cs0 ++ ordR cs0).getD p 0 = i := by rw [List.getD_eq_getElem?_getD, hi]; rfl
      have e2 : (ordA cs0 ++ ordR cs0).getD q 0 = j := by rw [List.getD_eq_getElem?_getD, hj]; rfl
      rw [e1, e2, ← back p x i hx hi, ← back q y j hy hj, clash_strip, hcl] at h1
      simp only [Bool.not_true, Bool.or_false, Bool.or_eq_true, beq_iff_eq, Bool.and_eq_true, decide_eq_true_eq] at h1
      rcases h1 with (h1 | h1) | h1
      · exact absurd h1 hpq
      · exact .inl h1
      · exact .inr h1
    · intro x y i j hxy hi hj
      have hy := (List.getElem?_eq_some_iff.1 hj).1
      have h1 := dAll_spec (dAll_spec k6 y hy) x hxy
      have e1 : (effs cs0).getD x 0 = i := by rw [List.getD_eq_getElem?_getD, hi]; rfl
      have e2 : (effs cs0).getD y 0 = j := by rw [List.getD_eq_getElem?_getD, hj]; rfl
      rw [e1, e2] at h1
      exact h1
    · intro p c hp
      try dsimp only
      rcases Nat.lt_or_ge p al.length with h1 | h1
      · rw [List.getElem?_append_left h1] at hp
        have h2 := hranA p c hp
        rw [if_pos h1, if_pos h1]
        rcases Nat.lt_or_ge (p + 1) al.length with h3 | h3
        · rw [if_pos h3, if_pos h3]; exact h2
        · have e : p + 1 = al.length := by omega
          rw [if_neg (by omega), if_neg (by omega), e, Nat.sub_self, fB0, gB0, ← e]
          exact h2
      · rw [List.getElem?_append_right h1, List.getElem?_map] at hp
        rw [if_neg (by omega), if_neg (by omega), if_neg (by omega), if_neg (by omega), show p + 1 - al.length = p - al.length + 1 by omega]
        cases hx : rs[p - al.length]? with
        | none => rw [hx] at hp; simp at hp
        | some x =>
          rw [hx] at hp
          simp only [Option.map_some, Option.some.injEq] at hp
          subst hp
          exact hranB _ x hx
    · intro p c hp hcp
      have hlt : p < (ordA cs0 ++ ordR cs0).length := by rw [List.length_append]; omega
      obtain ⟨i, hi⟩ : ∃ i, (ordA cs0 ++ ordR cs0)[p]? = some i := ⟨_, List.getElem?_eq_getElem hlt⟩
      have hb := back p c i hcp hi
      have hal : (posOp cs0 i).ins.isAlloc = true := (List.mem_filter.1 (inA p i hp hi)).2
      have hlt2 : i < cs0.length := List.mem_range.1 (List.mem_filter.1 (inA p i hp hi)).1
      have hmem : posOp cs0 i ∈ cs0 := by
        unfold posOp
        rw [List.getD_eq_getElem?_getD, List.getElem?_eq_getElem hlt2]
        exact List.getElem_mem hlt2
      have hg := List.all_eq_true.1 k9 _ hmem
      rw [hal] at hg
      rw [← hb] at hg hal
      refine ⟨by simpa [stripOp] using hg, ?_⟩
      have hal' : c.ins.isAlloc = true := hal
      unfold CIns.isAlloc at hal'
      split at hal'
      · rename_i e z he; exact ⟨e, z, he⟩
      · cases hal'
    · intro p i hp hi he
      have h1 : (posOp cs0 i).ins.isAlloc = true := (List.mem_filter.1 (inA p i hp hi)).2
      have h2 : (!(posOp cs0 i).ins.isAlloc) = true := (List.mem_filter.1 ((effR i).1 he).1).2
      rw [h1] at h2
      cases h2
    · intro p c i hp hcp hi
      have hb := back p c i hcp hi
      have hR := List.mem_of_getElem? (inR p i hp hi)
      rw [effR, ← hb]
      exact ⟨fun h => ⟨hR, h⟩, fun h => h.2⟩
    · intro i hi
      exact List.mem_append_right _ ((effR i).1 hi).1
    · intro p i hp hi he
      try dsimp only
      rw [hcnt]
      have h1 := (effR i).1 he
      exact filter_take _ _ _ i (inR p i hp hi) (by simp [h1.2])
    · intro p hp hp2
      try dsimp only
      have hle : p - al.length ≤ rs.length := by rw [List.length_append] at hp2; omega
      have h1 := hat (p - al.length) hle
      rw [if_neg (by omega), List.getD_eq_getElem?_getD]
      simp only [List.length_nil, Nat.zero_add] at h1
      rw [h1]; rfl
    · intro p i hp hi he
      try dsimp only
      rw [hcnt, hcnt, show p + 1 - al.length = p - al.length + 1 by omega]
      have h1 := inR p i hp hi
      have h2 := (effR i).1 he
      rw [List.take_add_one, h1]
      simp [h2.2]
    · try dsimp only
      rw [Nat.sub_self]
      simp [eCnt]
    · try dsimp only
      rw [hcnt, List.length_append, lA, Nat.add_sub_cancel_left, List.take_length]
      rfl
    · intro p c i ri hp hcp hi hins hw
      try dsimp only at hw ⊢
      rw [if_neg (by omega)] at hw ⊢
      rw [if_neg (by omega)]
      have hq := inR p i hp hi
      obtain ⟨c', h1, h2⟩ := getR _ i hq
      have hcc : c' = c := by
        rw [List.getElem?_append_right hp, List.getElem?_map, h1] at hcp
        simpa using hcp
      subst hcc
      have hran := hranB _ _ h1
      dsimp only at hran
      obtain ⟨vs, x, hev, hrdx⟩ : ∃ vs x, evs (FB (p - al.length)) c'.args = some vs ∧ readD ri vs (GB (p - al.length)) = some x := by
        rcases hran.how with ⟨v, _, h3, _⟩ | ⟨h3, _⟩
        · exact read_form hins h3
        · rw [hw] at h3; cases h3
      refine ⟨vs, x, hev, hrdx, ?_⟩
      intro k hk hlo hhi
      have hqlt : p - al.length < (ordR cs0).length := (List.getElem?_eq_some_iff.1 hq).1
      have ht := dAll_spec k8 _ hqlt
      have e1 : (ordR cs0).getD (p - al.length) 0 = i := by rw [List.getD_eq_getElem?_getD, hq]; rfl
      simp only [e1, Bool.and_eq_true, decide_eq_true_eq, Bool.or_eq_true, beq_iff_eq] at ht
      obtain ⟨⟨⟨⟨t1, t2⟩, t3⟩, t4⟩, t5⟩ := ht
      have hlok : loOf ana (effs cs0) i ≤ k := by
        rcases Nat.eq_zero_or_pos (loOf ana (effs cs0) i) with h0 | h0
        · omega
        · have h3 := dAll_spec t4 (loOf ana (effs cs0) i - 1) (by omega)
          have h4 : loOf ana (effs cs0) i - 1 < (effs cs0).length := by omega
          have := hlo _ _ (List.getElem?_eq_getElem h4) (by
            rw [List.getD_eq_getElem?_getD, List.getElem?_eq_getElem h4] at h3
            exact h3)
          omega
      have hkhi : k ≤ hiOf ana (effs cs0) i := by
        rcases t5 with t5 | t5
        · omega
        · rcases Nat.lt_or_ge (hiOf ana (effs cs0) i) (effs cs0).length with h4 | h4
          · exact hhi _ _ (List.getElem?_eq_getElem h4) (by
              rw [List.getD_eq_getElem?_getD, List.getElem?_eq_getElem h4] at t5
              exact t5)
          · omega
      rcases Nat.lt_or_ge (loOf ana (effs cs0) i) (hiOf ana (effs cs0) i) with hlt | hge
      · obtain ⟨vs', v', h3, h4, h5⟩ := hrd _ _ _ _ ri h1 hins hw hlt
        rw [hev] at h3; cases h3
        rw [hrdx] at h4; cases h4
        obtain ⟨H', h6, h7⟩ := rdsOk_spec hrok _ h5 k hlok hkhi
        rw [List.getD_eq_getElem?_getD, h6]
        exact h7
      · have hk2 : k = eCnt rs (p - al.length) := by
          rw [hcnt]
          unfold eAt at t1 t2
          omega
        have h6 := hat (p - al.length) (by omega)
        simp only [List.length_nil, Nat.zero_add] at h6
        rw [← hk2] at h6
        rw [List.getD_eq_getElem?_getD, h6]
        exact hrdx
  have eF0 : (if 0 < al.length then FA 0 else FB (0 - al.length)) = fr := by
    split
    · exact fA0
    · have : al.length = 0 := by omega
      rw [this, Nat.sub_zero, fB0, this]; exact fA0
  have eG0 : (if 0 < al.length then GA 0 else GB (0 - al.length)) = H := by
    split
    · exact gA0
    · have : al.length = 0 := by omega
      rw [this, Nat.sub_zero, gB0, this]; exact gA0
  have eN : (ordA cs0 ++ ordR cs0).length - al.length = rs.length := by rw [List.length_append]; omega
  refine X.done hm hcall hgl (a := a) (by rw [eG0]; exact R) (by rw [eF0]; exact Fr0) ?_
  intro μ' a' w' R' F' E'
  rw [eG0] at E'
  try dsimp only at R' F' E'
  rw [if_neg (by rw [List.length_append]; omega), eN] at R' F' E'
  exact hQ μ' _ _ a' w' hB R' F' E'
end
end Go.Cm

namespace Go.Cm
open Go

theorem stripOp_ins {c : COp} (h : c.kd = strip0) : stripOp c = c := by
  obtain ⟨a, b, c, d, e⟩ := c
  simp only at h
  subst h
  rfl

section
variable {P : Program} {gl : List Nat} {nt : Nat}

theorem cOper_kd {ops : Array Oper} {o : Oper} {c : COp} (h : cOper gl nt P ops o = some c) : c.kd = strip0 := by
  unfold cOper at h
  repeat' split at h
  all_goals first | (cases h; done) | (simp only [Option.some.injEq] at h; subst h; rfl)

theorem cOpers_kd {ops : Array Oper} : ∀ {l : List Oper} {cs : List COp}, cOpers gl nt P ops l = some cs → ∀ c ∈ cs, c.kd = strip0
  | [], cs, h => by simp only [cOpers, Option.some.injEq] at h; subst h; simp
  | o :: l, cs, h => by
    unfold cOpers at h
    split at h
    · rename_i c cs' h1 h2
      cases h
      intro x hx
      rcases List.mem_cons.1 hx with rfl | hx
      · exact cOper_kd h1
      · exact cOpers_kd h2 x hx
    · cases h

theorem posOp_kd {cs : List COp} (h : ∀ c ∈ cs, c.kd = strip0) (i : Nat) : (posOp cs i).kd = strip0 := by
  unfold posOp
  rw [List.getD_eq_getElem?_getD]
  cases hx : cs[i]? with
  | none => rfl
  | some c => exact h c (List.mem_of_getElem? hx)

theorem compile_strip : ∀ {code : Code} {c : CCode}, compile gl nt P code = some c → strip c = c := by
  intro code
  induction code with
  | seq a b iha ihb =>
    intro c h
    simp only [compile] at h
    split at h
    · rename_i x y h1 h2
      cases h
      simp only [strip, iha h1, ihb h2]
    · cases h
  | region id ops draw =>
    intro c h
    rcases region_form h with ⟨_, h1, _⟩ | ⟨_, cs, h1, rfl⟩ | rfl
    · unfold cDraw at h1
      split at h1
      · rename_i cs hcs
        dsimp only at h1
        split at h1
        · cases h1
          have hk := cOpers_kd hcs
          simp only [strip, List.map_map]
          congr 1
          · exact List.map_congr_left fun i _ => stripOp_ins (posOp_kd hk i)
          · refine List.map_congr_left fun i _ => ?_
            simp only [Function.comp]
            rw [stripOp_ins (posOp_kd hk i)]
        · cases h1
      · cases h1
    · have hk := cOpers_kd h1
      simp only [strip]
      congr 1
      conv => rhs; rw [← List.map_id cs]
      exact List.map_congr_left fun c hc => stripOp_ins (hk c hc)
    · rfl
  | cond o a b iha ihb =>
    intro c h
    simp only [compile] at h
    split at h
    · rename_i x y z h0 h1 h2
      cases h
      simp only [strip, iha h1, ihb h2]
    · cases h
  | block id a ih =>
    intro c h
    simp only [compile] at h
    split at h
    · rename_i x h1
      cases h
      simp only [strip, ih h1]
    · cases h
  | loop a ih =>
    intro c h
    simp only [compile] at h
    split at h
    · rename_i x h1
      cases h
      simp only [strip, ih h1]
    · cases h
  | _ =>
    intro c h
    simp only [compile, Option.some.injEq] at h
    subst h
    rfl
end

/-- a function, compiled -/
def autoFn (gl : List Nat) (P : Program) (f : Nat) : Option CFunc := match P.funcs[f]? with
  | some fn => match fn.body with
    | some body => if (fn.name == "runtime.NumGoroutine") = true then none else match compile gl fn.ntmps P body, cRess P fn.results.toList with
      | some c, some rs => some ⟨c, rs⟩
      | _, _ => none
    | none => none
  | none => none

theorem autoFn_ok {gl : List Nat} {P : Program} {f : Nat} {c : CFunc} (h : autoFn gl P f = some c) : cFunc gl P f c := by
  unfold autoFn at h
  split at h
  · rename_i fn h1
    split at h
    · rename_i body h2
      split at h
      · cases h
      · rename_i hn
        split at h
        · rename_i c' rs h3 h4
          cases h
          exact ⟨fn, body, h1, h2, by rw [compile_strip h3]; exact h3, h4, by simpa using hn⟩
        · cases h
    · cases h
  · cases h

/-! ### a start -/
def start (n0 : Nat) (w : World) : Start := ⟨w.heap, w.os, w.output, n0, 0⟩

end Go.Cm

namespace Go.Cm
open Go

/-- where the old memory is kept, what was known stays known -/
theorem RR.later {P : Program} {w0 : Start} {μ : Mu} {H : Heap} {w w' : World} (R : RR P w0 μ H w) (hs : w.heap.size ≤ w'.heap.size) (hb : ∀ b, b < w.heap.size → w'.heap[b]? = w.heap[b]?) (hio : w'.os = w.os ∧ w'.output = w.output) : RR P w0 μ H w' :=
  ⟨fun b m o h1 h2 => let ⟨o', h3, h4⟩ := R.obj b m o h1 h2; ⟨o', by rw [hb _ (R.blk _ _ h1)]; exact h3, h4⟩, R.inj, R.fresh, fun b m h => Nat.lt_of_lt_of_le (R.blk b m h) hs, Nat.le_trans R.size hs, R.nle, R.idn, R.low, R.lown,
    fun b h => (hb b (Nat.lt_of_lt_of_le h R.size)).trans (R.base b h), R.still, ⟨hio.1.trans R.io.1, hio.2.trans R.io.2⟩⟩

/-- a function without arguments that answers true, as one step -/
def sure (f : Nat) : Nat → List Value → Heap → Res := fun g vs H => if g = f then (match vs with
  | [] => some (.bool true, H)
  | _ => none) else none

open Go.RowKit Go.ChangeShapes Go.WideShapes
section
variable {H : Type} {enc : TypeId × Value → H} {P : Program}

theorem sameAt_of_block {W W' : World} {p : MemPlace} (h : W'.heap[p.block]? = W.heap[p.block]?) : W.sameAt W' p := by
  cases p with
  | cell b o => exact World.cell?_of_block (w := W) h
  | map b => exact h

theorem trodAll_stays (hl : laidOutB P = true) {W W' : World} (hb : ∀ b, b < W.heap.size → W'.heap[b]? = W.heap[b]?) {sp : Nat → Bool} : ∀ {ts : List TypeId} {vs : List Value} {ds : List (DataW H)} {ps : List MemPlace},
    (∀ t ∈ ts, P.readableRec t = true ∧ t < P.types.size) → DataW.TrodAll enc P W 0 (fun _ => true) true ts vs ds ps → (∀ p ∈ ps, p.block < W.heap.size ∧ sp p.block = true) → DataW.TrodAll enc P W' 0 sp true ts vs ds ps
  | [], [], [], ps, _, h, _ => h
  | t :: ts, v :: vs, d :: ds, ps, hr, h, hp => by
    obtain ⟨p, q, h1, h2, rfl⟩ := h
    exact ⟨p, q, WideElems.Trod_stays hl (hr t (by simp)).1 (hr t (by simp)).2 h1 (fun x hx => sameAt_of_block (hb _ (hp x (List.mem_append_left _ hx)).1)) (fun x hx => (hp x (List.mem_append_left _ hx)).2),
      trodAll_stays hl hb (fun t ht => hr t (List.mem_cons_of_mem _ ht)) h2 (fun x hx => hp x (List.mem_append_right _ hx)), rfl⟩

/-- WHAT A LAW ASKS BEHIND THE CALL: it answered true, and the old memory is as it was. -/
theorem law_post (hl : laidOutB P = true) {f : Func} {s : ChangeSpec} {apart fresh handsOn again : Bool} {W W' : World} {args : Array Value} {ds gs : List (DataW H)} {before : List MemPlace} {tb : TypeId}
    (hW : DataW.Whole enc P f.params.toList s.vars apart W args.toList ds gs before) (hv : s.vars = []) (hfn : s.fn H (ds ++ gs) = { results := [.lit (.bool true)], args := ds })
    (hpar : ∀ t ∈ f.params.toList, P.readableRec t = true ∧ t < P.types.size) (hres : f.resultTypes = #[tb]) (hbool : P.underlying tb = some .bool)
    (hb : ∀ b, b < W.heap.size → W'.heap[b]? = W.heap[b]?) (hos : W'.os = W.os) (hout : W'.output = W.output) : s.post enc P f apart fresh handsOn again W args (.bool true) W' := by
  have hlt := hW.lt
  have hW0 := hW
  obtain ⟨pa, pv, hA, hV, rfl, hz, hn⟩ := hW
  rw [hv] at hV
  obtain ⟨rfl, rfl⟩ := trodVars_none hV
  have hargs : ∀ sp : Nat → Bool, (∀ p ∈ pa ++ [], sp p.block = true) → DataW.TrodAll enc P W' 0 sp true f.params.toList args.toList (s.fn H (ds ++ [])).args pa := fun sp hsp => by
    rw [hfn]
    exact trodAll_stays hl hb hpar hA (fun p hp => ⟨hlt p (by simpa using hp), hsp p (by simpa using hp)⟩)
  have hr1 : ∀ (b : Nat) (sp : Nat → Bool) (hd : Bool), DataW.TrodAll enc P W' b sp hd f.resultTypes.toList ((Value.bool true).resultList f.resultTypes.size) (s.fn H (ds ++ [])).results [] := by
    intro b sp hd
    rw [hfn, hres]
    exact trodAll_cons_mk (shut_bool hbool _) trodAll_mk0
  have hold : ∀ p ∈ pa ++ [], (fun b => decide (b < W.heap.size)) p.block = true := fun p hp => by simpa using hlt p hp
  have hk : W.keptBut W' (fun _ => False) := by
    refine ⟨hos, hout, fun i hi => ?_⟩
    rw [hb i hi]
    split <;> simp_all
  have hvars : ∀ sp : Nat → Bool, DataW.TrodVars enc P W' sp s.vars (s.fn H (ds ++ [])).vars [] := by
    intro sp
    rw [hv, hfn]
    rfl
  refine ⟨ds, [], pa ++ [], [], pa, [], hW0, hr1 _ _ _, hargs _ hold, hvars _, World.keptBut_mono (fun p hp => hp.elim) hk, fun _ => ?_⟩
  refine ⟨ok_one hres rfl (okWide_bool_mk hbool _), _, _, ([] ++ pa) ++ [], ⟨[] ++ pa, [], trodAll_append (hargs _ (fun _ _ => rfl)) (hr1 _ _ _), hvars _, rfl, ?_, ?_⟩, ?_⟩
  · intro b off hp
    rw [World.frozen?_of_block (w := W) (hb b (hlt (.cell b off) (by simpa using hp)))]
    exact hz b off (by simpa using hp)
  · intro ha
    simpa using hn ha
  · intro p hp _
    simpa using hp
end
end Go.Cm

namespace Go.Cm
open Go

/-- a window: which block, from where, which cells, of which element type -/
structure Win where
  blk : Nat
  off : Nat
  cells : List Value
  elem : TypeId

def winMB (P : Program) (w : World) (x : Win) : MB := ⟨x.blk, x.off, x.cells.length, (match w.heap[x.blk]? with
  | some (.cells c _ _) => c.size
  | _ => 0), P.cellsOf x.elem, false⟩
def muW (P : Program) (w : World) (ws : List Win) : Mu := fun b => (ws[b]?).map (winMB P w)
def heapW (ws : List Win) : Heap := ⟨.leaf, ws.length, fun b => (ws[b]?).map fun x => .cells x.cells x.elem false x.cells.length true⟩

/-- the window shows what lies there -/
def WinOK (_P : Program) (w : World) (μ : Mu) (x : Win) : Prop :=
  ∃ c fr, w.heap[x.blk]? = some (.cells c x.elem fr) ∧ x.off + x.cells.length ≤ c.size ∧
    ∀ (i : Nat) v, x.cells[i]? = some v → one v = true ∧ ∃ v', c[i + x.off]? = some v' ∧ VR μ v v'

theorem RR.wins {P : Program} {w : World} {ws : List Win} (h : ∀ x ∈ ws, WinOK P w (muW P w ws) x) : RR P (start ws.length w) (muW P w ws) (heapW ws) w := by
  have hmu : ∀ b m, muW P w ws b = some m → ∃ x, ws[b]? = some x ∧ m = winMB P w x ∧ x ∈ ws ∧ b < ws.length := by
    intro b m hm
    unfold muW at hm
    obtain ⟨x, h1, h2⟩ := Option.map_eq_some_iff.1 hm
    exact ⟨x, h1, h2.symm, List.mem_of_getElem? h1, (List.getElem?_eq_some_iff.1 h1).1⟩
  have hget : ∀ b, (heapW ws).get b = (ws[b]?).map fun x => .cells x.cells x.elem false x.cells.length true := by
    intro b
    simp [Heap.get, heapW, Tr.get]
  have hlt : ∀ x ∈ ws, x.blk < w.heap.size := by
    intro x hx
    obtain ⟨c, fr, h1, _⟩ := h x hx
    exact (Array.getElem?_eq_some_iff.1 h1).1
  refine ⟨?_, ?_, ?_, ?_, Nat.le_refl _, Nat.zero_le _, ?_, ?_, Nat.le_refl _, fun _ _ => rfl, ?_, rfl, rfl⟩
  · intro b m o h1 h2
    obtain ⟨x, h3, rfl, h4, _⟩ := hmu b m h1
    rw [hget, h3] at h2
    simp only [Option.map_some, Option.some.injEq] at h2
    subst h2
    obtain ⟨c, fr, g1, g2, g3⟩ := h x h4
    refine ⟨_, g1, rfl, ⟨rfl, Nat.le_refl _⟩, rfl, rfl, ?_, ?_, fun _ h => (by cases h), g3, ?_, fun h => by cases h⟩
    · simp only [winMB, g1]
    · simp only [winMB, g1]; omega
    · intro j _ j2 j3 _
      have := j3 rfl
      simp only [winMB] at j2 this
      omega
  · intro b1 b2 m1 m2 o1 o2 h1 _ h3
    obtain ⟨_, _, _, _, h4⟩ := hmu b1 m1 h3
    exact absurd h1 (by show ¬ ws.length ≤ b1; omega)
  · intro b hb
    unfold muW
    rw [List.getElem?_eq_none hb]
    rfl
  · intro b m h1
    obtain ⟨x, _, rfl, h4, _⟩ := hmu b m h1
    exact hlt x h4
  · intro b hb; exact absurd hb (Nat.not_lt_zero _)
  · intro b m h1
    obtain ⟨x, _, rfl, h4, h5⟩ := hmu b m h1
    exact .inl ⟨h5, hlt x h4⟩
  · intro b o hb h1
    rw [hget] at h1
    obtain ⟨x, _, h2⟩ := Option.map_eq_some_iff.1 h1
    exact ⟨_, _, h2.symm⟩

/-- a slice that is a window whole -/
theorem VR.win {P : Program} {w : World} {ws : List Win} {b : Nat} {x : Win} (hx : ws[b]? = some x) {n c : Nat} (hn : n ≤ c) : VR (muW P w ws) (.slice (some ⟨b, 0, none⟩) n c) (.slice (some ⟨x.blk, x.off, none⟩) n c) := by
  refine .sl hn (.inl ⟨rfl, rfl, winMB P w x, by unfold muW; rw [hx]; rfl, rfl, .inl ⟨?_, rfl⟩⟩)
  simp [winMB]
end Go.Cm

namespace Go.Cm
open Go

theorem callD_calls {P : Program} {w0 : Start} {gl : List Nat} {C : CProg} {N d f : Nat} (hC : ProgOK P w0 gl C) {fn : Func} {body : Code} (hf : P.funcs[f]? = some fn) (hb : fn.body = some body) (hname : (fn.name == "runtime.NumGoroutine") = false)
    {vs vs' : List Value} {H H' : Heap} {v : Value} {μ : Mu} {w : World} (h : callD C N d f vs H = some (v, H')) (R : RR P w0 μ H w) (hvs : VRs μ vs vs') :
    Calls P f vs'.toArray w fun e w' => ∃ v' μ', e = .returned v' ∧ VR μ' v v' ∧ RR P w0 μ' H' w' := by
  have key := callD_ok hC d f vs vs' H v H' μ w h R hvs ⟨some 0, .move (.tmp 0), 0, "", #[], none⟩ { tmps := #[undef], defers := [] }
    (fun a w' => ∃ v' μ', a.tmps[0]? = some v' ∧ VR μ' v v' ∧ RR P w0 μ' H' w') (fun _ _ _ => False) (fun v' μ' w' h1 h2 _ => ⟨v', μ', by simp [Act.put], h1, h2⟩)
  rw [run_enter hf hname hb, Oper.upon_enter] at key
  refine key.mono fun e w' he => ?_
  cases e with
  | returned x =>
    obtain ⟨v', μ', h1, h2, h3⟩ := he
    have : x = v' := by simpa [Act.put] using h1
    subst this
    exact ⟨_, μ', rfl, h2, h3⟩
  | panicked ch => exact he.elim
  | outgrown => obtain ⟨_, _, h⟩ := he; exact h.elim

end Go.Cm

namespace Go.Cm
open Go

end Go.Cm
