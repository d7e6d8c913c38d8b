/-
  A region that draws its order, whole.
  And: A region that draws its order: the plan from the compiled code. A program's functions, compiled as they are called; a call from a start. A closed function as one step; what a law asks of the memory behind the call. A call's start: its arguments' memory, as windows. A clean call is the model's call. Windows from what the kit tells of an argument. A program's functions, compiled with the kinds of what the operations yield. Cuts, laid into a function's code; typed reading; nothing of a program is proved here. Words for printed code; nothing of a program is proved here. How printed code is reasoned about: one step at a time; slices that own a block; what is kept. Nothing of a program is proved here. Arguments of plain types, as windows.
-/
import Derived.Test.YthphbdkhbaijlaaDoorCmE
import Derived.ChangeSame
import Derived.Carry
import Derived.WalkKit
import Derived.ProofKit
import Derived.OpenShut
import Derived.JoinedCond
import Derived.KernelRfl
namespace Go.Cm
open Go

theorem count_set : ∀ (l : List Bool) (i : Nat), l[i]? = some false → (l.set i true).count false + 1 = l.count false
  | [], i, h => by simp at h
  | b :: l, 0, h => by simp at h; subst h; simp
  | b :: l, i + 1, h => by
    have := count_set l i (by simpa using h)
    simp only [List.set_cons_succ, List.count_cons]
    omega

section
variable {P : Program} {w0 : Start} {gl : List Nat} {nt : Nat} {call : CallF} {ops : Array Oper} {nA : Nat} {od : List Nat} {an : Nat → Nat → Prop} {cl : List COp} {F : Nat → Fr} {G W : Nat → Heap} {E : Nat → Nat} {eff : List Nat} {μ0 : Mu} {n0 : Nat}

theorem Inv.congr {L L' : Nat → Prop} {μ : Mu} {k : Nat} {a : Act} {w : World} (h : ∀ i, L i ↔ L' i) (I : Inv P w0 nt ops nA od an cl F W eff μ0 n0 L μ k a w) : Inv P w0 nt ops nA od an cl F W eff μ0 n0 L' μ k a w := by
  have : L = L' := funext fun i => propext (h i)
  subst this; exact I

theorem mem_ready {listed : Array Bool} {i : Nat} : i ∈ Region.ready .any ops listed ↔ i < ops.size ∧ listed.getD i true = false ∧ ∀ o, ops[i]? = some o → ∀ e ∈ o.after, Region.binds .any e = true → listed.getD e.on false = true := by
  unfold Region.ready
  simp only [List.mem_filter, List.mem_range]
  constructor
  · rintro ⟨h1, h2⟩
    simp only [Bool.and_eq_true, Bool.not_eq_true'] at h2
    refine ⟨h1, h2.1, fun o ho e he hb => ?_⟩
    have h3 := h2.2
    rw [ho] at h3
    simp only [Option.map_some, Option.getD_some, Array.all_eq_true'] at h3
    have := h3 e he
    rw [hb] at this
    simpa using this
  · rintro ⟨h1, h2, h3⟩
    refine ⟨h1, ?_⟩
    simp only [Bool.and_eq_true, Bool.not_eq_true']
    refine ⟨h2, ?_⟩
    rw [Array.getElem?_eq_getElem h1]
    simp only [Option.map_some, Option.getD_some, Array.all_eq_true']
    intro e he
    cases hb : Region.binds .any e with
    | false => rfl
    | true => simpa using h3 _ (Array.getElem?_eq_getElem h1) e he hb

theorem Plan.go (X : Plan P gl nt call ops nA od an cl F G W E eff) (hcall : CallOK P w0 call) (hgl : ∀ g ∈ gl, g < w0.ng) (h0 : (G 0).next = n0) (hlow : w0.n0 ≤ n0) {Q : Exit → Act → World → Prop}
    (hQ : ∀ μ k a w, Inv P w0 nt ops nA od an cl F W eff μ0 n0 (fun i => i < ops.size) μ k a w → Q .normal a w) :
    ∀ (fuel : Nat) (listed : Array Bool) (μ : Mu) (k : Nat) (a : Act) (w : World), listed.size = ops.size → listed.toList.count false = fuel → Inv P w0 nt ops nA od an cl F W eff μ0 n0 (fun i => listed.getD i false = true) μ k a w → wpAny P .any ops Q fuel listed a w := by
  intro fuel
  induction fuel with
  | zero =>
    intro listed μ k a w hs hc I
    have hall : ∀ i, i < ops.size → listed.getD i false = true := by
      intro i hi
      have h1 : listed.toList[i]? ≠ some false := fun h => List.count_eq_zero.1 hc (List.mem_of_getElem? h)
      rw [Array.getD_eq_getD_getElem?, Array.getElem?_eq_getElem (by omega)]
      simp only [Option.getD_some]
      cases h : listed[i]'(by omega) with
      | true => rfl
      | false => exact absurd (by rw [Array.getElem?_toList, Array.getElem?_eq_getElem (by omega), h]) h1
    refine ⟨?_, hQ μ k a w (I.congr fun i => ⟨fun h => ?_, hall i⟩)⟩
    · rw [List.eq_nil_iff_forall_not_mem]
      intro i hi
      obtain ⟨h1, h2, _⟩ := mem_ready.1 hi
      have h3 := hall i h1
      rw [Array.getD_eq_getD_getElem?, Array.getElem?_eq_getElem (by omega)] at h2 h3
      simp only [Option.getD_some] at h2 h3
      rw [h2] at h3; cases h3
    · rcases Nat.lt_or_ge i ops.size with h1 | h1
      · exact h1
      · rw [Array.getD_eq_getD_getElem?, Array.getElem?_eq_none (by omega)] at h
        cases h
  | succ fuel ih =>
    intro listed μ k a w hs hc I
    refine ⟨fun hnil => ?_, fun i hi => ?_⟩
    · -- nothing is ready: all is done
      have hall : ∀ i, i < ops.size → listed.getD i false = true := by
        intro i
        induction i using Nat.strongRecOn with
        | ind i ihi =>
          intro hi
          have hn : i ∉ Region.ready .any ops listed := by rw [hnil]; simp
          rw [mem_ready] at hn
          cases h : listed.getD i false with
          | true => rfl
          | false =>
            exfalso
            refine hn ⟨hi, ?_, fun o ho e he hb => ?_⟩
            · rw [Array.getD_eq_getD_getElem?, Array.getElem?_eq_getElem (by omega)] at h ⊢
              exact h
            · have := X.after i o e ho he hb
              exact ihi e.on this (by omega)
      refine hQ μ k a w (I.congr fun i => ⟨fun h => ?_, hall i⟩)
      rcases Nat.lt_or_ge i ops.size with h1 | h1
      · exact h1
      · rw [Array.getD_eq_getD_getElem?, Array.getElem?_eq_none (by omega)] at h
        cases h
    · obtain ⟨h1, h2, h3⟩ := mem_ready.1 hi
      have hf : listed[i]? = some false := by
        rw [Array.getD_eq_getD_getElem?, Array.getElem?_eq_getElem (by omega)] at h2
        rw [Array.getElem?_eq_getElem (by omega)]
        simpa using h2
      refine X.step hcall hgl h0 hlow I h1 (by rw [Array.getD_eq_getD_getElem?, hf]; simp) (fun o e ho he hb => h3 o ho e he hb) ?_
      intro μ' k' a' w' I'
      refine ih _ μ' k' a' w' (by simpa using hs) ?_ (I'.congr fun j => ?_)
      · have h4 := count_set listed.toList i (by rw [Array.getElem?_toList]; exact hf)
        rw [Array.toList_setIfInBounds]
        omega
      · rw [Array.getD_eq_getD_getElem?, Array.getD_eq_getD_getElem?, Array.getElem?_setIfInBounds]
        by_cases e : i = j
        · subst e; simp [hs, h1]
        · have e' : ¬ j = i := fun h => e h.symm
          simp [e, e']

/-- the plan is carried out -/
theorem Plan.done (X : Plan P gl nt call ops nA od an cl F G W E eff) (hm : P.follows .mixedOrders = true) (hcall : CallOK P w0 call) (hgl : ∀ g ∈ gl, g < w0.ng) {w : World} {a : Act} (R : RR P w0 μ0 (G 0) w) (hF : FR μ0 nt (F 0) a) {id : Nat} {Q : Exit → Act → World → Prop}
    (hQ : ∀ μ a w, RR P w0 μ (G od.length) w → FR μ nt (F od.length) a → Ext μ0 (G 0) μ (G od.length) → Q .normal a w) : (Code.region id ops true).wp P Q a w := by
  refine wp_region_any hm (X.go (μ0 := μ0) (n0 := (G 0).next) hcall hgl rfl R.lown ?_ ops.size _ μ0 0 a _ (by simp) (by simp) ?_)
  · intro μ k a w I
    obtain ⟨hm1, hm2, hm3⟩ := X.made rfl nA (Nat.le_refl _)
    have hW0 := X.wz
    have hk : k = eff.length := by
      have := I.kle
      rcases Nat.lt_or_ge k eff.length with h | h
      · obtain ⟨j, hj⟩ : ∃ j, eff[k]? = some j := ⟨_, List.getElem?_eq_getElem h⟩
        have hjo := X.effod j (List.mem_of_getElem? hj)
        obtain ⟨q, hq⟩ := List.getElem?_of_mem hjo
        obtain ⟨o, c, ho, _, _⟩ := X.op q j hq
        have := (I.ef k j hj).1 (Array.getElem?_eq_some_iff.1 ho).1
        omega
      · omega
    have hWk : W k = G od.length := by rw [hk, ← X.eN]; exact X.wat _ X.nAle (Nat.le_refl _)
    have hR := I.rr
    rw [hWk] at hR
    refine hQ μ a w hR ⟨I.sz, I.df, fun t v hv => ?_⟩ ⟨I.le, ?_, ?_⟩
    · refine I.fr od.length t (Nat.le_refl _) (fun q c i _ _ hi _ => ?_) (fun q c i hq hc _ _ => ?_) v hv
      · obtain ⟨o, c, ho, _, _⟩ := X.op q i hi
        exact (Array.getElem?_eq_some_iff.1 ho).1
      · have := (List.getElem?_eq_some_iff.1 hc).1
        rw [X.clen] at this
        omega
    · intro b hb h1
      have h2 := I.kp b hb h1
      refine ⟨h2, ?_⟩
      rw [← hWk, I.same b (by rw [hW0]; omega) h2, hW0]
      exact hm2 b hb
    · have := I.nx
      rw [hWk, hW0] at this
      omega
  · obtain ⟨hm1, hm2, hm3⟩ := X.made rfl nA (Nat.le_refl _)
    have hW0 := X.wz
    have hfalse : ∀ i, (Array.replicate ops.size false).getD i false = false := by
      intro i
      rw [Array.getD_eq_getD_getElem?]
      by_cases h : i < ops.size
      · rw [Array.getElem?_eq_getElem (by simpa using h)]; simp
      · rw [Array.getElem?_eq_none (by simpa using h)]; rfl
    have hRR : ∀ p, p ≤ nA → RR P w0 μ0 (G p) w := by
      intro p
      induction p with
      | zero => intro _; exact R
      | succ p ihp =>
        intro hp
        have hlt : p < cl.length := by have := X.nAle; rw [X.clen]; omega
        obtain ⟨c, hc⟩ : ∃ c, cl[p]? = some c := ⟨_, List.getElem?_eq_getElem hlt⟩
        obtain ⟨hg, e, z, hi⟩ := X.alloc p c (by omega) hc
        rcases (X.ran p c hc).how with ⟨v, _, h4, _⟩ | ⟨h4, _⟩
        · obtain ⟨_, h5⟩ := alloc_ran hi h4
          rw [h5]
          exact (ihp (by omega)).ahead _
        · unfold wantC at h4
          rw [hg] at h4
          cases h4
    refine ⟨?_, hF.1, hF.2.1, Nat.zero_le _, ?_, ?_, ?_, ?_, Mu.le_refl _, fun _ _ h => h, fun _ _ _ => rfl, Nat.le_refl _⟩
    · rw [hW0]
      exact (hRR nA (Nat.le_refl _)).heap rfl
    · intro i hi
      rw [hfalse] at hi; cases hi
    · intro y i _
      rw [hfalse]; simp
    · intro p t hp h1 h2 v hv
      refine hF.2.2 t v ?_
      rw [← hv]
      have := X.keep (t := t) p 0 (by omega) (fun q c _ h4 h5 h6 => by
        have hq : q < od.length := by omega
        have := h1 q c od[q] (by omega) h5 (List.getElem?_eq_getElem hq) h6
        rw [hfalse] at this; cases this)
      rw [Nat.zero_add] at this
      exact this.symm
    · intro p i hp _ _
      exact R.fresh _ (by omega)
end
end Go.Cm

namespace Go.Cm
open Go

theorem dAll_spec {n : Nat} {p : Nat → Bool} (h : dAll n p = true) : ∀ i, i < n → p i = true := fun i hi => List.all_eq_true.1 h i (List.mem_range.2 hi)

theorem filter_len (p : Nat → Bool) : ∀ l : List Nat, (l.filter p).length + (l.filter fun i => !p i).length = l.length
  | [] => rfl
  | x :: l => by
    have := filter_len p l
    cases h : p x <;> simp [h] <;> omega

theorem filter_take (p : Nat → Bool) : ∀ (l : List Nat) (q i : Nat), l[q]? = some i → p i = true → (l.filter p)[((l.take q).filter p).length]? = some i
  | [], q, i, h, _ => by simp at h
  | x :: l, 0, i, h, hp => by simp at h; subst h; simp [hp]
  | x :: l, q + 1, i, h, hp => by
    have := filter_take p l q i (by simpa using h) hp
    cases hx : p x <;> simp [hx, this]

section
variable {P : Program} {w0 : Start} {gl : List Nat} {nt : Nat}

theorem cOpers_get {ops : Array Oper} : ∀ {l : List Oper} {cs : List COp}, cOpers gl nt P ops l = some cs → cs.length = l.length ∧ ∀ (i : Nat) o, l[i]? = some o → cOper gl nt P ops o = some (posOp cs i)
  | [], cs, h => by
    simp only [cOpers, Option.some.injEq] at h
    subst h
    exact ⟨rfl, fun i o h => by simp at h⟩
  | x :: l, cs, h => by
    unfold cOpers at h
    split at h
    · rename_i c cs' h1 h2
      cases h
      obtain ⟨h3, h4⟩ := cOpers_get h2
      refine ⟨by simp [h3], fun i o ho => ?_⟩
      cases i with
      | zero => simp at ho; subst ho; exact h1
      | succ i => exact h4 i o (by simpa using ho)
    · cases h

theorem eCnt_eq {cs0 : List COp} : ∀ {rs : List (COp × Nat × Nat)} {l : List Nat}, (rs.map fun x => stripOp x.1) = l.map (posOp cs0) → ∀ q, eCnt rs q = ((l.take q).filter fun i => !(posOp cs0 i).ins.still).length
  | [], [], _, q => by simp [eCnt]
  | [], _ :: _, h, _ => by simp at h
  | _ :: _, [], h, _ => by simp at h
  | x :: rs, i :: l, h, 0 => by simp [eCnt]
  | x :: rs, i :: l, h, q + 1 => by
    simp only [List.map_cons, List.cons.injEq] at h
    have ih := eCnt_eq (cs0 := cs0) h.2 q
    have e : (posOp cs0 i).ins.still = x.1.ins.still := by rw [← h.1]; rfl
    unfold eCnt at ih ⊢
    simp only [List.take_succ_cons, List.filter_cons, e]
    cases x.1.ins.still <;> simp [ih]

theorem read_form {call : CallF} {c : COp} {fr : Fr} {H H' : Heap} {v : Value} {r : RI} (hi : c.ins = .read r) (h : ∀ K, insK call c fr H K = K v H') : ∃ vs x, evs fr c.args = some vs ∧ readD r vs H = some x := by
  have h1 := h fun v H => some (v, H)
  unfold insK at h1
  rw [hi] at h1
  dsimp only at h1
  obtain ⟨vs, h2, h3⟩ := optK_some h1
  obtain ⟨x, h4, _⟩ := optK_some h3
  exact ⟨vs, x, h2, h4⟩

/-- EVERY REGION THAT DRAWS. -/
theorem draw_ok (hm : P.follows .mixedOrders = true) (hgl : ∀ g ∈ gl, g < w0.ng) {call : CallF} (hcall : CallOK P w0 call) : DrawOK P w0 gl nt call := by
  intro id ops al rs hc μ H w fr a K r Q R Fr0 h hQ
  unfold cDraw at hc
  split at hc
  case h_2 => cases hc
  rename_i cs0 hcs
  dsimp only at hc
  split at hc
  case isFalse => cases hc
  rename_i hok
  simp only [Option.some.injEq, CCode.regD.injEq] at hc
  obtain ⟨eA, eR⟩ := hc
  obtain ⟨hl0, hop0⟩ := cOpers_get hcs
  have hsz : cs0.length = ops.size := by simpa using hl0
  generalize hana : ancs ops.toList [] = ana at hok eR
  unfold drawOk at hok
  simp only [Bool.and_eq_true, decide_eq_true_eq] at hok
  obtain ⟨⟨⟨⟨⟨⟨⟨⟨k1, k2⟩, k3⟩, k4⟩, k5⟩, k6⟩, k7⟩, k8⟩, k9⟩ := hok
  obtain ⟨FA, GA, fA0, gA0, hranA, hA⟩ := runOps_ran al fr H h
  obtain ⟨FB, GB, hsF, rdsF, fB0, gB0, hranB, hB, hrok, _, _, hat, hrd⟩ := runD_ran rs _ _ [] [] hA
  -- lengths
  have lA : al.length = (ordA cs0).length := by simpa using (congrArg List.length eA).symm
  have lR : rs.length = (ordR cs0).length := by simpa using (congrArg List.length eR).symm
  have lO : (ordA cs0 ++ ordR cs0).length = ops.size := by
    rw [List.length_append, ← hsz]
    have := filter_len (fun i => (posOp cs0 i).ins.isAlloc) (List.range cs0.length)
    simpa [ordA, ordR] using this
  -- places
  have getA : ∀ (p i : Nat), (ordA cs0)[p]? = some i → ∃ c, al[p]? = some c ∧ stripOp c = posOp cs0 i := by
    intro p i hi
    have := congrArg (fun l => l[p]?) eA
    simp only [List.getElem?_map, hi, Option.map_some] at this
    cases hx : al[p]? with
    | none => rw [hx] at this; simp at this
    | some c => rw [hx] at this; simp only [Option.map_some, Option.some.injEq] at this; exact ⟨c, rfl, this.symm⟩
  have getR : ∀ (q i : Nat), (ordR cs0)[q]? = some i → ∃ c, rs[q]? = some (c, loOf ana (effs cs0) i, hiOf ana (effs cs0) i) ∧ stripOp c = posOp cs0 i := by
    intro p i hi
    have := congrArg (fun l => l[p]?) eR
    simp only [List.getElem?_map, hi, Option.map_some] at this
    cases hx : rs[p]? with
    | none => rw [hx] at this; simp at this
    | some c =>
      rw [hx] at this
      simp only [Option.map_some, Option.some.injEq, Prod.mk.injEq] at this
      obtain ⟨c, lo, hi⟩ := c
      obtain ⟨h1, rfl, rfl⟩ := this
      exact ⟨c, rfl, h1.symm⟩
  have place : ∀ (p i : Nat), (ordA cs0 ++ ordR cs0)[p]? = some i → ∃ c, (al ++ rs.map (·.1))[p]? = some c ∧ stripOp c = posOp cs0 i := by
    intro p i hi
    rcases Nat.lt_or_ge p al.length with hp | hp
    · rw [List.getElem?_append_left (by omega)] at hi
      obtain ⟨c, h1, h2⟩ := getA p i hi
      exact ⟨c, by rw [List.getElem?_append_left hp]; exact h1, h2⟩
    · rw [List.getElem?_append_right (by omega)] at hi
      obtain ⟨c, h1, h2⟩ := getR _ i hi
      refine ⟨c, ?_, h2⟩
      rw [List.getElem?_append_right hp, List.getElem?_map, lA, h1]; rfl
  have back : ∀ (p : Nat) c i, (al ++ rs.map (·.1))[p]? = some c → (ordA cs0 ++ ordR cs0)[p]? = some i → stripOp c = posOp cs0 i := by
    intro p c i h1 h2
    obtain ⟨c', h3, h4⟩ := place p i h2
    rw [h1] at h3; cases h3; exact h4
  have rng : ∀ i, i ∈ ordA cs0 ++ ordR cs0 → i < ops.size := by
    intro i hi
    rw [← hsz]
    rcases List.mem_append.1 hi with h | h
    · exact List.mem_range.1 (List.mem_filter.1 h).1
    · exact List.mem_range.1 (List.mem_filter.1 h).1
  have opsl : ops.toList.length = ops.size := by simp
  have eR' : (rs.map fun x => stripOp x.1) = (ordR cs0).map (posOp cs0) := by
    have := congrArg (List.map Prod.fst) eR
    simp only [List.map_map] at this
    rw [← List.map_id' ((ordR cs0).map (posOp cs0)), List.map_map]
    exact this.symm
  have hcnt := eCnt_eq eR'
  have clash_strip : ∀ x y : COp, (stripOp x).clash (stripOp y) = x.clash y := fun _ _ => rfl
  have inA : ∀ p i, p < al.length → (ordA cs0 ++ ordR cs0)[p]? = some i → i ∈ ordA cs0 := by
    intro p i hp hi
    rw [List.getElem?_append_left (by omega)] at hi
    exact List.mem_of_getElem? hi
  have inR : ∀ p i, al.length ≤ p → (ordA cs0 ++ ordR cs0)[p]? = some i → (ordR cs0)[p - al.length]? = some i := by
    intro p i hp hi
    rw [List.getElem?_append_right (by omega), ← lA] at hi
    exact hi
  have effR : ∀ i, i ∈ effs cs0 ↔ i ∈ ordR cs0 ∧ (posOp cs0 i).ins.still = false := by
    intro i
    unfold effs
    simp [List.mem_filter]
  have X : Plan P gl nt call ops al.length (ordA cs0 ++ ordR cs0) (fun x j => anc ana x j = true) (al ++ rs.map (·.1)) (fun p => if p < al.length then FA p else FB (p - al.length)) (fun p => if p < al.length then GA p else GB (p - al.length)) (fun k => hsF.getD k H) (fun p => eCnt rs (p - al.length)) (effs cs0) := by
    refine ⟨lO, ?_, ?_, k3, ?_, ?_, ?_, ?_, ?_, ?_, ?_, ?_, ?_, ?_, ?_, k7, ?_, ?_, ?_, ?_, ?_, ?_⟩
    · simp [lA, lR]
    · rw [List.length_append]; omega
    · intro i hi
      have := dAll_spec k4 i (by omega)
      simpa using this
    · intro p i hi
      obtain ⟨c, h1, h2⟩ := place p i hi
      have hlt := rng i (List.mem_of_getElem? hi)
      refine ⟨ops[i], c, Array.getElem?_eq_getElem hlt, h1, ?_⟩
      rw [h2]
      exact hop0 i _ (by rw [Array.getElem?_toList]; exact Array.getElem?_eq_getElem hlt)
    · intro i o e ho he hb
      have := dAll_spec k1 i (by rw [opsl]; exact (Array.getElem?_eq_some_iff.1 ho).1)
      rw [Array.getElem?_toList, ho] at this
      simp only [Array.all_eq_true'] at this
      have h1 := this e he
      rw [hb] at h1
      simpa using h1
    · intro j o x ho hx
      have := dAll_spec k2 j (by rw [opsl]; exact (Array.getElem?_eq_some_iff.1 ho).1)
      rw [Array.getElem?_toList, ho] at this
      unfold anc at hx
      have h1 := List.all_eq_true.1 this x (by simpa using hx)
      simp only [Array.any_eq_true'] at h1
      obtain ⟨e, he, h2⟩ := h1
      simp only [Bool.and_eq_true, Bool.or_eq_true, beq_iff_eq] at h2
      exact ⟨e, he, h2.1, h2.2⟩
    · intro p q x y i j hpq hx hy hi hj hcl
      have hp := (List.getElem?_eq_some_iff.1 hi).1
      have hq := (List.getElem?_eq_some_iff.1 hj).1
      have h1 := dAll_spec (dAll_spec k5 p hp) q hq
      have e1 : (ordA cs0 ++ ordR cs0).getD p 0 = i := by rw [List.getD_eq_getElem?_getD, hi]; rfl
      have e2 : (ordA cs0 ++ ordR cs0).getD q 0 = j := by rw [List.getD_eq_getElem?_getD, hj]; rfl
      rw [e1, e2, ← back p x i hx hi, ← back q y j hy hj, clash_strip, hcl] at h1
      simp only [Bool.not_true, Bool.or_false, Bool.or_eq_true, beq_iff_eq, Bool.and_eq_true, decide_eq_true_eq] at h1
      rcases h1 with (h1 | h1) | h1
      · exact absurd h1 hpq
      · exact .inl h1
      · exact .inr h1
    · intro x y i j hxy hi hj
      have hy := (List.getElem?_eq_some_iff.1 hj).1
      have h1 := dAll_spec (dAll_spec k6 y hy) x hxy
      have e1 : (effs cs0).getD x 0 = i := by rw [List.getD_eq_getElem?_getD, hi]; rfl
      have e2 : (effs cs0).getD y 0 = j := by rw [List.getD_eq_getElem?_getD, hj]; rfl
      rw [e1, e2] at h1
      exact h1
    · intro p c hp
      try dsimp only
      rcases Nat.lt_or_ge p al.length with h1 | h1
      · rw [List.getElem?_append_left h1] at hp
        have h2 := hranA p c hp
        rw [if_pos h1, if_pos h1]
        rcases Nat.lt_or_ge (p + 1) al.length with h3 | h3
        · rw [if_pos h3, if_pos h3]; exact h2
        · have e : p + 1 = al.length := by omega
          rw [if_neg (by omega), if_neg (by omega), e, Nat.sub_self, fB0, gB0, ← e]
          exact h2
      · rw [List.getElem?_append_right h1, List.getElem?_map] at hp
        rw [if_neg (by omega), if_neg (by omega), if_neg (by omega), if_neg (by omega), show p + 1 - al.length = p - al.length + 1 by omega]
        cases hx : rs[p - al.length]? with
        | none => rw [hx] at hp; simp at hp
        | some x =>
          rw [hx] at hp
          simp only [Option.map_some, Option.some.injEq] at hp
          subst hp
          exact hranB _ x hx
    · intro p c hp hcp
      have hlt : p < (ordA cs0 ++ ordR cs0).length := by rw [List.length_append]; omega
      obtain ⟨i, hi⟩ : ∃ i, (ordA cs0 ++ ordR cs0)[p]? = some i := ⟨_, List.getElem?_eq_getElem hlt⟩
      have hb := back p c i hcp hi
      have hal : (posOp cs0 i).ins.isAlloc = true := (List.mem_filter.1 (inA p i hp hi)).2
      have hlt2 : i < cs0.length := List.mem_range.1 (List.mem_filter.1 (inA p i hp hi)).1
      have hmem : posOp cs0 i ∈ cs0 := by
        unfold posOp
        rw [List.getD_eq_getElem?_getD, List.getElem?_eq_getElem hlt2]
        exact List.getElem_mem hlt2
      have hg := List.all_eq_true.1 k9 _ hmem
      rw [hal] at hg
      rw [← hb] at hg hal
      refine ⟨by simpa [stripOp] using hg, ?_⟩
      have hal' : c.ins.isAlloc = true := hal
      unfold CIns.isAlloc at hal'
      split at hal'
      · rename_i e z he; exact ⟨e, z, he⟩
      · cases hal'
    · intro p i hp hi he
      have h1 : (posOp cs0 i).ins.isAlloc = true := (List.mem_filter.1 (inA p i hp hi)).2
      have h2 : (!(posOp cs0 i).ins.isAlloc) = true := (List.mem_filter.1 ((effR i).1 he).1).2
      rw [h1] at h2
      cases h2
    · intro p c i hp hcp hi
      have hb := back p c i hcp hi
      have hR := List.mem_of_getElem? (inR p i hp hi)
      rw [effR, ← hb]
      exact ⟨fun h => ⟨hR, h⟩, fun h => h.2⟩
    · intro i hi
      exact List.mem_append_right _ ((effR i).1 hi).1
    · intro p i hp hi he
      try dsimp only
      rw [hcnt]
      have h1 := (effR i).1 he
      exact filter_take _ _ _ i (inR p i hp hi) (by simp [h1.2])
    · intro p hp hp2
      try dsimp only
      have hle : p - al.length ≤ rs.length := by rw [List.length_append] at hp2; omega
      have h1 := hat (p - al.length) hle
      rw [if_neg (by omega), List.getD_eq_getElem?_getD]
      simp only [List.length_nil, Nat.zero_add] at h1
      rw [h1]; rfl
    · intro p i hp hi he
      try dsimp only
      rw [hcnt, hcnt, show p + 1 - al.length = p - al.length + 1 by omega]
      have h1 := inR p i hp hi
      have h2 := (effR i).1 he
      rw [List.take_add_one, h1]
      simp [h2.2]
    · try dsimp only
      rw [Nat.sub_self]
      simp [eCnt]
    · try dsimp only
      rw [hcnt, List.length_append, lA, Nat.add_sub_cancel_left, List.take_length]
      rfl
    · intro p c i ri hp hcp hi hins hw
      try dsimp only at hw ⊢
      rw [if_neg (by omega)] at hw ⊢
      rw [if_neg (by omega)]
      have hq := inR p i hp hi
      obtain ⟨c', h1, h2⟩ := getR _ i hq
      have hcc : c' = c := by
        rw [List.getElem?_append_right hp, List.getElem?_map, h1] at hcp
        simpa using hcp
      subst hcc
      have hran := hranB _ _ h1
      dsimp only at hran
      obtain ⟨vs, x, hev, hrdx⟩ : ∃ vs x, evs (FB (p - al.length)) c'.args = some vs ∧ readD ri vs (GB (p - al.length)) = some x := by
        rcases hran.how with ⟨v, _, h3, _⟩ | ⟨h3, _⟩
        · exact read_form hins h3
        · rw [hw] at h3; cases h3
      refine ⟨vs, x, hev, hrdx, ?_⟩
      intro k hk hlo hhi
      have hqlt : p - al.length < (ordR cs0).length := (List.getElem?_eq_some_iff.1 hq).1
      have ht := dAll_spec k8 _ hqlt
      have e1 : (ordR cs0).getD (p - al.length) 0 = i := by rw [List.getD_eq_getElem?_getD, hq]; rfl
      simp only [e1, Bool.and_eq_true, decide_eq_true_eq, Bool.or_eq_true, beq_iff_eq] at ht
      obtain ⟨⟨⟨⟨t1, t2⟩, t3⟩, t4⟩, t5⟩ := ht
      have hlok : loOf ana (effs cs0) i ≤ k := by
        rcases Nat.eq_zero_or_pos (loOf ana (effs cs0) i) with h0 | h0
        · omega
        · have h3 := dAll_spec t4 (loOf ana (effs cs0) i - 1) (by omega)
          have h4 : loOf ana (effs cs0) i - 1 < (effs cs0).length := by omega
          have := hlo _ _ (List.getElem?_eq_getElem h4) (by
            rw [List.getD_eq_getElem?_getD, List.getElem?_eq_getElem h4] at h3
            exact h3)
          omega
      have hkhi : k ≤ hiOf ana (effs cs0) i := by
        rcases t5 with t5 | t5
        · omega
        · rcases Nat.lt_or_ge (hiOf ana (effs cs0) i) (effs cs0).length with h4 | h4
          · exact hhi _ _ (List.getElem?_eq_getElem h4) (by
              rw [List.getD_eq_getElem?_getD, List.getElem?_eq_getElem h4] at t5
              exact t5)
          · omega
      rcases Nat.lt_or_ge (loOf ana (effs cs0) i) (hiOf ana (effs cs0) i) with hlt | hge
      · obtain ⟨vs', v', h3, h4, h5⟩ := hrd _ _ _ _ ri h1 hins hw hlt
        rw [hev] at h3; cases h3
        rw [hrdx] at h4; cases h4
        obtain ⟨H', h6, h7⟩ := rdsOk_spec hrok _ h5 k hlok hkhi
        rw [List.getD_eq_getElem?_getD, h6]
        exact h7
      · have hk2 : k = eCnt rs (p - al.length) := by
          rw [hcnt]
          unfold eAt at t1 t2
          omega
        have h6 := hat (p - al.length) (by omega)
        simp only [List.length_nil, Nat.zero_add] at h6
        rw [← hk2] at h6
        rw [List.getD_eq_getElem?_getD, h6]
        exact hrdx
  have eF0 : (if 0 < al.length then FA 0 else FB (0 - al.length)) = fr := by
    split
    · exact fA0
    · have : al.length = 0 := by omega
      rw [this, Nat.sub_zero, fB0, this]; exact fA0
  have eG0 : (if 0 < al.length then GA 0 else GB (0 - al.length)) = H := by
    split
    · exact gA0
    · have : al.length = 0 := by omega
      rw [this, Nat.sub_zero, gB0, this]; exact gA0
  have eN : (ordA cs0 ++ ordR cs0).length - al.length = rs.length := by rw [List.length_append]; omega
  refine X.done hm hcall hgl (a := a) (by rw [eG0]; exact R) (by rw [eF0]; exact Fr0) ?_
  intro μ' a' w' R' F' E'
  rw [eG0] at E'
  try dsimp only at R' F' E'
  rw [if_neg (by rw [List.length_append]; omega), eN] at R' F' E'
  exact hQ μ' _ _ a' w' hB R' F' E'
end
end Go.Cm

namespace Go.Cm
open Go

theorem stripOp_ins {c : COp} (h : c.kd = strip0) : stripOp c = c := by
  obtain ⟨a, b, c, d, e⟩ := c
  simp only at h
  subst h
  rfl

section
variable {P : Program} {gl : List Nat} {nt : Nat}

theorem cOper_kd {ops : Array Oper} {o : Oper} {c : COp} (h : cOper gl nt P ops o = some c) : c.kd = strip0 := by
  unfold cOper at h
  repeat' split at h
  all_goals first | (cases h; done) | (simp only [Option.some.injEq] at h; subst h; rfl)

theorem cOpers_kd {ops : Array Oper} : ∀ {l : List Oper} {cs : List COp}, cOpers gl nt P ops l = some cs → ∀ c ∈ cs, c.kd = strip0
  | [], cs, h => by simp only [cOpers, Option.some.injEq] at h; subst h; simp
  | o :: l, cs, h => by
    unfold cOpers at h
    split at h
    · rename_i c cs' h1 h2
      cases h
      intro x hx
      rcases List.mem_cons.1 hx with rfl | hx
      · exact cOper_kd h1
      · exact cOpers_kd h2 x hx
    · cases h

theorem posOp_kd {cs : List COp} (h : ∀ c ∈ cs, c.kd = strip0) (i : Nat) : (posOp cs i).kd = strip0 := by
  unfold posOp
  rw [List.getD_eq_getElem?_getD]
  cases hx : cs[i]? with
  | none => rfl
  | some c => exact h c (List.mem_of_getElem? hx)

theorem compile_strip : ∀ {code : Code} {c : CCode}, compile gl nt P code = some c → strip c = c := by
  intro code
  induction code with
  | seq a b iha ihb =>
    intro c h
    simp only [compile] at h
    split at h
    · rename_i x y h1 h2
      cases h
      simp only [strip, iha h1, ihb h2]
    · cases h
  | region id ops draw =>
    intro c h
    rcases region_form h with ⟨_, h1, _⟩ | ⟨_, cs, h1, rfl⟩
    · unfold cDraw at h1
      split at h1
      · rename_i cs hcs
        dsimp only at h1
        split at h1
        · cases h1
          have hk := cOpers_kd hcs
          simp only [strip, List.map_map]
          congr 1
          · exact List.map_congr_left fun i _ => stripOp_ins (posOp_kd hk i)
          · refine List.map_congr_left fun i _ => ?_
            simp only [Function.comp]
            rw [stripOp_ins (posOp_kd hk i)]
        · cases h1
      · cases h1
    · have hk := cOpers_kd h1
      simp only [strip]
      congr 1
      conv => rhs; rw [← List.map_id cs]
      exact List.map_congr_left fun c hc => stripOp_ins (hk c hc)
  | cond o a b iha ihb =>
    intro c h
    simp only [compile] at h
    split at h
    · rename_i x y z h0 h1 h2
      cases h
      simp only [strip, iha h1, ihb h2]
    · cases h
  | block id a ih =>
    intro c h
    simp only [compile] at h
    split at h
    · rename_i x h1
      cases h
      simp only [strip, ih h1]
    · cases h
  | loop a ih =>
    intro c h
    simp only [compile] at h
    split at h
    · rename_i x h1
      cases h
      simp only [strip, ih h1]
    · cases h
  | _ =>
    intro c h
    simp only [compile, Option.some.injEq] at h
    subst h
    rfl
end

/-- a function, compiled -/
def autoFn (gl : List Nat) (P : Program) (f : Nat) : Option CFunc := match P.funcs[f]? with
  | some fn => match fn.body with
    | some body => if (fn.name == "runtime.NumGoroutine") = true then none else match compile gl fn.ntmps P body, cRess P fn.results.toList with
      | some c, some rs => some ⟨c, rs⟩
      | _, _ => none
    | none => none
  | none => none

theorem autoFn_ok {gl : List Nat} {P : Program} {f : Nat} {c : CFunc} (h : autoFn gl P f = some c) : cFunc gl P f c := by
  unfold autoFn at h
  split at h
  · rename_i fn h1
    split at h
    · rename_i body h2
      split at h
      · cases h
      · rename_i hn
        split at h
        · rename_i c' rs h3 h4
          cases h
          exact ⟨fn, body, h1, h2, by rw [compile_strip h3]; exact h3, h4, by simpa using hn⟩
        · cases h
    · cases h
  · cases h

/-! ### a start -/
def mu0 (n0 : Nat) (d : Nat → MB) : Mu := fun b => if b < n0 then some (d b) else none
def heap0 (n0 : Nat) (base : Nat → Option CObj) : Heap := ⟨.leaf, n0, base⟩
def start (n0 : Nat) (w : World) : Start := ⟨w.heap, w.os, w.output, n0, 0⟩

/-- nothing is known of the memory -/
theorem RR.bare (P : Program) (w : World) : RR P (start 0 w) (fun _ => none) (heap0 0 fun _ => none) w := by
  refine ⟨?_, ?_, fun _ _ => rfl, ?_, Nat.le_refl _, Nat.zero_le _, ?_, ?_, Nat.zero_le _, fun _ _ => rfl, ?_, rfl, rfl⟩
  · intro b m o h; cases h
  · intro b1 b2 m1 m2 o1 o2 _ _ h; cases h
  · intro b m h; cases h
  · intro b h; exact absurd h (Nat.not_lt_zero _)
  · intro b m h; cases h
  · intro b o h; exact absurd h (Nat.not_lt_zero _)
end Go.Cm

namespace Go.Cm
open Go

/-- where the old memory is kept, what was known stays known -/
theorem RR.later {P : Program} {w0 : Start} {μ : Mu} {H : Heap} {w w' : World} (R : RR P w0 μ H w) (hs : w.heap.size ≤ w'.heap.size) (hb : ∀ b, b < w.heap.size → w'.heap[b]? = w.heap[b]?) (hio : w'.os = w.os ∧ w'.output = w.output) : RR P w0 μ H w' :=
  ⟨fun b m o h1 h2 => let ⟨o', h3, h4⟩ := R.obj b m o h1 h2; ⟨o', by rw [hb _ (R.blk _ _ h1)]; exact h3, h4⟩, R.inj, R.fresh, fun b m h => Nat.lt_of_lt_of_le (R.blk b m h) hs, Nat.le_trans R.size hs, R.nle, R.idn, R.low, R.lown,
    fun b h => (hb b (Nat.lt_of_lt_of_le h R.size)).trans (R.base b h), R.still, ⟨hio.1.trans R.io.1, hio.2.trans R.io.2⟩⟩

/-- code that asks nothing of the memory -/
theorem auto_ok {P : Program} (hm : P.follows .mixedOrders = true) (w : World) : ProgOK P (start 0 w) [] ⟨autoFn [] P, fun _ => none⟩ :=
  ⟨fun g h => absurd h (List.not_mem_nil), fun _ _ h => autoFn_ok h, fun _ _ h => (by cases h), fun _ hc _ => draw_ok hm (fun g h => absurd h (List.not_mem_nil)) hc⟩

/-- a function without arguments that answers true, as one step -/
def sure (f : Nat) : Nat → List Value → Heap → Res := fun g vs H => if g = f then (match vs with
  | [] => some (.bool true, H)
  | _ => none) else none

theorem sure_ok {P : Program} {w0 : Start} (hm : P.follows .mixedOrders = true) {f N d : Nat} {H1 : Heap} (hev : callD ⟨autoFn [] P, fun _ => none⟩ N d f [] (heap0 0 fun _ => none) = some (.bool true, H1)) : CallOK P w0 (sure f) := by
  intro g vs vs' H v H' μ w h R hvs o a next Q hn
  unfold sure at h
  split at h
  · rename_i e
    subst e
    match vs, hvs, h with
    | [], hvs, h =>
      simp only [Option.some.injEq, Prod.mk.injEq] at h
      obtain ⟨rfl, rfl⟩ := h
      match vs', hvs with
      | [], _ =>
        refine callD_ok (auto_ok hm w) d g [] [] _ _ H1 _ w hev (RR.bare P w) trivial o a next Q ?_
        intro v' μ' w' hv hR hE
        rw [hv.bool_inv]
        exact hn _ μ w' (.bool true) (R.later hR.size (fun b h => hR.base b h) hR.io) (Ext.refl _ _)
    | _ :: _, _, h => cases h
  · cases h

open Go.RowKit Go.ChangeShapes Go.WideShapes
section
variable {H : Type} {enc : TypeId × Value → H} {P : Program}

theorem sameAt_of_block {W W' : World} {p : MemPlace} (h : W'.heap[p.block]? = W.heap[p.block]?) : W.sameAt W' p := by
  cases p with
  | cell b o => exact World.cell?_of_block (w := W) h
  | map b => exact h

theorem trodAll_stays (hl : laidOutB P = true) {W W' : World} (hb : ∀ b, b < W.heap.size → W'.heap[b]? = W.heap[b]?) {sp : Nat → Bool} : ∀ {ts : List TypeId} {vs : List Value} {ds : List (DataW H)} {ps : List MemPlace},
    (∀ t ∈ ts, P.readableRec t = true ∧ t < P.types.size) → DataW.TrodAll enc P W 0 (fun _ => true) true ts vs ds ps → (∀ p ∈ ps, p.block < W.heap.size ∧ sp p.block = true) → DataW.TrodAll enc P W' 0 sp true ts vs ds ps
  | [], [], [], ps, _, h, _ => h
  | t :: ts, v :: vs, d :: ds, ps, hr, h, hp => by
    obtain ⟨p, q, h1, h2, rfl⟩ := h
    exact ⟨p, q, WideElems.Trod_stays hl (hr t (by simp)).1 (hr t (by simp)).2 h1 (fun x hx => sameAt_of_block (hb _ (hp x (List.mem_append_left _ hx)).1)) (fun x hx => (hp x (List.mem_append_left _ hx)).2),
      trodAll_stays hl hb (fun t ht => hr t (List.mem_cons_of_mem _ ht)) h2 (fun x hx => hp x (List.mem_append_right _ hx)), rfl⟩

/-- WHAT A LAW ASKS BEHIND THE CALL: it answered true, and the old memory is as it was. -/
theorem law_post (hl : laidOutB P = true) {f : Func} {s : ChangeSpec} {apart fresh handsOn again : Bool} {W W' : World} {args : Array Value} {ds gs : List (DataW H)} {before : List MemPlace} {tb : TypeId}
    (hW : DataW.Whole enc P f.params.toList s.vars apart W args.toList ds gs before) (hv : s.vars = []) (hfn : s.fn H (ds ++ gs) = { results := [.lit (.bool true)], args := ds })
    (hpar : ∀ t ∈ f.params.toList, P.readableRec t = true ∧ t < P.types.size) (hres : f.resultTypes = #[tb]) (hbool : P.underlying tb = some .bool)
    (hb : ∀ b, b < W.heap.size → W'.heap[b]? = W.heap[b]?) (hos : W'.os = W.os) (hout : W'.output = W.output) : s.post enc P f apart fresh handsOn again W args (.bool true) W' := by
  have hlt := hW.lt
  have hW0 := hW
  obtain ⟨pa, pv, hA, hV, rfl, hz, hn⟩ := hW
  rw [hv] at hV
  obtain ⟨rfl, rfl⟩ := trodVars_none hV
  have hargs : ∀ sp : Nat → Bool, (∀ p ∈ pa ++ [], sp p.block = true) → DataW.TrodAll enc P W' 0 sp true f.params.toList args.toList (s.fn H (ds ++ [])).args pa := fun sp hsp => by
    rw [hfn]
    exact trodAll_stays hl hb hpar hA (fun p hp => ⟨hlt p (by simpa using hp), hsp p (by simpa using hp)⟩)
  have hr1 : ∀ (b : Nat) (sp : Nat → Bool) (hd : Bool), DataW.TrodAll enc P W' b sp hd f.resultTypes.toList ((Value.bool true).resultList f.resultTypes.size) (s.fn H (ds ++ [])).results [] := by
    intro b sp hd
    rw [hfn, hres]
    exact trodAll_cons_mk (shut_bool hbool _) trodAll_mk0
  have hold : ∀ p ∈ pa ++ [], (fun b => decide (b < W.heap.size)) p.block = true := fun p hp => by simpa using hlt p hp
  have hk : W.keptBut W' (fun _ => False) := by
    refine ⟨hos, hout, fun i hi => ?_⟩
    rw [hb i hi]
    split <;> simp_all
  have hvars : ∀ sp : Nat → Bool, DataW.TrodVars enc P W' sp s.vars (s.fn H (ds ++ [])).vars [] := by
    intro sp
    rw [hv, hfn]
    rfl
  refine ⟨ds, [], pa ++ [], [], pa, [], hW0, hr1 _ _ _, hargs _ hold, hvars _, World.keptBut_mono (fun p hp => hp.elim) hk, fun _ => ?_⟩
  refine ⟨ok_one hres rfl (okWide_bool_mk hbool _), _, _, ([] ++ pa) ++ [], ⟨[] ++ pa, [], trodAll_append (hargs _ (fun _ _ => rfl)) (hr1 _ _ _), hvars _, rfl, ?_, ?_⟩, ?_⟩
  · intro b off hp
    rw [World.frozen?_of_block (w := W) (hb b (hlt (.cell b off) (by simpa using hp)))]
    exact hz b off (by simpa using hp)
  · intro ha
    simpa using hn ha
  · intro p hp _
    simpa using hp
end
end Go.Cm

namespace Go.Cm
open Go

/-- a window: which block, from where, which cells, of which element type -/
structure Win where
  blk : Nat
  off : Nat
  cells : List Value
  elem : TypeId

def winMB (P : Program) (w : World) (x : Win) : MB := ⟨x.blk, x.off, x.cells.length, (match w.heap[x.blk]? with
  | some (.cells c _ _) => c.size
  | _ => 0), P.cellsOf x.elem, false⟩
def muW (P : Program) (w : World) (ws : List Win) : Mu := fun b => (ws[b]?).map (winMB P w)
def heapW (ws : List Win) : Heap := ⟨.leaf, ws.length, fun b => (ws[b]?).map fun x => .cells x.cells x.elem false x.cells.length true⟩

/-- the window shows what lies there -/
def WinOK (P : Program) (w : World) (μ : Mu) (x : Win) : Prop :=
  ∃ c fr, w.heap[x.blk]? = some (.cells c x.elem fr) ∧ x.off + x.cells.length ≤ c.size ∧
    ∀ (i : Nat) v, x.cells[i]? = some v → one v = true ∧ ∃ v', c[i + x.off]? = some v' ∧ VR μ v v'

theorem RR.wins {P : Program} {w : World} {ws : List Win} (h : ∀ x ∈ ws, WinOK P w (muW P w ws) x) : RR P (start ws.length w) (muW P w ws) (heapW ws) w := by
  have hmu : ∀ b m, muW P w ws b = some m → ∃ x, ws[b]? = some x ∧ m = winMB P w x ∧ x ∈ ws ∧ b < ws.length := by
    intro b m hm
    unfold muW at hm
    obtain ⟨x, h1, h2⟩ := Option.map_eq_some_iff.1 hm
    exact ⟨x, h1, h2.symm, List.mem_of_getElem? h1, (List.getElem?_eq_some_iff.1 h1).1⟩
  have hget : ∀ b, (heapW ws).get b = (ws[b]?).map fun x => .cells x.cells x.elem false x.cells.length true := by
    intro b
    simp [Heap.get, heapW, Tr.get]
  have hlt : ∀ x ∈ ws, x.blk < w.heap.size := by
    intro x hx
    obtain ⟨c, fr, h1, _⟩ := h x hx
    exact (Array.getElem?_eq_some_iff.1 h1).1
  refine ⟨?_, ?_, ?_, ?_, Nat.le_refl _, Nat.zero_le _, ?_, ?_, Nat.le_refl _, fun _ _ => rfl, ?_, rfl, rfl⟩
  · intro b m o h1 h2
    obtain ⟨x, h3, rfl, h4, _⟩ := hmu b m h1
    rw [hget, h3] at h2
    simp only [Option.map_some, Option.some.injEq] at h2
    subst h2
    obtain ⟨c, fr, g1, g2, g3⟩ := h x h4
    refine ⟨_, g1, rfl, ⟨rfl, Nat.le_refl _⟩, rfl, rfl, ?_, ?_, fun _ h => (by cases h), g3, ?_, fun h => by cases h⟩
    · simp only [winMB, g1]
    · simp only [winMB, g1]; omega
    · intro j _ j2 j3 _
      have := j3 rfl
      simp only [winMB] at j2 this
      omega
  · intro b1 b2 m1 m2 o1 o2 h1 _ h3
    obtain ⟨_, _, _, _, h4⟩ := hmu b1 m1 h3
    exact absurd h1 (by show ¬ ws.length ≤ b1; omega)
  · intro b hb
    unfold muW
    rw [List.getElem?_eq_none hb]
    rfl
  · intro b m h1
    obtain ⟨x, _, rfl, h4, _⟩ := hmu b m h1
    exact hlt x h4
  · intro b hb; exact absurd hb (Nat.not_lt_zero _)
  · intro b m h1
    obtain ⟨x, _, rfl, h4, h5⟩ := hmu b m h1
    exact .inl ⟨h5, hlt x h4⟩
  · intro b o hb h1
    rw [hget] at h1
    obtain ⟨x, _, h2⟩ := Option.map_eq_some_iff.1 h1
    exact ⟨_, _, h2.symm⟩

/-- a slice that is a window whole -/
theorem VR.win {P : Program} {w : World} {ws : List Win} {b : Nat} {x : Win} (hx : ws[b]? = some x) {n c : Nat} (hn : n ≤ c) : VR (muW P w ws) (.slice (some ⟨b, 0, none⟩) n c) (.slice (some ⟨x.blk, x.off, none⟩) n c) := by
  refine .sl hn (.inl ⟨rfl, rfl, winMB P w x, by unfold muW; rw [hx]; rfl, rfl, .inl ⟨?_, rfl⟩⟩)
  simp [winMB]
end Go.Cm

namespace Go.Cm
open Go

theorem callD_calls {P : Program} {w0 : Start} {gl : List Nat} {C : CProg} {N d f : Nat} (hC : ProgOK P w0 gl C) {fn : Func} {body : Code} (hf : P.funcs[f]? = some fn) (hb : fn.body = some body) (hname : (fn.name == "runtime.NumGoroutine") = false)
    {vs vs' : List Value} {H H' : Heap} {v : Value} {μ : Mu} {w : World} (h : callD C N d f vs H = some (v, H')) (R : RR P w0 μ H w) (hvs : VRs μ vs vs') :
    Calls P f vs'.toArray w fun e w' => ∃ v' μ', e = .returned v' ∧ VR μ' v v' ∧ RR P w0 μ' H' w' := by
  have key := callD_ok hC d f vs vs' H v H' μ w h R hvs ⟨some 0, .move (.tmp 0), 0, "", #[], none⟩ { tmps := #[undef], defers := [] }
    (fun a w' => ∃ v' μ', a.tmps[0]? = some v' ∧ VR μ' v v' ∧ RR P w0 μ' H' w') (fun _ _ _ => False) (fun v' μ' w' h1 h2 _ => ⟨v', μ', by simp [Act.put], h1, h2⟩)
  rw [run_enter hf hname hb, Oper.upon_enter] at key
  refine key.mono fun e w' he => ?_
  cases e with
  | returned x =>
    obtain ⟨v', μ', h1, h2, h3⟩ := he
    have : x = v' := by simpa [Act.put] using h1
    subst this
    exact ⟨_, μ', rfl, h2, h3⟩
  | panicked ch => exact he.elim
  | outgrown => obtain ⟨_, _, h⟩ := he; exact h.elim

/-- A LAW's CALL: it answers true, and the old memory is as it was. -/
theorem law_calls {P : Program} {n0 : Nat} {gl : List Nat} {C : CProg} {N d f : Nat} {w : World} (hC : ProgOK P (start n0 w) gl C) {fn : Func} {body : Code} (hf : P.funcs[f]? = some fn) (hb : fn.body = some body) (hname : (fn.name == "runtime.NumGoroutine") = false)
    {vs vs' : List Value} {H H' : Heap} {μ : Mu} (h : callD C N d f vs H = some (.bool true, H')) (R : RR P (start n0 w) μ H w) (hvs : VRs μ vs vs') :
    Calls P f vs'.toArray w fun e w' => e = .returned (.bool true) ∧ (∀ b, b < w.heap.size → w'.heap[b]? = w.heap[b]?) ∧ w'.os = w.os ∧ w'.output = w.output :=
  (callD_calls hC hf hb hname h R hvs).mono fun e w' ⟨v', μ', h1, h2, h3⟩ => ⟨by rw [h1, h2.bool_inv], h3.base, h3.io.1, h3.io.2⟩
end Go.Cm

namespace Go.Cm
open Go

/-- a row of cells that is told cell by cell -/
theorem win_of_cells {P : Program} {w : World} {μ : Mu} {a : Addr} {l : List Value} (hne : l ≠ []) (hc : ∀ (i : Nat) v, l[i]? = some v → w.cell? (a.add i) = some v) (hl : ∀ v ∈ l, one v = true ∧ VR μ v v) :
    a.spot = none ∧ ∃ e, WinOK P w μ ⟨a.block, a.off, l, e⟩ := by
  obtain ⟨v0, l', rfl⟩ : ∃ v0 l', l = v0 :: l' := by cases l with
    | nil => exact absurd rfl hne
    | cons x y => exact ⟨x, y, rfl⟩
  have h0 := hc 0 v0 rfl
  have hs : a.spot = none := by
    unfold World.cell? at h0
    split at h0
    · split at h0
      · cases h0
      · rename_i h
        simpa [Addr.add] using h
    · cases h0
  have hb : ∃ c e fr, w.heap[a.block]? = some (.cells c e fr) := by
    unfold World.cell? at h0
    split at h0
    · rename_i c e fr h
      exact ⟨c, e, fr, h⟩
    · cases h0
  obtain ⟨c, e, fr, hb⟩ := hb
  have hadd : ∀ i, a.add i = ⟨a.block, a.off + i, none⟩ := by
    intro i
    obtain ⟨ab, ao, as⟩ := a
    simp only at hs
    subst hs
    unfold Addr.add
    split
    · rename_i h; simp [h]
    · rfl
  have hcell : ∀ (i : Nat) v, (v0 :: l')[i]? = some v → c[i + a.off]? = some v := by
    intro i v hv
    have h1 := hc i v hv
    unfold World.cell? at h1
    rw [hadd i] at h1
    simp only [hb, Option.isSome_none, Bool.false_eq_true, if_false] at h1
    rw [Nat.add_comm]
    exact h1
  refine ⟨hs, e, c, fr, hb, ?_, fun i v hv => ⟨(hl v (List.mem_of_getElem? hv)).1, v, hcell i v hv, (hl v (List.mem_of_getElem? hv)).2⟩⟩
  have hlast := hcell l'.length ((v0 :: l')[l'.length]'(by simp)) (List.getElem?_eq_getElem (by simp))
  have := (Array.getElem?_eq_some_iff.1 hlast).1
  simp only [List.length_cons]
  omega

theorem VR.win0 {P : Program} {w : World} {ws : List Win} {b : Nat} {x : Win} (hx : ws[b]? = some x) {off : Nat} : VR (muW P w ws) (.slice (some ⟨b, 0, none⟩) 0 0) (.slice (some ⟨x.blk, off, none⟩) 0 0) :=
  .sl (Nat.le_refl _) (.inl ⟨rfl, rfl, winMB P w x, by unfold muW; rw [hx]; rfl, rfl, .inr (.inr ⟨rfl, rfl, .inl rfl⟩)⟩)

/-- an argument that is a slice, where each element takes one cell -/
theorem win_slice {P : Program} {w : World} {μ : Mu} {base : Nat} {t e : TypeId} {a : Addr} {len cap : Nat} (ht : P.underlying t = some (.slice e)) (hval : Value.okWide P w .any base t (.slice (some a) len cap)) {l : List Value} (hlen : l.length = cap)
    (hc : ∀ (i : Nat) v, l[i]? = some v → w.cell? (a.add i) = some v) (hl : ∀ v ∈ l, one v = true ∧ VR μ v v) :
    ∃ x : Win, x.cells = l ∧ WinOK P w μ x ∧ ∀ (ws : List Win) (b : Nat), ws[b]? = some x → VR (muW P w ws) (.slice (some ⟨b, 0, none⟩) len cap) (.slice (some a) len cap) := by
  have hok : len ≤ cap ∧ w.has P .any base a e cap := by
    unfold Value.okWide at hval
    rw [ht] at hval
    simp only [Cell.okWide, ht, Cell.ok] at hval
    exact ⟨hval.1, hval.2.2⟩
  obtain ⟨hlc, _, hs, row, cells, hsh, _⟩ := hok
  by_cases hne : l = []
  · subst hne
    simp only [List.length_nil] at hlen
    have hb : ∃ c fr, w.heap[a.block]? = some (.cells c row fr) := by
      unfold World.shape? at hsh
      split at hsh
      · rename_i c e fr h
        simp only [Option.some.injEq, Prod.mk.injEq] at hsh
        obtain ⟨rfl, _⟩ := hsh
        exact ⟨c, fr, h⟩
      · cases hsh
    obtain ⟨c, fr, hb⟩ := hb
    refine ⟨⟨a.block, 0, [], row⟩, rfl, ⟨c, fr, hb, by simp, fun i v hv => by simp at hv⟩, fun ws b hx => ?_⟩
    have h0 : len = 0 := by omega
    subst h0
    subst hlen
    obtain ⟨ab, ao, as⟩ := a
    simp only at hs
    subst hs
    exact VR.win0 hx
  · obtain ⟨_, e', hw⟩ := win_of_cells (P := P) (μ := μ) hne hc hl
    refine ⟨⟨a.block, a.off, l, e'⟩, rfl, hw, fun ws b hx => ?_⟩
    obtain ⟨ab, ao, as⟩ := a
    simp only at hs
    subst hs
    exact VR.win hx hlc

theorem slice_form {P : Program} {w : World} {base : Nat} {t e : TypeId} {v : Value} (ht : P.underlying t = some (.slice e)) (hval : Value.okWide P w .any base t v) : ∃ a n c, v = .slice a n c := by
  unfold Value.okWide at hval
  rw [ht] at hval
  simp only [Cell.okWide, ht, Cell.ok] at hval
  cases v <;> first | exact ⟨_, _, _, rfl⟩ | (simp at hval; done) | exact hval.elim
end Go.Cm

namespace Go.Cm
open Go

def kind0 (P : Program) (t : TypeId) : Kd0 := match P.underlying t with
  | some (.int k) => .int k
  | some .bool => .bool
  | some .string => .str
  | some (.pointer _) => .ptr
  | some (.slice _) => .sl
  | some (.map _ _) => .map
  | some (.struct _) => .agg
  | some (.array _ _) => .agg
  | _ => .any
def kindOf (P : Program) (t : TypeId) : Kd := match P.underlying t with
  | some (.tuple ts) => .tup (ts.toList.map (kind0 P))
  | _ => .one (kind0 P t)

def kdd (P : Program) (ops : List Oper) (cs : List COp) : List COp := (ops.zip cs).map fun (o, c) => match o.dst with
  | some _ => if o.type = 0 then c else { c with kd := kindOf P o.type }
  | none => c

def compileK (gl : List Nat) (nt : Nat) (P : Program) : Code → Option CCode
  | .seq a b => match compileK gl nt P a, compileK gl nt P b with
    | some x, some y => some (.seq x y)
    | _, _ => none
  | .region _ ops draw => match cOpers gl nt P ops ops.toList with
    | some cs =>
      let ks := kdd P ops.toList cs
      if draw then
        (let an := ancs ops.toList []
        if drawOk ops.toList cs an then
          some (.regD ((ordA cs).map (posOp ks)) ((ordR cs).map fun i => (posOp ks i, loOf an (effs cs) i, hiOf an (effs cs) i)))
        else none)
      else some (.reg ks)
    | none => none
  | .cond c a b => match copd gl c, compileK gl nt P a, compileK gl nt P b with
    | some c, some x, some y => some (.cond c x y)
    | _, _, _ => none
  | .block id c => match compileK gl nt P c with
    | some x => some (.block id x)
    | none => none
  | .loop c => match compileK gl nt P c with
    | some x => some (.loop x)
    | none => none
  | .skip => some .skip
  | .exit id => some (.exit id)
  | .ret => some .ret
  | _ => some .bad

section
variable {P : Program} {gl : List Nat} {nt : Nat}

theorem kdd_strip : ∀ {ops : List Oper} {cs : List COp}, cs.length = ops.length → (∀ c ∈ cs, c.kd = strip0) → (kdd P ops cs).map stripOp = cs
  | [], [], _, _ => rfl
  | [], _ :: _, h, _ => by simp at h
  | _ :: _, [], h, _ => by simp at h
  | o :: ops, c :: cs, h, hk => by
    have ih := kdd_strip (ops := ops) (cs := cs) (by simpa using h) (fun x hx => hk x (List.mem_cons_of_mem _ hx))
    unfold kdd at ih ⊢
    simp only [List.zip_cons_cons, List.map_cons]
    congr 1
    have hc := hk c List.mem_cons_self
    cases o.dst with
    | none => exact stripOp_ins hc
    | some d =>
      obtain ⟨a1, a2, a3, a4, a5⟩ := c
      simp only at hc
      subst hc
      dsimp only
      by_cases ht : o.type = 0
      · rw [if_pos ht]; rfl
      · rw [if_neg ht]; rfl

theorem posOp_strip {ks cs : List COp} (h : ks.map stripOp = cs) (i : Nat) : stripOp (posOp ks i) = posOp cs i := by
  subst h
  unfold posOp
  rw [List.getD_eq_getElem?_getD, List.getD_eq_getElem?_getD, List.getElem?_map]
  cases ks[i]? <;> rfl

theorem compileK_ok : ∀ {code : Code} {c : CCode}, compileK gl nt P code = some c → compile gl nt P code = some (strip c) := by
  intro code
  induction code with
  | seq a b iha ihb =>
    intro c h
    simp only [compileK] at h
    split at h
    · rename_i x y h1 h2
      cases h
      simp only [compile, iha h1, ihb h2, strip]
    · cases h
  | region id ops draw =>
    intro c h
    simp only [compileK] at h
    split at h
    · rename_i cs hcs
      have hs := kdd_strip (P := P) (ops := ops.toList) (cOpers_get hcs).1 (cOpers_kd hcs)
      cases draw with
      | true =>
        simp only [if_true] at h
        split at h
        · rename_i hok
          cases h
          simp only [compile, if_true, cDraw, hcs, hok, strip, List.map_map]
          congr 2
          · exact (List.map_congr_left fun i _ => (posOp_strip hs i).symm)
          · refine List.map_congr_left fun i _ => ?_
            simp only [Function.comp, posOp_strip hs i]
        · cases h
      | false =>
        simp only [Bool.false_eq_true, if_false, Option.some.injEq] at h
        subst h
        simp only [compile, Bool.false_eq_true, if_false, hcs, strip, hs]
    · cases h
  | cond o a b iha ihb =>
    intro c h
    simp only [compileK] at h
    split at h
    · rename_i x y z h0 h1 h2
      cases h
      simp only [compile, h0, iha h1, ihb h2, strip]
    · cases h
  | block id a ih =>
    intro c h
    simp only [compileK] at h
    split at h
    · rename_i x h1
      cases h
      simp only [compile, ih h1, strip]
    · cases h
  | loop a ih =>
    intro c h
    simp only [compileK] at h
    split at h
    · rename_i x h1
      cases h
      simp only [compile, ih h1, strip]
    · cases h
  | _ =>
    intro c h
    simp only [compileK, Option.some.injEq] at h
    subst h
    rfl
end

/-- a function, compiled with kinds -/
def autoK (gl : List Nat) (P : Program) (f : Nat) : Option CFunc := match P.funcs[f]? with
  | some fn => match fn.body with
    | some body => if (fn.name == "runtime.NumGoroutine") = true then none else match compileK gl fn.ntmps P body, cRess P fn.results.toList with
      | some c, some rs => some ⟨c, rs⟩
      | _, _ => none
    | none => none
  | none => none

theorem autoK_ok {gl : List Nat} {P : Program} {f : Nat} {c : CFunc} (h : autoK gl P f = some c) : cFunc gl P f c := by
  unfold autoK at h
  split at h
  · rename_i fn h1
    split at h
    · rename_i body h2
      split at h
      · cases h
      · rename_i hn
        split at h
        · rename_i c' rs h3 h4
          cases h
          exact ⟨fn, body, h1, h2, compileK_ok h3, h4, by simpa using hn⟩
        · cases h
    · cases h
  · cases h

/-- a piece of code, by its path -/
def sub : CCode → List Nat → CCode
  | c, [] => c
  | .seq a _, 0 :: p => sub a p
  | .seq _ b, _ :: p => sub b p
  | .cond _ a _, 0 :: p => sub a p
  | .cond _ _ b, _ :: p => sub b p
  | .block _ a, _ :: p => sub a p
  | .loop a, _ :: p => sub a p
  | .cut _ a, _ :: p => sub a p
  | _, _ => .bad
def cdOf (gl : List Nat) (P : Program) (f : Nat) (p : List Nat) : CCode := match autoK gl P f with
  | some c => sub c.body p
  | none => .bad
def rsOf (gl : List Nat) (P : Program) (f : Nat) : List CRes := match autoK gl P f with
  | some c => c.results
  | none => []
end Go.Cm

namespace Go.Cm
open Go

/-- where the frame is cut -/
inductive CT where
  | no
  | cut (live : List (Nat × Kd0)) (t : CT)
  | lp (live : List (Nat × Kd0)) (t : CT)
  | two (t u : CT)
  | one (t : CT)

def deco : CT → CCode → CCode
  | .cut live t, c => .cut live (deco t c)
  | .lp live t, .loop c => .loopC live (deco t c)
  | .two t u, .seq a b => .seq (deco t a) (deco u b)
  | .two t u, .cond x a b => .cond x (deco t a) (deco u b)
  | .one t, .block id c => .block id (deco t c)
  | .one t, .loop c => .loop (deco t c)
  | _, c => c

theorem deco_strip : ∀ (t : CT) (c : CCode), strip (deco t c) = strip c := by
  intro t
  induction t with
  | no => intro c; cases c <;> rfl
  | cut live t ih => intro c; cases c <;> simp only [deco, strip, ih]
  | lp live t ih => intro c; cases c <;> simp only [deco, strip, ih]
  | two t u iht ihu => intro c; cases c <;> simp only [deco, strip, iht, ihu]
  | one t ih => intro c; cases c <;> simp only [deco, strip, ih]

/-- a function, compiled with kinds and cuts -/
def autoC (cuts : Nat → CT) (gl : List Nat) (P : Program) (f : Nat) : Option CFunc := match autoK gl P f with
  | some c => some ⟨deco (cuts f) c.body, c.results⟩
  | none => none

theorem autoC_ok {cuts : Nat → CT} {gl : List Nat} {P : Program} {f : Nat} {c : CFunc} (h : autoC cuts gl P f = some c) : cFunc gl P f c := by
  unfold autoC at h
  split at h
  · rename_i c1 h1
    cases h
    obtain ⟨fn, body, h2, h3, h4, h5⟩ := autoK_ok h1
    exact ⟨fn, body, h2, h3, by rw [deco_strip]; exact h4, h5⟩
  · cases h

/-- a piece of code, by its path -/
def subC : CCode → List Nat → CCode
  | c, [] => c
  | .seq a _, 0 :: p => subC a p
  | .seq _ b, _ :: p => subC b p
  | .cond _ a _, 0 :: p => subC a p
  | .cond _ _ b, _ :: p => subC b p
  | .block _ a, _ :: p => subC a p
  | .loop a, _ :: p => subC a p
  | .cut _ a, _ :: p => subC a p
  | .loopC _ a, _ :: p => subC a p
  | c, _ :: _ => c

def cdC (cuts : Nat → CT) (gl : List Nat) (P : Program) (f : Nat) (p : List Nat) : CCode := match autoC cuts gl P f with
  | some c => subC c.body p
  | none => .bad
def rsC (gl : List Nat) (P : Program) (f : Nat) : List CRes := match autoK gl P f with
  | some c => c.results
  | none => []

/-- a slice -/
structure Sl where
  a : Option Addr
  n : Nat
  c : Nat
abbrev Sl.v (s : Sl) : Value := .slice s.a s.n s.c
abbrev Sl.nil : Sl := ⟨none, 0, 0⟩

def asSL {α : Type} (v : Value) (K : Sl → Option α) : Option α := asSl v fun a n c => K ⟨a, n, c⟩
/-- a pointer to a block's first cell -/
abbrev P0 (b : Nat) : Value := .pointer (some ⟨b, 0, none⟩)

def castT (ds : List Kd0) (v : Value) (K : List Value → Res) : Res := match v with
  | .tuple vs => castL ds vs.toList fun l => K l
  | _ => none
end Go.Cm

namespace Go.Cm
open Go

/-- an aggregate, loaded -/
def ldA (H : Heap) (a : Addr) (n : Nat) : Option Value := match H.ldN a n with
  | some l => some (.agg l.toArray)
  | none => none
/-- a new block -/
def newK (H : Heap) (o : CObj) (K : Nat → Heap → Res) : Res := K H.next (H.new o)
/-- a string's next letter -/
def nextK (H : Heap) (a : Addr) (K : Heap → Int → Int → Res) (E : Heap → Res) : Res := match H.get a.block with
  | some (.iter s pos) => if a.off = 0 then (if pos < slen s then K (H.put a.block (.iter s (pos + (Utf8.decode s pos).2))) pos (Utf8.decode s pos).1 else E H) else none
  | _ => none
def extK (i : Nat) (v : Value) (K : Value → Res) : Res := match v with
  | .tuple l => optK l.toList[i]? K
  | _ => none
def nilK (v : Value) (K : Value → Res) : Res := match v with
  | .pointer (some a) => K (.pointer (some a))
  | .iface t v => K (.iface t v)
  | _ => none
/-- a function's cuts, out of a list -/
def lookCT : List (Nat × CT) → Nat → CT
  | [], _ => .no
  | (g, t) :: l, f => if f = g then t else lookCT l f
end Go.Cm

namespace Go.Cm
open Go

/-! ### the head is looked at first, the rest is left alone -/
section
variable {α β : Type}
theorem optK_congr {o o' : Option α} {K : α → Option β} (h : o = o') : optK o K = optK o' K := by rw [h]
theorem asI_congr {k : IntKind} {v v' : Value} {K : Int → Option α} (h : v = v') : asI k v K = asI k v' K := by rw [h]
theorem asN_congr {v v' : Value} {K : Int → Option α} (h : v = v') : asN v K = asN v' K := by rw [h]
theorem asB_congr {v v' : Value} {K : Bool → Option α} (h : v = v') : asB v K = asB v' K := by rw [h]
theorem asS_congr {v v' : Value} {K : ByteArray → Option α} (h : v = v') : asS v K = asS v' K := by rw [h]
theorem asP_congr {v v' : Value} {K : Option Addr → Option α} (h : v = v') : asP v K = asP v' K := by rw [h]
theorem asA_congr {v v' : Value} {K : Array Value → Option α} (h : v = v') : asA v K = asA v' K := by rw [h]
theorem asSL_congr {v v' : Value} {K : Sl → Option α} (h : v = v') : asSL v K = asSL v' K := by rw [h]
theorem callK_congr {r r' : Res} {K : Value → Heap → Res} (h : r = r') : callK r K = callK r' K := by rw [h]
theorem castT_congr {ds : List Kd0} {v v' : Value} {K : List Value → Res} (h : v = v') : castT ds v K = castT ds v' K := by rw [h]
theorem chk_congr {b b' : Bool} {r : Option α} (h : b = b') : chk b r = chk b' r := by rw [h]
theorem ifc_congr {c c' : Prop} [Decidable c] [Decidable c'] {a b : α} (h : c = c') : (if c then a else b) = if c' then a else b := by
  subst h; congr

theorem optK_s {a : α} {K : α → Option β} : optK (some a) K = K a := rfl
theorem asI_s {k : IntKind} {n : Int} {K : Int → Option α} : asI k (.int k n) K = K n := by simp [asI]
theorem asN_s {k : IntKind} {n : Int} {K : Int → Option α} : asN (.int k n) K = K n := rfl
theorem asB_s {b : Bool} {K : Bool → Option α} : asB (.bool b) K = K b := rfl
theorem asS_s {s : ByteArray} {K : ByteArray → Option α} : asS (.string s) K = K s := rfl
theorem asP_s {a : Option Addr} {K : Option Addr → Option α} : asP (.pointer a) K = K a := rfl
theorem asA_s {a : Array Value} {K : Array Value → Option α} : asA (.agg a) K = K a := rfl
theorem asSL_s {a : Option Addr} {n c : Nat} {K : Sl → Option α} : asSL (.slice a n c) K = K ⟨a, n, c⟩ := rfl
theorem callK_s {v : Value} {H : Heap} {K : Value → Heap → Res} : callK (some (v, H)) K = K v H := rfl
theorem chk_s {r : Option α} : chk true r = r := rfl
theorem newK_s {H : Heap} {o : CObj} {K : Nat → Heap → Res} : newK H o K = K H.next (H.new o) := rfl
theorem castT_s {ds : List Kd0} {l : List Value} {K : List Value → Res} : castT ds (.tuple ⟨l⟩) K = castL ds l K := rfl
theorem castL_n {K : List Value → Res} : castL [] [] K = K [] := rfl
theorem castL_c {d : Kd0} {ds : List Kd0} {v : Value} {vs : List Value} {K : List Value → Res} : castL (d :: ds) (v :: vs) K = cast0 d v fun x => castL ds vs fun l => K (x :: l) := rfl
end

theorem slenS (l : List UInt8) : slen (S l) = l.length := by cases l <;> rfl
theorem sSubS (l : List UInt8) (i j : Nat) : sSub (S l) i j = S ((l.take j).drop i) := by cases l <;> rfl
theorem sCatS (a b : List UInt8) : sCat (S a) (S b) = S (a ++ b) := by cases a <;> rfl
theorem sEqS (a b : List UInt8) : sEq (S a) (S b) = (a == b) := by cases a <;> rfl
theorem lstS (a : List UInt8) : lst (S a) = a := by cases a <;> rfl
theorem btS {l : List UInt8} {i : Nat} {c : UInt8} (hi : l[i]? = some c) : bt (S l) i = (c.toNat : Int) := by
  unfold bt; rw [lstS, List.getD_eq_getElem?_getD, hi]; rfl

theorem ld1_s {H : Heap} {b off : Nat} {c : List Value} {e : TypeId} {o : Bool} {fz : Nat} {st : Bool} (h : H.get b = some (.cells c e o fz st)) : H.ld1 ⟨b, off, none⟩ = c[off]? := by
  simp [Heap.ld1, h]
theorem ldN_s {H : Heap} {b off n : Nat} {c : List Value} {e : TypeId} {o : Bool} {fz : Nat} {st : Bool} (h : H.get b = some (.cells c e o fz st)) (hn : off + n ≤ c.length) : H.ldN ⟨b, off, none⟩ n = some ((c.drop off).take n) := by
  simp [Heap.ldN, h, hn]
theorem st1_s {H : Heap} {b off : Nat} {v : Value} {c : List Value} {e : TypeId} {o : Bool} {fz : Nat} {st : Bool} (h : H.get b = some (.cells c e o fz st)) (hn : off < c.length) (hf : fz ≤ off) : H.st1 ⟨b, off, none⟩ v = some (H.put b (.cells (c.set off v) e o fz st)) := by
  simp [Heap.st1, h, hn, hf]

/-! ### what was read early is held against the later memories -/
def rdAt (hs : List Heap) (d : Go.Cm.Rd) (k : Nat) : Bool := match hs[k]? with
  | some H => (match readD d.r d.vs H with
    | some v => same d.v v
    | none => false)
  | none => false
theorem rdOk_1 (hs : List Heap) (d : Rd) (k : Nat) : rdOk hs d k 1 = rdAt hs d k := Bool.and_true _
theorem rdOk_2 (hs : List Heap) (d : Rd) (k : Nat) : rdOk hs d k 2 = (rdAt hs d k && rdAt hs d (k + 1)) := by rw [← rdOk_1 hs d (k + 1)]; rfl
theorem rdOk_3 (hs : List Heap) (d : Rd) (k : Nat) : rdOk hs d k 3 = (rdAt hs d k && (rdAt hs d (k + 1) && rdAt hs d (k + 2))) := by rw [← rdOk_2 hs d (k + 1)]; rfl
theorem rdOk_4 (hs : List Heap) (d : Rd) (k : Nat) : rdOk hs d k 4 = (rdAt hs d k && (rdAt hs d (k + 1) && (rdAt hs d (k + 2) && rdAt hs d (k + 3)))) := by rw [← rdOk_3 hs d (k + 1)]; rfl
theorem rdOk_5 (hs : List Heap) (d : Rd) (k : Nat) : rdOk hs d k 5 = (rdAt hs d k && (rdAt hs d (k + 1) && (rdAt hs d (k + 2) && (rdAt hs d (k + 3) && rdAt hs d (k + 4))))) := by rw [← rdOk_4 hs d (k + 1)]; rfl
theorem rdAt_s {hs : List Heap} {d : Rd} {k : Nat} {H : Heap} {v : Value} (h : hs[k]? = some H) (h1 : readD d.r d.vs H = some v) (h2 : same d.v v = true) : rdAt hs d k = true := by
  simp [rdAt, h, h1, h2]
theorem readD_ld {H : Heap} {a : Addr} : readD (.load 1 false) [.pointer (some a)] H = H.ld1 a := rfl
theorem same_int (k : IntKind) (n : Int) : same (.int k n) (.int k n) = true := by simp [same, same0]
theorem same_bool (b : Bool) : same (.bool b) (.bool b) = true := by simp [same, same0]
theorem same_str (s : ByteArray) : same (.string s) (.string s) = true := by simp [same, same0, sEq]
theorem same_sl (a : Option Addr) (n c : Nat) : same (.slice a n c) (.slice a n c) = true := by simp [same, same0]
theorem same_ptr (a : Option Addr) : same (.pointer a) (.pointer a) = true := by simp [same, same0]

/-! ### what is kept -/
/-- all blocks but those of S are as they were -/
def Keep (S : Nat → Prop) (H H' : Heap) : Prop := H.next ≤ H'.next ∧ ∀ k, k < H.next → ¬ S k → H'.get k = H.get k
theorem Keep.refl {S : Nat → Prop} (H : Heap) : Keep S H H := ⟨Nat.le_refl _, fun _ _ _ => rfl⟩
theorem Keep.trans {S T : Nat → Prop} {H H' H'' : Heap} (h : Keep S H H') (h' : Keep T H' H'') (hs : ∀ k, k < H.next → T k → S k) : Keep S H H'' :=
  ⟨Nat.le_trans h.1 h'.1, fun k hk hn => (h'.2 k (Nat.lt_of_lt_of_le hk h.1) (fun ht => hn (hs k hk ht))).trans (h.2 k hk hn)⟩
theorem Keep.mono {S T : Nat → Prop} {H H' : Heap} (h : Keep S H H') (hs : ∀ k, k < H.next → S k → T k) : Keep T H H' :=
  ⟨h.1, fun k hk hn => h.2 k hk (fun ht => hn (hs k hk ht))⟩
theorem Keep.new {S : Nat → Prop} (H : Heap) (o : CObj) : Keep S H (H.new o) :=
  ⟨by simp, fun k hk _ => Heap.get_new_ne _ _ (by omega)⟩
theorem Keep.put {S : Nat → Prop} (H : Heap) (b : Nat) (o : CObj) (hb : S b) : Keep S H (H.put b o) :=
  ⟨by simp, fun k _ hn => Heap.get_put_ne _ _ (fun e => hn (e ▸ hb))⟩

/-! ### slices that own a block -/
def Own (H : Heap) (b : Nat) (cs : List Value) (e : TypeId) : Prop := b < H.next ∧ ∃ o st, H.get b = some (.cells cs e o 0 st)
/-- a slice over a whole block -/
def Whole (H : Heap) (s : Sl) (cs : List Value) (e : TypeId) (sz : Nat) : Prop :=
  (s = ⟨none, 0, 0⟩ ∧ cs = []) ∨ ∃ b n, s = ⟨some ⟨b, 0, none⟩, n, n⟩ ∧ cs.length = n * sz ∧ Own H b cs e
/-- its block -/
def Sl.at (s : Sl) (k : Nat) : Prop := ∃ a, s.a = some a ∧ a.block = k

theorem Own.keep {S : Nat → Prop} {H H' : Heap} {b : Nat} {cs : List Value} {e : TypeId} (h : Own H b cs e) (hk : Keep S H H') (hn : ¬ S b) : Own H' b cs e := by
  obtain ⟨h1, o, st, h2⟩ := h
  exact ⟨Nat.lt_of_lt_of_le h1 hk.1, o, st, (hk.2 b h1 hn).trans h2⟩
theorem Whole.keep {S : Nat → Prop} {H H' : Heap} {s : Sl} {cs : List Value} {e : TypeId} {sz : Nat} (h : Whole H s cs e sz) (hk : Keep S H H') (hn : ∀ k, s.at k → ¬ S k) : Whole H' s cs e sz := by
  rcases h with h | ⟨b, n, rfl, h1, h2⟩
  · exact .inl h
  · exact .inr ⟨b, n, rfl, h1, h2.keep hk (hn b ⟨_, rfl, rfl⟩)⟩
theorem Whole.lt {H : Heap} {s : Sl} {cs : List Value} {e : TypeId} {sz : Nat} (h : Whole H s cs e sz) {k : Nat} (hk : s.at k) : k < H.next := by
  obtain ⟨a, h1, rfl⟩ := hk
  rcases h with ⟨rfl, _⟩ | ⟨b, n, rfl, _, h2⟩
  · cases h1
  · cases h1; exact h2.1
theorem Whole.nil (H : Heap) (e : TypeId) (sz : Nat) : Whole H Sl.nil [] e sz := .inl ⟨rfl, rfl⟩
theorem Whole.len {H : Heap} {s : Sl} {cs : List Value} {e : TypeId} {sz : Nat} (h : Whole H s cs e sz) : cs.length = s.n * sz ∧ s.c = s.n := by
  rcases h with ⟨rfl, rfl⟩ | ⟨b, n, rfl, h1, _⟩
  · simp
  · exact ⟨h1, rfl⟩
theorem Sl.at_nil {k : Nat} : ¬ Sl.nil.at k := fun ⟨_, h, _⟩ => by cases h

/-- AN APPEND to a slice that owns its block. -/
theorem append_whole {H : Heap} {s : Sl} {cs new : List Value} {e : TypeId} {sz bytes n : Nat} {str : Bool} {x : Value} (hs : Whole H s cs e sz) (h1 : srcN str x = some n) (h2 : srcCells H sz n x = some new) (h3 : new.length = n * sz)
    (h4 : (s.n + n) * bytes ≤ 70368744177664) (h5 : 0 < bytes) (h6 : 0 < sz) :
    ∃ s' H', (∀ K, appendK e sz bytes str s.v x H K = K s'.v H') ∧ Whole H' s' (cs ++ new) e sz ∧ Keep s.at H H' ∧ (∀ k, s'.at k → s.at k ∨ H.next ≤ k) ∧ s'.n = s.n + n ∧ (n ≠ 0 → ∀ k, s'.at k → H.next ≤ k) := by
  rcases hs with ⟨rfl, rfl⟩ | ⟨b, m, rfl, hc, hb, o, st, hg⟩
  · by_cases hn : n = 0
    · subst hn
      have : new = [] := List.eq_nil_of_length_eq_zero (by omega)
      subst this
      refine ⟨Sl.nil, H, fun K => ?_, .inl ⟨rfl, rfl⟩, Keep.refl _, fun k hk => .inl hk, rfl, fun h => absurd rfl h⟩
      simp [appendK, asSl, h1, h2, optK]
    · refine ⟨⟨some ⟨H.next, 0, none⟩, n, n⟩, H.new (.cells new e true 0 false), fun K => ?_, .inr ⟨H.next, n, rfl, by simpa using h3, by simp, true, false, by simp⟩, Keep.new _ _, ?_, by simp, ?_⟩
      · simp only [appendK, asSl, h1, h2, optK]
        rw [if_neg (by omega), if_pos ⟨by simpa using h4, h5, h6⟩]
        simp
      · rintro k ⟨a, h, rfl⟩; cases h; exact .inr (Nat.le_refl _)
      · rintro _ k ⟨a, h, rfl⟩; cases h; exact Nat.le_refl _
  · by_cases hn : n = 0
    · subst hn
      have : new = [] := List.eq_nil_of_length_eq_zero (by omega)
      subst this
      refine ⟨_, H, fun K => ?_, .inr ⟨b, m, rfl, by simpa using hc, hb, o, st, by simpa using hg⟩, Keep.refl _, fun k hk => .inl hk, rfl, fun h => absurd rfl h⟩
      simp [appendK, asSl, h1, h2, optK]
    · have hne : ¬ m + n ≤ m := by omega
      have ht : List.take (m * sz) cs = cs := List.take_of_length_le (by omega)
      have hx : exact sz cs.length 0 m o = !o := by
        unfold exact; cases o <;> simp [hc]
      have hl : 0 + m * sz ≤ cs.length := by omega
      have key : ∀ H1 : Heap, H1.next = H.next → (∀ k, k < H.next → k ≠ b → H1.get k = H.get k) → ∀ st2, Whole (H1.new (.cells (cs ++ new) e true 0 st2)) ⟨some ⟨H1.next, 0, none⟩, m + n, m + n⟩ (cs ++ new) e sz ∧
          Keep (Sl.at ⟨some ⟨b, 0, none⟩, m, m⟩) H (H1.new (.cells (cs ++ new) e true 0 st2)) := by
        intro H1 e1 e2 st2
        refine ⟨.inr ⟨_, _, rfl, by simp [hc, h3, Nat.add_mul], by simp, true, st2, by simp⟩, by simp [e1], fun k hk hs => ?_⟩
        rw [Heap.get_new_ne _ _ (by omega)]
        exact e2 k hk (fun h => hs ⟨_, rfl, h.symm⟩)
      by_cases ho : o = true
      · subst ho
        obtain ⟨k1, k2⟩ := key (H.kill b) rfl (fun k _ hk => Heap.get_kill_ne _ hk) st
        refine ⟨⟨some ⟨H.next, 0, none⟩, m + n, m + n⟩, (H.kill b).new (.cells (cs ++ new) e true 0 st), fun K => ?_, k1, k2, ?_, rfl, ?_⟩
        · simp only [appendK, asSl, h1, h2, optK, hg]
          rw [if_neg hne, if_pos ⟨h4, h5, h6⟩, if_pos hl, hx]
          simp [ht]
        · rintro k ⟨a, h, rfl⟩; cases h; exact .inr (Nat.le_refl _)
        · rintro _ k ⟨a, h, rfl⟩; cases h; exact Nat.le_refl _
      · have ho : o = false := by simpa using ho
        subst ho
        obtain ⟨k1, k2⟩ := key H rfl (fun _ _ _ => rfl) false
        refine ⟨⟨some ⟨H.next, 0, none⟩, m + n, m + n⟩, H.new (.cells (cs ++ new) e true 0 false), fun K => ?_, k1, k2, ?_, rfl, ?_⟩
        · simp only [appendK, asSl, h1, h2, optK, hg]
          rw [if_neg hne, if_pos ⟨h4, h5, h6⟩, if_pos hl, hx]
          simp [ht]
        · rintro k ⟨a, h, rfl⟩; cases h; exact .inr (Nat.le_refl _)
        · rintro _ k ⟨a, h, rfl⟩; cases h; exact Nat.le_refl _

/-- ONE MORE ELEMENT, boxed first. -/
theorem push_whole {H : Heap} {s : Sl} {cs new : List Value} {e : TypeId} {sz bytes : Nat} (hs : Whole H s cs e sz) (h3 : new.length = sz) (h4 : (s.n + 1) * bytes ≤ 70368744177664) (h5 : 0 < bytes) (h6 : 0 < sz) :
    ∃ s' H', (∀ K, appendK e sz bytes false s.v (.slice (some ⟨H.next, 0, none⟩) 1 1) (H.new (.cells new e false 0 false)) K = K s'.v H') ∧ Whole H' s' (cs ++ new) e sz ∧ Keep s.at H H' ∧ Keep s.at (H.new (.cells new e false 0 false)) H' ∧
      (∀ k, s'.at k → H.next < k) ∧ s'.n = s.n + 1 := by
  have hl1 : Whole (H.new (.cells new e false 0 false)) s cs e sz := hs.keep (Keep.new (S := fun _ => False) _ _) (fun _ _ h => h)
  obtain ⟨s', H', e1, e2, e3, _, e5, e6⟩ := append_whole (bytes := bytes) (str := false) (x := .slice (some ⟨H.next, 0, none⟩) 1 1) (n := 1) (new := new) hl1 rfl (by
    simp only [srcCells, Nat.one_mul]
    rw [if_neg (by omega), ldN_s (Heap.get_new_same H _) (by omega), List.drop_zero, List.take_of_length_le (by omega)]) (by omega) h4 h5 h6
  exact ⟨s', H', e1, e2, (Keep.new (S := s.at) _ _).trans e3 (fun _ _ h => h), e3, fun k hk => by have := e6 (by omega) k hk; simp at this; omega, e5⟩
end Go.Cm

namespace Go.Cm
open Go

/-- fields that lie one behind the other -/
def inRow (P : Program) : List Field → Nat → Option Nat
  | [], n => some n
  | f :: fs, n => if f.offset = n then inRow P fs (n + P.cellsOf f.type) else none

/-- a type of plain data: numbers, truths, texts, slices, structs, arrays -/
def plainT (P : Program) : Nat → TypeId → Bool
  | 0, _ => false
  | d + 1, t => match P.underlying t with
    | some .bool | some (.int _) | some .string => decide (P.cellsOf t = 1)
    | some (.slice e) => decide (P.cellsOf t = 1) && decide (0 < P.cellsOf e) && plainT P d e
    | some (.struct fs) => (inRow P fs.toList 0 == some (P.cellsOf t)) && fs.toList.all fun f => plainT P d f.type
    | some (.array n e) => decide (n * P.cellsOf e = P.cellsOf t) && decide (0 < P.cellsOf e) && plainT P d e
    | _ => false

/-- what cells say, over windows -/
inductive DR {H : Type} (P : Program) (ws : List Win) : TypeId → List Value → DataW H → Prop
  | bool {t : TypeId} (b : Bool) (h : P.underlying t = some .bool) : DR P ws t [.bool b] (.lit (.bool b))
  | int {t : TypeId} (k : IntKind) (n : Int) (h : P.underlying t = some (.int k)) (hw : (Lit.int k n).wf = true) : DR P ws t [.int k n] (.lit (.int k n))
  | string {t : TypeId} (s : ByteArray) (h : P.underlying t = some .string) : DR P ws t [.string s] (.lit (.string s.data.toList))
  | nil {t e : TypeId} (h : P.underlying t = some (.slice e)) : DR P ws t [.slice none 0 0] .nil
  | none {t e : TypeId} (h : P.underlying t = some (.slice e)) : DR P ws t [.slice (some dang) 0 0] (.slice [] [])
  | slice {t e : TypeId} (h : P.underlying t = some (.slice e)) (b : Nat) (x : Win) (es rest : List (DataW H)) (hb : ws[b]? = some x) (hl : x.cells.length = (es ++ rest).length * P.cellsOf e)
      (hd : ∀ (i : Nat) d, (es ++ rest)[i]? = some d → DR P ws e ((x.cells.drop (i * P.cellsOf e)).take (P.cellsOf e)) d) : DR P ws t [.slice (some ⟨b, 0, none⟩) es.length (es ++ rest).length] (.slice es rest)
  | struct {t : TypeId} {fs : Array Field} (h : P.underlying t = some (.struct fs)) (cs : List Value) (ds : List (DataW H)) (hl : cs.length = P.cellsOf t) (hn : ds.length = fs.size)
      (hd : ∀ (i : Nat) f d, fs.toList[i]? = some f → ds[i]? = some d → DR P ws f.type ((cs.drop f.offset).take (P.cellsOf f.type)) d) : DR P ws t cs (.agg ds)
  | array {t e : TypeId} {n : Nat} (h : P.underlying t = some (.array n e)) (cs : List Value) (ds : List (DataW H)) (hl : cs.length = P.cellsOf t) (hn : ds.length = n)
      (hd : ∀ (i : Nat) d, ds[i]? = some d → DR P ws e ((cs.drop (i * P.cellsOf e)).take (P.cellsOf e)) d) : DR P ws t cs (.agg ds)

theorem mapM_some {α β : Type} {f : α → Option β} : ∀ {l : List α} {r : List β}, l.mapM f = some r → r.length = l.length ∧ ∀ (i : Nat) x y, l[i]? = some x → r[i]? = some y → f x = some y
  | [], r, h => by
    simp only [List.mapM_nil, Option.pure_def, Option.some.injEq] at h
    subst h
    exact ⟨rfl, fun i x y h => by simp at h⟩
  | a :: l, r, h => by
    simp only [List.mapM_cons, Option.pure_def, Option.bind_eq_bind, Option.bind_eq_some_iff, Option.some.injEq] at h
    obtain ⟨b, h1, r', h2, rfl⟩ := h
    obtain ⟨h3, h4⟩ := mapM_some h2
    refine ⟨by simp [h3], fun i x y hx hy => ?_⟩
    cases i with
    | zero => simp at hx hy; subst hx hy; exact h1
    | succ i => exact h4 i x y (by simpa using hx) (by simpa using hy)

section
variable {H : Type} {P : Program} {w : World}

/-- it can be laid out as windows, from any number on -/
def Good (P : Program) (w : World) (t : TypeId) (cs : List Value) (d : DataW H) : Prop :=
  ∀ n0 : Nat, ∃ (ws1 : List Win) (cs1 : List Value), ∀ ws0 ws2 : List Win, ws0.length = n0 →
    (∀ x ∈ ws1, WinOK P w (muW P w (ws0 ++ ws1 ++ ws2)) x) ∧ VRs (muW P w (ws0 ++ ws1 ++ ws2)) cs1 cs ∧ DR P (ws0 ++ ws1 ++ ws2) t cs1 d ∧ ∀ v ∈ cs1, one v = true

theorem jobs : ∀ (l : List (TypeId × List Value × DataW H)), (∀ j ∈ l, Good P w j.1 j.2.1 j.2.2) → ∀ n0 : Nat, ∃ (ws1 : List Win) (css : List (List Value)), css.length = l.length ∧ ∀ ws0 ws2 : List Win, ws0.length = n0 →
    (∀ x ∈ ws1, WinOK P w (muW P w (ws0 ++ ws1 ++ ws2)) x) ∧ ∀ (i : Nat) j c, l[i]? = some j → css[i]? = some c → VRs (muW P w (ws0 ++ ws1 ++ ws2)) c j.2.1 ∧ DR P (ws0 ++ ws1 ++ ws2) j.1 c j.2.2 ∧ ∀ v ∈ c, one v = true
  | [], _, n0 => ⟨[], [], rfl, fun ws0 ws2 _ => ⟨by simp, fun i j c h => by simp at h⟩⟩
  | a :: l, h, n0 => by
    obtain ⟨wa, ca, ha⟩ := h a List.mem_cons_self n0
    obtain ⟨wb, cb, hlen, hb⟩ := jobs l (fun j hj => h j (List.mem_cons_of_mem _ hj)) (n0 + wa.length)
    refine ⟨wa ++ wb, ca :: cb, by simp [hlen], fun ws0 ws2 h0 => ?_⟩
    have e1 : ws0 ++ (wa ++ wb) ++ ws2 = ws0 ++ wa ++ (wb ++ ws2) := by simp [List.append_assoc]
    have e2 : ws0 ++ (wa ++ wb) ++ ws2 = (ws0 ++ wa) ++ wb ++ ws2 := by simp [List.append_assoc]
    obtain ⟨a1, a2, a3, a4⟩ := ha ws0 (wb ++ ws2) h0
    obtain ⟨b1, b2⟩ := hb (ws0 ++ wa) ws2 (by simp [h0])
    refine ⟨fun x hx => ?_, fun i j c hi hc => ?_⟩
    · rcases List.mem_append.1 hx with hx | hx
      · rw [e1]; exact a1 x hx
      · rw [e2]; exact b1 x hx
    · cases i with
      | zero =>
        simp at hi hc
        subst hi hc
        rw [e1]; exact ⟨a2, a3, a4⟩
      | succ i =>
        rw [e2]
        exact b2 i j c (by simpa using hi) (by simpa using hc)

theorem VRs.flatten {μ : Mu} : ∀ {a b : List (List Value)}, a.length = b.length → (∀ (i : Nat) x y, a[i]? = some x → b[i]? = some y → VRs μ x y) → VRs μ a.flatten b.flatten
  | [], [], _, _ => trivial
  | [], _ :: _, h, _ => by simp at h
  | _ :: _, [], h, _ => by simp at h
  | x :: a, y :: b, h, hi => by
    simp only [List.flatten_cons]
    exact VRs.append (hi 0 x y rfl rfl) (VRs.flatten (by simpa using h) fun i x y h1 h2 => hi (i + 1) x y (by simpa using h1) (by simpa using h2))

/-- a piece of equal pieces -/
theorem flat_at {α : Type} (sz : Nat) : ∀ (l : List (List α)), (∀ x ∈ l, x.length = sz) → l.flatten.length = l.length * sz ∧ ∀ (i : Nat) x, l[i]? = some x → (l.flatten.drop (i * sz)).take sz = x
  | [], _ => ⟨by simp, fun i x h => by simp at h⟩
  | a :: l, h => by
    have ha := h a List.mem_cons_self
    obtain ⟨h1, h2⟩ := flat_at sz l (fun x hx => h x (List.mem_cons_of_mem _ hx))
    refine ⟨by simp only [List.flatten_cons, List.length_append, h1, ha, List.length_cons, Nat.add_mul, Nat.one_mul]; omega, fun i x hx => ?_⟩
    cases i with
    | zero =>
      simp at hx
      subst hx
      rw [Nat.zero_mul, List.drop_zero, List.flatten_cons, List.take_left' ha]
    | succ i =>
      rw [List.flatten_cons, Nat.add_mul, Nat.one_mul, Nat.add_comm, ← List.drop_drop, List.drop_left' ha]
      exact h2 i x (by simpa using hx)

/-- a row of cells, clean and real -/
theorem win_row {μ : Mu} {a : Addr} {l l' : List Value} (hne : l' ≠ []) (hc : ∀ (i : Nat) v, l'[i]? = some v → w.cell? (a.add i) = some v) (hl : VRs μ l l') (ho : ∀ v ∈ l, one v = true) :
    a.spot = none ∧ ∃ e, WinOK P w μ ⟨a.block, a.off, l, e⟩ := by
  obtain ⟨v0, l2, rfl⟩ : ∃ v0 l2, l' = v0 :: l2 := by cases l' with
    | nil => exact absurd rfl hne
    | cons x y => exact ⟨x, y, rfl⟩
  have h0 := hc 0 v0 rfl
  have hs : a.spot = none := by
    unfold World.cell? at h0
    split at h0
    · split at h0
      · cases h0
      · rename_i h
        simpa [Addr.add] using h
    · cases h0
  have hb : ∃ c e fr, w.heap[a.block]? = some (.cells c e fr) := by
    unfold World.cell? at h0
    split at h0
    · rename_i c e fr h
      exact ⟨c, e, fr, h⟩
    · cases h0
  obtain ⟨c, e, fr, hb⟩ := hb
  have hadd : ∀ i, a.add i = ⟨a.block, a.off + i, none⟩ := by
    intro i
    obtain ⟨ab, ao, as⟩ := a
    simp only at hs
    subst hs
    unfold Addr.add
    split
    · rename_i h; simp [h]
    · rfl
  have hcell : ∀ (i : Nat) v, (v0 :: l2)[i]? = some v → c[i + a.off]? = some v := by
    intro i v hv
    have h1 := hc i v hv
    unfold World.cell? at h1
    rw [hadd i] at h1
    simp only [hb, Option.isSome_none, Bool.false_eq_true, if_false] at h1
    rw [Nat.add_comm]
    exact h1
  have hlen := hl.length
  refine ⟨hs, e, c, fr, hb, ?_, fun i v hv => ⟨ho v (List.mem_of_getElem? hv), ?_⟩⟩
  · have hlast := hcell l2.length ((v0 :: l2)[l2.length]'(by simp)) (List.getElem?_eq_getElem (by simp))
    have := (Array.getElem?_eq_some_iff.1 hlast).1
    simp only [List.length_cons] at hlen
    simp only
    omega
  · obtain ⟨v', h2, h3⟩ := hl.get i v hv
    exact ⟨v', hcell i v' h2, h3⟩
end
end Go.Cm
