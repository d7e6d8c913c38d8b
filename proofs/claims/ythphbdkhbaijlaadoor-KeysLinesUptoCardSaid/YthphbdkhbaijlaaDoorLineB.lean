/-
  keys: what the program's line and Parse compute.
  And: keys: what the reference's line and Parse compute. KeysParses: what the call computes. keys: what is printed is parsed to the same; the plain law. KeysBack, KeysLines: what the calls compute.
-/
import Derived.Test.YthphbdkhbaijlaaDoorLineA
import Derived.Test.YthphbdkhbaijlaaDoorDec
namespace Go.Proofs.YthphbdkhbaijlaaDoor.dec
open Go Go.Cm

attribute [local congr] optK_congr asI_congr asN_congr asB_congr asS_congr asP_congr asA_congr asSL_congr callK_congr castT_congr chk_congr

/-- what a line gives -/
def LineR (H0 : Heap) (s : W) (R : Res) : Prop := ∃ k b H', R = some (.tuple #[.agg ⟨keyL k⟩, .bool b], H') ∧ KOK k ∧ b = (lineW s).isSome ∧ (∀ k', lineW s = some k' → k = k') ∧ Keep0 H0 H'

theorem line_end {H0 H : Heap} {s : W} {p B : Nat} {k : Ky} {b : Bool} (hp : H.get p = some (.cells (keyL k0) t_api_Key false 0 false)) (hk : KOK k) (hb : b = (lineW s).isSome) (he : ∀ k', lineW s = some k' → k = k') (hB : H0.next ≤ p) (hkp : Keep (fun j => H0.next ≤ j) H0 H) :
    LineR H0 s (effK (.store 35) [P0 p, .agg ⟨keyL k⟩] H fun _ H55 => retK [.cell 2 35 true, .tmp 3] [(2, P0 p), (3, .bool b)] H55) := by
  rw [storeN (n := 35) hp (keyL_len (by simp [k0])) (keyL_len hk.1) (keyL_one k) (by omega), ret_cell (n := 35) (Heap.get_put_same H p _) (keyL_len hk.1)]
  refine ⟨k, b, _, rfl, hk, hb, he, ?_⟩
  have := hkp.trans (Keep.put (S := fun j => H0.next ≤ j) H p (.cells (keyL k) t_api_Key false 0 false) hB) fun _ _ h => h
  exact ⟨this.1, fun j hj _ => this.2 j hj (by show ¬ H0.next ≤ j; omega)⟩

theorem rds_line {H46 H52 H55 : Heap} {p : Nat} {v : Value} (h1 : readD (.load 35 true) [P0 p] H46 = some v) (h2 : readD (.load 35 true) [P0 p] H52 = some v) (hv : same v v = true) : rdsOk [H46, H52, H55] [⟨.load 35 true, [P0 p], v, 0, 1⟩] = true := by
  simp [rdsOk, rdOk, h1, h2, hv]

theorem splW4 {s : W} {L : List W} (h : splW 32 s = L) (h4 : L.length = 4) : ∃ a b c d, L = [a, b, c, d] ∧ splW 32 s = [a, b, c, d] := by
  match L, h4 with
  | [a, b, c, d], _ => exact ⟨a, b, c, d, rfl, h⟩

theorem line_b (d : Nat) (s : W) (hs : s.length ≤ 1048576) (H : Heap) : LineR H s (X (d + 5) n_keys_line [.string (S s)] H) := by
  rw [keys_line_eq, ← k0_eq, ← p0_eq]
  simp only [newK_s]
  generalize hH2 : H.new (.cells (keyL k0) t_api_Key false 0 false) = H2
  have n2 : H2.next = H.next + 1 := by subst hH2; simp
  have g2 : H2.get H.next = some (.cells (keyL k0) t_api_Key false 0 false) := by subst hH2; simp
  have k2 : Keep0 H H2 := by subst hH2; exact Keep.new _ _
  obtain ⟨l, H4, e1, hl, k4⟩ := Split_s (d + 3) 32 s hs H2
  have g4 := k4.get (by omega) g2
  rw [e1]
  simp only [callK_s, show ∀ (s : Sl) (K : Sl → Res), asSL s.v K = K s from fun _ _ => rfl]
  have hn := hl.num
  have k24 := k2.trans k4
  have n4 := k4.1
  by_cases c4 : (splW 32 s).length = 4
  · rw [if_neg (by simp; omega)]
    obtain ⟨r, p, pat, nm, e4, e5⟩ := splW4 rfl c4
    rw [e4] at hl
    have mem : ∀ x ∈ [r, p, pat, nm], x.length ≤ 1048576 := fun x hx => by
      rw [← e4] at hx; have := splW_len hx; omega
    have lr := mem r (by simp)
    have lp := mem p (by simp)
    have lpat := mem pat (by simp)
    have lnm := mem nm (by simp)
    have hline : lineW s = line4 r p pat nm := by unfold lineW; rw [e4]
    have at4 : ∀ {H' : Heap}, Keep0 H4 H' → ∃ a, l.a = some a ∧ Heap.ld1 H' (ap a 0) = some (.string (S r)) ∧ Heap.ld1 H' (ap a 1) = some (.string (S p)) ∧ Heap.ld1 H' (ap a 2) = some (.string (S pat)) ∧ Heap.ld1 H' (ap a 3) = some (.string (S nm)) := fun {H'} hk => by
      have hl' := hl.keep0 hk
      obtain ⟨a, q0, q1, _⟩ := hl'.at (i := 0) rfl
      obtain ⟨a1, r0, r1, _⟩ := hl'.at (i := 1) rfl
      obtain ⟨a2, s0, s1, _⟩ := hl'.at (i := 2) rfl
      obtain ⟨a3, t0, t1, _⟩ := hl'.at (i := 3) rfl
      rw [q0] at r0 s0 t0; cases r0; cases s0; cases t0
      exact ⟨a, q0, q1, r1, s1, t1⟩
    obtain ⟨a, ea, a0, a1, _, _⟩ := at4 (Keep.refl H4)
    rw [ea]
    simp only [optK_s]
    rw [if_pos (by omega), a0]
    simp only [optK_s, asS_s]
    rw [rights_b (d + 1) r lr H4]
    simp only [callK_s, castT_s, castL_c, castL_n, cast0, List.getElem?_cons_zero, List.getElem?_cons_succ, optK_s, asI_s, asB_s]
    rw [if_pos (by omega), a1]
    simp only [optK_s, asS_s]
    obtain ⟨q, b29, H23, e6, q1, q2, q3, q4, k23⟩ := public_b (d + 2) p lp H4
    rw [e6]
    simp only [callK_s, castT_s, castL_c, castL_n, cast0, List.getElem?_cons_zero, List.getElem?_cons_succ, optK_s, asA_s, asB_s]
    have n23 := k23.1
    rw [storeN (n := 32) (Heap.get_new_same H23 _) (by rw [pubL_len]; rfl) (by rw [pubL_len]; exact q1) (pubL_one q) (by omega)]
    generalize hH33 : (H23.new (.cells (pubL (List.replicate 32 0)) t_32_uint8 false 0 false)).put H23.next (.cells (pubL q) t_32_uint8 false 0 false) = H33
    have k33 : Keep0 H23 H33 := by subst hH33; exact ⟨by simp, fun j hj _ => by rw [Heap.get_put_ne _ _ (by omega), Heap.get_new_ne _ _ (by omega)]⟩
    have g33 : H33.get H23.next = some (.cells (pubL q) t_32_uint8 false 0 false) := by subst hH33; simp
    have n33 : H33.next = H23.next + 1 := by subst hH33; simp
    generalize hH35 : H33.new (.cells (keyL k0) t_api_Key false 0 false) = H35
    have k35 : Keep0 H33 H35 := by subst hH35; exact Keep.new _ _
    have g35 : H35.get H33.next = some (.cells (keyL k0) t_api_Key false 0 false) := by subst hH35; simp
    have n35 : H35.next = H33.next + 1 := by subst hH35; simp
    have k435 := (k23.trans k33).trans k35
    obtain ⟨a', ea', b0, b1, b2, b3⟩ := at4 k435
    rw [ea] at ea'; cases ea'
    rw [if_pos (by omega), b3]
    simp only [optK_s, asS_s]
    rw [ldAll (k35.get (by omega) g33) (by rw [pubL_len]; exact q1)]
    simp only [optK_s, asA_s]
    rw [if_pos (by omega), b2]
    simp only [optK_s, asS_s]
    rw [k0_eq, fill4 _ _ q q1]
    simp only [optK_s]
    have hkey : Value.string (S nm) :: (pubL q ++ [.int .i64 (rr r).2, .string (S pat)]) = keyL ⟨nm, q, (rr r).2, pat⟩ := rfl
    have hKO : KOK ⟨nm, q, (rr r).2, pat⟩ := ⟨q1, lnm, lpat, q2⟩
    rw [hkey, storeN (n := 35) g35 (keyL_len (by simp [k0])) (keyL_len q1) (keyL_one _) (by omega)]
    generalize hH46 : H35.put H33.next (.cells (keyL ⟨nm, q, (rr r).2, pat⟩) t_api_Key false 0 false) = H46
    have g46 : H46.get H33.next = some (.cells (keyL ⟨nm, q, (rr r).2, pat⟩) t_api_Key false 0 false) := by subst hH46; simp
    have k46 : Keep (fun j => j = H33.next) H35 H46 := by subst hH46; exact Keep.put _ _ _ rfl
    have n46 : H46.next = H35.next := by subst hH46; simp
    rw [ldAll g46 (keyL_len q1)]
    simp only [optK_s, asA_s]
    have hnn := k24.1
    have kall : Keep (fun j => H.next ≤ j) H H46 := ((k24.trans k435).to.trans k46 fun j hj e => by have e' : j = H33.next := e; omega)
    have gp : H46.get H.next = some (.cells (keyL k0) t_api_Key false 0 false) := (k46.2 H.next (by omega) (by show ¬ H.next = H33.next; omega)).trans (k435.get (by omega) g4)
    have hr46 : readD (.load 35 true) [P0 H33.next] H46 = some (.agg ⟨keyL ⟨nm, q, (rr r).2, pat⟩⟩) := loadAll g46 (keyL_len q1)
    obtain ⟨ro1, ro2⟩ := rr_ok r
    rw [ro1]
    have fin : ∀ (H52 : Heap) (b : Bool), Keep0 H46 H52 → b = (lineW s).isSome → (∀ k', lineW s = some k' → (⟨nm, q, (rr r).2, pat⟩ : Ky) = k') → LineR H s (effK (.store 35) [P0 H.next, .agg ⟨keyL ⟨nm, q, (rr r).2, pat⟩⟩] H52 fun _ H55 =>
        chk (rdsOk [H46, H52, H55] [⟨.load 35 true, [P0 H33.next], .agg ⟨keyL ⟨nm, q, (rr r).2, pat⟩⟩, 0, 1⟩]) (retK [.cell 2 35 true, .tmp 3] [(2, P0 H.next), (3, .bool b)] H55)) := fun H52 b h52 hb he => by
      have e : ∀ H55, rdsOk [H46, H52, H55] [⟨.load 35 true, [P0 H33.next], .agg ⟨keyL ⟨nm, q, (rr r).2, pat⟩⟩, 0, 1⟩] = true := fun H55 => rds_line hr46 (loadAll (h52.get (by omega) g46) (keyL_len q1)) (same_key _)
      simp only [e, chk_s]
      exact line_end (B := 0) (h52.get (by omega) gp) hKO hb he (Nat.le_refl _) (kall.trans h52 fun _ _ h => h.elim)
    cases h1 : rightsW r with
    | none =>
      rw [if_neg (by simp)]
      have : lineW s = none := by rw [hline]; unfold line4; rw [h1]
      exact fin H46 false (Keep.refl _) (by rw [this]; rfl) (fun k' h => by rw [this] at h; cases h)
    | some n =>
      rw [if_pos (by rfl), q3]
      cases h2 : pubW p with
      | none =>
        rw [if_neg (by simp)]
        have : lineW s = none := by rw [hline]; unfold line4; rw [h1, h2]
        exact fin H46 false (Keep.refl _) (by rw [this]; rfl) (fun k' h => by rw [this] at h; cases h)
      | some q' =>
        have hq := q4 q' h2
        subst hq
        have hrn := ro2 n h1
        rw [if_pos (by rfl)]
        obtain ⟨H52, o1, o2⟩ := one_b (d + 1) ⟨nm, q, (rr r).2, pat⟩ hKO H46
        rw [o1]
        simp only [callK_s, asB_s]
        obtain ⟨m1, m2⟩ := rightsW_ok h1
        have ho : oneB ⟨nm, q, (rr r).2, pat⟩ = (wordB nm [] 20 && wordB pat [42, 63] 40) := by
          simp [oneB, hrn, m1, m2]
        have hlw : lineW s = if wordB nm [] 20 && wordB pat [42, 63] 40 then some ⟨nm, q, (rr r).2, pat⟩ else none := by
          rw [hline]; unfold line4; rw [h1, h2, hrn]
        refine fin H52 _ o2 ?_ ?_
        · rw [hlw, ho]; cases (wordB nm [] 20 && wordB pat [42, 63] 40) <;> rfl
        · intro k' h; rw [hlw] at h; split at h
          · cases h; rfl
          · cases h
  · rw [if_pos (by simp; omega), stN_all g4 rfl]
    simp only [optK_s]
    rw [ret_cell (n := 35) (Heap.get_put_same H4 H.next _) rfl]
    have : lineW s = none := by
      unfold lineW; split
      · rename_i h; rw [h] at c4; simp at c4
      · rfl
    refine ⟨k0, false, _, rfl, ⟨by simp [k0], by simp [k0], by simp [k0], U8L.zero 32⟩, by rw [this]; rfl, fun k' h => by rw [this] at h; (cases h), ?_⟩
    exact ⟨by simp; omega, fun j hj _ => by rw [Heap.get_put_ne _ _ (by omega)]; exact k24.2 j hj id⟩

/-! ### a file -/
def skipW (s : W) : Bool := match s with
  | [] => true
  | a :: _ => decide (a = 35)
def parseG : List Ky → Nat → List W → List Ky × Nat × Nat
  | L, _, [] => (L, 0, 0)
  | L, i, s :: r => if skipW s = true then parseG L (i + 1) r else match lineW s with
    | none => ([], i + 1, 5)
    | some k => if twiceB L k = true then ([], i + 1, 15) else if 20 ≤ L.length then ([], i + 1, 2) else parseG (L ++ [k]) (i + 1) r
def parseW (t : W) : List Ky × Nat × Nat := parseG [] 0 (splW 10 t)

/-- what a file gives -/
def ParseR (H0 : Heap) (p : List Ky × Nat × Nat) (R : Res) : Prop := ∃ y H', R = some (.tuple #[Sl.v y, .int .i64 (p.2.1 : Int), .int .i64 (p.2.2 : Int)], H') ∧ Kys H' y p.1 ∧ p.1.length ≤ 20 ∧ Keep0 H0 H'

theorem Kys.nil (H : Heap) : Kys H Sl.nil [] := ⟨.inl ⟨rfl, rfl⟩, fun _ h => by cases h⟩
theorem skip_s (s : W) : (if sEq (S s) (S []) = true then true else decide (bt (S s) 0 = 35)) = skipW s := by
  cases s with
  | nil => rfl
  | cons a l =>
    rw [sEq_nil]
    simp only [List.isEmpty_cons, Bool.false_eq_true, if_false, btS (l := a :: l) (i := 0) (c := a) rfl, skipW]
    rw [Bool.eq_iff_iff]
    simp only [decide_eq_true_eq, ← UInt8.toNat_inj]
    rw [show (35 : UInt8).toNat = 35 from rfl]; omega

theorem parse_push {H : Heap} {x : Sl} {L : List Ky} {k : Ky} (hx : Kys H x L) (hk : KOK k) (hL : L.length ≤ 1000) : ∃ y H', (∀ K, appendK t_api_Key 35 72 false x.v (.slice (some ⟨H.next, 0, none⟩) 1 1) (H.new (.cells (keyL k) t_api_Key false 0 false)) K = K y.v H') ∧ Kys H' y (L ++ [k]) ∧ Keep x.at H H' ∧ (∀ j, y.at j → H.next < j) := by
  have hlen := hx.num
  obtain ⟨l, H', f1, f2, f3, _, f5, _⟩ := push_whole (bytes := 72) (new := keyL k) hx.1 (keyL_len hk.1) (by omega) (by omega) (by omega)
  refine ⟨l, H', f1, ⟨by rw [flat_snoc]; exact f2, fun c hc => ?_⟩, f3, f5⟩
  rcases List.mem_append.1 hc with hc | hc
  · exact hx.2 c hc
  · simp only [List.mem_singleton] at hc; subst hc; exact hk

theorem Parse_b (d : Nat) (t : W) (ht : t.length ≤ 1048576) (H : Heap) : ParseR H (parseW t) (X (d + 6) n_keys_Parse [.string (S t)] H) := by
  rw [keys_Parse_eq]
  obtain ⟨l, H2, e1, hl, k2⟩ := Split_s (d + 4) 10 t ht H
  rw [e1]
  simp only [callK_s, show ∀ (s : Sl) (K : Sl → Res), asSL s.v K = K s from fun _ _ => rfl]
  have hnum := splW_num 10 t
  have hlen : ∀ s ∈ splW 10 t, s.length ≤ 1048576 := fun s hs => by have := splW_len hs; omega
  unfold parseW
  generalize splW 10 t = Ls at *
  have hn := hl.num
  have loop : ∀ (m i : Nat) (x : Sl) (L : List Ky) (H1 : Heap), i ≤ Ls.length → Ls.length - i < m → Kys H1 x L → L.length ≤ 20 → Keep0 H2 H1 → (∀ j, x.at j → H2.next ≤ j) →
      ParseR H (parseG L i (Ls.drop i)) (keys_Parse_p11010 (d + 5) m x l (l.n : Int) (i : Int) H1) := by
    intro m
    induction m with
    | zero => intro i x L H1 h1 h2; omega
    | succ m ih =>
      intro i x L H1 hi hm hx hL hk hB
      rw [keys_Parse_p11010_s]
      simp only [decide_eq_true_eq]
      by_cases c : i < Ls.length
      · rw [if_pos (by omega)]
        have hc : Ls[i]? = some Ls[i] := List.getElem?_eq_getElem c
        have hsl := hlen _ (List.getElem_mem c)
        generalize Ls[i] = s at hc hsl
        obtain ⟨a, ea, _, a1⟩ := (hl.keep0 hk).at hc
        rw [ea]
        simp only [optK_s]
        rw [if_pos (by omega), Int.toNat_natCast, a1]
        simp only [optK_s, asS_s]
        have wi : IntKind.wrap .i64 ((i : Int) + 1) = ((i + 1 : Nat) : Int) := by rw [w64 (by omega)]; omega
        rw [dropK hc, parseG]
        have sk : ∀ b, b = skipW s → ParseR H (if skipW s = true then parseG L (i + 1) (Ls.drop (i + 1)) else match lineW s with
            | none => ([], i + 1, 5)
            | some k => if twiceB L k = true then ([], i + 1, 15) else if 20 ≤ L.length then ([], i + 1, 2) else parseG (L ++ [k]) (i + 1) (Ls.drop (i + 1)))
            (keys_Parse_p1101001100101 (d + 5) m x (i : Int) (S s) l (l.n : Int) (i : Int) b H1) := by
          intro b hb
          rw [← hb, keys_Parse_p1101001100101_eq]
          cases b with
          | true => rw [if_pos rfl, if_pos rfl, keys_Parse_p110100111_eq, wi]; exact ih (i + 1) x L H1 (by omega) (by omega) hx hL hk hB
          | false =>
            rw [if_neg (by simp), if_neg (by simp), ← k0_eq]
            obtain ⟨k, b, H3, e3, q1, q2, q3, k3⟩ := line_b d s hsl H1
            rw [e3]
            simp only [callK_s, castT_s, castL_c, castL_n, cast0, List.getElem?_cons_zero, List.getElem?_cons_succ, optK_s, asA_s, asB_s, newK_s]
            rw [storeN (n := 35) (Heap.get_new_same H3 _) (keyL_len (by simp [k0])) (keyL_len q1.1) (keyL_one k) (by omega)]
            have k12 := cpH_keep H3 (keyL k) (keyL k0) t_api_Key
            have g12 := cpH_get H3 (keyL k) (keyL k0) t_api_Key
            have n12 := cpH_next H3 (keyL k) (keyL k0) t_api_Key
            rw [show (H3.new (.cells (keyL k0) t_api_Key false 0 false)).put H3.next (.cells (keyL k) t_api_Key false 0 false) = cpH H3 (keyL k) t_api_Key (keyL k0) from rfl]
            generalize cpH H3 (keyL k) t_api_Key (keyL k0) = H12 at *
            have kk12 := (hk.trans k3).trans k12
            rw [q2]
            have hnil : ∀ (H5 : Heap) (e : Nat), Keep0 H2 H5 → ParseR H ([], i + 1, e) (some (.tuple #[.slice none 0 0, .int .i64 (IntKind.wrap .i64 ((i : Int) + 1)), .int .i64 (e : Int)], H5)) := fun H5 e h5 =>
              ⟨Sl.nil, H5, by rw [wi], Kys.nil H5, by simp, k2.trans h5⟩
            cases h1 : lineW s with
            | none => rw [if_pos (by rfl)]; exact hnil H12 5 kk12
            | some k' =>
              have hkk := q3 k' h1
              subst hkk
              rw [if_neg (by simp), ldAll g12 (keyL_len q1.1)]
              simp only [optK_s, asA_s]
              have hx12 := hx.keep (k3.trans k12) (fun _ _ h => h)
              have hnx := hx.num
              have hcap := (Whole.len hx.1).2
              obtain ⟨H16, t1, k16⟩ := twice_b (d + 4) x.c k q1 x L L.length (Nat.le_refl _) H12 (RK.of hx12 (by omega))
              rw [List.take_length] at t1
              have hxv : x.v = .slice x.a L.length x.c := by rw [← hnx]
              rw [hxv, t1]
              simp only [callK_s, asB_s]
              have kk16 := kk12.trans k16
              cases h2 : twiceB L k with
              | true => rw [if_pos rfl]; simp only [if_true]; exact hnil H16 15 kk16
              | false =>
                rw [if_neg (by simp)]
                simp only [Bool.false_eq_true, if_false]
                by_cases h3 : 20 ≤ L.length
                · rw [if_pos h3, if_pos (decide_eq_true (by omega))]; exact hnil H16 2 kk16
                · rw [if_neg h3, if_neg (by rw [decide_eq_true_eq]; omega), ldAll (k16.get (by omega) g12) (keyL_len q1.1)]
                  simp only [optK_s, asA_s]
                  rw [k0_eq, fill1 k q1.1]
                  simp only [optK_s, newK_s]
                  have hx16 := hx12.keep k16 (fun _ _ h => h)
                  obtain ⟨y, H', p1, p2, p3, p4⟩ := parse_push hx16 q1 (by omega)
                  rw [← hxv, p1]
                  simp only [show ∀ (s : Sl) (K : Sl → Res), asSL s.v K = K s from fun _ _ => rfl]
                  rw [keys_Parse_p110100111_eq, wi]
                  have n16 := kk16.1
                  exact ih (i + 1) y (L ++ [k]) H' (by omega) (by omega) p2 (by simp; omega) ⟨Nat.le_trans kk16.1 p3.1, fun j hj _ => (p3.2 j (by omega) (fun hj' => by have := hB j hj'; omega)).trans (kk16.2 j hj id)⟩ (fun j hj => by have := p4 j hj; omega)
        have := skip_s s
        by_cases hs0 : sEq (S s) (S []) = true
        · rw [if_pos hs0] at this ⊢
          exact sk true this
        · rw [if_neg hs0] at this ⊢
          have hpos : 0 < s.length := by
            cases s with
            | nil => exact absurd rfl hs0
            | cons a l => simp
          rw [slenS, if_pos (show 0 ≤ (0 : Int) ∧ (0 : Int) < (s.length : Int) by omega)]
          exact sk _ this
      · rw [if_neg (by omega), List.drop_eq_nil_of_le (by omega), parseG]
        exact ⟨x, H1, rfl, hx, hL, k2.trans hk⟩
  exact loop NN 0 Sl.nil [] H2 (by omega) (NN_big _ (by omega)) (Kys.nil H2) (by simp) (Keep.refl _) (fun j hj => absurd hj Sl.at_nil)
end Go.Proofs.YthphbdkhbaijlaaDoor.dec

namespace Go.Proofs.YthphbdkhbaijlaaDoor.dec
open Go Go.Cm

attribute [local congr] optK_congr asI_congr asN_congr asB_congr asS_congr asP_congr asA_congr asSL_congr callK_congr castT_congr chk_congr

theorem sets1 (k : Ky) (hp : k.pub.length = 32) (j : Nat) (hj : j < 32) (n : Int) : (keyL k).set (1 + j) (.int .u8 n) = keyL { k with pub := k.pub.set j n } := by
  simp only [keyL]
  rw [Nat.add_comm, List.set_cons_succ, List.set_append_left _ _ (by rw [pubL_len]; omega), pubL_set]
theorem set0 (k : Ky) (w : W) : (keyL k).set 0 (.string (S w)) = keyL { k with nm := w } := rfl

theorem RLine_b (d : Nat) (s : W) (hs : s.length ≤ 1048576) (H : Heap) : LineR H s (X (d + 4) n_ref15_line [.string (S s)] H) := by
  rw [ref15_line_eq, ← k0_eq]
  simp only [newK_s]
  generalize hH2 : H.new (.cells (keyL k0) t_api_Key false 0 false) = H2
  have n2 : H2.next = H.next + 1 := by subst hH2; simp
  have g2 : H2.get H.next = some (.cells (keyL k0) t_api_Key false 0 false) := by subst hH2; simp
  have k2 : Keep0 H H2 := by subst hH2; exact Keep.new _ _
  obtain ⟨l, H4, e1, hl, k4⟩ := RSplit_s (d + 2) 32 s hs H2
  rw [show (32 : Int) = ((32 : UInt8).toNat : Int) from rfl, e1]
  simp only [callK_s, show ∀ (s : Sl) (K : Sl → Res), asSL s.v K = K s from fun _ _ => rfl, newK_s]
  generalize hH7 : H4.new (.cells (keyL k0) t_api_Key false 0 false) = H7
  have n7 : H7.next = H4.next + 1 := by subst hH7; simp
  have g7 : H7.get H4.next = some (.cells (keyL k0) t_api_Key false 0 false) := by subst hH7; simp
  have k7 : Keep0 H4 H7 := by subst hH7; exact Keep.new _ _
  have g2' := (k4.trans k7).get (by omega) g2
  have n4 := k4.1
  have khi := (k2.trans k4).trans k7
  have hl7 := hl.keep0 k7
  have hn := hl.num
  have k35 : (keyL k0).length = 35 := keyL_len (by simp [k0])
  -- the end without a key
  have stop : ∀ (H1 : Heap) (k : Ky), KOK k → Keep (fun j => H.next ≤ j) H H1 → H1.get H.next = some (.cells (keyL k0) t_api_Key false 0 false) → H1.get H4.next = some (.cells (keyL k) t_api_Key false 0 false) → lineW s = none →
      LineR H s (optK (Cm.ldA H1 ⟨H4.next, 0, none⟩ 35) fun v1 => asA v1 fun c2 => effK (.store 35) [P0 H.next, .agg c2] H1 fun _ H4 => retK [.cell 2 35 true, .tmp 3] [(2, P0 H.next), (3, .bool false)] H4) := fun H1 k hk hh hg1 hg2 hnone => by
    rw [ldAll hg2 (keyL_len hk.1)]
    simp only [optK_s, asA_s]
    exact line_end (B := 0) hg1 hk (by rw [hnone]; rfl) (fun k' h => by rw [hnone] at h; cases h) (Nat.le_refl _) hh
  have stop0 : lineW s = none → LineR H s (ref15_line_p11101 (d + 3) H.next l H4.next true H7) := fun hnone => by
    rw [ref15_line_p11101_eq, if_pos rfl]
    exact stop H7 k0 ⟨by simp [k0], by simp [k0], by simp [k0], U8L.zero 32⟩ khi.to g2' g7 hnone
  by_cases c4 : (splW 32 s).length = 4
  · rw [if_neg (by simp; omega)]
    obtain ⟨r, p, pat, nm, e4, e5⟩ := splW4 rfl c4
    rw [e4] at hl hl7
    have mem : ∀ x ∈ [r, p, pat, nm], x.length ≤ 1048576 := fun x hx => by
      rw [← e4] at hx; have := splW_len hx; omega
    have lr := mem r (by simp)
    have lp := mem p (by simp)
    have lpat := mem pat (by simp)
    have lnm := mem nm (by simp)
    have hline : lineW s = line4 r p pat nm := by unfold lineW; rw [e4]
    have hlat : ∀ j, l.at j → j < H4.next := fun j hj => Whole.lt hl hj
    have at4 : ∀ {H' : Heap}, Keep (fun j => j = H4.next ∨ j = H.next) H7 H' → Strs H7 l [r, p, pat, nm] → (¬ l.at H.next) → ∃ a, l.a = some a ∧ Heap.ld1 H' (ap a 0) = some (.string (S r)) ∧ Heap.ld1 H' (ap a 1) = some (.string (S p)) ∧ Heap.ld1 H' (ap a 2) = some (.string (S pat)) ∧ Heap.ld1 H' (ap a 3) = some (.string (S nm)) := fun {H'} hk hl' hnot => by
      have hl' : Strs H' l [r, p, pat, nm] := Whole.keep hl' hk fun j hj h => by
        rcases h with h | h
        · have := hlat j hj; omega
        · exact hnot (h ▸ hj)
      obtain ⟨a, q0, q1, _⟩ := hl'.at (i := 0) rfl
      obtain ⟨a1, r0, r1, _⟩ := hl'.at (i := 1) rfl
      obtain ⟨a2, s0, s1, _⟩ := hl'.at (i := 2) rfl
      obtain ⟨a3, t0, t1, _⟩ := hl'.at (i := 3) rfl
      rw [q0] at r0 s0 t0; cases r0; cases s0; cases t0
      exact ⟨a, q0, q1, r1, s1, t1⟩
    have hnot : ¬ l.at H.next := by
      intro hj
      obtain ⟨a, ha, hb⟩ := hj
      rcases hl with ⟨rfl, h⟩ | ⟨b, n, rfl, _, _, o, st, hg⟩
      · cases h
      · cases ha
        simp only at hb
        subst hb
        rw [k4.get (by omega) g2] at hg
        simp only [Option.some.injEq, CObj.cells.injEq] at hg
        have := congrArg List.length hg.1
        rw [k35] at this
        simp [strL] at this
    obtain ⟨a, ea, a0, a1, a2, a3⟩ := at4 (Keep.refl H7) hl7 hnot
    rw [ea]
    simp only [optK_s]
    rw [if_pos (by omega), a1]
    simp only [optK_s, asS_s, slenS]
    by_cases c64 : p.length = 64
    · rw [if_neg (by simp; omega), if_pos (by omega), a2]
      simp only [optK_s, asS_s]
      rw [RPattern_b (d + 1) pat lpat]
      simp only [callK_s, asB_s]
      cases cp : wordB pat [42, 63] 40 with
      | false =>
        rw [if_pos (by rfl)]
        exact stop0 (by rw [hline]; unfold line4; split <;> simp [cp])
      | true =>
        rw [if_neg (by simp), if_pos (by omega), a3]
        simp only [optK_s, asS_s]
        rw [RName_b (d + 1) nm lnm]
        simp only [callK_s, asB_s]
        cases cn : wordB nm [] 20 with
        | false => exact stop0 (by rw [hline]; unfold line4; split <;> simp [cn])
        | true =>
          rw [ref15_line_p11101_eq, if_neg (by simp), ea]
          simp only [optK_s]
          rw [if_pos (by omega), a0]
          simp only [optK_s, asS_s, sEqS, beq_iff_eq]
          have hpw : pubW p = pairs p := by unfold pubW; rw [if_pos c64]
          have hl4 : ∀ n, rightsW r = some n → lineW s = (pairs p).map fun q => (⟨nm, q, n, pat⟩ : Ky) := fun n hn => by
            rw [hline]; unfold line4; rw [hn, hpw]
            cases pairs p with
            | none => rfl
            | some q => simp [cp, cn]
          -- the digits
          have digits : ∀ (n : Int), rightsW r = some n → ∀ (k j m : Nat) (q : List Int) (H5 : Heap), j + k = 32 → k < m → q.length = j → U8L q → (∀ q', pairs p = some q' → ∃ t, pairs (p.drop (2 * j)) = some t ∧ q' = q ++ t) → ((pairs (p.drop (2 * j))).isSome = (pairs p).isSome) →
              H5.get H4.next = some (.cells (keyL ⟨[], q ++ List.replicate k 0, n, []⟩) t_api_Key false 0 false) → H5.get H.next = some (.cells (keyL k0) t_api_Key false 0 false) → Keep (fun j => j = H4.next ∨ j = H.next) H7 H5 →
              LineR H s (ref15_line_p111110010 (d + 3) m H.next l H4.next (j : Int) H5) := by
            intro n hrn k
            induction k with
            | zero =>
              intro j m q H5 hj hm hq hu h1 h2 g5 g6 k5
              obtain ⟨m, rfl⟩ : ∃ m', m = m' + 1 := ⟨m - 1, by omega⟩
              rw [ref15_line_p111110010_s]
              simp only [decide_eq_true_eq]
              rw [if_neg (by omega)]
              simp only [List.replicate_zero, List.append_nil] at g5
              obtain ⟨a', ea', b0, b1, b2, b3⟩ := at4 k5 hl7 hnot
              rw [ea] at ea'; cases ea'
              have hql : q.length = 32 := by omega
              have ln : ∀ (k : Ky), k.pub = q → (keyL k).length = 35 := fun k h => keyL_len (by rw [h]; exact hql)
              rw [ea]
              simp only [optK_s]
              rw [if_pos (by omega), b2]
              simp only [optK_s, asS_s]
              rw [st1_s g5 (by rw [ln _ rfl]; omega) (by omega), set34 _ hql]
              simp only [optK_s]
              generalize hH16 : H5.put H4.next (.cells (keyL { (⟨[], q, n, []⟩ : Ky) with pat := pat }) t_api_Key false 0 false) = H16
              have g16 : H16.get H4.next = some (.cells (keyL ⟨[], q, n, pat⟩) t_api_Key false 0 false) := by subst hH16; simp
              have g16' : H16.get H.next = some (.cells (keyL k0) t_api_Key false 0 false) := by subst hH16; rw [Heap.get_put_ne _ _ (by omega)]; exact g6
              have k16 : Keep (fun j => j = H4.next ∨ j = H.next) H7 H16 := by subst hH16; exact k5.trans (Keep.put _ _ _ (.inl rfl)) fun _ _ h => h
              obtain ⟨a', ea', d0, d1, d2, d3⟩ := at4 k16 hl7 hnot
              rw [ea] at ea'; cases ea'
              rw [if_pos (by omega), d3]
              simp only [optK_s, asS_s]
              rw [st1_s g16 (by rw [ln _ rfl]; omega) (by omega), set0]
              simp only [optK_s]
              generalize hH20 : H16.put H4.next (.cells (keyL { (⟨[], q, n, pat⟩ : Ky) with nm := nm }) t_api_Key false 0 false) = H20
              have g20 : H20.get H4.next = some (.cells (keyL ⟨nm, q, n, pat⟩) t_api_Key false 0 false) := by subst hH20; simp
              have g20' : H20.get H.next = some (.cells (keyL k0) t_api_Key false 0 false) := by subst hH20; rw [Heap.get_put_ne _ _ (by omega)]; exact g16'
              have k20 : Keep (fun j => j = H4.next ∨ j = H.next) H7 H20 := by subst hH20; exact k16.trans (Keep.put _ _ _ (.inl rfl)) fun _ _ h => h
              rw [ldAll g20 (ln _ rfl)]
              simp only [optK_s, asA_s]
              have hd : pairs (p.drop (2 * j)) = some [] := by rw [List.drop_eq_nil_of_le (by omega)]; rfl
              have hps : pairs p = some q := by
                cases hh : pairs p with
                | none => rw [hh, hd] at h2; cases h2
                | some q' =>
                  obtain ⟨t, t1, rfl⟩ := h1 q' hh
                  rw [hd] at t1; cases t1; simp
              have hls : lineW s = some ⟨nm, q, n, pat⟩ := by rw [hl4 n hrn, hps]; rfl
              refine line_end (B := 0) g20' ⟨hql, lnm, lpat, hu⟩ (by rw [hls]; rfl) (fun k' h => by rw [hls] at h; cases h; rfl) (Nat.le_refl _) ?_
              exact khi.to.trans (k20.mono (T := fun j => H.next ≤ j) fun j _ h => by rcases h with rfl | rfl <;> (show H.next ≤ _; omega)) fun _ _ h => h
            | succ k ih =>
              intro j m q H5 hj hm hq hu h1 h2 g5 g6 k5
              obtain ⟨m, rfl⟩ : ∃ m', m = m' + 1 := ⟨m - 1, by omega⟩
              have hx0 : p[2 * j]? = some p[2 * j] := List.getElem?_eq_getElem (by omega)
              have hx1 : p[2 * j + 1]? = some p[2 * j + 1] := List.getElem?_eq_getElem (by omega)
              generalize p[2 * j] = x at hx0
              generalize p[2 * j + 1] = y at hx1
              have hdr : p.drop (2 * j) = x :: y :: p.drop (2 * (j + 1)) := by rw [dropK hx0, dropK hx1, show 2 * j + 1 + 1 = 2 * (j + 1) by omega]
              obtain ⟨a', ea', b0, b1, b2, b3⟩ := at4 k5 hl7 hnot
              rw [ea] at ea'; cases ea'
              rw [ref15_line_p111110010_s, ea]
              simp only [decide_eq_true_eq, optK_s]
              have w1 : IntKind.wrap .i64 (2 * (j : Int)) = ((2 * j : Nat) : Int) := by rw [w64 (by omega)]; omega
              have w2 : IntKind.wrap .i64 (((2 * j : Nat) : Int) + 1) = ((2 * j + 1 : Nat) : Int) := by rw [w64 (by omega)]; omega
              rw [if_pos (by omega), if_pos (by omega), b1]
              simp only [optK_s, asS_s, slenS, w1, w2, Int.toNat_natCast]
              rw [if_pos (by omega), btS hx0, RHex_s]
              simp only [callK_s, asI_s]
              rw [if_pos (by omega), b1]
              simp only [optK_s, asS_s, slenS, btS hx1]
              rw [if_pos (by omega), RHex_s]
              simp only [callK_s, asI_s]
              have rx := hexI_range x
              have ry := hexI_range y
              have kH : Keep (fun j => H.next ≤ j) H H5 := khi.to.trans (k5.mono (T := fun j => H.next ≤ j) fun j _ h => by rcases h with rfl | rfl <;> (show H.next ≤ _; omega)) fun _ _ h => h
              have hK5 : KOK ⟨[], q ++ List.replicate (k + 1) 0, n, []⟩ := ⟨by simp; omega, by simp, by simp, fun v hv => by
                rcases List.mem_append.1 hv with hv | hv
                · exact hu v hv
                · rw [List.eq_of_mem_replicate hv]; omega⟩
              have bad : pairs (p.drop (2 * j)) = none → LineR H s (ref15_line_p11111001001001101 (d + 3) m H.next l H4.next (j : Int) (hexI x) (hexI y) true H5) := fun hp => by
                rw [ref15_line_p11111001001001101_eq, if_pos rfl]
                refine stop H5 _ hK5 kH g6 g5 ?_
                rw [hl4 n hrn]
                rw [hp] at h2
                cases hh : pairs p with
                | none => rfl
                | some _ => rw [hh] at h2; cases h2
              by_cases cx : hexI x < 0
              · rw [if_pos cx]; exact bad (by rw [hdr, pairs, if_neg (by omega)])
              · rw [if_neg cx]
                by_cases cy : hexI y < 0
                · rw [show decide (hexI y < 0) = true from decide_eq_true cy]; exact bad (by rw [hdr, pairs, if_neg (by omega)])
                · rw [show decide (hexI y < 0) = false from decide_eq_false cy, ref15_line_p11111001001001101_eq, if_neg (by simp), if_pos (by omega)]
                  have w3 : IntKind.wrap .u8 (IntKind.wrap .i64 ((IntKind.wrap .i64 (16 * hexI x)) + hexI y)) = 16 * hexI x + hexI y := by
                    rw [w64 (n := 16 * hexI x) (by omega), w64 (by omega)]
                    simp only [IntKind.wrap, IntKind.bits, IntKind.signed]
                    simp
                    omega
                  rw [w3, Nat.mul_one, Int.toNat_natCast, st1_s g5 (by rw [keyL_len hK5.1]; omega) (by omega), sets1 _ hK5.1 j (by omega)]
                  simp only [optK_s]
                  have hset : (q ++ List.replicate (k + 1) 0).set j (16 * hexI x + hexI y) = (q ++ [16 * hexI x + hexI y]) ++ List.replicate k 0 := by
                    rw [List.replicate_succ, ← hq]; simp
                  rw [hset, w64 (by omega), show ((j : Int) + 1) = ((j + 1 : Nat) : Int) by omega]
                  have hpn : pairs (p.drop (2 * j)) = (pairs (p.drop (2 * (j + 1)))).map fun l => (16 * hexI x + hexI y) :: l := by rw [hdr, pairs, if_pos (by omega)]
                  refine ih (j + 1) m (q ++ [16 * hexI x + hexI y]) _ (by omega) (by omega) (by simp [hq]) (fun v hv => ?_) (fun q' hq' => ?_) ?_ (by simp) (by rw [Heap.get_put_ne _ _ (by omega)]; exact g6) (k5.trans (Keep.put _ _ _ (.inl rfl)) fun _ _ h => h)
                  · rcases List.mem_append.1 hv with hv | hv
                    · exact hu v hv
                    · simp only [List.mem_singleton] at hv; omega
                  · obtain ⟨t, t1, rfl⟩ := h1 q' hq'
                    rw [hpn] at t1
                    obtain ⟨t', t2, rfl⟩ := Option.map_eq_some_iff.1 t1
                    exact ⟨t', t2, by simp⟩
                  · rw [← h2, hpn]; cases pairs (p.drop (2 * (j + 1))) <;> rfl
          have go : ∀ n : Int, rightsW r = some n → LineR H s (optK (Heap.st1 H7 ⟨H4.next, 33, none⟩ (.int .i64 n)) fun H9 => ref15_line_p11111 (d + 3) H.next l H4.next H9) := fun n hn => by
            rw [st1_s g7 (by omega) (by omega), set33 k0 (by simp [k0])]
            simp only [optK_s]
            rw [ref15_line_p11111_eq]
            exact digits n hn 32 0 NN [] _ (by omega) (NN_big _ (by omega)) rfl (fun _ h => by cases h) (fun q' h => ⟨q', h, rfl⟩) rfl (by simp; rfl) (by rw [Heap.get_put_ne _ _ (by omega)]; exact g2') (Keep.put _ _ _ (.inl rfl))
          by_cases t1 : r = [115]
          · rw [if_pos t1]; exact go 1 (by simp [rightsW, t1])
          rw [if_neg t1]
          by_cases t2 : r = [116]
          · rw [if_pos t2]; exact go 2 (by simp [rightsW, t2])
          rw [if_neg t2]
          by_cases t3 : r = [115, 116]
          · rw [if_pos t3]; exact go 3 (by simp [rightsW, t3])
          rw [if_neg t3]
          by_cases t4 : r = [114]
          · rw [if_pos t4]; exact go 4 (by simp [rightsW, t4])
          rw [if_neg t4]
          by_cases t5 : r = [115, 114]
          · rw [if_pos t5]; exact go 5 (by simp [rightsW, t5])
          rw [if_neg t5]
          by_cases t6 : r = [116, 114]
          · rw [if_pos t6]; exact go 6 (by simp [rightsW, t6])
          rw [if_neg t6]
          by_cases t7 : r = [115, 116, 114]
          · rw [if_pos t7]; exact go 7 (by simp [rightsW, t7])
          rw [if_neg t7]
          have hnone : rightsW r = none := by simp [rightsW, t1, t2, t3, t4, t5, t6, t7]
          exact stop H7 k0 ⟨by simp [k0], by simp [k0], by simp [k0], U8L.zero 32⟩ khi.to g2' g7 (by rw [hline]; unfold line4; rw [hnone])
    · rw [if_pos (by simp; omega)]
      exact stop0 (by rw [hline]; unfold line4 pubW; rw [if_neg c64]; split <;> simp_all)
  · rw [if_pos (by simp; omega)]
    refine stop0 ?_
    unfold lineW; split
    · rename_i h; rw [h] at c4; simp at c4
    · rfl

theorem RParse_b (d : Nat) (t : W) (ht : t.length ≤ 1048576) (H : Heap) : ParseR H (parseW t) (X (d + 5) n_ref15_Parse [.string (S t)] H) := by
  rw [ref15_Parse_eq]
  obtain ⟨l, H2, e1, hl, k2⟩ := RSplit_s (d + 3) 10 t ht H
  rw [show (10 : Int) = ((10 : UInt8).toNat : Int) from rfl, e1]
  simp only [callK_s, show ∀ (s : Sl) (K : Sl → Res), asSL s.v K = K s from fun _ _ => rfl]
  have hnum := splW_num 10 t
  have hlen : ∀ s ∈ splW 10 t, s.length ≤ 1048576 := fun s hs => by have := splW_len hs; omega
  unfold parseW
  generalize splW 10 t = Ls at *
  have hn := hl.num
  have loop : ∀ (m i : Nat) (x : Sl) (L : List Ky) (H1 : Heap), i ≤ Ls.length → Ls.length - i < m → Kys H1 x L → L.length ≤ 20 → Keep0 H2 H1 → (∀ j, x.at j → H2.next ≤ j) →
      ParseR H (parseG L i (Ls.drop i)) (ref15_Parse_p111010 (d + 4) m x l (i : Int) H1) := by
    intro m
    induction m with
    | zero => intro i x L H1 h1 h2; omega
    | succ m ih =>
      intro i x L H1 hi hm hx hL hk hB
      rw [ref15_Parse_p111010_s]
      simp only [decide_eq_true_eq]
      by_cases c : i < Ls.length
      · rw [if_pos (by omega)]
        have hc : Ls[i]? = some Ls[i] := List.getElem?_eq_getElem c
        have hsl := hlen _ (List.getElem_mem c)
        generalize Ls[i] = s at hc hsl
        obtain ⟨a, ea, _, a1⟩ := (hl.keep0 hk).at hc
        rw [ea]
        simp only [optK_s]
        rw [if_pos (by omega), Int.toNat_natCast, a1]
        simp only [optK_s, asS_s]
        have wi : IntKind.wrap .i64 ((i : Int) + 1) = ((i + 1 : Nat) : Int) := by rw [w64 (by omega)]; omega
        rw [dropK hc, parseG]
        have hnil : ∀ (H5 : Heap) (e : Nat), Keep0 H2 H5 → ParseR H ([], i + 1, e) (some (.tuple #[.slice none 0 0, .int .i64 (IntKind.wrap .i64 ((i : Int) + 1)), .int .i64 (e : Int)], H5)) := fun H5 e h5 =>
          ⟨Sl.nil, H5, by rw [wi], Kys.nil H5, by simp, k2.trans h5⟩
        have sk : ∀ b, b = skipW s → ParseR H (if skipW s = true then parseG L (i + 1) (Ls.drop (i + 1)) else match lineW s with
            | none => ([], i + 1, 5)
            | some k => if twiceB L k = true then ([], i + 1, 15) else if 20 ≤ L.length then ([], i + 1, 2) else parseG (L ++ [k]) (i + 1) (Ls.drop (i + 1)))
            (ref15_Parse_p111010010001 (d + 4) m x l (i : Int) b H1) := by
          intro b hb
          rw [← hb, ref15_Parse_p111010010001_eq]
          cases b with
          | true => rw [if_pos rfl, if_pos rfl, ref15_Parse_p111010011_eq, wi]; exact ih (i + 1) x L H1 (by omega) (by omega) hx hL hk hB
          | false =>
            rw [if_neg (by simp), if_neg (by simp), ← k0_eq, ea]
            simp only [optK_s]
            rw [if_pos (show (0 : Int) ≤ (i : Int) ∧ (i : Int) < (l.n : Int) by omega), Int.toNat_natCast, a1]
            simp only [optK_s, asS_s]
            obtain ⟨k, b, H3, e3, q1, q2, q3, k3⟩ := RLine_b d s hsl H1
            rw [e3]
            simp only [callK_s, castT_s, castL_c, castL_n, cast0, List.getElem?_cons_zero, List.getElem?_cons_succ, optK_s, asA_s, asB_s, newK_s]
            rw [storeN (n := 35) (Heap.get_new_same H3 _) (keyL_len (by simp [k0])) (keyL_len q1.1) (keyL_one k) (by omega)]
            have k12 := cpH_keep H3 (keyL k) (keyL k0) t_api_Key
            have g12 := cpH_get H3 (keyL k) (keyL k0) t_api_Key
            have n12 := cpH_next H3 (keyL k) (keyL k0) t_api_Key
            rw [show (H3.new (.cells (keyL k0) t_api_Key false 0 false)).put H3.next (.cells (keyL k) t_api_Key false 0 false) = cpH H3 (keyL k) t_api_Key (keyL k0) from rfl]
            generalize cpH H3 (keyL k) t_api_Key (keyL k0) = H12 at *
            have kk12 := (hk.trans k3).trans k12
            rw [q2]
            cases h1 : lineW s with
            | none => rw [if_pos (by rfl)]; exact hnil H12 5 kk12
            | some k' =>
              have hkk := q3 k' h1
              subst hkk
              rw [if_neg (by simp)]
              have hx12 := hx.keep (k3.trans k12) (fun _ _ h => h)
              have hR := RK.of hx12 (by omega)
              have hnx := hx.num
              -- against those ahead
              have inner : ∀ (m1 j : Nat), j ≤ L.length → L.length - j < m1 → ref15_Parse_p1110100100111010 (d + 4) m m1 x l (i : Int) H3.next (j : Int) H12 =
                  if twiceB (L.drop j) k = true then some (.tuple #[.slice none 0 0, .int .i64 (IntKind.wrap .i64 ((i : Int) + 1)), .int .i64 15], H12) else ref15_Parse_p1110100100111010 (d + 4) m (0 + 1) x l (i : Int) H3.next (L.length : Int) H12 := by
                intro m1
                induction m1 with
                | zero => intro j h1 h2; omega
                | succ m1 ih1 =>
                  intro j hj hm1
                  by_cases cj : j < L.length
                  · rw [ref15_Parse_p1110100100111010_s]
                    simp only [decide_eq_true_eq]
                    rw [if_pos (by omega)]
                    have hq : L[j]? = some L[j] := List.getElem?_eq_getElem cj
                    have hqk := hx.2 _ (List.getElem_mem cj)
                    generalize L[j] = q at hq hqk
                    obtain ⟨aq, eq1, _, eq2, eq3, _⟩ := (hR.at hq).all
                    rw [eq1]
                    simp only [optK_s]
                    rw [if_pos (by omega), Int.toNat_natCast, eq2]
                    simp only [optK_s, asA_s]
                    rw [ld32 g12 q1.1]
                    simp only [optK_s, asA_s]
                    rw [sz32 hqk.1 q1.1]
                    simp only [chk_s]
                    rw [show eqL _ (pubL q.pub) (pubL k.pub) = _ from ee_eq q.pub k.pub hqk.1 q1.1]
                    rw [dropK hq, twiceB, List.any_cons, ← twiceB]
                    simp only [optK_s]
                    by_cases c1 : q.pub = k.pub
                    · rw [if_pos (by simpa using c1), ref15_Parse_p111010010011101001001_eq, if_pos rfl]
                      simp [c1]
                    · rw [if_neg (by simpa using c1), if_pos (by omega), eq3]
                      simp only [optK_s, asS_s]
                      rw [ld1_s g12, get0]
                      simp only [optK_s, asS_s, sEqS]
                      rw [ref15_Parse_p111010010011101001001_eq]
                      by_cases c2 : q.nm = k.nm
                      · simp [c2]
                      · rw [if_neg (by simp [c2]), w64 (by omega), show ((j : Int) + 1) = ((j + 1 : Nat) : Int) by omega, ih1 (j + 1) (by omega) (by omega)]
                        simp [c1, c2]
                  · have : j = L.length := by omega
                    subst this
                    rw [List.drop_length, if_neg (by simp [twiceB])]
                    rw [ref15_Parse_p1110100100111010_s, ref15_Parse_p1110100100111010_s]
                    simp only [decide_eq_true_eq]
                    rw [if_neg (show ¬ (L.length : Int) < (x.n : Int) by omega), if_neg (show ¬ (L.length : Int) < (x.n : Int) by omega)]
              rw [show (0 : Int) = ((0 : Nat) : Int) from rfl, inner NN 0 (by omega) (NN_big _ (by omega)), List.drop_zero]
              simp only
              cases h2 : twiceB L k with
              | true => rw [if_pos rfl, if_pos rfl]; exact hnil H12 15 kk12
              | false =>
                simp only [Bool.false_eq_true, if_false]
                rw [ref15_Parse_p1110100100111010_s, ← k0_eq]
                simp only [decide_eq_true_eq]
                rw [if_neg (show ¬ (L.length : Int) < (x.n : Int) by omega)]
                by_cases h3 : 20 ≤ L.length
                · rw [if_pos h3, if_pos (by omega)]; exact hnil H12 2 kk12
                · rw [if_neg h3, if_neg (by omega), ldAll g12 (keyL_len q1.1)]
                  simp only [optK_s, asA_s]
                  rw [k0_eq, fill1 k q1.1]
                  simp only [optK_s, newK_s]
                  obtain ⟨y, H', p1, p2, p3, p4⟩ := parse_push hx12 q1 (by omega)
                  rw [p1]
                  simp only [show ∀ (s : Sl) (K : Sl → Res), asSL s.v K = K s from fun _ _ => rfl]
                  rw [ref15_Parse_p111010011_eq, wi]
                  have n12' := kk12.1
                  exact ih (i + 1) y (L ++ [k]) H' (by omega) (by omega) p2 (by simp; omega) ⟨Nat.le_trans kk12.1 p3.1, fun j hj _ => (p3.2 j (by omega) (fun hj' => by have := hB j hj'; omega)).trans (kk12.2 j hj id)⟩ (fun j hj => by have := p4 j hj; omega)
        have := skip_s s
        by_cases hs0 : sEq (S s) (S []) = true
        · rw [if_pos hs0] at this ⊢
          exact sk true this
        · rw [if_neg hs0] at this ⊢
          have hpos : 0 < s.length := by
            cases s with
            | nil => exact absurd rfl hs0
            | cons a l => simp
          rw [if_pos (show (0 : Int) ≤ (i : Int) ∧ (i : Int) < (l.n : Int) by omega)]
          rw [slenS, if_pos (show 0 ≤ (0 : Int) ∧ (0 : Int) < (s.length : Int) by omega)]
          exact sk _ this
      · rw [if_neg (by omega), List.drop_eq_nil_of_le (by omega), parseG]
        exact ⟨x, H1, rfl, hx, hL, k2.trans hk⟩
  exact loop NN 0 Sl.nil [] H2 (by omega) (NN_big _ (by omega)) (Kys.nil H2) (by simp) (Keep.refl _) (fun j hj => absurd hj Sl.at_nil)
end Go.Proofs.YthphbdkhbaijlaaDoor.dec

namespace Go.Proofs.YthphbdkhbaijlaaDoor.dec
open Go Go.Cm

attribute [local congr] optK_congr asI_congr asN_congr asB_congr asS_congr asP_congr asA_congr asSL_congr callK_congr castT_congr chk_congr

theorem same_s (d : Nat) (x y : Sl) (L : List Ky) (H : Heap) (hx : RK H x L) (hy : RK H y L) : X (d + 1) n_law17_same [x.v, y.v] H = some (.bool true, H) := by
  rw [law17_same_eq, if_neg (by simp [hx.1, hy.1])]
  have hL := hx.2.2.1
  have h1 := hx.1
  have h2 := hy.1
  have loop : ∀ (m i : Nat), i ≤ L.length → L.length - i < m → law17_same_p11010 d m x y (i : Int) H = some (.bool true, H) := by
    intro m
    induction m with
    | zero => intro i h1 h2; omega
    | succ m ih =>
      intro i hi hm
      rw [law17_same_p11010_s]
      simp only [decide_eq_true_eq]
      by_cases c : i < L.length
      · have hc : L[i]? = some L[i] := List.getElem?_eq_getElem c
        have hok := hx.2.2.2.1 _ (List.getElem_mem c)
        generalize L[i] = k at hc hok
        obtain ⟨a, e1, e2, _⟩ := (hx.at hc).all
        obtain ⟨b, f1, f2, _⟩ := (hy.at hc).all
        rw [if_pos (by omega), e1, f1]
        simp only [optK_s]
        rw [if_pos (by omega), Int.toNat_natCast, e2]
        simp only [optK_s, asA_s]
        rw [if_pos (by omega), f2]
        simp only [optK_s, asA_s]
        rw [show (Array.size (⟨keyL k⟩ : Array Value) == 35 && Array.size (⟨keyL k⟩ : Array Value) == 35) = true from by
          have h1 : Array.size (⟨keyL k⟩ : Array Value) = 35 := keyL_len hok.1
          rw [h1]; rfl]
        simp only [chk_s]
        rw [eqKey k hok.1]
        simp only [optK_s]
        rw [if_neg (by simp), w64 (by omega), show ((i : Int) + 1) = ((i + 1 : Nat) : Int) by omega]
        exact ih (i + 1) (by omega) (by omega)
      · rw [if_neg (by omega)]
  exact loop NN 0 (by omega) (NN_big _ (by omega))

theorem asSl_s {α : Type} {a : Option Addr} {n c : Nat} {K : Option Addr → Nat → Nat → Option α} : asSl (.slice a n c) K = K a n c := by simp only [asSl]
theorem cast3 (y : Sl) (a b : Int) (K : List Value → Res) : castT [.sl, .int .i64, .int .i64] (.tuple ⟨[Sl.v y, .int .i64 a, .int .i64 b]⟩) K = K [Sl.v y, .int .i64 a, .int .i64 b] := by
  obtain ⟨o, n, c⟩ := y
  simp only [castT_s, castL_c, castL_n, cast0, Sl.v, asSl_s, asI_s]
theorem parses_body (d : Nat) (t : W) (ht : t.length ≤ 1048576) (H : Heap) : ∃ H', law17_KeysParses_p11 (d + 6) (S t) H = some (.bool true, H') := by
  rw [law17_KeysParses_p11_eq]
  obtain ⟨y, H2, e1, q1, q2, k2⟩ := Parse_b d t ht H
  obtain ⟨z, H3, e3, r1, r2, k3⟩ := RParse_b (d + 1) t ht H2
  have hs := same_s (d + 5) y z _ H3 (RK.of (q1.keep k3 (fun _ _ h => h)) (by omega)) (RK.of r1 (by omega))
  have hy : ∀ K : Sl → Res, asSL y.v K = K y := fun _ => rfl
  have hz : ∀ K : Sl → Res, asSL z.v K = K z := fun _ => rfl
  generalize ((parseW t).2.1 : Int) = a at *
  generalize ((parseW t).2.2 : Int) = b at *
  rw [e1, callK_s, cast3, cast3]
  simp only [List.getElem?_cons_zero, List.getElem?_cons_succ, optK_s, asI_s, hy]
  rw [e3, callK_s, cast3, cast3]
  simp only [List.getElem?_cons_zero, List.getElem?_cons_succ, optK_s, asI_s, hz]
  rw [known_s]
  simp only [callK_s, asB_s]
  rw [if_pos True.intro, hs]
  simp only [callK_s, asB_s]
  refine ⟨H3, ?_⟩
  simp only [decide_true, if_true]

theorem KeysParses_s (d B : Nat) (t : W) (x : Sl) (x2 x4 : Int) (x3 : UInt8) (H : Heap) (ht0 : t.length ≤ 1048576) (hr : RawK H B x) (ht : Tabs B H) : ∃ H', X (d + 7) n_law17_KeysParses [.string (S t), x.v, .int .i64 x2, .int .u8 (x3.toNat : Int), .int .i64 x4] H = some (.bool true, H') := by
  rw [law17_KeysParses_eq]
  simp only [decide_eq_true_eq]
  by_cases c : 0 < Int.tmod x4 4
  · rw [if_pos c]
    obtain ⟨y, L, H2, e, hk, _, hL, kk⟩ := list_s (d + 4) B x H hr ht
    rw [e]
    simp only [callK_s, show ∀ (s : Sl) (K : Sl → Res), asSL s.v K = K s from fun _ _ => rfl]
    have hx := RK.of hk (by omega)
    rw [RPrint_b (d + 2) y L H2 hx]
    unfold printR
    cases hr : rightB L with
    | false =>
      rw [if_neg (by simp)]
      simp only [callK_s, castT_s, castL_c, castL_n, cast0, List.getElem?_cons_zero, List.getElem?_cons_succ, optK_s, asS_s, asI_s]
      rw [if_neg (by omega)]
      exact parses_body d t ht0 H2
    | true =>
      obtain ⟨hR, hL20⟩ := rightB_all hr
      have hlen := printL_len hR hx.2.2.2.1
      generalize printL L = s at hlen
      rw [if_pos rfl]
      simp only [callK_s, castT_s, castL_c, castL_n, cast0, List.getElem?_cons_zero, List.getElem?_cons_succ, optK_s, asS_s, asI_s]
      rw [if_pos True.intro]
      obtain ⟨r, e6, r1, r2⟩ := Pick_s (d + 5) x4 6 H2 (by omega) (by omega)
      rw [e6]
      simp only [callK_s, asI_s, slenS]
      by_cases c0 : r = 0
      · rw [if_pos c0]
        by_cases c1 : 0 < s.length
        · rw [if_pos (by omega)]
          obtain ⟨n, e7, n1, n2⟩ := Pick_s (d + 5) x2 (s.length : Int) H2 (by omega) (by omega)
          rw [e7]
          simp only [callK_s, asI_s]
          obtain ⟨m, rfl⟩ := Int.eq_ofNat_of_zero_le n1
          have w1 : IntKind.wrap .i64 ((m : Int) + 1) = ((m + 1 : Nat) : Int) := by rw [w64 (by omega)]; omega
          rw [if_pos (by omega), newK_s]
          have hb : ∀ H1 : Heap, readD .bytesStr [.slice (some ⟨H1.next, 0, none⟩) 1 1] (H1.new (.cells [.int .u8 (x3.toNat : Int)] t_uint8 false 0 false)) = some (.string (S [x3])) := fun H1 => by
            simp only [readD]
            rw [if_neg (by omega), ldN_s (Heap.get_new_same H1 _) (by simp)]
            show (match bytesOf (bc [x3]) with
              | some r => some (Value.string (S r))
              | none => none) = _
            rw [bytesOf_bc]
          rw [hb]
          simp only [optK_s, asS_s, slenS, sSubS, sCatS, w1, Int.toNat_natCast, List.length_append, List.length_drop, List.length_take, List.length_cons, List.length_nil]
          rw [if_pos (by omega), if_pos (by omega), if_pos (by omega)]
          exact parses_body d _ (by simp only [List.length_append, List.length_drop, List.length_take, List.length_cons, List.length_nil]; omega) _
        · rw [if_neg (by omega)]
          exact parses_body d s (by omega) H2
      · rw [if_neg c0]
        by_cases c1 : r = 1
        · rw [if_pos c1]
          simp only [slenS, sCatS, List.length_append, List.length_cons, List.length_nil]
          rw [if_pos (by omega), if_pos (by omega)]
          exact parses_body d _ (by simp only [List.length_append, List.length_cons, List.length_nil]; omega) H2
        · rw [if_neg c1]
          by_cases c2 : r = 2
          · rw [if_pos c2]
            by_cases c3 : 0 < s.length
            · rw [if_pos (by omega)]
              obtain ⟨n, e7, n1, n2⟩ := Pick_s (d + 5) x2 (s.length : Int) H2 (by omega) (by omega)
              rw [e7]
              simp only [callK_s, asI_s]
              obtain ⟨m, rfl⟩ := Int.eq_ofNat_of_zero_le n1
              have w1 : IntKind.wrap .i64 ((m : Int) + 1) = ((m + 1 : Nat) : Int) := by rw [w64 (by omega)]; omega
              simp only [slenS, sSubS, sCatS, w1, Int.toNat_natCast, List.length_append, List.length_drop, List.length_take]
              rw [if_pos (by omega), if_pos (by omega), if_pos (by omega)]
              exact parses_body d _ (by simp only [List.length_append, List.length_drop, List.length_take]; omega) _
            · rw [if_neg (by omega)]
              exact parses_body d s (by omega) H2
          · rw [if_neg c2]
            exact parses_body d s (by omega) H2
  · rw [if_neg c]
    exact parses_body d t ht0 H
end Go.Proofs.YthphbdkhbaijlaaDoor.dec

namespace Go.Proofs.YthphbdkhbaijlaaDoor.dec
open Go Go.Cm

theorem splW_app {c : UInt8} : ∀ {w : W} (t : W), c ∉ w → splW c (w ++ t) = pre w (splW c t) := by
  intro w
  induction w with
  | nil => intro t _; rw [List.nil_append, pre_nil (splW_ne _ _)]
  | cons b w ih =>
    intro t h
    rw [List.cons_append, splW, if_neg (fun e => h (by simp [e])), ih t (fun e => h (by simp [e])), pre_pre]
    rfl
theorem splW_line {c : UInt8} {w t : W} (h : c ∉ w) : splW c (w ++ c :: t) = w :: splW c t := by
  rw [splW_app _ h, splW, if_pos rfl, pre, List.append_nil]
theorem splW_last {c : UInt8} {w : W} (h : c ∉ w) : splW c w = [w] := by
  have := splW_app (c := c) [] h
  rw [List.append_nil] at this
  rw [this, splW, pre, List.append_nil]

/-! ### no blank, no end of line in a word -/
def okB (c : UInt8) : Bool := plainB c || ([42, 63] : W).contains c
set_option maxRecDepth 100000 in
theorem okB_not {c : UInt8} (h : okB c = true) : c ≠ 32 ∧ c ≠ 10 ∧ c ≠ 35 := by
  have : ∀ n : Fin 256, okB (UInt8.ofFin n) = true → UInt8.ofFin n ≠ 32 ∧ UInt8.ofFin n ≠ 10 ∧ UInt8.ofFin n ≠ 35 := by decide
  exact this c.toFin h
theorem word_ok {w more : W} {n : Nat} (h : wordB w more n = true) (hm : ∀ c, more.contains c = true → ([42, 63] : W).contains c = true) : ∀ c ∈ w, okB c = true := by
  simp only [wordB, Bool.and_eq_true, List.all_eq_true] at h
  intro c hc
  have := h.1 c hc
  simp only [okB, Bool.or_eq_true] at this ⊢
  rcases this with h | h
  · exact .inl h
  · exact .inr (hm c h)
set_option maxRecDepth 100000 in
theorem dig_ok : ∀ n : Fin 16, okB (hexD n.val) = true ∧ hexI (hexD n.val) = (n.val : Int) := by decide
theorem hexs_ok {p : List Int} (h : U8L p) : ∀ c ∈ hexsOf p, okB c = true := by
  induction p with
  | nil => intro c hc; cases hc
  | cons a p ih =>
    intro c hc
    rw [hexs_cons] at hc
    have ha := h a (by simp)
    rcases List.mem_append.1 hc with hc | hc
    · simp only [hexB, List.mem_cons, List.not_mem_nil, or_false] at hc
      rcases hc with rfl | rfl
      · exact (dig_ok ⟨a.toNat / 16, by omega⟩).1
      · exact (dig_ok ⟨a.toNat % 16, by omega⟩).1
    · exact ih (fun n hn => h n (by simp [hn])) c hc
theorem pairs_hexs : ∀ {p : List Int}, U8L p → pairs (hexsOf p) = some p := by
  intro p
  induction p with
  | nil => intro _; rfl
  | cons a p ih =>
    intro h
    have ha := h a (by simp)
    have h1 := (dig_ok ⟨a.toNat / 16, by omega⟩).2
    have h2 := (dig_ok ⟨a.toNat % 16, by omega⟩).2
    simp only at h1 h2
    rw [hexs_cons]
    show pairs (hexD (a.toNat / 16) :: hexD (a.toNat % 16) :: hexsOf p) = _
    rw [pairs, h1, h2, if_pos (by omega), ih (fun n hn => h n (by simp [hn]))]
    simp only [Option.map_some, Option.some.injEq, List.cons.injEq, and_true]
    omega
theorem letters_ok {n : Int} (h1 : 1 ≤ n) (h7 : n ≤ 7) : rightsW (lettersOf n) = some n ∧ (∀ c ∈ lettersOf n, okB c = true) ∧ lettersOf n ≠ [] := by
  have hn : n = 1 ∨ n = 2 ∨ n = 3 ∨ n = 4 ∨ n = 5 ∨ n = 6 ∨ n = 7 := by omega
  rcases hn with rfl | rfl | rfl | rfl | rfl | rfl | rfl <;> exact ⟨by decide, by decide, by decide⟩

def bodyK (k : Ky) : W := lettersOf k.rights ++ 32 :: (hexsOf k.pub ++ 32 :: (k.pat ++ 32 :: k.nm))
theorem printK_body (k : Ky) : printK k = bodyK k ++ [10] := by simp [printK, bodyK, tailK]

theorem ok_not {w : W} (h : ∀ c ∈ w, okB c = true) : (32 : UInt8) ∉ w ∧ (10 : UInt8) ∉ w ∧ (35 : UInt8) ∉ w := ⟨fun e => (okB_not (h _ e)).1 rfl, fun e => (okB_not (h _ e)).2.1 rfl, fun e => (okB_not (h _ e)).2.2 rfl⟩

theorem one_words {k : Ky} (ho : oneB k = true) : (∀ c ∈ k.nm, okB c = true) ∧ (∀ c ∈ k.pat, okB c = true) := by
  simp only [oneB, Bool.and_eq_true] at ho
  exact ⟨word_ok ho.1 (fun c h => by cases h), word_ok ho.2.2.2 (fun c h => h)⟩

theorem body_ok {k : Ky} (hk : KOK k) (ho : oneB k = true) : lineW (bodyK k) = some k ∧ (10 : UInt8) ∉ bodyK k ∧ skipW (bodyK k) = false := by
  have hr := oneB_right ho
  obtain ⟨l1, l2, l3⟩ := letters_ok hr.2.2.1 hr.2.2.2
  have hx := hexs_ok hk.2.2.2
  obtain ⟨wn, wp⟩ := one_words ho
  have nl := ok_not l2
  have nx := ok_not hx
  have nn := ok_not wn
  have np := ok_not wp
  refine ⟨?_, ?_, ?_⟩
  · unfold lineW bodyK
    rw [splW_line nl.1, splW_line nx.1, splW_line np.1, splW_last nn.1]
    simp only [line4, l1]
    have : pubW (hexsOf k.pub) = some k.pub := by
      unfold pubW; rw [if_pos (by rw [hexs_len, hk.1]), pairs_hexs hk.2.2.2]
    rw [this]
    simp only [oneB, Bool.and_eq_true] at ho
    simp only [ho.1, ho.2.2.2, Bool.and_self, if_true]
  · intro h
    unfold bodyK at h
    simp only [List.mem_append, List.mem_cons] at h
    rcases h with h | h | h | h | h | h | h
    · exact nl.2.1 h
    · cases h
    · exact nx.2.1 h
    · cases h
    · exact np.2.1 h
    · cases h
    · exact nn.2.1 h
  · unfold bodyK
    cases hl : lettersOf k.rights with
    | nil => exact absurd hl l3
    | cons a l =>
      have : a ≠ 35 := (okB_not (l2 a (by rw [hl]; simp))).2.2
      simp [skipW, this]

/-! ### texts that go from keys to keys -/
def cnt (s : W) : Nat := s.count 10
def Goes (L R : List Ky) (s : W) : Prop := ∀ (i : Nat) (t : W), parseG L i (splW 10 (s ++ t)) = parseG R (i + cnt s) (splW 10 t)
theorem Goes.nil (L : List Ky) : Goes L L [] := fun i t => rfl
theorem Goes.app {L M R : List Ky} {a b : W} (h1 : Goes L M a) (h2 : Goes M R b) : Goes L R (a ++ b) := fun i t => by
  rw [List.append_assoc, h1 i (b ++ t), h2 (i + cnt a) t, cnt, cnt, cnt, List.count_append, Nat.add_assoc]
theorem Goes.line {L R : List Ky} {w : W} (hw : (10 : UInt8) ∉ w) (h : ∀ i r, parseG L i (w :: r) = parseG R (i + 1) r) : Goes L R (w ++ [10]) := fun i t => by
  rw [show w ++ [10] ++ t = w ++ 10 :: t by simp, splW_line hw, h]
  have : cnt (w ++ [10]) = 1 := by rw [cnt, List.count_append, List.count_eq_zero.2 hw]; rfl
  rw [this]
theorem Goes.skip {L : List Ky} {w : W} (hw : (10 : UInt8) ∉ w) (h : skipW w = true) : Goes L L (w ++ [10]) := Goes.line hw fun i r => by rw [parseG, if_pos h]
theorem Goes.key {L : List Ky} {k : Ky} (hk : KOK k) (ho : oneB k = true) (ht : twiceB L k = false) (hL : L.length < 20) : Goes L (L ++ [k]) (printK k) := by
  obtain ⟨b1, b2, b3⟩ := body_ok hk ho
  rw [printK_body]
  refine Goes.line b2 fun i r => ?_
  rw [parseG, b3, b1]
  simp only [Bool.false_eq_true, if_false, ht]
  rw [if_neg (by omega)]
theorem Goes.keys : ∀ {R L : List Ky}, (∀ k ∈ R, KOK k) → rightA L R = true → L.length + R.length ≤ 20 → Goes L (L ++ R) (printL R) := by
  intro R
  induction R with
  | nil => intro L _ _ _; rw [List.append_nil]; exact Goes.nil L
  | cons k R ih =>
    intro L hk hr hL
    simp only [rightA, Bool.and_eq_true, Bool.not_eq_true'] at hr
    simp only [List.length_cons] at hL
    have h1 := Goes.key (hk k (by simp)) hr.1 hr.2.1 (by omega)
    have h2 := ih (L := L ++ [k]) (fun q hq => hk q (by simp [hq])) hr.2.2 (by simp; omega)
    have := h1.app h2
    rw [List.append_assoc] at this
    exact this
theorem Goes.parse {R : List Ky} {s : W} (h : Goes [] R s) : parseW s = (R, 0, 0) := by
  have := h 0 []
  rw [List.append_nil] at this
  unfold parseW
  rw [this, splW, parseG, if_pos (show skipW [] = true from rfl), parseG]
theorem Goes.bad {R : List Ky} {s : W} (h : Goes [] R s) : parseW (s ++ [110, 111, 32, 107, 101, 121]) = ([], cnt s + 1, 5) := by
  unfold parseW
  rw [h 0]
  rw [show splW 10 [110, 111, 32, 107, 101, 121] = [[110, 111, 32, 107, 101, 121]] from by decide, parseG, if_neg (by decide)]
  rw [show lineW [110, 111, 32, 107, 101, 121] = none from by unfold lineW; rw [show splW 32 [110, 111, 32, 107, 101, 121] = [[110, 111], [107, 101, 121]] from by decide]]
  simp only [Nat.zero_add]

theorem back_law {L : List Ky} (hk : ∀ k ∈ L, KOK k) (hr : rightB L = true) : parseW (printL L) = (L, 0, 0) := by
  simp only [rightB, Bool.and_eq_true, decide_eq_true_eq] at hr
  have := Goes.keys (L := []) hk hr.1 (by simpa using hr.2)
  rw [List.nil_append] at this
  exact this.parse

/-- one key alone may be -/
theorem right_one {L : List Ky} (h : rightB L = true) {k : Ky} (hk : k ∈ L) : rightB [k] = true := by
  simp only [rightB, Bool.and_eq_true] at h
  have := rightA_all h.1 k hk
  simp [rightB, rightA, twiceB, this]
/-- what is ahead of a key -/
theorem right_at {L : List Ky} (h : rightB L = true) {i : Nat} {k : Ky} (hi : L[i]? = some k) : oneB k = true ∧ twiceB (L.take i) k = false := by
  simp only [rightB, Bool.and_eq_true] at h
  have gen : ∀ (R P : List Ky) (j : Nat), rightA P R = true → R[j]? = some k → oneB k = true ∧ twiceB (P ++ R.take j) k = false := by
    intro R
    induction R with
    | nil => intro P j _ h; cases h
    | cons q R ih =>
      intro P j hr hj
      simp only [rightA, Bool.and_eq_true, Bool.not_eq_true'] at hr
      cases j with
      | zero =>
        simp only [List.getElem?_cons_zero, Option.some.injEq] at hj
        subst hj
        simpa using ⟨hr.1, hr.2.1⟩
      | succ j =>
        have := ih (P ++ [q]) j hr.2.2 (by simpa using hj)
        simpa using this
  simpa using gen L [] i h.1 hi
end Go.Proofs.YthphbdkhbaijlaaDoor.dec

namespace Go.Proofs.YthphbdkhbaijlaaDoor.dec
open Go Go.Cm

attribute [local congr] optK_congr asI_congr asN_congr asB_congr asS_congr asP_congr asA_congr asSL_congr callK_congr castT_congr chk_congr

theorem cast2s (s : ByteArray) (a : Int) (K : List Value → Res) : castT [.str, .int .i64] (.tuple ⟨[.string s, .int .i64 a]⟩) K = K [.string s, .int .i64 a] := by
  simp only [castT_s, castL_c, castL_n, cast0, asS_s, asI_s]

theorem KeysBack_s (d B : Nat) (x : Sl) (H : Heap) (hr : RawK H B x) (ht : Tabs B H) : ∃ H', X (d + 7) n_law17_KeysBack [x.v] H = some (.bool true, H') := by
  rw [law17_KeysBack_eq]
  obtain ⟨y, L, H2, e, hk, _, hL, kk⟩ := list_s (d + 4) B x H hr ht
  rw [e, callK_s]
  rw [show ∀ K : Sl → Res, asSL y.v K = K y from fun _ => rfl]
  have hx := RK.of hk (by omega)
  obtain ⟨H5, e5, k5⟩ := Print_b (d + 1) y L H2 hx
  have hx5 := hx.keep0 k5
  rw [e5, callK_s]
  obtain ⟨H6, e6, k6⟩ := Right_b (d + 2) y L H5 hx5
  unfold printR
  cases hr : rightB L with
  | false =>
    rw [hr] at e6
    rw [if_neg (by simp), cast2s, cast2s]
    simp only [List.getElem?_cons_zero, List.getElem?_cons_succ, optK_s, asS_s, asI_s]
    rw [known_s, callK_s, asB_s, if_neg (by simp), law17_KeysBack_p11101_eq, if_pos (by simp), known_s, callK_s, asB_s, if_pos rfl, e6, callK_s, asB_s, if_pos (by rfl), sEqS]
    exact ⟨H6, rfl⟩
  | true =>
    rw [if_pos rfl, cast2s, cast2s]
    simp only [List.getElem?_cons_zero, List.getElem?_cons_succ, optK_s, asS_s, asI_s]
    rw [known_s, callK_s, asB_s, if_neg (by simp), law17_KeysBack_p11101_eq, if_neg (by simp)]
    obtain ⟨hR, hL20⟩ := rightB_all hr
    have hlen := printL_len hR hx.2.2.2.1
    have hlaw := back_law hx.2.2.2.1 hr
    obtain ⟨z, H8, e8, q1, q2, k8⟩ := Parse_b d (printL L) (by omega) H5
    rw [hlaw] at e8 q1
    simp only at e8 q1
    have hz : ∀ K : Sl → Res, asSL z.v K = K z := fun _ => rfl
    rw [e8, callK_s, cast3, cast3]
    simp only [List.getElem?_cons_zero, List.getElem?_cons_succ, optK_s, asI_s, hz]
    obtain ⟨H9, e9, k9⟩ := Right_b (d + 2) y L H8 (hx5.keep0 k8)
    rw [hr] at e9
    rw [e9, callK_s, asB_s, if_pos rfl]
    have hs := same_s (d + 5) z y L H9 ((RK.of q1 (by omega)).keep0 k9) ((hx5.keep0 k8).keep0 k9)
    rw [hs, callK_s, asB_s, if_pos rfl]
    exact ⟨H9, by simp⟩

theorem notes_pick {r : Int} (h0 : 0 ≤ r) (h4 : r < 4) : ∃ u : W, partL [.string (S []), .string (S [10]), .string (S [35, 32, 97, 32, 110, 111, 116, 101, 10]), .string (S [35, 10, 10])] (r.toNat * 1) 1 false = some (.string (S u)) ∧ u.length ≤ 9 ∧ ∀ L, Goes L L u := by
  have hr : r = 0 ∨ r = 1 ∨ r = 2 ∨ r = 3 := by omega
  rcases hr with rfl | rfl | rfl | rfl
  · exact ⟨[], rfl, by decide, fun L => Goes.nil L⟩
  · exact ⟨[10], rfl, by decide, fun L => Goes.skip (w := []) (by decide) rfl⟩
  · exact ⟨[35, 32, 97, 32, 110, 111, 116, 101, 10], rfl, by decide, fun L => Goes.skip (w := [35, 32, 97, 32, 110, 111, 116, 101]) (by decide) (by decide)⟩
  · exact ⟨[35, 10, 10], rfl, by decide, fun L => (Goes.skip (L := L) (w := [35]) (by decide) (by decide)).app (Goes.skip (w := []) (by decide) rfl)⟩

theorem lines_count (d : Nat) (x5 : Sl) (s : W) (hs : s.length ≤ 100000) (x10 : Sl) (L : List Ky) (hg : Goes [] L s) : ∀ (m i : Nat) (H : Heap), i ≤ s.length → s.length - i < m → RK H x5 L → RK H x10 L →
    ∃ H', law17_KeysLines_p1111111010 (d + 6) m x5 (S s) x10 0 0 ((1 + cnt (s.take i) : Nat) : Int) (i : Int) H = some (.bool true, H') := by
  intro m
  induction m with
  | zero => intro i H h1 h2; omega
  | succ m ih =>
    intro i H hi hm h5 h10
    rw [law17_KeysLines_p1111111010_s, slenS]
    by_cases c : i < s.length
    · rw [if_pos (decide_eq_true (by omega)), if_pos (by omega), Int.toNat_natCast]
      have hc : s[i]? = some s[i] := List.getElem?_eq_getElem c
      generalize s[i] = b at hc
      have hcl : cnt (s.take i) ≤ i := by
        have := List.count_le_length (a := (10 : UInt8)) (l := s.take i)
        rw [List.length_take] at this; unfold cnt; omega
      have hct : cnt (s.take (i + 1)) = cnt (s.take i) + cnt [b] := by rw [List.take_add_one, hc, cnt, List.count_append]; rfl
      have w1 : IntKind.wrap .i64 ((i : Int) + 1) = ((i + 1 : Nat) : Int) := by rw [w64 (by omega)]; omega
      obtain ⟨H', e⟩ := ih (i + 1) H (by omega) (by omega) h5 h10
      rw [hct] at e
      refine ⟨H', ?_⟩
      by_cases hb : b = 10
      · subst hb
        rw [if_pos (by rw [btS hc]; rfl), law17_KeysLines_p1111111010011_eq, w1, ← e, w64 (n := ((1 + cnt (s.take i) : Nat) : Int) + 1) (by omega)]
        congr 1
      · have hbn : ¬ (bt (S s) i = 10) := by
          rw [btS hc]; intro e; exact hb (UInt8.toNat_inj.1 (by rw [show (10 : UInt8).toNat = 10 from rfl]; omega))
        rw [if_neg (by rw [decide_eq_true_eq]; exact hbn), law17_KeysLines_p1111111010011_eq, w1, ← e]
        have h0 : cnt [b] = 0 := by unfold cnt; exact List.count_eq_zero.2 (by simpa using fun e => hb e.symm)
        rw [h0]
        rfl
    · rw [if_neg (by rw [decide_eq_true_eq]; omega), List.take_of_length_le (by omega)]
      simp only [slenS, sCatS, List.length_cons, List.length_nil]
      rw [if_pos (by omega)]
      obtain ⟨z, H2, e2, q1, q2, k2⟩ := Parse_b d (s ++ [110, 111, 32, 107, 101, 121]) (by simp; omega) H
      rw [hg.bad] at e2
      simp only at e2
      have hz : ∀ K : Sl → Res, asSL z.v K = K z := fun _ => rfl
      rw [e2, callK_s, cast3, cast3]
      simp only [List.getElem?_cons_zero, List.getElem?_cons_succ, optK_s, asI_s, hz]
      rw [same_s (d + 5) x10 x5 L H2 (h10.keep0 k2) (h5.keep0 k2), callK_s, asB_s, if_pos rfl]
      refine ⟨H2, ?_⟩
      have : ((cnt s + 1 : Nat) : Int) = ((1 + cnt s : Nat) : Int) := by omega
      rw [this]
      simp

theorem lines_loop (d : Nat) (x1 x5 : Sl) (l1 : List Int) (L : List Ky) (hr : rightB L = true) : ∀ (m i : Nat) (s : W) (H : Heap), i ≤ L.length → L.length - i < m → s.length ≤ i * 300 → Goes [] (L.take i) s → Kys H x5 L → (∀ H', Keep0 H H' → Ints H' x1 l1) →
    ∃ H', law17_KeysLines_p1111010 (d + 6) m x1 x5 (S s) (i : Int) H = some (.bool true, H') := by
  intro m
  induction m with
  | zero => intro i s H h1 h2; omega
  | succ m ih =>
    intro i s H hi hm hs hg hx hints
    obtain ⟨hR, hL⟩ := rightB_all hr
    have hn := hx.num
    have hcap := (Whole.len hx.1).2
    have hxR := RK.of hx (by omega)
    rw [law17_KeysLines_p1111010_s]
    by_cases c : i < L.length
    · rw [if_pos (decide_eq_true (by omega))]
      have hc : L[i]? = some L[i] := List.getElem?_eq_getElem c
      have hok := hx.2 _ (List.getElem_mem c)
      have hmem : L[i] ∈ L := List.getElem_mem c
      generalize L[i] = k at hc hok hmem
      -- a key is printed
      have go : ∀ (u : W), u.length ≤ 9 → (∀ L, Goes L L u) → ∃ H', law17_KeysLines_p111101001001 (d + 6) m x1 x5 (S (s ++ u)) (i : Int) H = some (.bool true, H') := fun u hu hgu => by
        rw [law17_KeysLines_p111101001001_eq]
        have w1 : IntKind.wrap .i64 ((i : Int) + 1) = ((i + 1 : Nat) : Int) := by rw [w64 (by omega)]; omega
        obtain ⟨b, o, st, cc, e1, e2, e3, e4, e5⟩ := hx.ldA hc
        generalize hoff : (if i = 0 then (⟨b, 0, none⟩ : Addr) else ap ⟨b, 0, none⟩ (i * 35)) = ad
        have had : ad = ⟨b, i * 35, none⟩ := by
          subst hoff; split
          · rename_i h; subst h; rfl
          · simp [ap]
        have hsub : readD (.subSl t_api_Key 35 true true false) [x5.v, .int .i64 (i : Int), .int .i64 (IntKind.wrap .i64 ((i : Int) + 1))] H = some (.slice (some ad) 1 (x5.c - i)) := by
          simp only [readD, Sl.v, asSl, bnds, asN_s, e1, w1]
          rw [if_pos (by omega)]
          simp only [Int.toNat_natCast, Heap.opnOk, e3, hoff]
          rw [show i + 1 - i = 1 by omega]
          simp [chk]
        rw [hsub]
        simp only [optK_s, asSL_s]
        have hR1 : RK H ⟨some ad, 1, x5.c - i⟩ [k] := ⟨rfl, by show 1 ≤ x5.c - i; omega, by simp, fun q hq => by simp only [List.mem_singleton] at hq; subst hq; exact hok, fun _ => ⟨b, i * 35, cc, _, o, 0, st, by rw [had], Whole.lt hx.1 e2, e3, fun j q hj => by
          cases j with
          | zero =>
            simp only [List.getElem?_cons_zero, Option.some.injEq] at hj
            subst hj
            simpa using ⟨e4, e5⟩
          | succ j => simp at hj⟩⟩
        obtain ⟨H4, p1, k4⟩ := Print_b (d + 1) _ [k] H hR1
        rw [p1, callK_s, printR, right_one hr hmem, if_pos rfl, cast2s, cast2s]
        simp only [List.getElem?_cons_zero, List.getElem?_cons_succ, optK_s, asS_s, asI_s]
        have hpl : printL [k] = printK k := by simp [printL]
        have hkl := printK_len (hR k hmem) hok.1
        rw [hpl, if_neg (by simp)]
        simp only [slenS, sCatS, List.length_append]
        rw [if_pos (by omega), w1]
        obtain ⟨r1, r2⟩ := right_at hr hc
        have hgo : Goes [] (L.take (i + 1)) (s ++ u ++ printK k) := by
          rw [takeK hc]
          exact (hg.app (hgu _)).app (Goes.key hok r1 r2 (by rw [List.length_take]; omega))
        exact ih (i + 1) _ H4 (by omega) (by omega) (by simp only [List.length_append]; omega) hgo (hx.keep k4 (fun _ _ h => h)) (fun H' h => hints H' (k4.trans h))
      by_cases c1 : i < x1.n
      · rw [if_pos (decide_eq_true (by omega))]
        have hI := hints H (Keep.refl H)
        have hlt1 : i < l1.length := by have := hI.1; omega
        have hc1 : l1[i]? = some l1[i] := List.getElem?_eq_getElem hlt1
        obtain ⟨b, o, f1, f2⟩ := hI.2 i _ c1 hc1
        rw [f1]
        simp only [optK_s, ap]
        rw [if_pos (by omega), Int.toNat_natCast, Nat.mul_one, f2]
        simp only [optK_s, asI_s]
        obtain ⟨r, p1, p2, p3⟩ := Pick_s (d + 5) l1[i] 4 H (by omega) (by omega)
        rw [p1, callK_s, asI_s, if_pos (by omega)]
        obtain ⟨u, u1, u2, u3⟩ := notes_pick p2 p3
        rw [u1]
        simp only [optK_s, asS_s, slenS, sCatS]
        rw [if_pos (by omega)]
        exact go u u2 u3
      · rw [if_neg (by rw [decide_eq_true_eq]; omega)]
        have := go [] (by simp) (fun L => Goes.nil L)
        rw [List.append_nil] at this
        exact this
    · rw [if_neg (by rw [decide_eq_true_eq]; omega)]
      rw [List.take_of_length_le (by omega)] at hg
      obtain ⟨z, H2, e2, q1, q2, k2⟩ := Parse_b d s (by omega) H
      rw [hg.parse] at e2 q1
      simp only at e2 q1
      have hz : ∀ K : Sl → Res, asSL z.v K = K z := fun _ => rfl
      rw [e2, callK_s, cast3, cast3]
      simp only [List.getElem?_cons_zero, List.getElem?_cons_succ, optK_s, asI_s, hz]
      obtain ⟨H', e⟩ := lines_count d x5 s (by omega) z L hg NN 0 H2 (by omega) (NN_big _ (by omega)) (hxR.keep0 k2) (RK.of q1 (by omega))
      exact ⟨H', e⟩

theorem Ints.keep {B : Nat} {H H' : Heap} {x : Sl} {l : List Int} (h : Ints H x l) (hk : Keep (fun k => B ≤ k) H H') (hB : B ≤ H.next) (hx : 0 < x.n → ∀ j, x.at j → j < B) : Ints H' x l := by
  refine ⟨h.1, fun i n hi hn => ?_⟩
  obtain ⟨b, o, e1, e2⟩ := h.2 i n hi hn
  have := hx (by omega) b ⟨_, e1, rfl⟩
  exact ⟨b, o, e1, by rw [ld1_keep hk hB this]; exact e2⟩

theorem KeysLines_s (d B : Nat) (x x1 : Sl) (l1 : List Int) (H : Heap) (hr : RawK H B x) (ht : Tabs B H) (h1 : Ints H x1 l1) (h1B : 0 < x1.n → ∀ j, x1.at j → j < B) : ∃ H', X (d + 7) n_law17_KeysLines [x.v, x1.v] H = some (.bool true, H') := by
  rw [law17_KeysLines_eq]
  obtain ⟨y, L, H2, e, hk, _, hL, kk⟩ := list_s (d + 4) B x H hr ht
  rw [e, callK_s]
  rw [show ∀ K : Sl → Res, asSL y.v K = K y from fun _ => rfl]
  have hx := RK.of hk (by omega)
  rw [known_s, callK_s, asB_s, if_neg (by simp)]
  obtain ⟨H8, e8, k8⟩ := Right_b (d + 2) y L H2 hx
  rw [e8, callK_s, asB_s, law17_KeysLines_p1101_eq]
  have hB := ht.2.1
  cases hr : rightB L with
  | false =>
    rw [if_pos (by rfl), known_s, callK_s, asB_s]
    exact ⟨H8, rfl⟩
  | true =>
    rw [if_neg (by simp)]
    exact lines_loop d x1 y l1 L hr NN 0 [] H8 (by omega) (NN_big _ (by omega)) (by simp) (by rw [List.take_zero]; exact Goes.nil []) (hk.keep k8 (fun _ _ h => h)) (fun H' h => h1.keep (kk.trans (k8.trans h).to fun _ _ h => h) hB h1B)
end Go.Proofs.YthphbdkhbaijlaaDoor.dec
