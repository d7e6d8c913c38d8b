/-
  cmd.Keys: what keys are bound to; presses in memory.
  And: cmd.Keys: Feed, the program's and the reference's. cmd.Keys: Feed, the program's. CmdKeys: pieces; the plain law. CmdKeys: the plain law.
-/
import Derived.Test.YtnpmlgibjhjiiaaLine
import Derived.Test.YtnpmlgibjhjiiaaDec
namespace Go.Proofs.Ytnpmlgibjhjiiaa.dec
open Go Go.Cm

attribute [local congr] optK_congr asI_congr asN_congr asB_congr asS_congr asP_congr asA_congr asSL_congr callK_congr castT_congr chk_congr

/-- a key's command -/
def bound (c : UInt8) : Option W :=
  if c.toNat = 99 then some [110, 101, 119, 45, 119, 105, 110, 100, 111, 119]
  else if c.toNat = 38 then some [107, 105, 108, 108, 45, 119, 105, 110, 100, 111, 119]
  else if c.toNat = 37 then some [115, 112, 108, 105, 116, 45, 119, 105, 110, 100, 111, 119, 32, 45, 104]
  else if c.toNat = 34 then some [115, 112, 108, 105, 116, 45, 119, 105, 110, 100, 111, 119, 32, 45, 118]
  else if c.toNat = 120 then some [107, 105, 108, 108, 45, 112, 97, 110, 101]
  else if c.toNat = 122 then some [122, 111, 111, 109]
  else if c.toNat = 111 then some [115, 101, 108, 101, 99, 116, 45, 112, 97, 110, 101, 32, 48]
  else if c.toNat = 93 then some [112, 97, 115, 116, 101, 32, 48]
  else if 48 ≤ c.toNat ∧ c.toNat ≤ 57 then some [115, 101, 108, 101, 99, 116, 45, 112, 97, 110, 101, 32, c]
  else none
/-- as both tell it -/
def told (q : Option W) : Value := match q with
  | some w => .tuple #[.string (S w), .bool true]
  | none => .tuple #[.string (S []), .bool false]

theorem enc_digit (c : UInt8) (h : 48 ≤ c.toNat ∧ c.toNat ≤ 57) : Utf8.encode (IntKind.wrap .i32 (c.toNat : Int)) = S [c] := by
  have : c.toNat = 48 ∨ c.toNat = 49 ∨ c.toNat = 50 ∨ c.toNat = 51 ∨ c.toNat = 52 ∨ c.toNat = 53 ∨ c.toNat = 54 ∨ c.toNat = 55 ∨ c.toNat = 56 ∨ c.toNat = 57 := by omega
  have hc : c = UInt8.ofNat c.toNat := by simp
  rcases this with h | h | h | h | h | h | h | h | h | h <;> (rw [h] at hc; subst hc; decide)

theorem u8eq (c : UInt8) (n : Nat) (m : Int) (h : m = n) : ((c.toNat : Int) = m) = (c.toNat = n) := by
  subst h
  simp only [eq_iff_iff]
  omega

theorem Bound_s (d : Nat) (c : UInt8) (H : Heap) : X (d + 1) n_cmd_Bound [.int .u8 (c.toNat : Int)] H = some (told (bound c), H) := by
  rw [cmd_Bound_eq]
  simp only [decide_eq_true_eq, bound]
  simp only [u8eq c 99 99 rfl, u8eq c 38 38 rfl, u8eq c 37 37 rfl, u8eq c 34 34 rfl, u8eq c 120 120 rfl, u8eq c 122 122 rfl, u8eq c 111 111 rfl, u8eq c 93 93 rfl]
  split
  · rfl
  split
  · rfl
  split
  · rfl
  split
  · rfl
  split
  · rfl
  split
  · rfl
  split
  · rfl
  split
  · rfl
  by_cases g : 48 ≤ c.toNat
  · rw [if_pos (show (48 : Int) ≤ (c.toNat : Int) by omega), cmd_Bound_p1101_eq]
    by_cases g2 : c.toNat ≤ 57
    · rw [if_pos (show decide ((c.toNat : Int) ≤ 57) = true from decide_eq_true (by omega)), if_pos (show 48 ≤ c.toNat ∧ c.toNat ≤ 57 from ⟨g, g2⟩), enc_digit c ⟨g, g2⟩]
      simp only [slenS, sCatS]
      rw [if_pos (by simp)]
      rfl
    · rw [if_neg (show ¬ decide ((c.toNat : Int) ≤ 57) = true by simp; omega), if_neg (fun h => g2 h.2)]
      rfl
  · rw [if_neg (show ¬ (48 : Int) ≤ (c.toNat : Int) by omega), cmd_Bound_p1101_eq, if_neg (by simp), if_neg (fun h => g h.1)]
    rfl

theorem RBound_s (d : Nat) (c : UInt8) (H : Heap) : ∃ H', X (d + 1) n_ref22_Bound [.int .u8 (c.toNat : Int)] H = some (told (bound c), H') ∧ Keep (fun _ => False) H H' := by
  rw [ref22_Bound_eq]
  simp only [decide_eq_true_eq, bound]
  simp only [u8eq c 99 99 rfl, u8eq c 38 38 rfl, u8eq c 37 37 rfl, u8eq c 34 34 rfl, u8eq c 120 120 rfl, u8eq c 122 122 rfl, u8eq c 111 111 rfl, u8eq c 93 93 rfl]
  split
  · exact ⟨H, rfl, Keep.refl _⟩
  split
  · exact ⟨H, rfl, Keep.refl _⟩
  split
  · exact ⟨H, rfl, Keep.refl _⟩
  split
  · exact ⟨H, rfl, Keep.refl _⟩
  split
  · exact ⟨H, rfl, Keep.refl _⟩
  split
  · exact ⟨H, rfl, Keep.refl _⟩
  split
  · exact ⟨H, rfl, Keep.refl _⟩
  split
  · exact ⟨H, rfl, Keep.refl _⟩
  by_cases g : 48 ≤ c.toNat
  · rw [if_pos (show (48 : Int) ≤ (c.toNat : Int) by omega), ref22_Bound_p1101_eq]
    by_cases g2 : c.toNat ≤ 57
    · rw [if_pos (show decide ((c.toNat : Int) ≤ 57) = true from decide_eq_true (by omega)), if_pos (show 48 ≤ c.toNat ∧ c.toNat ≤ 57 from ⟨g, g2⟩)]
      have hb : Bytes (H.new (.cells [.int .u8 (c.toNat : Int)] t_uint8 false 0 false)) ⟨some ⟨H.next, 0, none⟩, 1, 1⟩ [c] := .inr ⟨H.next, 1, rfl, rfl, by simp, false, false, by simp [bytes]⟩
      have := hb.str
      simp only [newK_s, this, optK_s, asS_s, slenS, sCatS]
      rw [if_pos (by simp)]
      exact ⟨_, rfl, Keep.new _ _⟩
    · rw [if_neg (show ¬ decide ((c.toNat : Int) ≤ 57) = true by simp; omega), if_neg (fun h => g2 h.2)]
      exact ⟨H, rfl, Keep.refl _⟩
  · rw [if_neg (show ¬ (48 : Int) ≤ (c.toNat : Int) by omega), ref22_Bound_p1101_eq, if_neg (by simp), if_neg (fun h => g h.1)]
    exact ⟨H, rfl, Keep.refl _⟩

/-! ### presses -/
abbrev Pr := W × W
/-- presses: input and command; the inputs' blocks are of P -/
def PrL (H : Heap) (P : Nat → Prop) (cs : List Value) (L : List Pr) : Prop :=
  cs.length = L.length * 2 ∧ ∀ (i : Nat) n m, L[i]? = some (n, m) → ∃ a : Sl, cs[i * 2]? = some a.v ∧ cs[i * 2 + 1]? = some (.string (S m)) ∧ Bytes H a n ∧ ∀ k, a.at k → P k
def Prs (H : Heap) (P : Nat → Prop) (s : Sl) (L : List Pr) : Prop := ∃ cs, Whole H s cs t_cmd_Press 2 ∧ PrL H P cs L

theorem PrL.keep {S P : Nat → Prop} {H H' : Heap} {cs : List Value} {L : List Pr} (h : PrL H P cs L) (hk : Keep S H H') (hn : ∀ k, P k → ¬ S k) : PrL H' P cs L :=
  ⟨h.1, fun i n m hi => let ⟨a, h1, h2, h3, h4⟩ := h.2 i n m hi; ⟨a, h1, h2, h3.keep hk (fun k hk => hn k (h4 k hk)), h4⟩⟩
theorem PrL.mono {P Q : Nat → Prop} {H : Heap} {cs : List Value} {L : List Pr} (h : PrL H P cs L) (hn : ∀ k, k < H.next → P k → Q k) : PrL H Q cs L :=
  ⟨h.1, fun i n m hi => let ⟨a, h1, h2, h3, h4⟩ := h.2 i n m hi; ⟨a, h1, h2, h3, fun k hk => hn k (h3.lt hk) (h4 k hk)⟩⟩
theorem PrL.nil (H : Heap) (P : Nat → Prop) : PrL H P [] [] := ⟨rfl, fun i n m h => by simp at h⟩
theorem PrL.snoc {P : Nat → Prop} {H : Heap} {cs : List Value} {L : List Pr} (h : PrL H P cs L) {n m : W} {a : Sl} (ha : Bytes H a n) (hp : ∀ k, a.at k → P k) : PrL H P (cs ++ [a.v, .string (S m)]) (L ++ [(n, m)]) := by
  refine ⟨by simp [h.1]; omega, fun i n' m' hi => ?_⟩
  by_cases hlt : i < L.length
  · rw [List.getElem?_append_left hlt] at hi
    obtain ⟨b, h1, h2, h3⟩ := h.2 i n' m' hi
    refine ⟨b, ?_, ?_, h3⟩
    · rw [List.getElem?_append_left (by have := h.1; omega)]; exact h1
    · rw [List.getElem?_append_left (by have := h.1; omega)]; exact h2
  · have hi' : i = L.length := by
      have := (List.getElem?_eq_some_iff.1 hi).1
      simp at this; omega
    subst hi'
    simp at hi
    obtain ⟨rfl, rfl⟩ := hi
    refine ⟨a, ?_, ?_, ha, hp⟩
    · rw [List.getElem?_append_right (by have := h.1; omega), h.1]; simp
    · rw [List.getElem?_append_right (by have := h.1; omega), h.1]; simp

/-- a state of a reader of keys: presses, and the run of input that has not ended; blocks from B on, the run's block above the presses' own, which is above the inputs' -/
structure KS (B : Nat) (H : Heap) (so sr : Sl) (L : List Pr) (run : W) : Prop where
  prs : Prs H (InQ B so) so L
  rn : Bytes H sr run
  out : ∀ j, so.at j → B ≤ j
  ord : ∀ k, sr.at k → B ≤ k ∧ ∀ j, so.at j → j < k

/-- one more press -/
theorem KS.press {B : Nat} {H : Heap} {so sr : Sl} {L : List Pr} {run : W} (h : KS B H so sr L run) {a : Sl} {n m : W} (ha : Bytes H a n) (haB : ∀ k, a.at k → B ≤ k ∧ ¬ so.at k) (hL : L.length ≤ 4000000) (hB : B ≤ H.next) :
    ∃ so' H', (∀ K, appendK t_cmd_Press 2 40 false so.v (.slice (some ⟨H.next, 0, none⟩) 1 1) (H.new (.cells [a.v, .string (S m)] t_cmd_Press false 0 false)) K = K so'.v H') ∧
      KS B H' so' Sl.nil (L ++ [(n, m)]) [] ∧ Keep so.at H H' ∧ ∀ j, so'.at j → H.next < j := by
  obtain ⟨cs, c1, c2⟩ := h.prs
  have hcl := c1.len
  have hcl2 := c2.1
  obtain ⟨so', H', f1, f2, f3, f4, f5, _⟩ := push_whole (bytes := 40) (new := [a.v, .string (S m)]) c1 rfl (by omega) (by omega) (by omega)
  obtain ⟨bo, _, _, _, _, _, hbo⟩ := Whole.block f2 (by simp)
  have k1 : PrL H' (InQ B so') cs L := by
    have q := c2.keep f3 (fun k hk hk' => by
      obtain ⟨j, hj, hkj⟩ := hk.2
      obtain ⟨a1, q1, q2⟩ := hj
      obtain ⟨a2, q3, q4⟩ := hk'
      rw [q1] at q3; cases q3; omega)
    exact q.mono (fun k _ hk => ⟨hk.1, bo, hbo, by
      obtain ⟨j, hj, hkj⟩ := hk.2
      have := c1.lt hj
      have := f5 bo hbo
      omega⟩)
  have ha' : Bytes H' a n := ha.keep f3 (fun k hk => (haB k hk).2)
  refine ⟨so', H', f1, ⟨⟨_, f2, k1.snoc ha' (fun k hk => ⟨(haB k hk).1, bo, hbo, by have := ha.lt hk; have := f5 bo hbo; omega⟩)⟩, Whole.nil _ _ _, fun j hj => by have := f5 j hj; omega, fun k hk => absurd hk Sl.at_nil⟩, f3, f5⟩

/-- one more byte of input -/
theorem KS.byte {B : Nat} {H : Heap} {so sr : Sl} {L : List Pr} {run : W} (h : KS B H so sr L run) (c : UInt8) (hn : run.length ≤ 1048576) (hB : B ≤ H.next) :
    ∃ sr' H', (∀ K, appendK t_uint8 1 1 false sr.v (.slice (some ⟨H.next, 0, none⟩) 1 1) (H.new (.cells [.int .u8 (c.toNat : Int)] t_uint8 false 0 false)) K = K sr'.v H') ∧
      KS B H' so sr' L (run ++ [c]) ∧ Keep sr.at H H' := by
  obtain ⟨sr', H', e1, e2, e3, e4⟩ := h.rn.push c hn
  obtain ⟨cs, c1, c2⟩ := h.prs
  refine ⟨sr', H', e1, ⟨⟨cs, c1.keep e3 (fun k hk hk' => by have := (h.ord k hk').2 k hk; omega), c2.keep e3 (fun k hk hk' => ?_)⟩, e2, h.out, fun k hk => ⟨by have := e4 k hk; omega, fun j hj => by have := e4 k hk; have := c1.lt hj; omega⟩⟩, e3⟩
  obtain ⟨j, hj, hkj⟩ := hk.2
  have := (h.ord k hk').2 j hj
  omega

/-- kept -/
theorem KS.keep {B : Nat} {S : Nat → Prop} {H H' : Heap} {so sr : Sl} {L : List Pr} {run : W} (h : KS B H so sr L run) (hk : Keep S H H') (hn : ∀ k, S k → k < B) : KS B H' so sr L run := by
  obtain ⟨cs, c1, c2⟩ := h.prs
  exact ⟨⟨cs, c1.keep hk (fun k q q' => by have := h.out k q; have := hn k q'; omega), c2.keep hk (fun k q q' => by have := q.1; have := hn k q'; omega)⟩, h.rn.keep hk (fun k q q' => by have := (h.ord k q).1; have := hn k q'; omega), h.out, h.ord⟩

def flushed (L : List Pr) (run : W) : List Pr := if run = [] then L else L ++ [(run, [])]
/-- what bytes come to: is a prefix ahead; presses; the run -/
def feed : Bool → List Pr → W → W → Bool × List Pr
  | a, L, run, [] => (a, flushed L run)
  | a, L, run, c :: r =>
    if a = false ∧ c.toNat = 2 then feed true L run r
    else if a = false ∨ c.toNat = 2 then feed false L (run ++ [c]) r
    else match bound c with
      | some m => feed false (flushed L run ++ [([], m)]) [] r
      | none => feed false L run r

theorem pressed_s (d B : Nat) (H : Heap) (so sr : Sl) (L : List Pr) (run : W) (h : KS B H so sr L run) (hL : L.length ≤ 4000000) (hB : B ≤ H.next) :
    ∃ so' H', X (d + 1) n_ref22_pressed [so.v, sr.v] H = some (so'.v, H') ∧ KS B H' so' Sl.nil (flushed L run) [] ∧ Keep so.at H H' := by
  rw [ref22_pressed_eq]
  have hlen := h.rn.len
  simp only [bytes, List.length_map, Nat.mul_one] at hlen
  simp only [decide_eq_true_eq]
  by_cases h0 : run = []
  · rw [if_pos (show (sr.n : Int) = 0 by subst h0; simp at hlen; omega)]
    exact ⟨so, H, rfl, by rw [flushed, if_pos h0]; exact ⟨h.prs, Whole.nil _ _ _, h.out, fun k hk => absurd hk Sl.at_nil⟩, Keep.refl _⟩
  · have : run.length ≠ 0 := fun e => h0 (List.eq_nil_of_length_eq_zero e)
    rw [if_neg (show ¬ (sr.n : Int) = 0 by omega)]
    obtain ⟨so', H', e1, e2, e3, _⟩ := h.press (m := []) h.rn (fun k hk => ⟨(h.ord k hk).1, fun hj => by have := (h.ord k hk).2 k hj; omega⟩) hL hB
    simp only [newK_s]
    rw [e1]
    exact ⟨so', H', rfl, by rw [flushed, if_neg h0]; exact e2, e3⟩
end Go.Proofs.Ytnpmlgibjhjiiaa.dec

namespace Go.Proofs.Ytnpmlgibjhjiiaa.dec
open Go Go.Cm

attribute [local congr] optK_congr asI_congr asN_congr asB_congr asS_congr asP_congr asA_congr asSL_congr callK_congr castT_congr chk_congr

/-- a block of one truth -/
def Flag (H : Heap) (r : Nat) (e : TypeId) (a : Bool) : Prop := H.get r = some (.cells [.bool a] e false 0 false) ∧ r < H.next
theorem Flag.ld {H : Heap} {r : Nat} {e : TypeId} {a : Bool} (h : Flag H r e a) : H.ld1 ⟨r, 0, none⟩ = some (.bool a) := by rw [ld1_s h.1]; rfl
theorem Flag.st {H : Heap} {r : Nat} {e : TypeId} {a : Bool} (b : Bool) (h : Flag H r e a) : ∃ H', H.st1 ⟨r, 0, none⟩ (.bool b) = some H' ∧ Flag H' r e b ∧ Keep (· = r) H H' :=
  ⟨_, st1_s h.1 (by simp) (Nat.le_refl _), ⟨by simp, h.2⟩, Keep.put _ _ _ rfl⟩
theorem Flag.keep {S : Nat → Prop} {H H' : Heap} {r : Nat} {e : TypeId} {a : Bool} (h : Flag H r e a) (hk : Keep S H H') (hn : ¬ S r) : Flag H' r e a :=
  ⟨(hk.2 r h.2 hn).trans h.1, Nat.lt_of_lt_of_le h.2 hk.1⟩

theorem Bytes.num {H : Heap} {a : Sl} {w : W} (h : Bytes H a w) : a.n = w.length := by
  have := Whole.len h
  simp [bytes] at this; omega
theorem Bytes.at {H : Heap} {a : Sl} {w : W} (h : Bytes H a w) {k : Nat} {c : UInt8} (hk : w[k]? = some c) : ∃ b, a.a = some ⟨b, 0, none⟩ ∧ H.ld1 ⟨b, k, none⟩ = some (.int .u8 (c.toNat : Int)) ∧ a.at b := by
  have hlt := (List.getElem?_eq_some_iff.1 hk).1
  obtain ⟨b, o, st, e1, e2, e3, e4⟩ := Whole.block h (fun e => by simp [bytes] at e; subst e; simp at hlt)
  refine ⟨b, by rw [e1], ?_, e4⟩
  rw [ld1_s e3]
  simp [bytes, hk]

/-- what a Feed comes to -/
def FPost (B r : Nat) (e : TypeId) (H : Heap) (q : Bool × List Pr) (x : Res) : Prop :=
  ∃ H' so, x = some (Sl.v so, H') ∧ Flag H' r e q.1 ∧ Prs H' (fun k => B ≤ k) so q.2 ∧ (∀ j, so.at j → B ≤ j) ∧ Keep (fun k => k = r ∨ B ≤ k) H H'
theorem FPost.keep {B r : Nat} {e : TypeId} {H H1 : Heap} {q : Bool × List Pr} {x : Res} (h : FPost B r e H1 q x) (hk : Keep (fun k => k = r ∨ B ≤ k) H H1) : FPost B r e H q x := by
  obtain ⟨H', so, h1, h2, h3, h4, h5⟩ := h
  exact ⟨H', so, h1, h2, h3, h4, hk.trans h5 fun _ _ h => h⟩
theorem KS.done {B : Nat} {H : Heap} {so sr : Sl} {L : List Pr} {run : W} (h : KS B H so sr L run) : Prs H (fun k => B ≤ k) so L := by
  obtain ⟨cs, c1, c2⟩ := h.prs
  exact ⟨cs, c1, c2.mono (fun k _ hk => hk.1)⟩

theorem rfeed_loop (d r B : Nat) (x1 : Sl) (w : W) (hr : r < B) (hx : ∀ k, x1.at k → k < B ∧ k ≠ r) (hw : w.length ≤ 1048576) : ∀ (m i : Nat) (L : List Pr) (run : W) (so sr : Sl) (H : Heap) (a : Bool), i ≤ w.length → w.length - i < m → L.length ≤ 2 * i → run.length ≤ i →
    KS B H so sr L run → Flag H r t_ref22_Keys a → Bytes H x1 w → B ≤ H.next → FPost B r t_ref22_Keys H (feed a L run (w.drop i)) (ref22_Keys_Feed_p111010 (d + 1) m r x1 so sr (i : Int) H) := by
  intro m
  induction m with
  | zero => intro i L run so sr H a h1 h2; omega
  | succ m ih =>
    intro i L run so sr H a h1 h2 hL hrun hK hf hb hB
    rw [ref22_Keys_Feed_p111010_s]
    simp only [decide_eq_true_eq, hb.num]
    by_cases hi : i < w.length
    · have hc : w[i]? = some w[i] := List.getElem?_eq_getElem hi
      have hd : w.drop i = w[i] :: w.drop (i + 1) := by rw [List.drop_eq_getElem_cons hi]
      generalize w[i] = c at hc hd
      obtain ⟨b, e1, e2, e3⟩ := hb.at hc
      rw [if_pos (show (i : Int) < (w.length : Int) by omega)]
      simp only [hf.ld, optK_s, asB_s, e1, ap, Int.toNat_natCast, Nat.mul_one, Nat.zero_add, e2, asI_s]
      have hii : (0 : Int) ≤ (i : Int) ∧ (i : Int) < (w.length : Int) := by omega
      -- what goes on
      have next : ∀ (L' : List Pr) (run' : W) (so' sr' : Sl) (H' : Heap) (a' : Bool), L'.length ≤ 2 * (i + 1) → run'.length ≤ i + 1 → KS B H' so' sr' L' run' → Flag H' r t_ref22_Keys a' → Keep (fun k => k = r ∨ B ≤ k) H H' →
          FPost B r t_ref22_Keys H (feed a' L' run' (w.drop (i + 1))) (ref22_Keys_Feed_p111010011 (d + 1) m r x1 so' sr' (i : Int) H') := by
        intro L' run' so' sr' H' a' q1 q2 q3 q4 q5
        rw [ref22_Keys_Feed_p111010011_eq, w64 (by omega), show ((i : Int) + 1) = ((i + 1 : Nat) : Int) by omega]
        exact (ih (i + 1) L' run' so' sr' H' a' (by omega) (by omega) q1 q2 q3 q4 (Whole.keep hb q5 (fun k hk h => by have := hx k hk; omega)) (by have := q5.1; omega)).keep q5
      have kin : ∀ {S : Nat → Prop} {H1 H2 : Heap}, Keep S H1 H2 → (∀ k, S k → k = r ∨ B ≤ k) → Keep (fun k => k = r ∨ B ≤ k) H1 H2 := fun h hs => h.mono fun k _ q => hs k q
      rw [hd]
      simp only [feed]
      cases a with
      | false =>
        rw [if_pos (show (!false) = true from rfl), if_pos hii]
        by_cases g : c.toNat = 2
        · rw [if_pos (show false = false ∧ c.toNat = 2 from ⟨rfl, g⟩), if_pos (show (c.toNat : Int) = 2 by omega)]
          obtain ⟨H', f1, f2, f3⟩ := hf.st true
          rw [f1]
          simp only [optK_s]
          exact next L run so sr H' true (by omega) (by omega) (hK.keep f3 (fun k q => by omega)) f2 (kin f3 (fun k q => .inl q))
        · rw [if_neg (show ¬ (false = false ∧ c.toNat = 2) from fun h => g h.2), if_pos (show false = false ∨ c.toNat = 2 from .inl rfl), if_neg (show ¬ (c.toNat : Int) = 2 by omega)]
          rw [if_pos hii]
          simp only [newK_s]
          obtain ⟨sr', H', f1, f2, f3⟩ := hK.byte c (by omega) hB
          rw [f1]
          simp only [asSL_s]
          exact next L (run ++ [c]) so sr' H' false (by omega) (by simp; omega) f2 (hf.keep f3 (fun hk => by have := (hK.ord r hk).1; omega)) (kin f3 (fun k q => .inr (hK.ord k q).1))
      | true =>
        rw [if_neg (show ¬ (!true) = true by simp), if_neg (show ¬ (true = false ∧ c.toNat = 2) by simp)]
        obtain ⟨H1, f1, f2, f3⟩ := hf.st false
        rw [f1]
        have hb1 : Bytes H1 x1 w := Whole.keep hb f3 (fun k hk h => by have := hx k hk; omega)
        obtain ⟨b', e1', e2', _⟩ := hb1.at hc
        rw [e1] at e1'
        cases e1'
        have hK1 : KS B H1 so sr L run := hK.keep f3 (fun k q => by omega)
        have k1 : Keep (fun k => k = r ∨ B ≤ k) H H1 := kin f3 (fun k q => .inl q)
        simp only [optK_s, e2', asI_s]
        rw [if_pos hii]
        by_cases g : c.toNat = 2
        · rw [if_pos (show true = false ∨ c.toNat = 2 from .inr g), if_pos (show (c.toNat : Int) = 2 by omega)]
          simp only [newK_s]
          have hc2 : (2 : Int) = (c.toNat : Int) := by omega
          rw [hc2]
          obtain ⟨sr', H', q1, q2, q3⟩ := hK1.byte c (by omega) (by have := f3.1; omega)
          rw [q1]
          simp only [asSL_s]
          exact next L (run ++ [c]) so sr' H' false (by omega) (by simp; omega) q2 (f2.keep q3 (fun hk => by have := (hK.ord r hk).1; omega)) (k1.trans (kin q3 (fun k q => .inr (hK.ord k q).1)) (fun _ _ h => h))
        · rw [if_neg (show ¬ (true = false ∨ c.toNat = 2) by simp [g]), if_neg (show ¬ (c.toNat : Int) = 2 by omega)]
          rw [if_pos hii]
          obtain ⟨H2, p1, p2⟩ := RBound_s d c H1
          rw [p1]
          simp only [callK_s]
          have hK2 : KS B H2 so sr L run := hK1.keep p2 (fun k q => q.elim)
          have hf2 : Flag H2 r t_ref22_Keys false := f2.keep p2 id
          have k2 : Keep (fun k => k = r ∨ B ≤ k) H H2 := k1.trans p2 (fun k _ q => q.elim)
          cases hbd : bound c with
          | none =>
            simp only [told, castT_s, castL_c, castL_n, cast0, asS_s, asB_s, List.getElem?_cons_zero, List.getElem?_cons_succ, optK_s]
            rw [if_neg (show ¬ (false = true) by simp)]
            exact next L run so sr H2 false (by omega) (by omega) hK2 hf2 k2
          | some mm =>
            simp only [told, castT_s, castL_c, castL_n, cast0, asS_s, asB_s, List.getElem?_cons_zero, List.getElem?_cons_succ, optK_s]
            rw [if_pos trivial]
            obtain ⟨so', H3, s1, s2, s3⟩ := pressed_s d B H2 so sr L run hK2 (by omega) (by have := k2.1; omega)
            rw [s1]
            simp only [callK_s, asSL_s, newK_s]
            have k3 : Keep (fun k => k = r ∨ B ≤ k) H H3 := k2.trans (kin s3 (fun k q => .inr (hK.out k q))) (fun _ _ h => h)
            have hfl : (flushed L run).length ≤ L.length + 1 := by
              unfold flushed; split <;> simp
            obtain ⟨so2, H4, u1, u2, u3, u4⟩ := s2.press (a := Sl.nil) (n := []) (m := mm) (Whole.nil _ _ _) (fun k hk => absurd hk Sl.at_nil) (by omega) (by have := k3.1; omega)
            rw [u1]
            simp only [asSL_s]
            refine next _ [] so2 Sl.nil H4 false (by simp only [List.length_append, List.length_cons, List.length_nil]; omega) (by simp) u2 ?_ (k3.trans (kin u3 (fun k q => .inr (s2.out k q))) (fun _ _ h => h))
            exact (hf2.keep s3 (fun hk => by have := hK.out r hk; omega)).keep u3 (fun hk => by have := s2.out r hk; omega)
    · rw [if_neg (show ¬ (i : Int) < (w.length : Int) by omega), List.drop_eq_nil_of_le (by omega)]
      obtain ⟨so', H', s1, s2, s3⟩ := pressed_s d B H so sr L run hK (by omega) hB
      rw [s1]
      simp only [callK_s, asSL_s, feed]
      exact ⟨H', so', rfl, hf.keep s3 (fun hk => by have := hK.out r hk; omega), s2.done, s2.out, s3.mono (fun k _ q => .inr (hK.out k q))⟩

theorem RFeed_s (d r : Nat) (x1 : Sl) (w : W) (H : Heap) (a : Bool) (hf : Flag H r t_ref22_Keys a) (hb : Bytes H x1 w) (hx : ∀ k, x1.at k → k ≠ r) (hw : w.length ≤ 1048576) : FPost H.next r t_ref22_Keys H (feed a [] [] w) (X (d + 2) n_ref22_Keys_Feed [P0 r, x1.v] H) := by
  rw [ref22_Keys_Feed_eq]
  have := rfeed_loop d r H.next x1 w hf.2 (fun k hk => ⟨Whole.lt hb hk, hx k hk⟩) hw NN 0 [] [] Sl.nil Sl.nil H a (by omega) (NN_big _ (by omega)) (by simp) (by simp) ⟨⟨[], Whole.nil _ _ _, PrL.nil _ _⟩, Whole.nil _ _ _, fun j hj => absurd hj Sl.at_nil, fun j hj => absurd hj Sl.at_nil⟩ hf hb (Nat.le_refl _)
  simpa using this
end Go.Proofs.Ytnpmlgibjhjiiaa.dec

namespace Go.Proofs.Ytnpmlgibjhjiiaa.dec
open Go Go.Cm

attribute [local congr] optK_congr asI_congr asN_congr asB_congr asS_congr asP_congr asA_congr asSL_congr callK_congr castT_congr chk_congr

/-- a variable that holds a slice -/
def Box (H : Heap) (p : Nat) (e : TypeId) (s : Sl) : Prop := H.get p = some (.cells [s.v] e false 0 false) ∧ p < H.next
theorem Box.ld {H : Heap} {p : Nat} {e : TypeId} {s : Sl} (h : Box H p e s) : H.ld1 ⟨p, 0, none⟩ = some s.v := by rw [ld1_s h.1]; rfl
theorem Box.st {H : Heap} {p : Nat} {e : TypeId} {s : Sl} (s' : Sl) (h : Box H p e s) : ∃ H', H.st1 ⟨p, 0, none⟩ s'.v = some H' ∧ Box H' p e s' ∧ Keep (· = p) H H' :=
  ⟨_, st1_s h.1 (by simp) (Nat.le_refl _), ⟨by simp, h.2⟩, Keep.put _ _ _ rfl⟩
theorem Box.keep {S : Nat → Prop} {H H' : Heap} {p : Nat} {e : TypeId} {s : Sl} (h : Box H p e s) (hk : Keep S H H') (hn : ¬ S p) : Box H' p e s :=
  ⟨(hk.2 p h.2 hn).trans h.1, Nat.lt_of_lt_of_le h.2 hk.1⟩

/-- the program's state -/
structure PK (B po pr : Nat) (H : Heap) (so sr : Sl) (L : List Pr) (run : W) : Prop where
  ks : KS B H so sr L run
  bo : Box H po t_S_cmd_Press so
  br : Box H pr t_S_uint8 sr
  le : B ≤ H.next

def mine (B po pr : Nat) (k : Nat) : Prop := k = po ∨ k = pr ∨ B ≤ k

theorem flush_s (d B po pr : Nat) (hpo : po < B) (hpr : pr < B) (hne : po ≠ pr) (H : Heap) (so sr : Sl) (L : List Pr) (run : W) (h : PK B po pr H so sr L run) (hL : L.length ≤ 4000000) :
    ∃ H' so', X (d + 1) n_cmd_Keys_Feed_1 [P0 pr, P0 po] H = some (.tuple #[], H') ∧ PK B po pr H' so' Sl.nil (flushed L run) [] ∧ Keep (mine B po pr) H H' := by
  rw [cmd_Keys_Feed_1_eq]
  have hlen := h.ks.rn.num
  simp only [h.br.ld, h.bo.ld, optK_s, asSL_s, decide_eq_true_eq]
  have last : ∀ (H1 : Heap) (so' : Sl), KS B H1 so' Sl.nil (flushed L run) [] → Box H1 po t_S_cmd_Press so' → (∃ s, Box H1 pr t_S_uint8 s) → Keep (mine B po pr) H H1 →
      ∃ H' so', cmd_Keys_Feed_1_p1 d pr H1 = some (.tuple #[], H') ∧ PK B po pr H' so' Sl.nil (flushed L run) [] ∧ Keep (mine B po pr) H H' := by
    intro H1 so' k1 b1 ⟨s, b2⟩ kp
    obtain ⟨H2, e1, e2, e3⟩ := b2.st Sl.nil
    rw [cmd_Keys_Feed_1_p1_eq]
    simp only [e1, optK_s]
    have kp2 : Keep (mine B po pr) H H2 := kp.trans e3 (fun k _ q => .inr (.inl q))
    exact ⟨H2, so', rfl, ⟨k1.keep e3 (fun k q => by omega), b1.keep e3 (fun q => hne q), e2, by have := kp2.1; have := h.le; omega⟩, kp2⟩
  by_cases h0 : run = []
  · rw [if_neg (show ¬ (0 : Int) < (sr.n : Int) by subst h0; simp at hlen; omega)]
    exact last H so (by rw [flushed, if_pos h0]; exact ⟨h.ks.prs, Whole.nil _ _ _, h.ks.out, fun k hk => absurd hk Sl.at_nil⟩) h.bo ⟨sr, h.br⟩ (Keep.refl _)
  · have : run.length ≠ 0 := fun e => h0 (List.eq_nil_of_length_eq_zero e)
    rw [if_pos (show (0 : Int) < (sr.n : Int) by omega)]
    obtain ⟨so', H1, e1, e2, e3, e4⟩ := h.ks.press (m := []) h.ks.rn (fun k hk => ⟨(h.ks.ord k hk).1, fun hj => by have := (h.ks.ord k hk).2 k hj; omega⟩) hL h.le
    simp only [newK_s]
    rw [e1]
    simp only [asSL_s]
    have b1 : Box H1 po t_S_cmd_Press so := h.bo.keep e3 (fun hk => by have := h.ks.out po hk; omega)
    have b2 : Box H1 pr t_S_uint8 sr := h.br.keep e3 (fun hk => by have := h.ks.out pr hk; omega)
    obtain ⟨H2, f1, f2, f3⟩ := b1.st so'
    rw [f1]
    simp only [optK_s]
    exact last H2 so' (by rw [flushed, if_neg h0]; exact e2.keep f3 (fun k q => by omega)) f2 ⟨sr, b2.keep f3 (fun q => hne q.symm)⟩ ((e3.mono (fun k _ q => .inr (.inr (h.ks.out k q)))).trans f3 (fun k _ q => .inl q))

theorem told_eq (q : Option W) : told q = .tuple ⟨[.string (S (q.getD [])), .bool q.isSome]⟩ := by cases q <;> rfl

/-- kept by a flag's turn -/
theorem PK.flag {B po pr k : Nat} {H H' : Heap} {so sr : Sl} {L : List Pr} {run : W} (h : PK B po pr H so sr L run) (hk : Keep (· = k) H H') (h1 : k < B) (h2 : k ≠ po) (h3 : k ≠ pr) : PK B po pr H' so sr L run :=
  ⟨h.ks.keep hk (fun j q => by omega), h.bo.keep hk (fun q => h2 q.symm), h.br.keep hk (fun q => h3 q.symm), by have := hk.1; have := h.le; omega⟩

theorem pfeed_loop (d kk po pr B : Nat) (x1 : Sl) (w : W) (hkB : kk < B) (hpo : po < B) (hpr : pr < B) (hne : po ≠ pr) (hko : kk ≠ po) (hkr : kk ≠ pr) (hx : ∀ k, x1.at k → k < B ∧ k ≠ kk ∧ k ≠ po ∧ k ≠ pr) (hw : w.length ≤ 1048576) :
    ∀ (m i : Nat) (L : List Pr) (run : W) (so sr : Sl) (H : Heap) (a : Bool), i ≤ w.length → w.length - i < m → L.length ≤ 2 * i → run.length ≤ i → PK B po pr H so sr L run → Flag H kk t_cmd_Keys a → Bytes H x1 w →
      ∃ H' so', cmd_Keys_Feed_p1111010 (d + 1) m kk po pr pr po x1 (w.length : Int) (i : Int) H = some (so'.v, H') ∧ Flag H' kk t_cmd_Keys (feed a L run (w.drop i)).1 ∧ Prs H' (fun k => B ≤ k) so' (feed a L run (w.drop i)).2 ∧ (∀ j, so'.at j → B ≤ j) ∧
        Keep (fun k => k = kk ∨ mine B po pr k) H H' := by
  intro m
  induction m with
  | zero => intro i L run so sr H a h1 h2; omega
  | succ m ih =>
    intro i L run so sr H a h1 h2 hL hrun hK hf hb
    rw [cmd_Keys_Feed_p1111010_s]
    simp only [decide_eq_true_eq, hb.num]
    by_cases hi : i < w.length
    · have hc : w[i]? = some w[i] := List.getElem?_eq_getElem hi
      have hd : w.drop i = w[i] :: w.drop (i + 1) := by rw [List.drop_eq_getElem_cons hi]
      generalize w[i] = c at hc hd
      obtain ⟨b, e1, e2, e3⟩ := hb.at hc
      rw [if_pos (show (i : Int) < (w.length : Int) by omega)]
      have hii : (0 : Int) ≤ (i : Int) ∧ (i : Int) < (w.length : Int) := by omega
      simp only [optK_s, e1, ap, Int.toNat_natCast, Nat.mul_one, Nat.zero_add, e2, asI_s]
      rw [if_pos hii, Bound_s]
      simp only [callK_s, told_eq, castT_s, castL_c, castL_n, cast0, asS_s, asB_s, List.getElem?_cons_zero, List.getElem?_cons_succ, optK_s, hf.ld]
      -- what goes on
      have next : ∀ (L' : List Pr) (run' : W) (so' sr' : Sl) (H1 : Heap) (a' : Bool), L'.length ≤ 2 * (i + 1) → run'.length ≤ i + 1 → PK B po pr H1 so' sr' L' run' → Flag H1 kk t_cmd_Keys a' → Keep (fun k => k = kk ∨ mine B po pr k) H H1 →
          ∃ H' so', cmd_Keys_Feed_p11110100111 (d + 1) m kk po pr pr po x1 (w.length : Int) (i : Int) H1 = some (so'.v, H') ∧ Flag H' kk t_cmd_Keys (feed a' L' run' (w.drop (i + 1))).1 ∧ Prs H' (fun k => B ≤ k) so' (feed a' L' run' (w.drop (i + 1))).2 ∧ (∀ j, so'.at j → B ≤ j) ∧
            Keep (fun k => k = kk ∨ mine B po pr k) H H' := by
        intro L' run' so' sr' H1 a' q1 q2 q3 q4 q5
        rw [cmd_Keys_Feed_p11110100111_eq, w64 (by omega), show ((i : Int) + 1) = ((i + 1 : Nat) : Int) by omega]
        obtain ⟨H', so2, g1, g2, g3, g4, g5⟩ := ih (i + 1) L' run' so' sr' H1 a' (by omega) (by omega) q1 q2 q3 q4 (Whole.keep hb q5 (fun k hk h => by have := hx k hk; unfold mine at h; omega))
        exact ⟨H', so2, g1, g2, g3, g4, q5.trans g5 (fun _ _ h => h)⟩
      have next0 : ∀ (L' : List Pr) (run' : W) (so' sr' : Sl) (H1 : Heap) (a' : Bool), L'.length ≤ 2 * (i + 1) → run'.length ≤ i + 1 → PK B po pr H1 so' sr' L' run' → Flag H1 kk t_cmd_Keys a' → Keep (fun k => k = kk ∨ mine B po pr k) H H1 →
          ∃ H' so', cmd_Keys_Feed_p111101001100111 (d + 1) m kk po pr pr po x1 (w.length : Int) (i : Int) H1 = some (so'.v, H') ∧ Flag H' kk t_cmd_Keys (feed false L' run' (w.drop (i + 1))).1 ∧ Prs H' (fun k => B ≤ k) so' (feed false L' run' (w.drop (i + 1))).2 ∧ (∀ j, so'.at j → B ≤ j) ∧
            Keep (fun k => k = kk ∨ mine B po pr k) H H' := by
        intro L' run' so' sr' H1 a' q1 q2 q3 q4 q5
        rw [cmd_Keys_Feed_p111101001100111_eq]
        obtain ⟨H2, f1, f2, f3⟩ := q4.st false
        simp only [f1, optK_s]
        exact next L' run' so' sr' H2 false q1 q2 (q3.flag f3 hkB hko hkr) f2 (q5.trans f3 (fun k _ q => .inl q))
      -- a byte of input
      have byte : ∃ H' so', cmd_Keys_Feed_p11110100110011001011 (d + 1) m kk po pr pr po (c.toNat : Int) (S ((bound c).getD [])) (bound c).isSome x1 (w.length : Int) (i : Int) true H = some (so'.v, H') ∧ Flag H' kk t_cmd_Keys (feed false L (run ++ [c]) (w.drop (i + 1))).1 ∧
          Prs H' (fun k => B ≤ k) so' (feed false L (run ++ [c]) (w.drop (i + 1))).2 ∧ (∀ j, so'.at j → B ≤ j) ∧ Keep (fun k => k = kk ∨ mine B po pr k) H H' := by
        rw [cmd_Keys_Feed_p11110100110011001011_eq, if_pos rfl]
        simp only [hK.br.ld, optK_s, asSL_s, newK_s]
        obtain ⟨sr', H1, f1, f2, f3⟩ := hK.ks.byte c (by omega) hK.le
        rw [f1]
        simp only [asSL_s]
        have b1 : Box H1 po t_S_cmd_Press so := hK.bo.keep f3 (fun hk => by have := (hK.ks.ord po hk).1; omega)
        have b2 : Box H1 pr t_S_uint8 sr := hK.br.keep f3 (fun hk => by have := (hK.ks.ord pr hk).1; omega)
        obtain ⟨H2, g1, g2, g3⟩ := b2.st sr'
        rw [g1]
        simp only [optK_s]
        have hk2 : Keep (fun k => k = kk ∨ mine B po pr k) H H2 := (f3.mono (fun k _ q => .inr (.inr (.inr (hK.ks.ord k q).1)))).trans g3 (fun k _ q => .inr (.inr (.inl q)))
        exact next0 L (run ++ [c]) so sr' H2 a (by omega) (by simp; omega) ⟨f2.keep g3 (fun k q => by omega), b1.keep g3 hne, g2, by have := hk2.1; have := hK.le; omega⟩ ((hf.keep f3 (fun hk => by have := (hK.ks.ord kk hk).1; omega)).keep g3 hkr) hk2
      rw [hd]
      simp only [feed]
      cases a with
      | false =>
        rw [if_pos (show (!false) = true from rfl), cmd_Keys_Feed_p11110100110011001_eq]
        by_cases g : c.toNat = 2
        · rw [if_pos (show false = false ∧ c.toNat = 2 from ⟨rfl, g⟩), if_pos (show decide ((c.toNat : Int) = 2) = true from decide_eq_true (by omega))]
          obtain ⟨H1, f1, f2, f3⟩ := hf.st true
          simp only [f1, optK_s]
          exact next L run so sr H1 true (by omega) (by omega) (hK.flag f3 hkB hko hkr) f2 (f3.mono (fun k _ q => .inl q))
        · rw [if_neg (show ¬ (false = false ∧ c.toNat = 2) from fun h => g h.2), if_pos (show false = false ∨ c.toNat = 2 from .inl rfl), if_neg (show ¬ decide ((c.toNat : Int) = 2) = true by simp; omega)]
          simp only [hf.ld, optK_s, asB_s]
          rw [if_pos (show (!false) = true from rfl)]
          exact byte
      | true =>
        rw [if_neg (show ¬ (!true) = true by simp), if_neg (show ¬ (true = false ∧ c.toNat = 2) by simp), cmd_Keys_Feed_p11110100110011001_eq, if_neg (show ¬ false = true by simp)]
        simp only [hf.ld, optK_s, asB_s]
        rw [if_neg (show ¬ (!true) = true by simp)]
        by_cases g : c.toNat = 2
        · rw [if_pos (show true = false ∨ c.toNat = 2 from .inr g), show decide ((c.toNat : Int) = 2) = true from decide_eq_true (by omega)]
          exact byte
        · rw [if_neg (show ¬ (true = false ∨ c.toNat = 2) by simp [g]), show decide ((c.toNat : Int) = 2) = false from decide_eq_false (by omega), cmd_Keys_Feed_p11110100110011001011_eq, if_neg (show ¬ false = true by simp)]
          cases hbd : bound c with
          | none =>
            simp only [Option.isSome_none]
            rw [if_neg (show ¬ false = true by simp)]
            exact next0 L run so sr H true (by omega) (by omega) hK hf (Keep.refl _)
          | some mm =>
            simp only [Option.isSome_some, Option.getD_some]
            rw [if_pos trivial]
            obtain ⟨H1, so1, s1, s2, s3⟩ := flush_s d B po pr hpo hpr hne H so sr L run hK (by omega)
            rw [s1]
            simp only [callK_s, s2.bo.ld, optK_s, asSL_s, newK_s]
            have hfl : (flushed L run).length ≤ L.length + 1 := by unfold flushed; split <;> simp
            obtain ⟨so2, H2, u1, u2, u3, u4⟩ := s2.ks.press (a := Sl.nil) (n := []) (m := mm) (Whole.nil _ _ _) (fun k hk => absurd hk Sl.at_nil) (by omega) s2.le
            rw [u1]
            simp only [asSL_s]
            have b1 : Box H2 po t_S_cmd_Press so1 := s2.bo.keep u3 (fun hk => by have := s2.ks.out po hk; omega)
            have b2 : Box H2 pr t_S_uint8 Sl.nil := s2.br.keep u3 (fun hk => by have := s2.ks.out pr hk; omega)
            obtain ⟨H3, g1, g2, g3⟩ := b1.st so2
            rw [g1]
            simp only [optK_s]
            have k1 : Keep (fun k => k = kk ∨ mine B po pr k) H H1 := s3.mono (fun k _ q => .inr q)
            have k2 : Keep (fun k => k = kk ∨ mine B po pr k) H H2 := k1.trans u3 (fun k _ q => .inr (.inr (.inr (s2.ks.out k q))))
            have k3 : Keep (fun k => k = kk ∨ mine B po pr k) H H3 := k2.trans g3 (fun k _ q => .inr (.inl q))
            refine next0 _ [] so2 Sl.nil H3 true (by simp only [List.length_append, List.length_cons, List.length_nil]; omega) (by simp) ⟨u2.keep g3 (fun k q => by omega), g2, b2.keep g3 (fun q => hne q.symm), by have := k3.1; have := hK.le; omega⟩ ?_ k3
            refine ((hf.keep s3 (fun hk => by unfold mine at hk; omega)).keep u3 (fun hk => by have := s2.ks.out kk hk; omega)).keep g3 hko
    · rw [if_neg (show ¬ (i : Int) < (w.length : Int) by omega), List.drop_eq_nil_of_le (by omega)]
      obtain ⟨H1, so1, s1, s2, s3⟩ := flush_s d B po pr hpo hpr hne H so sr L run hK (by omega)
      rw [s1]
      simp only [callK_s, s2.bo.ld, optK_s, asSL_s, feed]
      exact ⟨H1, so1, rfl, hf.keep s3 (fun hk => by unfold mine at hk; omega), s2.ks.done, s2.ks.out, s3.mono (fun k _ q => .inr q)⟩

theorem Feed_s (d kk : Nat) (x1 : Sl) (w : W) (H : Heap) (a : Bool) (hf : Flag H kk t_cmd_Keys a) (hb : Bytes H x1 w) (hx : ∀ k, x1.at k → k ≠ kk) (hw : w.length ≤ 1048576) : FPost H.next kk t_cmd_Keys H (feed a [] [] w) (X (d + 2) n_cmd_Keys_Feed [P0 kk, x1.v] H) := by
  rw [cmd_Keys_Feed_eq]
  simp only [newK_s, hb.num]
  have k1 : Keep (fun _ => False) H (H.new (.cells [.slice none 0 0] t_S_cmd_Press false 0 false)) := Keep.new _ _
  have k2 := k1.trans (Keep.new (S := fun _ => False) (H.new (.cells [.slice none 0 0] t_S_cmd_Press false 0 false)) (.cells [.slice none 0 0] t_S_uint8 false 0 false)) (fun _ _ h => h)
  simp only [Heap.next_new]
  have hkk := hf.2
  have hbo : Box ((H.new (.cells [.slice none 0 0] t_S_cmd_Press false 0 false)).new (.cells [.slice none 0 0] t_S_uint8 false 0 false)) H.next t_S_cmd_Press Sl.nil := ⟨by rw [Heap.get_new_ne _ _ (by simp)]; simp, by simp; omega⟩
  have hbr : Box ((H.new (.cells [.slice none 0 0] t_S_cmd_Press false 0 false)).new (.cells [.slice none 0 0] t_S_uint8 false 0 false)) (H.next + 1) t_S_uint8 Sl.nil := ⟨by rw [Heap.get_new]; simp, by simp⟩
  obtain ⟨H', so', g1, g2, g3, g4, g5⟩ := pfeed_loop d kk H.next (H.next + 1) (H.next + 2) x1 w (by omega) (by omega) (by omega) (by omega) (by omega) (by omega) (fun k hk => by have := Whole.lt hb hk; have := hx k hk; omega) hw NN 0 [] [] Sl.nil Sl.nil _ a (by omega) (NN_big _ (by omega)) (by simp) (by simp)
    ⟨⟨⟨[], Whole.nil _ _ _, PrL.nil _ _⟩, Whole.nil _ _ _, fun j hj => absurd hj Sl.at_nil, fun j hj => absurd hj Sl.at_nil⟩, hbo, hbr, by simp⟩ (hf.keep k2 id) (Whole.keep hb k2 (fun _ _ h => h))
  rw [List.drop_zero] at g2 g3
  refine ⟨H', so', g1, g2, ?_, fun j hj => by have := g4 j hj; omega, (k2.mono (fun _ _ h => h.elim)).trans g5 (fun k hk q => ?_)⟩
  · obtain ⟨cs, c1, c2⟩ := g3
    exact ⟨cs, c1, c2.mono (fun k _ q => by omega)⟩
  · unfold mine at q; omega
end Go.Proofs.Ytnpmlgibjhjiiaa.dec

namespace Go.Proofs.Ytnpmlgibjhjiiaa.dec
open Go Go.Cm

attribute [local congr] optK_congr asI_congr asN_congr asB_congr asS_congr asP_congr asA_congr asSL_congr callK_congr castT_congr chk_congr

theorem Keep.ld {H0 H : Heap} (h : Keep (fun _ => False) H0 H) {b o : Nat} (hb : b < H0.next) : H.ld1 ⟨b, o, none⟩ = H0.ld1 ⟨b, o, none⟩ := by
  unfold Heap.ld1
  rw [h.2 b hb id]

/-- bytes that can be read, wherever they lie, below B -/
def BytesR (B : Nat) (H : Heap) (x : Sl) (w : W) : Prop := x.n = w.length ∧ B ≤ H.next ∧ (w = [] ∨ ∃ b o, x.a = some ⟨b, o, none⟩ ∧ b < B ∧ ∀ (i : Nat) c, w[i]? = some c → H.ld1 ⟨b, o + i, none⟩ = some (.int .u8 (c.toNat : Int)))
theorem BytesR.keep {B : Nat} {S : Nat → Prop} {H0 H : Heap} {x : Sl} {w : W} (h : BytesR B H0 x w) (hk : Keep S H0 H) (hS : ∀ k, S k → B ≤ k) : BytesR B H x w := by
  obtain ⟨h1, h0, h2⟩ := h
  refine ⟨h1, Nat.le_trans h0 hk.1, ?_⟩
  rcases h2 with h2 | ⟨b, o, e1, e2, e3⟩
  · exact .inl h2
  · refine .inr ⟨b, o, e1, e2, fun i c hi => ?_⟩
    have : H.get b = H0.get b := hk.2 b (by omega) (fun q => by have := hS b q; omega)
    have q := e3 i c hi
    unfold Heap.ld1 at q ⊢
    rw [this]; exact q
theorem Bytes.read {H : Heap} {x : Sl} {w : W} (h : Bytes H x w) : BytesR H.next H x w := by
  refine ⟨h.num, Nat.le_refl _, ?_⟩
  cases w with
  | nil => exact .inl rfl
  | cons c w =>
    obtain ⟨b, e1, _, e3⟩ := h.at (k := 0) rfl
    refine .inr ⟨b, 0, e1, Whole.lt h e3, fun i c hi => ?_⟩
    obtain ⟨b', g1, g2, _⟩ := h.at hi
    rw [e1] at g1
    cases g1
    rw [Nat.zero_add]; exact g2
theorem BytesR.str {B : Nat} {H : Heap} {x : Sl} {w : W} (h : BytesR B H x w) : readD .bytesStr [x.v] H = some (.string (S w)) := by
  obtain ⟨h1, _, h2⟩ := h
  rcases h2 with rfl | ⟨b, o, e1, e2, e3⟩
  · obtain ⟨xa, xn, xc⟩ := x
    simp only [List.length_nil] at h1
    subst h1
    cases xa <;> simp [readD]
  · obtain ⟨xa, xn, xc⟩ := x
    simp only at h1 e1
    subst h1 e1
    simp only [readD]
    by_cases h0 : w.length = 0
    · rw [if_pos h0, List.eq_nil_of_length_eq_zero h0]
    · rw [if_neg h0]
      have hld : H.ldN ⟨b, o, none⟩ w.length = some (bytes w) := by
        have q0 := e3 0 w[0] (List.getElem?_eq_getElem (by omega))
        unfold Heap.ld1 at q0
        split at q0
        · rename_i c e op fz st hg
          have hc : ∀ (i : Nat) y, w[i]? = some y → c[o + i]? = some (.int .u8 (y.toNat : Int)) := fun i y hi => by
            have := e3 i y hi
            rw [ld1_s hg] at this
            exact this
          have hlast := (List.getElem?_eq_some_iff.1 (hc (w.length - 1) w[w.length - 1] (List.getElem?_eq_getElem (by omega)))).1
          rw [ldN_s hg (by omega)]
          congr 1
          apply List.ext_getElem?
          intro i
          by_cases hi : i < w.length
          · rw [List.getElem?_take_of_lt hi, List.getElem?_drop, hc i w[i] (List.getElem?_eq_getElem hi)]
            simp [bytes, List.getElem?_eq_getElem hi]
          · rw [List.getElem?_eq_none (by simp; omega), List.getElem?_eq_none (by simp [bytes]; omega)]
        · cases q0
      rw [hld]
      simp [bytesOf_bytes]

/-! ### pieces -/
def ChL (H : Heap) (P : Nat → Prop) (cs : List Value) (L : List W) : Prop :=
  cs.length = L.length ∧ ∀ (i : Nat) w, L[i]? = some w → ∃ a : Sl, cs[i]? = some a.v ∧ Bytes H a w ∧ ∀ k, a.at k → P k
def Chs (H : Heap) (P : Nat → Prop) (s : Sl) (L : List W) : Prop := ∃ cs, Whole H s cs t_S_uint8 1 ∧ ChL H P cs L
theorem ChL.keep {S P : Nat → Prop} {H H' : Heap} {cs : List Value} {L : List W} (h : ChL H P cs L) (hk : Keep S H H') (hn : ∀ k, P k → ¬ S k) : ChL H' P cs L :=
  ⟨h.1, fun i w hi => let ⟨a, h1, h2, h3⟩ := h.2 i w hi; ⟨a, h1, h2.keep hk (fun k hk => hn k (h3 k hk)), h3⟩⟩
theorem ChL.mono {P Q : Nat → Prop} {H : Heap} {cs : List Value} {L : List W} (h : ChL H P cs L) (hn : ∀ k, k < H.next → P k → Q k) : ChL H Q cs L :=
  ⟨h.1, fun i w hi => let ⟨a, h1, h2, h3⟩ := h.2 i w hi; ⟨a, h1, h2, fun k hk => hn k (h2.lt hk) (h3 k hk)⟩⟩
theorem ChL.snoc {P : Nat → Prop} {H : Heap} {cs : List Value} {L : List W} (h : ChL H P cs L) {w : W} {a : Sl} (ha : Bytes H a w) (hp : ∀ k, a.at k → P k) : ChL H P (cs ++ [a.v]) (L ++ [w]) := by
  refine ⟨by simp [h.1], fun i w' hi => ?_⟩
  by_cases hlt : i < L.length
  · rw [List.getElem?_append_left hlt] at hi
    obtain ⟨b, h1, h2⟩ := h.2 i w' hi
    exact ⟨b, by rw [List.getElem?_append_left (by have := h.1; omega)]; exact h1, h2⟩
  · have hi' : i = L.length := by
      have := (List.getElem?_eq_some_iff.1 hi).1
      simp at this; omega
    subst hi'
    simp at hi
    subst hi
    exact ⟨a, by rw [List.getElem?_append_right (by have := h.1; omega), h.1]; simp, ha, hp⟩

/-- one more piece: its bytes, its box, the append -/
theorem piece (H : Heap) (B : Nat) (so : Sl) (L : List W) (w : W) (hB : B ≤ H.next) (hc : Chs H (InQ B so) so L) (ho : ∀ j, so.at j → B ≤ j) (hL : L.length ≤ 1000000) :
    ∃ so' H', (∀ K, appendK t_S_uint8 1 24 false so.v (.slice (some ⟨(H.new (.cells (bytes w) t_uint8 true 0 true)).next, 0, none⟩) 1 1)
        ((H.new (.cells (bytes w) t_uint8 true 0 true)).new (.cells [.slice (some ⟨H.next, 0, none⟩) w.length w.length] t_S_uint8 false 0 false)) K = K so'.v H') ∧
      Chs H' (InQ B so') so' (L ++ [w]) ∧ (∀ j, so'.at j → B ≤ j) ∧ Keep so.at H H' := by
  obtain ⟨cs, c1, c2⟩ := hc
  have hk : Keep (fun _ => False) H (H.new (.cells (bytes w) t_uint8 true 0 true)) := Keep.new _ _
  have ha : Bytes (H.new (.cells (bytes w) t_uint8 true 0 true)) ⟨some ⟨H.next, 0, none⟩, w.length, w.length⟩ w := .inr ⟨H.next, w.length, rfl, by simp [bytes], by simp, true, true, by simp⟩
  have c1' := c1.keep hk (fun _ _ h => h)
  have hcl := c1.len
  have hcl2 := c2.1
  obtain ⟨so', H', f1, f2, f3, f4, f5, _⟩ := push_whole (bytes := 24) (new := [.slice (some ⟨H.next, 0, none⟩) w.length w.length]) c1' rfl (by omega) (by omega) (by omega)
  obtain ⟨bo, _, _, _, _, _, hbo⟩ := Whole.block f2 (by simp)
  have k1 : ChL H' (InQ B so') cs L := by
    have q := (c2.keep hk (fun _ _ h => h)).keep f3 (fun k hk hk' => by
      obtain ⟨j, hj, hkj⟩ := hk.2
      obtain ⟨a1, q1, q2⟩ := hj
      obtain ⟨a2, q3, q4⟩ := hk'
      rw [q1] at q3; cases q3; omega)
    exact q.mono (fun k _ hk => ⟨hk.1, bo, hbo, by
      obtain ⟨j, hj, hkj⟩ := hk.2
      have := c1.lt hj
      have := f5 bo hbo
      simp at this
      omega⟩)
  have ha' : Bytes H' ⟨some ⟨H.next, 0, none⟩, w.length, w.length⟩ w := ha.keep f3 (fun k hk hk' => by
    obtain ⟨a1, q1, q2⟩ := hk
    cases q1
    have := c1.lt hk'
    simp at q2
    omega)
  refine ⟨so', H', f1, ⟨_, f2, k1.snoc ha' (fun k hk => ?_)⟩, fun j hj => by have := f5 j hj; simp at this; omega, (hk.mono (fun _ _ h => h.elim)).trans f3 (fun _ _ h => h)⟩
  obtain ⟨a1, q1, q2⟩ := hk
  cases q1
  have := f5 bo hbo
  simp at this q2
  exact ⟨by omega, bo, hbo, by omega⟩

/-- numbers that can be read in any later memory -/
def IntsL (H0 : Heap) (x : Sl) (l : List Int) : Prop := x.n ≤ l.length ∧ ∀ (i : Nat) n, i < x.n → l[i]? = some n → ∃ b o, b < H0.next ∧ x.a = some ⟨b, o, none⟩ ∧ H0.ld1 ⟨b, o + i, none⟩ = some (.int .i64 n)

theorem cut_loop (d : Nat) (H0 : Heap) (B : Nat) (x : Sl) (l : List Int) (hx : IntsL H0 x l) (hl : l.length ≤ 1048576) (h0B : H0.next ≤ B) (N : Nat) (hN : N ≤ 100000000) : ∀ (m i : Nat) (w : W) (L : List W) (so : Sl) (H : Heap), i ≤ x.n → x.n - i < m → w.length ≤ N → L.length ≤ i → (∀ v ∈ L, v.length ≤ N) → i ≤ 40 →
    Chs H (InQ B so) so L → (∀ j, so.at j → B ≤ j) → Keep (fun k => B ≤ k) H0 H → B ≤ H.next →
    ∃ H' so' L', hand_Cut_p11010 (d + 1) m (S w) x so (i : Int) H = some (so'.v, H') ∧ Chs H' (fun k => B ≤ k) so' L' ∧ (∀ j, so'.at j → B ≤ j) ∧ L'.length ≤ 41 ∧ (∀ v ∈ L', v.length ≤ N) ∧ Keep (fun k => B ≤ k) H0 H' := by
  intro m
  have hle := hx.1
  induction m with
  | zero => intro i w L so H h1 h2; omega
  | succ m ih =>
    intro i w L so H h1 h2 hw hL hLv hi40 hc ho hk hB
    have hk0 : Keep (fun _ => False) H0 H := ⟨hk.1, fun k q _ => hk.2 k q (by omega)⟩
    have stop : ∃ H' so' L', hand_Cut_p11010001 (d + 1) m (S w) x so (i : Int) false H = some (so'.v, H') ∧ Chs H' (fun k => B ≤ k) so' L' ∧ (∀ j, so'.at j → B ≤ j) ∧ L'.length ≤ 41 ∧ (∀ v ∈ L', v.length ≤ N) ∧ Keep (fun k => B ≤ k) H0 H' := by
      rw [hand_Cut_p11010001_eq, if_neg (by simp)]
      obtain ⟨so', H', e1, e2, e3, e4⟩ := piece H B so L w hB hc ho (by omega)
      simp only [newK_s, lstS, slenS]
      have := e1
      simp only [bytes] at this
      rw [this]
      simp only [asSL_s]
      obtain ⟨cs, q1, q2⟩ := e2
      refine ⟨H', so', L ++ [w], rfl, ⟨cs, q1, q2.mono (fun k _ hk => hk.1)⟩, e3, by simp; omega, fun v hv => ?_, hk.trans e4 (fun k _ q => ho k q)⟩
      rcases List.mem_append.1 hv with hv | hv
      · exact hLv v hv
      · simp at hv; subst hv; exact hw
    rw [hand_Cut_p11010_s]
    simp only [decide_eq_true_eq, slenS]
    by_cases hi : i < x.n
    · rw [if_pos (show (i : Int) < (x.n : Int) by omega)]
      by_cases h40 : i < 40
      · rw [if_pos (show (i : Int) < 40 by omega)]
        by_cases hw0 : 0 < w.length
        · rw [show decide (0 < (w.length : Int)) = true from decide_eq_true (by omega), hand_Cut_p11010001_eq, if_pos rfl]
          have hc1 : l[i]? = some l[i] := List.getElem?_eq_getElem (by omega)
          obtain ⟨b, o, e0, e1, e2⟩ := hx.2 i _ hi hc1
          have e2' := e2
          rw [← Keep.ld hk0 e0] at e2'
          obtain ⟨r, p1, p2, p3⟩ := Pick_s d l[i] 9 H (by omega) (by omega)
          simp only [e1, optK_s, ap, Int.toNat_natCast, Nat.mul_one, e2', asI_s, p1, callK_s, slenS]
          rw [if_pos (show (0 : Int) ≤ (i : Int) ∧ (i : Int) < (x.n : Int) by omega)]
          generalize hq : (if (w.length : Int) < r then (w.length : Int) else r) = q
          have hq0 : 0 ≤ q ∧ q ≤ (w.length : Int) := by rw [← hq]; split <;> omega
          obtain ⟨n, rfl⟩ : ∃ n : Nat, q = n := ⟨q.toNat, by omega⟩
          rw [if_pos hq0]
          simp only [Int.toNat_natCast, newK_s, sSubS, lstS, slenS, List.drop_zero]
          have hlen : (w.take n).length = n := by rw [List.length_take]; omega
          obtain ⟨so', H', f1, f2, f3, f4⟩ := piece H B so L (w.take n) hB hc ho (by omega)
          rw [hlen] at f1 ⊢
          simp only [bytes] at f1
          rw [f1]
          simp only [asSL_s]
          rw [if_pos hq0, w64 (by omega), show ((i : Int) + 1) = ((i + 1 : Nat) : Int) by omega, List.take_length]
          exact ih (i + 1) (w.drop n) (L ++ [w.take n]) so' H' (by omega) (by omega) (by simp; omega) (by simp; omega) (fun v hv => by
            rcases List.mem_append.1 hv with hv | hv
            · exact hLv v hv
            · simp at hv; subst hv; simp; omega) (by omega) f2 f3 (hk.trans f4 (fun k _ q => ho k q)) (by have := f4.1; omega)
        · rw [show decide (0 < (w.length : Int)) = false from decide_eq_false (by omega)]
          exact stop
      · rw [if_neg (show ¬ (i : Int) < 40 by omega)]
        exact stop
    · rw [if_neg (show ¬ (i : Int) < (x.n : Int) by omega)]
      exact stop
end Go.Proofs.Ytnpmlgibjhjiiaa.dec

namespace Go.Proofs.Ytnpmlgibjhjiiaa.dec
open Go Go.Cm

attribute [local congr] optK_congr asI_congr asN_congr asB_congr asS_congr asP_congr asA_congr asSL_congr callK_congr castT_congr chk_congr

theorem Prs.at {H : Heap} {P : Nat → Prop} {so : Sl} {L : List Pr} (h : Prs H P so L) {i : Nat} {n m : W} (hi : L[i]? = some (n, m)) : ∃ b a, so.a = some ⟨b, 0, none⟩ ∧ H.ld1 ⟨b, i * 2, none⟩ = some (Sl.v a) ∧ H.ld1 ⟨b, i * 2 + 1, none⟩ = some (.string (S m)) ∧ Bytes H a n := by
  obtain ⟨cs, h1, h2, h3⟩ := h
  have hlt := (List.getElem?_eq_some_iff.1 hi).1
  have hne : cs ≠ [] := fun e => by subst e; simp at h2; omega
  obtain ⟨b, o, st, e1, e2, e3, _⟩ := Whole.block h1 hne
  obtain ⟨a, q1, q2, q3, _⟩ := h3 i n m hi
  exact ⟨b, a, by rw [e1], by rw [ld1_s e3]; exact q1, by rw [ld1_s e3]; exact q2, q3⟩
theorem Prs.num {H : Heap} {P : Nat → Prop} {so : Sl} {L : List Pr} (h : Prs H P so L) : so.n = L.length := by
  obtain ⟨cs, h1, h2, _⟩ := h
  have := h1.len
  omega
theorem Prs.keep {S P : Nat → Prop} {H H' : Heap} {so : Sl} {L : List Pr} (h : Prs H P so L) (hk : Keep S H H') (hn : ∀ k, k < H.next → P k → ¬ S k) (ho : ∀ j, so.at j → ¬ S j) : Prs H' P so L := by
  obtain ⟨cs, h1, h2⟩ := h
  refine ⟨cs, h1.keep hk ho, h2.1, fun i n m hi => ?_⟩
  obtain ⟨a, q1, q2, q3, q4⟩ := h2.2 i n m hi
  exact ⟨a, q1, q2, q3.keep hk (fun k q => hn k (Whole.lt q3 q) (q4 k q)), q4⟩
theorem Chs.at {H : Heap} {P : Nat → Prop} {so : Sl} {L : List W} (h : Chs H P so L) {i : Nat} {w : W} (hi : L[i]? = some w) : ∃ b a, so.a = some ⟨b, 0, none⟩ ∧ so.at b ∧ H.ld1 ⟨b, i, none⟩ = some (Sl.v a) ∧ Bytes H a w ∧ ∀ k, a.at k → P k := by
  obtain ⟨cs, h1, h2, h3⟩ := h
  have hlt := (List.getElem?_eq_some_iff.1 hi).1
  have hne : cs ≠ [] := fun e => by subst e; simp at h2; omega
  obtain ⟨b, o, st, e1, e2, e3, e4⟩ := Whole.block h1 hne
  obtain ⟨a, q1, q2, q3⟩ := h3 i w hi
  exact ⟨b, a, by rw [e1], e4, by rw [ld1_s e3]; exact q1, q2, q3⟩
theorem Chs.num {H : Heap} {P : Nat → Prop} {so : Sl} {L : List W} (h : Chs H P so L) : so.n = L.length := by
  obtain ⟨cs, h1, h2, _⟩ := h
  have := h1.len
  omega
theorem Chs.keep {S P : Nat → Prop} {H H' : Heap} {so : Sl} {L : List W} (h : Chs H P so L) (hk : Keep S H H') (hn : ∀ k, P k → ¬ S k) (ho : ∀ j, so.at j → ¬ S j) : Chs H' P so L := by
  obtain ⟨cs, h1, h2⟩ := h
  exact ⟨cs, h1.keep hk ho, h2.keep hk hn⟩

/-- presses, one by one alike -/
theorem cmp_loop (d m0 : Nat) (x1 x11 : Sl) (x12 : Option Addr) (x13 : Nat) (x14 : Int) (H : Heap) (P Q : Nat → Prop) (s1 s2 : Sl) (L : List Pr) (h1 : Prs H P s1 L) (h2 : Prs H Q s2 L) (hL : L.length ≤ 100000000) : ∀ (m i : Nat), i ≤ L.length → L.length - i < m →
    law24_CmdKeys_p1101111010010011110 d m0 m x1 x11 x12 x13 x14 s1 s2 (i : Int) H = law24_CmdKeys_p1101111010 d m0 x1 x11 x12 x13 (IntKind.i64.wrap (x14 + 1)) H := by
  intro m
  induction m with
  | zero => intro i q1 q2; omega
  | succ m ih =>
    intro i q1 q2
    rw [law24_CmdKeys_p1101111010010011110_s]
    simp only [decide_eq_true_eq, h1.num, h2.num]
    by_cases hi : i < L.length
    · have hc : L[i]? = some L[i] := List.getElem?_eq_getElem hi
      generalize L[i] = c at hc
      obtain ⟨n, mm⟩ := c
      obtain ⟨b, a, e1, e3, e4, e5⟩ := h1.at hc
      obtain ⟨b', a', e1', e3', e4', e5'⟩ := h2.at hc
      have hii : (0 : Int) ≤ (i : Int) ∧ (i : Int) < (L.length : Int) := by omega
      simp only [e1, e1', optK_s, ap, Nat.zero_add, Nat.add_zero, Int.toNat_natCast, e3, e3', e4, e4', asS_s, asSL_s, sEqS]
      rw [if_pos (show (i : Int) < (L.length : Int) by omega), if_pos hii, e5.read.str]
      simp only [optK_s, asS_s]
      rw [if_pos hii, e5'.read.str]
      simp only [optK_s, asS_s, sEqS]
      rw [if_neg (by simp), if_pos hii, if_pos hii]
      rw [show (!(mm == mm)) = false by simp, law24_CmdKeys_p110111101001001111001001_eq, if_neg (by simp), w64 (by omega), show ((i : Int) + 1) = ((i + 1 : Nat) : Int) by omega]
      exact ih (i + 1) (by omega) (by omega)
    · rw [if_neg (show ¬ (i : Int) < (L.length : Int) by omega)]

/-- each byte: bound alike -/
theorem bound_loop (d B : Nat) (x1 : Sl) (w : W) (hw : w.length ≤ 1048576) : ∀ (m i : Nat) (H : Heap), i ≤ w.length → w.length - i < m → BytesR B H x1 w → ∃ H', law24_CmdKeys_p11011111010 (d + 1) m x1 (i : Int) H = some (.bool true, H') := by
  intro m
  induction m with
  | zero => intro i H q1 q2; omega
  | succ m ih =>
    intro i H q1 q2 hb
    rw [law24_CmdKeys_p11011111010_s]
    simp only [decide_eq_true_eq, hb.1]
    have stop : ∃ H', law24_CmdKeys_p11011111010001 (d + 1) m x1 (i : Int) false H = some (.bool true, H') := by
      rw [law24_CmdKeys_p11011111010001_eq, if_neg (by simp)]
      exact ⟨H, rfl⟩
    by_cases hi : i < w.length
    · rw [if_pos (show (i : Int) < (w.length : Int) by omega)]
      by_cases h20 : i < 20
      · rw [show decide ((i : Int) < 20) = true from decide_eq_true (by omega), law24_CmdKeys_p11011111010001_eq, if_pos rfl]
        have hc : w[i]? = some w[i] := List.getElem?_eq_getElem hi
        generalize w[i] = c at hc
        have hii : (0 : Int) ≤ (i : Int) ∧ (i : Int) < (w.length : Int) := by omega
        have hb1 := hb.1
        rcases hb.2.2 with h0 | ⟨b, o, e1, e2, e3⟩
        · subst h0; simp at hi
        · have ec := e3 i c hc
          simp only [e1, optK_s, ap, Int.toNat_natCast, Nat.mul_one, ec, asI_s, hb1]
          rw [if_pos hii, Bound_s]
          simp only [callK_s, told_eq, castT_s, castL_c, castL_n, cast0, asS_s, asB_s, List.getElem?_cons_zero, List.getElem?_cons_succ, optK_s, ec, asI_s]
          rw [if_pos hii]
          obtain ⟨H1, p1, p2⟩ := RBound_s d c H
          rw [p1]
          simp only [callK_s, told_eq, castT_s, castL_c, castL_n, cast0, asS_s, asB_s, List.getElem?_cons_zero, List.getElem?_cons_succ, optK_s, sEqS]
          rw [if_neg (by simp), show (!((bound c).isSome == (bound c).isSome)) = false by simp, law24_CmdKeys_p110111110100100111_eq, if_neg (by simp), w64 (by omega), show ((i : Int) + 1) = ((i + 1 : Nat) : Int) by omega]
          exact ih (i + 1) H1 (by omega) (by omega) (hb.keep p2 (fun _ h => h.elim))
      · rw [show decide ((i : Int) < 20) = false from decide_eq_false (by omega)]
        exact stop
    · rw [if_neg (show ¬ (i : Int) < (w.length : Int) by omega)]
      exact stop

theorem feed_len : ∀ (r : W) (a : Bool) (L : List Pr) (run : W), (feed a L run r).2.length ≤ L.length + 2 * r.length + 1
  | [], a, L, run => by simp only [feed, flushed]; split <;> simp
  | c :: r, a, L, run => by
    simp only [feed]
    split
    · have := feed_len r true L run; simp only [List.length_cons]; omega
    · split
      · have := feed_len r false L (run ++ [c]); simp only [List.length_cons]; omega
      · split
        · rename_i mm _
          have := feed_len r false (flushed L run ++ [([], mm)]) []
          have h2 : (flushed L run).length ≤ L.length + 1 := by unfold flushed; split <;> simp
          simp only [List.length_append, List.length_cons, List.length_nil] at this ⊢
          omega
        · have := feed_len r false L run; simp only [List.length_cons]; omega

/-- piece by piece -/
theorem keys_loop (d B kp rp : Nat) (x1 x11 : Sl) (w : W) (Ls : List W) (hw : w.length ≤ 1048576) (hB : B ≤ kp) (hkr : kp < rp) (hLs : Ls.length ≤ 41) (hLv : ∀ v ∈ Ls, v.length ≤ 1048576) (hx11 : ∀ k, x11.at k → k < kp) :
    ∀ (m i : Nat) (H : Heap) (a : Bool), i ≤ Ls.length → Ls.length - i < m → BytesR B H x1 w → Chs H (fun k => k < kp) x11 Ls → Flag H kp t_cmd_Keys a → Flag H rp t_ref22_Keys a →
      ∃ H', law24_CmdKeys_p1101111010 (d + 2) m x1 x11 (some ⟨kp, 0, none⟩) rp (i : Int) H = some (.bool true, H') := by
  intro m
  induction m with
  | zero => intro i H a q1 q2; omega
  | succ m ih =>
    intro i H a q1 q2 hb hc hf hr
    rw [law24_CmdKeys_p1101111010_s]
    simp only [decide_eq_true_eq, hc.num]
    by_cases hi : i < Ls.length
    · rw [if_pos (show (i : Int) < (Ls.length : Int) by omega)]
      have hv : Ls[i]? = some Ls[i] := List.getElem?_eq_getElem hi
      have hvl := hLv _ (List.getElem_mem hi)
      generalize Ls[i] = v at hv hvl
      have hii : (0 : Int) ≤ (i : Int) ∧ (i : Int) < (Ls.length : Int) := by omega
      obtain ⟨b, p, e1, e2, e3, e4, e5⟩ := hc.at hv
      simp only [e1, optK_s, ap, Int.toNat_natCast, Nat.mul_one, Nat.zero_add, e3, asSL_s]
      rw [if_pos hii]
      obtain ⟨H1, s1, f1, f2, f3, f4, f5⟩ := Feed_s d kp p v H a hf e4 (fun k hk => by have := e5 k hk; omega) hvl
      have f1' : X (d + 2) n_cmd_Keys_Feed [.pointer (some ⟨kp, 0, none⟩), p.v] H = some (s1.v, H1) := f1
      rw [f1']
      simp only [callK_s, asSL_s]
      have hrn := hr.2
      have hb1 : BytesR B H1 x1 w := hb.keep f5 (fun k q => by rcases q with q | q; omega; have := hb.2.1; omega)
      have hc1 : Chs H1 (fun k => k < kp) x11 Ls := hc.keep f5 (fun k q q' => by rcases q' with q' | q'; omega; omega) (fun k q q' => by have := hx11 k q; rcases q' with q' | q'; omega; omega)
      have hr1 : Flag H1 rp t_ref22_Keys a := hr.keep f5 (fun q => by rcases q with q | q <;> omega)
      obtain ⟨b', p', e1', e2', e3', e4', e5'⟩ := hc1.at hv
      rw [e1] at e1'
      cases e1'
      simp only [e3', optK_s, asSL_s]
      rw [if_pos hii]
      obtain ⟨H2, s2, g1, g2, g3, g4, g5⟩ := RFeed_s d rp p' v H1 a hr1 e4' (fun k hk => by have := e5' k hk; omega) hvl
      rw [g1]
      simp only [callK_s, asSL_s]
      have hr1n := hr1.2
      have hP1 : Prs H2 (fun k => H.next ≤ k) s1 (feed a [] [] v).2 := f3.keep g5 (fun k q0 q q' => by rcases q' with q' | q' <;> omega) (fun j q q' => by
        have := f4 j q
        obtain ⟨cs, c1, _⟩ := f3
        have := c1.lt q
        rcases q' with q' | q' <;> omega)
      have hlen : (feed a [] [] v).2.length ≤ 100000000 := by have := feed_len v a [] []; simp at this; omega
      rw [if_neg (by simp [hP1.num, g3.num]), show (0 : Int) = ((0 : Nat) : Int) from rfl, cmp_loop (d + 2) m x1 x11 _ rp _ H2 _ _ s1 s2 _ hP1 g3 hlen NN 0 (by omega) (NN_big _ (by omega)), w64 (by omega), show ((i : Int) + 1) = ((i + 1 : Nat) : Int) by omega]
      exact ih (i + 1) H2 (feed a [] [] v).1 (by omega) (by omega) (hb1.keep g5 (fun k q => by rcases q with q | q; omega; have := hb1.2.1; omega)) (hc1.keep g5 (fun k q q' => by rcases q' with q' | q' <;> omega) (fun k q q' => by have := hx11 k q; rcases q' with q' | q' <;> omega)) (f2.keep g5 (fun q => by rcases q with q | q <;> omega)) g2
    · rw [if_neg (show ¬ (i : Int) < (Ls.length : Int) by omega)]
      exact bound_loop (d + 1) B x1 w hw NN 0 H (by omega) (NN_big _ (by omega)) hb

theorem IntsL.keep {H0 H : Heap} {x : Sl} {l : List Int} (h : IntsL H0 x l) (hk : Keep (fun _ => False) H0 H) : IntsL H x l :=
  ⟨h.1, fun i n h1 h2 => let ⟨b, o, e0, e1, e2⟩ := h.2 i n h1 h2; ⟨b, o, Nat.lt_of_lt_of_le e0 hk.1, e1, by rw [Keep.ld hk e0]; exact e2⟩⟩

/-- behind the bytes -/
theorem keys_body (d : Nat) (H0 H : Heap) (x1 x3 : Sl) (w : W) (l : List Int) (hw : w.length ≤ 1048576) (hb : BytesR H.next H x1 w) (hx3 : IntsL H0 x3 l) (hl : l.length ≤ 1048576) (hk : Keep (fun _ => False) H0 H) :
    ∃ H', law24_CmdKeys_p11 (d + 2) x1 x3 H = some (.bool true, H') := by
  rw [law24_CmdKeys_p11_eq, hb.str]
  simp only [optK_s, asS_s]
  rw [hand_Cut_eq]
  obtain ⟨H1, so, Ls, e1, e2, e3, e4, e5, e6⟩ := cut_loop d H H.next x3 l (hx3.keep hk) hl (Nat.le_refl _) 1048576 (by omega) NN 0 w [] Sl.nil H (by omega) (NN_big _ (by have := hx3.1; omega)) hw (by simp) (by simp) (by omega) ⟨[], Whole.nil _ _ _, ⟨rfl, fun i w h => by simp at h⟩⟩ (fun j hj => absurd hj Sl.at_nil) (Keep.refl _) (Nat.le_refl _)
  have e1' : hand_Cut_p11010 (d + 1) NN (S w) x3 Sl.nil 0 H = some (so.v, H1) := e1
  rw [e1']
  simp only [callK_s, asSL_s]
  rw [cmd_NewKeys_eq]
  simp only [newK_s, callK_s, asP_s, Heap.next_new]
  rw [known_s]
  simp only [callK_s, asB_s]
  rw [if_neg (show ¬ (!true) = true by simp), show (some (⟨H1.next, 0, none⟩ : Addr)).isNone = false from rfl, law24_CmdKeys_p11011101_eq, if_neg (by simp)]
  have hH : H.next ≤ H1.next := e6.1
  have k2 : Keep (fun _ => False) H1 (H1.new (.cells [.bool false] t_cmd_Keys false 0 false)) := Keep.new _ _
  have k3 := k2.trans (Keep.new (S := fun _ => False) (H1.new (.cells [.bool false] t_cmd_Keys false 0 false)) (.cells [.bool false] t_ref22_Keys false 0 false)) (fun _ _ h => h)
  obtain ⟨cs, c1, c2⟩ := e2
  refine keys_loop d H.next H1.next (H1.next + 1) x1 so w Ls hw hH (by omega) e4 e5 (fun k q => c1.lt q) NN 0 _ false (by omega) (NN_big _ (by omega)) ((hb.keep e6 (fun k q => q)).keep k3 (fun _ h => h.elim))
    ⟨cs, c1.keep k3 (fun _ _ h => h), ⟨c2.1, fun i v hi => ?_⟩⟩ ⟨by rw [Heap.get_new_ne _ _ (by simp)]; simp, by simp; omega⟩ ⟨by rw [Heap.get_new]; simp, by simp⟩
  obtain ⟨a, q1, q2, _⟩ := c2.2 i v hi
  exact ⟨a, q1, Whole.keep q2 k3 (fun _ _ h => h), fun k q => Whole.lt q2 q⟩

theorem build_loop (d : Nat) (H0 : Heap) (x0 x3 : Sl) (l lc : List Int) (hx0 : IntsL H0 x0 l) (hl : l.length ≤ 1048576) (hx3 : IntsL H0 x3 lc) (hlc : lc.length ≤ 1048576) : ∀ (m i : Nat) (w : W) (sw : Sl) (H : Heap), i ≤ x0.n → x0.n - i < m → w.length ≤ i → i ≤ 60 → Bytes H sw w → (∀ k, sw.at k → H0.next ≤ k) → Keep (fun _ => False) H0 H →
    ∃ H', law24_CmdKeys_p10101010 (d + 2) m x0 x3 sw (i : Int) H = some (.bool true, H') := by
  intro m
  have hle := hx0.1
  induction m with
  | zero => intro i w sw H h1 h2; omega
  | succ m ih =>
    intro i w sw H h1 h2 hw h60 hb hat hk
    rw [law24_CmdKeys_p10101010_s]
    simp only [decide_eq_true_eq]
    have stop : ∃ H', law24_CmdKeys_p10101010001 (d + 2) m x0 x3 sw (i : Int) false H = some (.bool true, H') := by
      rw [law24_CmdKeys_p10101010001_eq, if_neg (by simp)]
      exact keys_body d H0 H sw x3 w lc (by omega) hb.read hx3 hlc hk
    by_cases hi : i < x0.n
    · rw [if_pos (show (i : Int) < (x0.n : Int) by omega)]
      by_cases h6 : i < 60
      · rw [show decide ((i : Int) < 60) = true from decide_eq_true (by omega), law24_CmdKeys_p10101010001_eq, if_pos rfl]
        have hc1 : l[i]? = some l[i] := List.getElem?_eq_getElem (by omega)
        obtain ⟨b, o, e0, e1, e2⟩ := hx0.2 i _ hi hc1
        rw [← Keep.ld hk e0] at e2
        obtain ⟨r, p1, p2, p3⟩ := Pick_s (d + 1) l[i] 14 H (by omega) (by omega)
        simp only [e1, optK_s, ap, Int.toNat_natCast, Nat.mul_one, e2, asI_s, p1, callK_s]
        rw [if_pos (show (0 : Int) ≤ (i : Int) ∧ (i : Int) < (x0.n : Int) by omega), if_pos (show 0 ≤ r ∧ r < 14 from ⟨p2, p3⟩)]
        have key : ∀ (lit : List Value), lit.length = 14 → (∀ v ∈ lit, ∃ c : UInt8, v = .int .u8 (c.toNat : Int)) → ∃ c : UInt8, partL lit r.toNat 1 false = some (.int .u8 (c.toNat : Int)) := by
          intro lit h h'
          have hr : r.toNat < lit.length := by omega
          obtain ⟨u, hu⟩ := h' _ (List.getElem_mem hr)
          exact ⟨u, by simp [partL, List.getElem?_eq_getElem hr, hu]⟩
        obtain ⟨c, hc⟩ := key [.int .u8 2, .int .u8 2, .int .u8 97, .int .u8 99, .int .u8 37, .int .u8 34, .int .u8 120, .int .u8 122, .int .u8 51, .int .u8 111, .int .u8 93, .int .u8 38, .int .u8 63, .int .u8 0] rfl (by
          intro v hv
          simp only [List.mem_cons, List.not_mem_nil, or_false] at hv
          rcases hv with rfl | rfl | rfl | rfl | rfl | rfl | rfl | rfl | rfl | rfl | rfl | rfl | rfl | rfl
          · exact ⟨2, rfl⟩
          · exact ⟨2, rfl⟩
          · exact ⟨97, rfl⟩
          · exact ⟨99, rfl⟩
          · exact ⟨37, rfl⟩
          · exact ⟨34, rfl⟩
          · exact ⟨120, rfl⟩
          · exact ⟨122, rfl⟩
          · exact ⟨51, rfl⟩
          · exact ⟨111, rfl⟩
          · exact ⟨93, rfl⟩
          · exact ⟨38, rfl⟩
          · exact ⟨63, rfl⟩
          · exact ⟨0, rfl⟩)
        simp only [hc, optK_s, asI_s, newK_s]
        obtain ⟨sw', H', f1, f2, f3, f4⟩ := hb.push c (by omega)
        rw [f1]
        simp only [asSL_s]
        rw [w64 (by omega), show ((i : Int) + 1) = ((i + 1 : Nat) : Int) by omega]
        exact ih (i + 1) (w ++ [c]) sw' H' (by omega) (by omega) (by simp; omega) (by omega) f2 (fun k q => by have := f4 k q; have := hk.1; omega) (hk.trans f3 (fun k q1 q2 => by have := hat k q2; omega))
      · rw [show decide ((i : Int) < 60) = false from decide_eq_false (by omega)]
        exact stop
    · rw [if_neg (show ¬ (i : Int) < (x0.n : Int) by omega)]
      exact stop

theorem CmdKeys_s (d : Nat) (x0 x1 x3 : Sl) (any : Bool) (l lc : List Int) (w : W) (H0 : Heap) (hx0 : IntsL H0 x0 l) (hl : l.length ≤ 1048576) (hx3 : IntsL H0 x3 lc) (hlc : lc.length ≤ 1048576) (hw : w.length ≤ 1048576) (hb : BytesR H0.next H0 x1 w) :
    ∃ H', X (d + 3) n_law24_CmdKeys [x0.v, x1.v, .bool any, x3.v] H0 = some (.bool true, H') := by
  rw [law24_CmdKeys_eq]
  cases any with
  | true =>
    rw [if_neg (show ¬ (!true) = true by simp)]
    exact keys_body d H0 H0 x1 x3 w lc hw hb hx3 hlc (Keep.refl _)
  | false =>
    rw [if_pos (show (!false) = true by simp)]
    exact build_loop d H0 x0 x3 l lc hx0 hl hx3 hlc NN 0 [] Sl.nil H0 (by omega) (NN_big _ (by have := hx0.1; omega)) (by simp) (by omega) (Whole.nil _ _ _) (fun k hk => absurd hk Sl.at_nil) (Keep.refl _)
end Go.Proofs.Ytnpmlgibjhjiiaa.dec
