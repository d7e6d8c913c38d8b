/-
  cmd: words, commands in memory; the small functions.
  And: cmd: the reader's functions. cmd: quoted words, the end of a command. cmd: the end of a command. cmd.Parse. The reference's Parse. Both read a line alike. CmdParses: the plain law.
-/
import Derived.Test.YtnpmlgibjhjiiaaDec
import Derived.IntWalk
namespace Go.Proofs.Ytnpmlgibjhjiiaa.dec
open Go Go.Cm

attribute [local congr] optK_congr asI_congr asN_congr asB_congr asS_congr asP_congr asA_congr asSL_congr callK_congr castT_congr chk_congr
attribute [local simp] optK_s asI_s asN_s asB_s asS_s asP_s asA_s asSL_s callK_s chk_s newK_s castT_s castL_n castL_c cast0

abbrev W := List UInt8
abbrev Cmd := W × List W

theorem known_s (d : Nat) (H : Heap) : X (d + 1) n_law24_known [] H = some (.bool true, H) := by kernel_rfl

theorem w64 {n : Int} (h : -9223372036854775808 ≤ n ∧ n ≤ 9223372036854775807) : IntKind.i64.wrap n = n := IntWalk.i64_in n h

/-- a byte of a word without quotes -/
def plainB (c : UInt8) : Bool := decide (33 ≤ c.toNat) && decide (c.toNat ≤ 126) && !decide (c.toNat = 59) && !decide (c.toNat = 34) && !decide (c.toNat = 92)

theorem bt_of {s : ByteArray} {l : W} {i : Nat} {c : UInt8} (h : lst s = l) (hi : l[i]? = some c) : bt s i = (c.toNat : Int) := by
  unfold bt; rw [h, List.getD_eq_getElem?_getD, hi]; rfl

theorem plain_s (d : Nat) (c : UInt8) (H : Heap) : X (d + 1) n_cmd_plain [.int .u8 (c.toNat : Int)] H = some (.bool (plainB c), H) := by
  rw [cmd_plain_eq]
  have h0 : (33 ≤ (c.toNat : Int)) = (33 ≤ c.toNat) := by simp; omega
  have h1 : ((c.toNat : Int) ≤ 126) = (c.toNat ≤ 126) := by simp; omega
  have h2 : ((c.toNat : Int) = 59) = (c.toNat = 59) := by simp; omega
  have h3 : ((c.toNat : Int) = 34) = (c.toNat = 34) := by simp; omega
  have h4 : ((c.toNat : Int) = 92) = (c.toNat = 92) := by simp; omega
  simp only [h0, h1, h2, h3, h4, plainB]
  by_cases g0 : 33 ≤ c.toNat <;> by_cases g1 : c.toNat ≤ 126 <;> by_cases g2 : c.toNat = 59 <;> by_cases g3 : c.toNat = 34 <;> simp [g0, g1, g2, g3]

theorem bare_s (d : Nat) (c : UInt8) (H : Heap) : X (d + 1) n_ref22_bare [.int .u8 (c.toNat : Int)] H = some (.bool (plainB c), H) := by
  rw [ref22_bare_eq]
  have h0 : (32 < (c.toNat : Int)) = (33 ≤ c.toNat) := by simp; omega
  have h1 : ((c.toNat : Int) < 127) = (c.toNat ≤ 126) := by simp; omega
  have h2 : ((c.toNat : Int) = 59) = (c.toNat = 59) := by simp; omega
  have h3 : ((c.toNat : Int) = 34) = (c.toNat = 34) := by simp; omega
  have h4 : ((c.toNat : Int) = 92) = (c.toNat = 92) := by simp; omega
  simp only [h0, h1, h2, h3, h4, plainB]
  by_cases g0 : 33 ≤ c.toNat <;> by_cases g1 : c.toNat ≤ 126 <;> by_cases g2 : c.toNat = 59 <;> by_cases g3 : c.toNat = 34 <;> simp [g0, g1, g2, g3]

/-! ### in memory -/
def strs (l : List W) : List Value := l.map fun w => .string (S w)
def Words (H : Heap) (s : Sl) (l : List W) : Prop := Whole H s (strs l) t_string 1

/-- commands: name and words; the words' blocks are of P -/
def CmdL (H : Heap) (P : Nat → Prop) (cs : List Value) (L : List Cmd) : Prop :=
  cs.length = L.length * 2 ∧ ∀ (i : Nat) n ws, L[i]? = some (n, ws) → cs[i * 2]? = some (.string (S n)) ∧ ∃ a : Sl, cs[i * 2 + 1]? = some a.v ∧ Words H a ws ∧ ∀ k, a.at k → P k
def Cmds (H : Heap) (P : Nat → Prop) (s : Sl) (L : List Cmd) : Prop := ∃ cs, Whole H s cs t_cmd_Command 2 ∧ CmdL H P cs L

theorem CmdL.keep {S P : Nat → Prop} {H H' : Heap} {cs : List Value} {L : List Cmd} (h : CmdL H P cs L) (hk : Keep S H H') (hn : ∀ k, P k → ¬ S k) : CmdL H' P cs L :=
  ⟨h.1, fun i n ws hi => let ⟨h1, a, h2, h3, h4⟩ := h.2 i n ws hi; ⟨h1, a, h2, h3.keep hk (fun k hk => hn k (h4 k hk)), h4⟩⟩
theorem CmdL.mono {P Q : Nat → Prop} {H : Heap} {cs : List Value} {L : List Cmd} (h : CmdL H P cs L) (hn : ∀ k, k < H.next → P k → Q k) : CmdL H Q cs L :=
  ⟨h.1, fun i n ws hi => let ⟨h1, a, h2, h3, h4⟩ := h.2 i n ws hi; ⟨h1, a, h2, h3, fun k hk => hn k (h3.lt hk) (h4 k hk)⟩⟩
theorem CmdL.nil (H : Heap) (P : Nat → Prop) : CmdL H P [] [] := ⟨rfl, fun i n ws h => by simp at h⟩
theorem CmdL.snoc {P : Nat → Prop} {H : Heap} {cs : List Value} {L : List Cmd} (h : CmdL H P cs L) {n : W} {ws : List W} {a : Sl} (ha : Words H a ws) (hp : ∀ k, a.at k → P k) : CmdL H P (cs ++ [.string (S n), a.v]) (L ++ [(n, ws)]) := by
  refine ⟨by simp [h.1]; omega, fun i m bs hi => ?_⟩
  by_cases hlt : i < L.length
  · rw [List.getElem?_append_left hlt] at hi
    obtain ⟨h1, b, h2, h3⟩ := h.2 i m bs hi
    refine ⟨?_, b, ?_, h3⟩
    · rw [List.getElem?_append_left (by have := h.1; omega)]; exact h1
    · rw [List.getElem?_append_left (by have := h.1; omega)]; exact h2
  · have hi' : i = L.length := by
      have := (List.getElem?_eq_some_iff.1 hi).1
      simp at this; omega
    subst hi'
    simp at hi
    obtain ⟨rfl, rfl⟩ := hi
    refine ⟨?_, a, ?_, ha, hp⟩
    · rw [List.getElem?_append_right (by have := h.1; omega), h.1]; simp
    · rw [List.getElem?_append_right (by have := h.1; omega), h.1]; simp

theorem ldN_one {H : Heap} {b : Nat} {c : List Value} {e : TypeId} {o : Bool} {fz : Nat} {st : Bool} (h : H.get b = some (.cells c e o fz st)) (hn : c.length = 1) : H.ldN ⟨b, 0, none⟩ 1 = some c := by
  rw [ldN_s h (by omega)]; rw [List.drop_zero, List.take_of_length_le (by omega)]

end Go.Proofs.Ytnpmlgibjhjiiaa.dec

namespace Go.Proofs.Ytnpmlgibjhjiiaa.dec
open Go Go.Cm

attribute [local congr] optK_congr asI_congr asN_congr asB_congr asS_congr asP_congr asA_congr asSL_congr callK_congr castT_congr chk_congr
attribute [local simp] optK_s asI_s asN_s asB_s asS_s asP_s asA_s asSL_s callK_s chk_s newK_s castT_s castL_n castL_c cast0

/-- the reader -/
def Rd (H : Heap) (p : Nat) (s : W) (so sl : Sl) : Prop := H.get p = some (.cells [.string (S s), so.v, sl.v] t_cmd_reader false 0 false) ∧ p < H.next

theorem Rd.ld0 {H : Heap} {p : Nat} {s : W} {so sl : Sl} (h : Rd H p s so sl) : H.ld1 ⟨p, 0, none⟩ = some (.string (S s)) := by rw [ld1_s h.1]; rfl
theorem Rd.ld1 {H : Heap} {p : Nat} {s : W} {so sl : Sl} (h : Rd H p s so sl) : H.ld1 ⟨p, 1, none⟩ = some so.v := by rw [ld1_s h.1]; rfl
theorem Rd.ld2 {H : Heap} {p : Nat} {s : W} {so sl : Sl} (h : Rd H p s so sl) : H.ld1 ⟨p, 2, none⟩ = some sl.v := by rw [ld1_s h.1]; rfl
theorem Rd.st0 {H : Heap} {p : Nat} {s s' : W} {so sl : Sl} (h : Rd H p s so sl) : ∃ H', H.st1 ⟨p, 0, none⟩ (.string (S s')) = some H' ∧ Rd H' p s' so sl ∧ Keep (· = p) H H' :=
  ⟨_, st1_s h.1 (by simp) (Nat.le_refl _), ⟨by simp, h.2⟩, Keep.put _ _ _ rfl⟩
theorem Rd.st1 {H : Heap} {p : Nat} {s : W} {so so' sl : Sl} (h : Rd H p s so sl) : ∃ H', H.st1 ⟨p, 1, none⟩ so'.v = some H' ∧ Rd H' p s so' sl ∧ Keep (· = p) H H' :=
  ⟨_, st1_s h.1 (by simp) (by simp), ⟨by simp, h.2⟩, Keep.put _ _ _ rfl⟩
theorem Rd.st2 {H : Heap} {p : Nat} {s : W} {so sl sl' : Sl} (h : Rd H p s so sl) : ∃ H', H.st1 ⟨p, 2, none⟩ sl'.v = some H' ∧ Rd H' p s so sl' ∧ Keep (· = p) H H' :=
  ⟨_, st1_s h.1 (by simp) (by simp), ⟨by simp, h.2⟩, Keep.put _ _ _ rfl⟩
theorem Rd.keep {S : Nat → Prop} {H H' : Heap} {p : Nat} {s : W} {so sl : Sl} (h : Rd H p s so sl) (hk : Keep S H H') (hn : ¬ S p) : Rd H' p s so sl :=
  ⟨(hk.2 p h.2 hn).trans h.1, Nat.lt_of_lt_of_le h.2 hk.1⟩

theorem word_loop (d p : Nat) (s : W) (so sl : Sl) (H : Heap) (h : Rd H p s so sl) (hs : s.length ≤ 1048576) : ∀ (m i : Nat), i ≤ s.length → s.length - i < m →
    ∃ m', cmd_reader_word_p1100 (d + 1) m p (i : Int) H = cmd_reader_word_p1100001 (d + 1) m' p ((i + ((s.drop i).takeWhile plainB).length : Nat) : Int) false H := by
  intro m
  induction m with
  | zero => intro i h1 h2; omega
  | succ m ih =>
    intro i h1 h2
    rw [cmd_reader_word_p1100_s]
    simp only [h.ld0, optK_s, asS_s, slenS, decide_eq_true_eq]
    by_cases hi : i < s.length
    · have hc : s[i]? = some s[i] := List.getElem?_eq_getElem hi
      have hd : s.drop i = s[i] :: s.drop (i + 1) := by rw [List.drop_eq_getElem_cons hi]
      rw [if_pos (by omega), if_pos (by omega), Int.toNat_natCast, btS hc, plain_s]
      simp only [callK_s, asB_s]
      cases hp : plainB s[i] with
      | false => exact ⟨m, by rw [hd, List.takeWhile_cons, hp]; rfl⟩
      | true =>
        rw [cmd_reader_word_p1100001_eq]
        simp only [if_true]
        rw [w64 (by omega)]
        obtain ⟨m', hm⟩ := ih (i + 1) (by omega) (by omega)
        refine ⟨m', ?_⟩
        rw [show ((i : Int) + 1) = ((i + 1 : Nat) : Int) by omega, hm]
        simp only [hd, List.takeWhile_cons, hp, if_true, List.length_cons]
        congr 1
        omega
    · rw [if_neg (by omega)]
      exact ⟨m, by rw [List.drop_eq_nil_of_le (by omega)]; simp⟩

theorem NN_big (n : Nat) (h : n ≤ 3000000000) : n < NN := by rw [NN_eq]; omega

theorem word_s (d p : Nat) (s : W) (so sl : Sl) (l : List W) (H : Heap) (h : Rd H p s so sl) (hl : Words H sl l) (hp : ¬ sl.at p) (hs : s.length ≤ 1048576) (hn : l.length ≤ 1048576) :
    ∃ H' sl', X (d + 2) n_cmd_reader_word [P0 p] H = some (.bool (decide (0 < (s.takeWhile plainB).length)), H') ∧ Rd H' p (s.dropWhile plainB) so sl' ∧ Words H' sl' (l ++ [s.takeWhile plainB]) ∧
      Keep (fun k => k = p ∨ sl.at k) H H' ∧ ∀ k, sl'.at k → H.next ≤ k := by
  rw [cmd_reader_word_eq]
  obtain ⟨m', hm⟩ := word_loop d p s so sl H h hs NN 0 (by omega) (NN_big _ (by omega))
  rw [show (0 : Int) = ((0 : Nat) : Int) from rfl, hm, cmd_reader_word_p1100001_eq]
  simp only [Nat.zero_add, List.drop_zero, Bool.false_eq_true, if_false, h.ld2, h.ld0, optK_s, asS_s, asSL_s, newK_s, slenS, Int.toNat_natCast, sSubS]
  generalize hw : (s.takeWhile plainB).length = n
  have hle : n ≤ s.length := by rw [← hw]; exact (List.takeWhile_sublist _).length_le
  have hsplit : s.take n = s.takeWhile plainB ∧ s.drop n = s.dropWhile plainB := by
    have := List.takeWhile_append_dropWhile (p := plainB) (l := s)
    constructor
    · conv => lhs; rw [← this]
      rw [List.take_left' hw]
    · conv => lhs; rw [← this]
      rw [List.drop_left' hw]
  rw [if_pos (by omega)]
  have hlen := hl.len
  simp only [strs, List.length_map, Nat.mul_one] at hlen
  obtain ⟨s', H', e1, e2, e0, e3, e4, e5⟩ := push_whole (bytes := 16) (new := [.string (S (s.take n))]) hl rfl (by omega) (by omega) (by omega)
  have h1 : Rd (H.new (.cells [.string (S (s.take n))] t_string false 0 false)) p s so sl := h.keep (Keep.new (S := fun _ => False) _ _) id
  have h2 : Rd H' p s so sl := h1.keep e3 hp
  obtain ⟨H2, f1, f2, f3⟩ := h2.st2 (sl' := s')
  obtain ⟨H3, g1, g2, g3⟩ := f2.st0 (s' := s.drop n)
  have hat : ∀ k, s'.at k → H.next ≤ k := fun k hk => by have := e4 k hk; omega
  have hne : ¬ s'.at p := fun hk => by have := hat p hk; have := h.2; omega
  refine ⟨H3, s', ?_, hsplit.2 ▸ g2, ?_, ?_, hat⟩
  · rw [e1]
    simp only [asSL_s, f1, optK_s, f2.ld0, asS_s, slenS]
    rw [if_pos (by omega)]
    rw [sSubS, List.take_length, g1]
    simp [rdsOk, rdOk_2, rdAt, readD_ld, h.ld2, h1.ld2, same_sl, chk, optK_s]
  · have := (e2.keep f3 (fun k hk e => hne (e ▸ hk))).keep g3 (fun k hk e => hne (e ▸ hk))
    simpa [Words, strs, hsplit.1, sSubS] using this
  · refine Keep.trans (e0.mono fun k _ hk => .inr hk) ?_ (T := (· = p)) (fun _ _ h => .inl h)
    exact f3.trans g3 fun _ _ h => h
end Go.Proofs.Ytnpmlgibjhjiiaa.dec

namespace Go.Proofs.Ytnpmlgibjhjiiaa.dec
open Go Go.Cm

attribute [local congr] optK_congr asI_congr asN_congr asB_congr asS_congr asP_congr asA_congr asSL_congr callK_congr castT_congr chk_congr

/-- a quoted word behind its first quote: the word, and what is left -/
def quoted : W → Option (W × W)
  | [] => none
  | c :: r => if c.toNat < 32 ∨ 126 < c.toNat then none
    else if c.toNat = 34 then some ([], r)
    else if c.toNat = 92 then (match r with
      | [] => none
      | e :: r' => if e.toNat = 34 ∨ e.toNat = 92 then (quoted r').map fun q => (e :: q.1, q.2) else none)
    else (quoted r).map fun q => (c :: q.1, q.2)

theorem quoted_cons (c : UInt8) (r : W) : quoted (c :: r) = if c.toNat < 32 ∨ 126 < c.toNat then none
    else if c.toNat = 34 then some ([], r)
    else if c.toNat = 92 then (match r with
      | [] => none
      | e :: r' => if e.toNat = 34 ∨ e.toNat = 92 then (quoted r').map fun q => (e :: q.1, q.2) else none)
    else (quoted r).map fun q => (c :: q.1, q.2) := by
  conv => lhs; rw [quoted.eq_def]
  rfl

def bytes (l : W) : List Value := l.map fun b => .int .u8 (b.toNat : Int)
def Bytes (H : Heap) (s : Sl) (l : W) : Prop := Whole H s (bytes l) t_uint8 1

theorem bytesOf_bytes (l : W) : bytesOf (bytes l) = some l := by
  induction l with
  | nil => rfl
  | cons a l ih =>
    show (match bytesOf (bytes l) with | some r => some (UInt8.ofNat (a.toNat : Int).toNat :: r) | none => none) = _
    rw [ih]
    simp

theorem Bytes.str {H : Heap} {s : Sl} {l : W} (h : Bytes H s l) : readD .bytesStr [s.v] H = some (.string (S l)) := by
  rcases h with ⟨rfl, h2⟩ | ⟨b, n, rfl, h1, h2, o, st, h3⟩
  · have : l = [] := by cases l <;> simp [bytes] at h2 ⊢
    subst this; rfl
  · have hl : l.length = n := by simpa [bytes] using h1
    have : H.ldN ⟨b, 0, none⟩ n = some (bytes l) := by
      rw [ldN_s h3 (by simp [bytes]; omega), List.drop_zero, List.take_of_length_le (by simp [bytes]; omega)]
    simp only [readD, this, bytesOf_bytes]
    split
    · rename_i h0
      rw [List.eq_nil_of_length_eq_zero (hl.trans h0)]
    · rfl

theorem Bytes.push {H : Heap} {s : Sl} {l : W} (h : Bytes H s l) (c : UInt8) (hl : l.length ≤ 1048576) :
    ∃ s' H', (∀ K, appendK t_uint8 1 1 false s.v (.slice (some ⟨H.next, 0, none⟩) 1 1) (H.new (.cells [.int .u8 (c.toNat : Int)] t_uint8 false 0 false)) K = K s'.v H') ∧ Bytes H' s' (l ++ [c]) ∧ Keep s.at H H' ∧ (∀ k, s'.at k → H.next < k) := by
  have hlen := h.len
  simp only [bytes, List.length_map, Nat.mul_one] at hlen
  obtain ⟨s', H', e1, e2, e3, _, e4, _⟩ := push_whole (bytes := 1) (new := [.int .u8 (c.toNat : Int)]) h rfl (by omega) (by omega) (by omega)
  exact ⟨s', H', e1, by simpa [Bytes, bytes] using e2, e3, e4⟩

theorem Words.push {H : Heap} {s : Sl} {l : List W} (h : Words H s l) (w : W) (hl : l.length ≤ 1048576) :
    ∃ s' H', (∀ K, appendK t_string 1 16 false s.v (.slice (some ⟨H.next, 0, none⟩) 1 1) (H.new (.cells [.string (S w)] t_string false 0 false)) K = K s'.v H') ∧ Words H' s' (l ++ [w]) ∧ Keep s.at H H' ∧
      Keep s.at (H.new (.cells [.string (S w)] t_string false 0 false)) H' ∧ (∀ k, s'.at k → H.next < k) := by
  have hlen := h.len
  simp only [strs, List.length_map, Nat.mul_one] at hlen
  obtain ⟨s', H', e1, e2, e3, e0, e4, _⟩ := push_whole (bytes := 16) (new := [.string (S w)]) h rfl (by omega) (by omega) (by omega)
  exact ⟨s', H', e1, by simpa [Words, strs] using e2, e3, e0, e4⟩

/-- what the quoted word's reader comes to -/
def QPost (B p : Nat) (so sl : Sl) (l : List W) (acc : W) (H : Heap) (q : Option (W × W)) (r : Res) : Prop := match q with
  | none => ∃ H', r = some (.bool false, H') ∧ Keep (fun k => k = p ∨ sl.at k ∨ B ≤ k) H H'
  | some (w, t) => ∃ H' sl', r = some (.bool true, H') ∧ Rd H' p t so sl' ∧ Words H' sl' (l ++ [acc ++ w]) ∧ Keep (fun k => k = p ∨ sl.at k ∨ B ≤ k) H H' ∧ ∀ k, sl'.at k → B ≤ k

theorem QPost.keep {B p : Nat} {so sl : Sl} {l : List W} {acc : W} {H H1 : Heap} {q : Option (W × W)} {r : Res} {c : UInt8} (h : QPost B p so sl l (acc ++ [c]) H1 q r) (hk : Keep (fun k => k = p ∨ sl.at k ∨ B ≤ k) H H1) :
    QPost B p so sl l acc H (q.map fun q => (c :: q.1, q.2)) r := by
  cases q with
  | none => obtain ⟨H', h1, h2⟩ := h; exact ⟨H', h1, hk.trans h2 fun _ _ h => h⟩
  | some q =>
    obtain ⟨w, t⟩ := q
    obtain ⟨H', sl', h1, h2, h3, h4, h5⟩ := h
    exact ⟨H', sl', h1, h2, by simpa using h3, hk.trans h4 fun _ _ h => h, h5⟩

theorem quoted_loop (d p B : Nat) (s : W) (so sl : Sl) (l : List W) (hs : s.length ≤ 1048576) (hl : l.length ≤ 1048576) (hpB : p < B) (hlB : ∀ k, sl.at k → k < B) (hlp : ¬ sl.at p) :
    ∀ (m i : Nat) (x3 : Sl) (acc : W) (H : Heap), i ≤ s.length → s.length - i < m → acc.length ≤ i → Rd H p s so sl → Words H sl l → Bytes H x3 acc → B ≤ H.next → (∀ k, x3.at k → B ≤ k) →
      QPost B p so sl l acc H (quoted (s.drop i)) (cmd_reader_quoted_p11010 d m p x3 (i : Int) H) := by
  intro m
  induction m with
  | zero => intro i x3 acc H h1 h2; omega
  | succ m ih =>
    intro i x3 acc H h1 h2 ha hr hw hb hB hx
    rw [cmd_reader_quoted_p11010_s]
    simp only [hr.ld0, optK_s, asS_s, slenS, decide_eq_true_eq]
    by_cases hi : i < s.length
    · have hc : s[i]? = some s[i] := List.getElem?_eq_getElem hi
      have hd : s.drop i = s[i] :: s.drop (i + 1) := by rw [List.drop_eq_getElem_cons hi]
      rw [if_pos (by omega), if_pos (by omega), Int.toNat_natCast, btS hc]
      generalize hcc : s[i] = c
      rw [hcc] at hc
      -- a byte is put behind
      have push : ∀ (j : Nat) (e : UInt8), i ≤ j → j < s.length → QPost B p so sl l acc H ((quoted (s.drop (j + 1))).map fun q => (e :: q.1, q.2)) (cmd_reader_quoted_p11010010011 d m p x3 (j : Int) (e.toNat : Int) H) := by
        intro j e hj hj2
        rw [cmd_reader_quoted_p11010010011_eq]
        simp only [newK_s]
        obtain ⟨s', H', e1, e2, e3, e4⟩ := hb.push e (by omega)
        rw [e1]
        simp only [asSL_s]
        rw [w64 (by omega), show ((j : Int) + 1) = ((j + 1 : Nat) : Int) by omega]
        have hk : Keep (fun k => k = p ∨ sl.at k ∨ B ≤ k) H H' := e3.mono fun k _ hk => .inr (.inr (hx k hk))
        refine QPost.keep (c := e) (ih (j + 1) s' (acc ++ [e]) H' (by omega) (by omega) (by simp; omega) (hr.keep e3 (fun h => by have := hx p h; omega)) (hw.keep e3 (fun k hk h => by have := hx k h; have := hlB k hk; omega)) e2 (by have := e3.1; omega) (fun k hk => by have := e4 k hk; omega)) hk
      have no : ∀ (j : Nat), QPost B p so sl l acc H none (some (.bool false, H)) := fun _ => ⟨H, rfl, Keep.refl _⟩
      by_cases g1 : c.toNat < 32
      · rw [if_pos (by omega), cmd_reader_quoted_p1101001001001_eq, if_pos rfl, hd, hcc, quoted_cons, if_pos (.inl g1)]
        exact no 0
      · rw [if_neg (by omega), cmd_reader_quoted_p1101001001001_eq]
        simp only [decide_eq_true_eq]
        by_cases g2 : 126 < c.toNat
        · rw [if_pos (by omega), hd, hcc, quoted_cons, if_pos (.inr g2)]
          exact no 0
        · rw [if_neg (by omega)]
          have hq : quoted (s.drop i) = if c.toNat = 34 then some ([], s.drop (i + 1)) else if c.toNat = 92 then (match s.drop (i + 1) with
              | [] => none
              | e :: r' => if e.toNat = 34 ∨ e.toNat = 92 then (quoted r').map fun q => (e :: q.1, q.2) else none)
            else (quoted (s.drop (i + 1))).map fun q => (c :: q.1, q.2) := by
            rw [hd, hcc, quoted_cons, if_neg (by omega)]
            rfl
          by_cases g3 : c.toNat = 34
          · rw [if_pos (by omega), hq, if_pos g3]
            simp only [hr.ld2, hb.str, optK_s, asS_s, asSL_s, newK_s]
            obtain ⟨s', H', e1, e2, e3, e0, e4⟩ := hw.push acc hl
            rw [e1]
            have h2 : Rd H' p s so sl := hr.keep e3 hlp
            obtain ⟨H2, f1, f2, f3⟩ := h2.st2 (sl' := s')
            obtain ⟨H3, q1, q2, q3⟩ := f2.st0 (s' := s.drop (i + 1))
            have hne : ¬ s'.at p := fun hk => by have := e4 p hk; omega
            have hr1 : Rd (H.new (.cells [.string (S acc)] t_string false 0 false)) p s so sl := hr.keep (Keep.new (S := fun _ => False) _ _) id
            refine ⟨H3, s', ?_, q2, ?_, ?_, fun k hk => by have := e4 k hk; omega⟩
            · simp only [asSL_s, f1, optK_s, f2.ld0, asS_s, slenS]
              rw [w64 (by omega), if_pos (by omega), show ((i : Int) + 1).toNat = i + 1 by omega, sSubS, List.take_length, q1]
              simp [rdsOk, rdOk_2, rdAt, readD_ld, hr.ld2, hr1.ld2, same_sl, chk, optK_s]
            · rw [List.append_nil]
              exact Whole.keep (Whole.keep e2 f3 (fun k hk e => hne (e ▸ hk))) q3 (fun k hk e => hne (e ▸ hk))
            · refine Keep.trans (e3.mono fun k _ hk => .inr (.inl hk)) ?_ (T := (· = p)) (fun _ _ h => .inl h)
              exact f3.trans q3 fun _ _ h => h
          · rw [if_neg (by omega)]
            rw [if_neg g3] at hq
            by_cases g4 : c.toNat = 92
            · rw [if_pos (by omega)]
              rw [if_pos g4] at hq
              simp only [hr.ld0, optK_s, asS_s, slenS]
              rw [w64 (by omega)]
              by_cases hj : i + 1 < s.length
              · have hc2 : s[i + 1]? = some s[i + 1] := List.getElem?_eq_getElem hj
                have hd2 : s.drop (i + 1) = s[i + 1] :: s.drop (i + 1 + 1) := by rw [List.drop_eq_getElem_cons hj]
                rw [if_neg (by omega), if_pos (by omega), show ((i : Int) + 1).toNat = i + 1 by omega, btS hc2]
                rw [hd2] at hq
                generalize hee : s[i + 1] = e at hq
                rw [hee] at hc2
                have fin : ∀ b : Bool, b = !(decide (e.toNat = 34) || decide (e.toNat = 92)) → QPost B p so sl l acc H (if e.toNat = 34 ∨ e.toNat = 92 then (quoted (s.drop (i + 1 + 1))).map fun q => (e :: q.1, q.2) else none)
                    (cmd_reader_quoted_p1101001001001011110101 d m p x3 ((i : Int) + 1) b H) := by
                  intro b hb'
                  rw [cmd_reader_quoted_p1101001001001011110101_eq]
                  simp only [hr.ld0, optK_s, asS_s, slenS]
                  by_cases g5 : e.toNat = 34 ∨ e.toNat = 92
                  · rw [if_pos g5, if_neg (by subst hb'; rcases g5 with g | g <;> simp [g]), if_pos (by omega), show ((i : Int) + 1).toNat = i + 1 by omega, btS hc2]
                    exact push (i + 1) e (by omega) hj
                  · rw [if_neg g5, if_pos (by subst hb'; simp at g5; simp [g5])]
                    exact no 0
                by_cases g6 : e.toNat = 34
                · rw [if_neg (by simp; omega), hq]
                  exact fin false (by simp [g6])
                · rw [if_pos (by simp; omega)]
                  rw [if_pos (by omega), hq]
                  refine fin _ ?_
                  simp [g6]
                  omega
              · have hj' : i + 1 = s.length := by omega
                rw [List.drop_eq_nil_of_le (by omega : s.length ≤ i + 1)] at hq
                rw [if_pos (by omega), hq, cmd_reader_quoted_p1101001001001011110101_eq, if_pos rfl]
                exact no 0
            · rw [if_neg (by omega), hq, if_neg g4]
              exact push i c (Nat.le_refl _) hi
    · rw [if_neg (by omega), List.drop_eq_nil_of_le (by omega)]
      exact ⟨H, rfl, Keep.refl _⟩

theorem quoted_s (d p : Nat) (s : W) (so sl : Sl) (l : List W) (H : Heap) (c : UInt8) (h : Rd H p (c :: s) so sl) (hl : Words H sl l) (hp : ¬ sl.at p) (hs : s.length ≤ 1048575) (hn : l.length ≤ 1048576) :
    QPost H.next p so sl l [] H (quoted s) (X (d + 1) n_cmd_reader_quoted [P0 p] H) := by
  rw [cmd_reader_quoted_eq]
  exact quoted_loop d p H.next (c :: s) so sl l (by simp; omega) hn h.2 (fun k hk => Whole.lt hl hk) hp NN 1 Sl.nil [] H (by simp) (NN_big _ (by simp; omega)) (by simp) h hl (Whole.nil _ _ _) (Nat.le_refl _) (fun k hk => absurd hk Sl.at_nil)
end Go.Proofs.Ytnpmlgibjhjiiaa.dec

namespace Go.Proofs.Ytnpmlgibjhjiiaa.dec
open Go Go.Cm

attribute [local congr] optK_congr asI_congr asN_congr asB_congr asS_congr asP_congr asA_congr asSL_congr callK_congr castT_congr chk_congr

theorem Whole.block {H : Heap} {s : Sl} {cs : List Value} {e : TypeId} {sz : Nat} (h : Whole H s cs e sz) (hne : cs ≠ []) : ∃ b o st, s = ⟨some ⟨b, 0, none⟩, s.n, s.n⟩ ∧ cs.length = s.n * sz ∧ H.get b = some (.cells cs e o 0 st) ∧ s.at b := by
  rcases h with ⟨_, h⟩ | ⟨b, n, rfl, h1, _, o, st, h2⟩
  · exact absurd h hne
  · exact ⟨b, o, st, rfl, h1, h2, _, rfl, rfl⟩

/-- the words behind the first -/
theorem Words.tail {H : Heap} {s : Sl} {w : W} {ws : List W} (h : Words H s (w :: ws)) : ∃ b, s = ⟨some ⟨b, 0, none⟩, ws.length + 1, ws.length + 1⟩ ∧ H.ld1 ⟨b, 0, none⟩ = some (.string (S w)) ∧
    readD (.subSl t_string 1 true false false) [.slice (some ⟨b, 0, none⟩) (ws.length + 1) (ws.length + 1), .int .i64 1] H = some (.slice (some ⟨b, 1, none⟩) ws.length ws.length) ∧ srcCells H 1 ws.length (.slice (some ⟨b, 1, none⟩) ws.length ws.length) = some (strs ws) := by
  obtain ⟨b, o, st, h1, h2, h3, h4⟩ := Whole.block h (by simp [strs])
  have hn : s.n = ws.length + 1 := by simp [strs] at h2; omega
  refine ⟨b, by rw [h1, hn], by rw [ld1_s h3]; rfl, ?_, ?_⟩
  · have ho : H.opnOk b t_string = true := by simp [Heap.opnOk, h3]
    simp only [readD, asSl, bnds, asN_s]
    rw [if_pos (by omega)]
    simp [chk, ho, ap]
  · simp only [srcCells]
    by_cases hz : ws.length = 0
    · rw [if_pos hz, List.eq_nil_of_length_eq_zero hz]; rfl
    · rw [if_neg hz, ldN_s h3 (by simp [strs]; omega)]
      simp [strs]
      rw [List.take_of_length_le (by simp)]

/-- the commands, and the words' blocks: above p, below the commands' own -/
def InP (p : Nat) (so : Sl) (k : Nat) : Prop := p < k ∧ ∃ j, so.at j ∧ k < j

def ends (L : List Cmd) (l : List W) : List Cmd := match l with
  | [] => L
  | w :: ws => L ++ [(w, ws)]

theorem ends_s (d p : Nat) (s : W) (so sl : Sl) (L : List Cmd) (l : List W) (H : Heap) (h : Rd H p s so sl) (hc : Cmds H (InP p so) so L) (hl : Words H sl l) (hso : ∀ j, so.at j → p < j) (hsl : ∀ k, sl.at k → p < k ∧ ∀ j, so.at j → j < k)
    (hn : l.length ≤ 1048576) (hL : L.length ≤ 1048576) :
    ∃ H' so', X (d + 1) n_cmd_reader_ends [P0 p] H = some (.tuple #[], H') ∧ Rd H' p s so' Sl.nil ∧ Cmds H' (InP p so') so' (ends L l) ∧ (∀ j, so'.at j → p < j) ∧ Keep (fun k => p ≤ k) H H' := by
  have last : ∀ H1 so', Rd H1 p s so' sl → ∀ L', Cmds H1 (InP p so') so' L' → (∀ j, so'.at j → p < j) → Keep (fun k => p ≤ k) H H1 →
      ∃ H', cmd_reader_ends_p1 d p H1 = some (.tuple #[], H') ∧ Rd H' p s so' Sl.nil ∧ Cmds H' (InP p so') so' L' ∧ (∀ j, so'.at j → p < j) ∧ Keep (fun k => p ≤ k) H H' := by
    intro H1 so' r1 L' c1 s1 k1
    obtain ⟨H2, e1, e2, e3⟩ := r1.st2 (sl' := Sl.nil)
    obtain ⟨cs, c2, c3⟩ := c1
    refine ⟨H2, ?_, e2, ⟨cs, c2.keep e3 (fun k hk e => by have := s1 k hk; omega), c3.keep e3 (fun k hk e => by have := hk.1; omega)⟩, s1, k1.trans e3 (fun k _ e => by omega)⟩
    rw [cmd_reader_ends_p1_eq]
    simp only [e1, optK_s]
  rw [cmd_reader_ends_eq]
  have hlen := hl.len
  simp only [strs, List.length_map, Nat.mul_one] at hlen
  simp only [h.ld2, optK_s, asSL_s, decide_eq_true_eq]
  cases l with
  | nil =>
    rw [if_neg (by simp at hlen; omega)]
    obtain ⟨H', h1, h2⟩ := last H so h L hc hso (Keep.refl _)
    exact ⟨H', so, h1, h2⟩
  | cons w ws =>
    simp only [List.length_cons] at hn hlen
    rw [if_pos (by omega)]
    obtain ⟨b, rfl, b4, b5, b6⟩ := Words.tail hl
    obtain ⟨cs, c2, c3⟩ := hc
    have hkn : ∀ o, Keep (fun _ => False) H (H.new o) := fun o => Keep.new _ _
    have hH11 := hkn (.cells [] t_string false 0 false)
    have r11 := h.keep hH11 id
    have l11 := hl.keep hH11 (fun _ _ h => h)
    obtain ⟨b', e', d4, d5, d6⟩ := Words.tail l11
    cases e'
    simp only [h.ld1, b4, optK_s, asSL_s, asS_s, newK_s, ap, Nat.add_zero, r11.ld2, d5]
    rw [if_pos (by omega)]
    have hempty : Whole (H.new (.cells [] t_string false 0 false)) ⟨some ⟨H.next, 0, none⟩, 0, 0⟩ [] t_string 1 := .inr ⟨H.next, 0, rfl, rfl, by simp, false, false, by simp⟩
    obtain ⟨a, H17, e1, e2, e3, e4, _, _⟩ := append_whole (bytes := 16) (str := false) (n := ws.length) hempty rfl d6 (by simp [strs]) (by show (0 + ws.length) * 16 ≤ _; omega) (by omega) (by omega)
    rw [e1]
    simp only [asSL_s]
    have ha : ∀ k, a.at k → H.next ≤ k := fun k hk => by
      rcases e4 k hk with ⟨_, e, rfl⟩ | h
      · cases e; exact Nat.le_refl _
      · simp at h; omega
    have k17 : Keep (fun _ => False) H H17 := ⟨by have := e3.1; simp at this; omega, fun k hk _ => (e3.2 k (by simp; omega) (fun ⟨_, e, e'⟩ => by cases e; simp at e'; omega)).trans (Heap.get_new_ne _ _ (by omega))⟩
    have c17 : Whole H17 so cs t_cmd_Command 2 := c2.keep k17 (fun _ _ h => h)
    have hcl := c2.len
    have hcl2 := c3.1
    obtain ⟨so', H22, f1, f2, f3, f4, f5, _⟩ := push_whole (bytes := 40) (new := [.string (S w), a.v]) c17 rfl (by omega) (by omega) (by omega)
    rw [f1]
    simp only [asSL_s]
    have r17 := h.keep k17 id
    have r20 := r17.keep (Keep.new (S := fun _ => False) _ (.cells [.string (S w), a.v] t_cmd_Command false 0 false)) id
    have r22 := r17.keep f3 (fun hk => by have := hso p hk; omega)
    obtain ⟨H24, g1, g2, g3⟩ := r22.st1 (so' := so')
    simp only [g1, optK_s]
    have l17 := hl.keep k17 (fun _ _ h => h)
    obtain ⟨b', e', q4, _, _⟩ := Words.tail l17
    cases e'
    have hrd : rdsOk [H, H.new (.cells [] t_string false 0 false), H17, H17.new (.cells [.string (S w), a.v] t_cmd_Command false 0 false), H22, H24] [⟨.subSl t_string 1 true false false, [.slice (some ⟨b, 0, none⟩) (ws.length + 1) (ws.length + 1), .int .i64 1], .slice (some ⟨b, 1, none⟩) ws.length ws.length, 0, 1⟩, ⟨.load 1 false, [.pointer (some ⟨p, 2, none⟩)], .slice (some ⟨b, 0, none⟩) (ws.length + 1) (ws.length + 1), 0, 1⟩, ⟨.load 1 false, [.pointer (some ⟨b, 0, none⟩)], .string (S w), 0, 2⟩, ⟨.load 1 false, [.pointer (some ⟨p, 2, none⟩)], .slice (some ⟨b, 0, none⟩) (ws.length + 1) (ws.length + 1), 0, 2⟩, ⟨.load 1 false, [.pointer (some ⟨p, 1, none⟩)], so.v, 0, 3⟩] = true := by
      simp [rdsOk, rdOk_2, rdOk_3, rdOk_4, rdAt, readD_ld, b5, d5, h.ld2, r11.ld2, b4, d4, q4, r17.ld2, h.ld1, r11.ld1, r17.ld1, r20.ld1, same_sl, same_str]
    rw [hrd]
    simp only [chk_s]
    have hk22 : Keep (fun k => p ≤ k) H H22 := Keep.trans (k17.mono (fun _ _ h => h.elim)) f3 (fun k _ hk => by have := hso k hk; omega)
    have hnext : H.next ≤ H17.next := k17.1
    have so'lt : ∀ j, so'.at j → H17.next < j := f5
    obtain ⟨bo, _, _, _, _, _, hbo⟩ := Whole.block f2 (by simp)
    refine (last H24 so' g2 _ ?_ (fun j hj => by have := so'lt j hj; have := h.2; omega) (hk22.trans g3 (fun k _ e => by omega))).imp fun H' hh => ⟨so', hh⟩
    have cl17 : CmdL H17 (InP p so) cs L := c3.keep k17 (fun _ _ h => h)
    have cl22 : CmdL H22 (InP p so) cs L := cl17.keep f3 (fun k hk hk' => by
      obtain ⟨j, hj, hkj⟩ := hk.2
      obtain ⟨a1, q1, q2⟩ := hj
      obtain ⟨a2, q3, q4⟩ := hk'
      rw [q1] at q3; cases q3; omega)
    have cl22' : CmdL H22 (InP p so') cs L := cl22.mono (fun k _ hk => ⟨hk.1, bo, hbo, by
      obtain ⟨j, hj, hkj⟩ := hk.2
      have := c17.lt hj
      have := so'lt bo hbo
      omega⟩)
    have a17 : Words H17 a ws := by simpa [Words] using e2
    have a22 : Words H22 a ws := a17.keep f3 (fun k hk hk' => by have := ha k hk; have := c2.lt hk'; omega)
    have fin : CmdL H22 (InP p so') (cs ++ [.string (S w), a.v]) (L ++ [(w, ws)]) := cl22'.snoc a22 (fun k hk => ⟨by have := ha k hk; have := h.2; omega, bo, hbo, by have := a17.lt hk; have := so'lt bo hbo; omega⟩)
    refine ⟨_, f2.keep g3 (fun k hk e => by have := so'lt k hk; have := h.2; omega), fin.keep g3 (fun k hk e => by have := hk.1; omega)⟩
end Go.Proofs.Ytnpmlgibjhjiiaa.dec

namespace Go.Proofs.Ytnpmlgibjhjiiaa.dec
open Go Go.Cm

attribute [local congr] optK_congr asI_congr asN_congr asB_congr asS_congr asP_congr asA_congr asSL_congr callK_congr castT_congr chk_congr

/-- may a word end here? -/
def done : W → Bool
  | [] => true
  | c :: _ => decide (c.toNat = 32) || decide (c.toNat = 59)
/-- what a line says, behind commands and words -/
def parse : Nat → W → List Cmd → List W → Option (List Cmd)
  | 0, _, _, _ => none
  | _ + 1, [], L, l => some (ends L l)
  | f + 1, c :: r, L, l =>
    if c.toNat = 32 then parse f r L l
    else if c.toNat = 59 then parse f r (ends L l) []
    else if c.toNat = 34 then (match quoted r with
      | none => none
      | some (w, t) => if done t = true then parse f t L (l ++ [w]) else none)
    else if 0 < ((c :: r).takeWhile plainB).length ∧ done ((c :: r).dropWhile plainB) = true then parse f ((c :: r).dropWhile plainB) L (l ++ [(c :: r).takeWhile plainB]) else none

theorem quoted_len : ∀ (n : Nat) (r w t : W), r.length ≤ n → quoted r = some (w, t) → t.length < r.length := by
  intro n
  induction n with
  | zero =>
    intro r w t h h1
    have : r = [] := List.eq_nil_of_length_eq_zero (by omega)
    subst this
    simp [quoted] at h1
  | succ n ih =>
    intro r w t h h1
    cases r with
    | nil => simp [quoted] at h1
    | cons c r =>
      rw [quoted_cons] at h1
      simp only [List.length_cons] at h ⊢
      split at h1
      · cases h1
      · split at h1
        · cases h1; omega
        · split at h1
          · cases r with
            | nil => cases h1
            | cons e r' =>
              simp only at h1
              split at h1
              · obtain ⟨⟨w', t'⟩, h2, h3⟩ := Option.map_eq_some_iff.1 h1
                simp only [Prod.mk.injEq] at h3
                obtain ⟨_, rfl⟩ := h3
                simp only [List.length_cons] at h ⊢
                have := ih r' w' t' (by omega) h2
                omega
              · cases h1
          · obtain ⟨⟨w', t'⟩, h2, h3⟩ := Option.map_eq_some_iff.1 h1
            simp only [Prod.mk.injEq] at h3
            obtain ⟨_, rfl⟩ := h3
            have := ih r w' t' (by omega) h2
            omega

theorem drop_len (c : UInt8) (r : W) (h : 0 < ((c :: r).takeWhile plainB).length) : ((c :: r).dropWhile plainB).length < (c :: r).length := by
  have := congrArg List.length (List.takeWhile_append_dropWhile (p := plainB) (l := c :: r))
  simp only [List.length_append] at this
  omega

/-- what a line's reader comes to -/
def PPost (H0 : Heap) (q : Option (List Cmd)) (r : Res) : Prop := match q with
  | none => ∃ H', r = some (.tuple #[.slice none 0 0, .int .i64 5], H') ∧ Keep (fun _ => False) H0 H'
  | some L => ∃ H' so, r = some (.tuple #[so.v, .int .i64 0], H') ∧ Cmds H' (fun k => H0.next ≤ k) so L ∧ (∀ j, so.at j → H0.next ≤ j) ∧ Keep (fun _ => False) H0 H'

theorem done_step (d m p : Nat) (t : W) (so sl : Sl) (H : Heap) (h : Rd H p t so sl) :
    cmd_Parse_p1110001011 d m p true H = if done t = true then cmd_Parse_p11100 d m p H else some (.tuple #[.slice none 0 0, .int .i64 5], H) := by
  rw [cmd_Parse_p1110001011_eq]
  simp only [h.ld0, optK_s, asS_s, slenS, sEqS]
  cases t with
  | nil =>
    rw [if_neg (by simp), if_neg (by simp), cmd_Parse_p111000101101_eq, if_neg (by simp), show done [] = true from rfl, if_pos rfl]
  | cons c r =>
    have hb : bt (S (c :: r)) 0 = (c.toNat : Int) := btS rfl
    rw [if_neg (by simp), if_pos (by simp), if_pos (by simp)]
    rw [hb]
    have e32 : decide ((c.toNat : Int) = 32) = decide (c.toNat = 32) := by simp; omega
    have e59 : decide ((c.toNat : Int) = 59) = decide (c.toNat = 59) := by simp; omega
    rw [e32, e59, show done (c :: r) = (decide (c.toNat = 32) || decide (c.toNat = 59)) from rfl]
    by_cases g : c.toNat = 32
    · simp [g, cmd_Parse_p111000101101_eq]
    · by_cases g2 : c.toNat = 59
      · simp [g2, cmd_Parse_p111000101101_eq]
      · simp [g, g2, cmd_Parse_p111000101101_eq]

theorem not_step (d m p : Nat) (H : Heap) : cmd_Parse_p1110001011 d m p false H = some (.tuple #[.slice none 0 0, .int .i64 5], H) := by
  rw [cmd_Parse_p1110001011_eq, if_pos (show (!false) = true from rfl), cmd_Parse_p111000101101_eq, if_pos rfl]

theorem parse_loop (d p : Nat) (H0 : Heap) (hp : H0.next ≤ p) : ∀ (m f : Nat) (s : W) (L : List Cmd) (l : List W) (H : Heap) (so sl : Sl), s.length < m → s.length < f → L.length + l.length + s.length ≤ 1000 →
    Rd H p s so sl → Cmds H (InP p so) so L → Words H sl l → (∀ j, so.at j → p < j) → (∀ k, sl.at k → p < k ∧ ∀ j, so.at j → j < k) → Keep (fun _ => False) H0 H →
    PPost H0 (parse f s L l) (cmd_Parse_p11100 (d + 2) m p H) := by
  intro m
  induction m with
  | zero => intro f s L l H so sl h1; omega
  | succ m ih =>
    intro f s L l H so sl h1 h2 hb hr hc hl hso hsl hk
    obtain ⟨f, rfl⟩ : ∃ g, f = g + 1 := ⟨f - 1, by omega⟩
    have base : ∀ {H1 : Heap}, Keep (fun k => p ≤ k) H H1 → Keep (fun _ => False) H0 H1 := fun k1 => hk.trans k1 (fun k q1 q2 => by omega)
    rw [cmd_Parse_p11100_s]
    simp only [hr.ld0, optK_s, asS_s, slenS, sEqS]
    cases s with
    | nil =>
      rw [if_neg (by simp)]
      obtain ⟨H', so', e1, e2, e3, e4, e5⟩ := ends_s (d + 1) p [] so sl L l H hr hc hl hso hsl (by omega) (by omega)
      rw [e1]
      simp only [callK_s, e2.ld1, optK_s, asSL_s, parse]
      obtain ⟨cs, c1, c2⟩ := e3
      exact ⟨H', so', rfl, ⟨cs, c1, c2.mono (fun k _ hk => by have := hk.1; omega)⟩, fun j hj => by have := e4 j hj; omega, base e5⟩
    | cons c r =>
      have hbt : bt (S (c :: r)) 0 = (c.toNat : Int) := btS rfl
      simp only [List.length_cons] at h1 h2 hb
      rw [if_pos (by simp), if_pos (by simp)]
      simp only [hbt, decide_eq_true_eq, parse, List.length_cons]
      by_cases g1 : c.toNat = 32
      · rw [if_pos g1, if_pos (show (c.toNat : Int) = 32 by omega)]
        obtain ⟨H', e1, e2, e3⟩ := hr.st0 (s' := r)
        rw [if_pos (by omega), sSubS, show (List.drop 1 (List.take (r.length + 1) (c :: r))) = r by simp, e1]
        simp only [optK_s]
        obtain ⟨cs, c1, c2⟩ := hc
        exact ih f r L l H' so sl (by omega) (by omega) (by omega) e2 ⟨cs, c1.keep e3 (fun k hk e => by have := hso k hk; omega), c2.keep e3 (fun k hk e => by have := hk.1; omega)⟩ (hl.keep e3 (fun k hk e => by have := (hsl k hk).1; omega)) hso hsl (base (e3.mono fun k _ e => by omega))
      · rw [if_neg g1, if_neg (show ¬ (c.toNat : Int) = 32 by omega)]
        by_cases g2 : c.toNat = 59
        · rw [if_pos g2, if_pos (show (c.toNat : Int) = 59 by omega)]
          obtain ⟨H', e1, e2, e3⟩ := hr.st0 (s' := r)
          rw [if_pos (by omega), sSubS, show (List.drop 1 (List.take (r.length + 1) (c :: r))) = r by simp, e1]
          simp only [optK_s]
          obtain ⟨cs, c1, c2⟩ := hc
          obtain ⟨H2, so', q1, q2, q3, q4, q5⟩ := ends_s (d + 1) p r so sl L l H' e2 ⟨cs, c1.keep e3 (fun k hk e => by have := hso k hk; omega), c2.keep e3 (fun k hk e => by have := hk.1; omega)⟩ (hl.keep e3 (fun k hk e => by have := (hsl k hk).1; omega)) hso hsl (by omega) (by omega)
          rw [q1]
          simp only [callK_s]
          refine ih f r (ends L l) [] H2 so' Sl.nil (by omega) (by omega) ?_ q2 q3 (Whole.nil _ _ _) q4 (fun k hk => absurd hk Sl.at_nil) (base ((e3.mono fun k _ e => by omega).trans q5 (fun _ _ h => h)))
          cases l <;> simp [ends] at hb ⊢ <;> omega
        · rw [if_neg g2, if_neg (show ¬ (c.toNat : Int) = 59 by omega)]
          by_cases g3 : c.toNat = 34
          · rw [if_pos g3, if_pos (show (c.toNat : Int) = 34 by omega)]
            have hq := quoted_s (d + 1) p r so sl l H c hr hl (fun h => by have := (hsl p h).1; omega) (by omega) (by omega)
            cases hqr : quoted r with
            | none =>
              rw [hqr] at hq
              obtain ⟨H', e1, e2⟩ := hq
              rw [e1]
              simp only [callK_s, asB_s]
              rw [not_step]
              exact ⟨H', rfl, base (e2.mono fun k q h => by rcases h with h | h | h; omega; have := (hsl k h).1; omega; omega)⟩
            | some q =>
              obtain ⟨w, t⟩ := q
              rw [hqr] at hq
              obtain ⟨H', sl', e1, e2, e3, e4, e5⟩ := hq
              rw [e1]
              simp only [callK_s, asB_s]
              rw [done_step _ _ _ _ _ _ _ e2]
              have hkb : Keep (fun _ => False) H0 H' := base (e4.mono fun k q h => by rcases h with h | h | h; omega; have := (hsl k h).1; omega; omega)
              by_cases gd : done t = true
              · rw [if_pos gd, if_pos gd]
                have := quoted_len _ r w t (Nat.le_refl _) hqr
                obtain ⟨cs, c1, c2⟩ := hc
                have hsn : ∀ k, so.at k → ¬ (k = p ∨ sl.at k ∨ H.next ≤ k) := fun k hk h => by
                  have := hso k hk
                  rcases h with h | h | h
                  · omega
                  · have := (hsl k h).2 k hk; omega
                  · have := c1.lt hk; omega
                refine ih f t L (l ++ [w]) H' so sl' (by omega) (by omega) (by simp; omega) e2 ⟨cs, c1.keep e4 hsn, ?_⟩ (by simpa using e3) hso (fun k hk => ⟨by have := e5 k hk; have := hr.2; omega, fun j hj => by have := e5 k hk; have := c1.lt hj; omega⟩) hkb
                refine c2.keep e4 (fun k hk h => ?_)
                obtain ⟨j, hj, hkj⟩ := hk.2
                have := c1.lt hj
                rcases h with h | h | h
                · have := hk.1; omega
                · have := (hsl k h).2 j hj; omega
                · omega
              · rw [if_neg gd, if_neg gd]
                exact ⟨H', rfl, hkb⟩
          · rw [if_neg g3, if_neg (show ¬ (c.toNat : Int) = 34 by omega)]
            obtain ⟨H', sl', e1, e2, e3, e4, e5⟩ := word_s d p (c :: r) so sl l H hr hl (fun h => by have := (hsl p h).1; omega) (by simp; omega) (by omega)
            rw [e1]
            simp only [callK_s, asB_s]
            have hkb : Keep (fun _ => False) H0 H' := base (e4.mono fun k q h => by rcases h with h | h; omega; have := (hsl k h).1; omega)
            by_cases g4 : 0 < ((c :: r).takeWhile plainB).length
            · rw [show decide (0 < ((c :: r).takeWhile plainB).length) = true from decide_eq_true g4, done_step _ _ _ _ _ _ _ e2]
              by_cases gd : done ((c :: r).dropWhile plainB) = true
              · rw [if_pos gd, if_pos ⟨g4, gd⟩]
                have := drop_len c r g4
                simp only [List.length_cons] at this
                obtain ⟨cs, c1, c2⟩ := hc
                have hsn : ∀ k, so.at k → ¬ (k = p ∨ sl.at k) := fun k hk h => by
                  have := hso k hk
                  rcases h with h | h
                  · omega
                  · have := (hsl k h).2 k hk; omega
                refine ih f _ L _ H' so sl' (by omega) (by omega) (by simp only [List.length_append, List.length_cons, List.length_nil]; omega) e2 ⟨cs, c1.keep e4 hsn, ?_⟩ e3 hso (fun k hk => ⟨by have := e5 k hk; have := hr.2; omega, fun j hj => by have := e5 k hk; have := c1.lt hj; omega⟩) hkb
                refine c2.keep e4 (fun k hk h => ?_)
                obtain ⟨j, hj, hkj⟩ := hk.2
                rcases h with h | h
                · have := hk.1; omega
                · have := (hsl k h).2 j hj; omega
              · rw [if_neg gd, if_neg (fun h => gd h.2)]
                exact ⟨H', rfl, hkb⟩
            · rw [show decide (0 < ((c :: r).takeWhile plainB).length) = false from decide_eq_false g4, not_step, if_neg (fun h => g4 h.1)]
              exact ⟨H', rfl, hkb⟩

/-- THE PROGRAM's Parse. -/
theorem Parse_s (d : Nat) (s : W) (H : Heap) (hs : s.length ≤ 400) : PPost H (parse (s.length + 1) s [] []) (X (d + 3) n_cmd_Parse [.string (S s)] H) := by
  rw [cmd_Parse_eq]
  simp only [slenS, decide_eq_true_eq, newK_s]
  rw [if_neg (by omega)]
  refine parse_loop d H.next H (Nat.le_refl _) NN (s.length + 1) s [] [] _ Sl.nil Sl.nil (NN_big _ (by omega)) (by omega) (by simp; omega) ⟨by simp, by simp⟩ ⟨[], Whole.nil _ _ _, CmdL.nil _ _⟩ (Whole.nil _ _ _) (fun k hk => absurd hk Sl.at_nil) (fun k hk => absurd hk Sl.at_nil) (Keep.new _ _)
theorem Parse_long (d : Nat) (s : W) (H : Heap) (hs : 400 < s.length) : X (d + 3) n_cmd_Parse [.string (S s)] H = some (.tuple #[.slice none 0 0, .int .i64 6], H) := by
  rw [cmd_Parse_eq]
  simp only [slenS, decide_eq_true_eq, newK_s]
  rw [if_pos (by omega)]
end Go.Proofs.Ytnpmlgibjhjiiaa.dec

namespace Go.Proofs.Ytnpmlgibjhjiiaa.dec
open Go Go.Cm

attribute [local congr] optK_congr asI_congr asN_congr asB_congr asS_congr asP_congr asA_congr asSL_congr callK_congr castT_congr chk_congr

def InQ (B : Nat) (so : Sl) (k : Nat) : Prop := B ≤ k ∧ ∃ j, so.at j ∧ k < j

theorem flushed_s (d B : Nat) (so sl : Sl) (L : List Cmd) (l : List W) (H : Heap) (hB : B ≤ H.next) (hc : Cmds H (InQ B so) so L) (hl : Words H sl l) (hso : ∀ j, so.at j → B ≤ j)
    (hn : l.length ≤ 1048576) (hL : L.length ≤ 1048576) :
    ∃ H' so', X (d + 1) n_ref22_flushed [so.v, sl.v] H = some (so'.v, H') ∧ Cmds H' (InQ B so') so' (ends L l) ∧ (∀ j, so'.at j → B ≤ j) ∧ Keep so.at H H' := by
  rw [ref22_flushed_eq]
  have hlen := hl.len
  simp only [strs, List.length_map, Nat.mul_one] at hlen
  simp only [decide_eq_true_eq]
  cases l with
  | nil =>
    rw [if_pos (by simp at hlen; omega)]
    exact ⟨H, so, rfl, hc, hso, Keep.refl _⟩
  | cons w ws =>
    simp only [List.length_cons] at hn hlen
    rw [if_neg (by omega)]
    obtain ⟨b, rfl, b4, b5, b6⟩ := Words.tail hl
    obtain ⟨cs, c2, c3⟩ := hc
    have hH11 : Keep (fun _ => False) H (H.new (.cells [] t_string false 0 false)) := Keep.new _ _
    have l11 := hl.keep hH11 (fun _ _ h => h)
    obtain ⟨b', e', d4, d5, d6⟩ := Words.tail l11
    cases e'
    simp only [b4, optK_s, asSL_s, asS_s, newK_s, ap, Nat.add_zero, d5]
    rw [if_pos (by omega)]
    have hempty : Whole (H.new (.cells [] t_string false 0 false)) ⟨some ⟨H.next, 0, none⟩, 0, 0⟩ [] t_string 1 := .inr ⟨H.next, 0, rfl, rfl, by simp, false, false, by simp⟩
    obtain ⟨a, H17, e1, e2, e3, e4, _, _⟩ := append_whole (bytes := 16) (str := false) (n := ws.length) hempty rfl d6 (by simp [strs]) (by show (0 + ws.length) * 16 ≤ _; omega) (by omega) (by omega)
    rw [e1]
    simp only [asSL_s]
    have ha : ∀ k, a.at k → H.next ≤ k := fun k hk => by
      rcases e4 k hk with ⟨_, e, rfl⟩ | h
      · cases e; exact Nat.le_refl _
      · simp at h; omega
    have k17 : Keep (fun _ => False) H H17 := ⟨by have := e3.1; simp at this; omega, fun k hk _ => (e3.2 k (by simp; omega) (fun ⟨_, e, e'⟩ => by cases e; simp at e'; omega)).trans (Heap.get_new_ne _ _ (by omega))⟩
    have c17 : Whole H17 so cs t_cmd_Command 2 := c2.keep k17 (fun _ _ h => h)
    have hcl := c2.len
    have hcl2 := c3.1
    obtain ⟨so', H22, f1, f2, f3, f4, f5, _⟩ := push_whole (bytes := 40) (new := [.string (S w), a.v]) c17 rfl (by omega) (by omega) (by omega)
    rw [f1]
    simp only [asSL_s]
    have l17 := hl.keep k17 (fun _ _ h => h)
    obtain ⟨b', e', q4, _, _⟩ := Words.tail l17
    cases e'
    have hrd : rdsOk [H, H.new (.cells [] t_string false 0 false), H17, H17.new (.cells [.string (S w), a.v] t_cmd_Command false 0 false), H22] [⟨.subSl t_string 1 true false false, [.slice (some ⟨b, 0, none⟩) (ws.length + 1) (ws.length + 1), .int .i64 1], .slice (some ⟨b, 1, none⟩) ws.length ws.length, 0, 1⟩, ⟨.load 1 false, [.pointer (some ⟨b, 0, none⟩)], .string (S w), 0, 2⟩] = true := by
      simp [rdsOk, rdOk_2, rdOk_3, rdAt, readD_ld, b5, d5, b4, d4, q4, same_sl, same_str]
    rw [hrd]
    simp only [chk_s]
    have hnext : H.next ≤ H17.next := k17.1
    obtain ⟨bo, _, _, _, _, _, hbo⟩ := Whole.block f2 (by simp)
    have cl17 : CmdL H17 (InQ B so) cs L := c3.keep k17 (fun _ _ h => h)
    have cl22 : CmdL H22 (InQ B so) cs L := cl17.keep f3 (fun k hk hk' => by
      obtain ⟨j, hj, hkj⟩ := hk.2
      obtain ⟨a1, q1, q2⟩ := hj
      obtain ⟨a2, q3, q4⟩ := hk'
      rw [q1] at q3; cases q3; omega)
    have cl22' : CmdL H22 (InQ B so') cs L := cl22.mono (fun k _ hk => ⟨hk.1, bo, hbo, by
      obtain ⟨j, hj, hkj⟩ := hk.2
      have := c17.lt hj
      have := f5 bo hbo
      omega⟩)
    have a17 : Words H17 a ws := by simpa [Words] using e2
    have a22 : Words H22 a ws := a17.keep f3 (fun k hk hk' => by have := ha k hk; have := c2.lt hk'; omega)
    have fin : CmdL H22 (InQ B so') (cs ++ [.string (S w), a.v]) (L ++ [(w, ws)]) := cl22'.snoc a22 (fun k hk => ⟨by have := ha k hk; omega, bo, hbo, by have := a17.lt hk; have := f5 bo hbo; omega⟩)
    exact ⟨H22, so', rfl, ⟨_, f2, fin⟩, fun j hj => by have := f5 j hj; omega, (k17.mono (fun _ _ h => h.elim)).trans f3 (fun _ _ h => h)⟩

/-- behind a word: it ends here, or the line is refused -/
def After (d m0 : Nat) (s : W) (so sl : Sl) (l : List W) (w : W) (j : Nat) (H : Heap) (r : Res) : Prop :=
  if done (s.drop j) = true then ∃ sl' H', r = ref22_Parse_p1111010 d m0 (S s) so sl' (j : Int) H' ∧ Words H' sl' (l ++ [w]) ∧ Keep sl.at H H' ∧ ∀ k, sl'.at k → H.next < k
  else r = some (.tuple #[.slice none 0 0, .int .i64 5], H)

theorem done_drop {s : W} {j : Nat} {c : UInt8} (h : s[j]? = some c) : done (s.drop j) = (decide (c.toNat = 32) || decide (c.toNat = 59)) := by
  obtain ⟨hj, rfl⟩ := List.getElem?_eq_some_iff.1 h
  rw [List.drop_eq_getElem_cons hj]
  rfl
theorem done_end {s : W} {j : Nat} (h : s.length ≤ j) : done (s.drop j) = true := by
  rw [List.drop_eq_nil_of_le h]; rfl

theorem after_quote (d m0 : Nat) (s : W) (so sl : Sl) (l : List W) (w : W) (j : Nat) (H : Heap) (hl : Words H sl l) (hn : l.length ≤ 1048576) (b : Bool) (hb : b = !done (s.drop j)) :
    After d m0 s so sl l w j H (ref22_Parse_p1111010010101111101111101 d m0 (S s) so sl (j : Int) (S w) b H) := by
  rw [ref22_Parse_p1111010010101111101111101_eq]
  unfold After
  subst hb
  cases hd : done (s.drop j) with
  | false => rw [if_neg (by simp), if_pos (by simp)]
  | true =>
    rw [if_pos rfl, if_neg (by simp)]
    simp only [newK_s]
    obtain ⟨s', H', e1, e2, e3, e0, e4⟩ := hl.push w hn
    rw [e1]
    exact ⟨s', H', rfl, e2, e3, e4⟩

theorem after_word (d m0 : Nat) (s : W) (so sl : Sl) (l : List W) (i j : Nat) (H : Heap) (hl : Words H sl l) (hn : l.length ≤ 1048576) (hij : i ≤ j) (hj : j ≤ s.length) (b : Bool) (hb : b = !done (s.drop j)) :
    After d m0 s so sl l ((s.take j).drop i) j H (ref22_Parse_p111101001010111111101101 d m0 (S s) so sl (j : Int) (i : Int) b H) := by
  rw [ref22_Parse_p111101001010111111101101_eq]
  unfold After
  subst hb
  cases hd : done (s.drop j) with
  | false => rw [if_neg (by simp), if_pos (by simp)]
  | true =>
    rw [if_pos rfl, if_neg (by simp)]
    simp only [newK_s, slenS, Int.toNat_natCast, sSubS]
    rw [if_pos (by omega)]
    obtain ⟨s', H', e1, e2, e3, e0, e4⟩ := hl.push ((s.take j).drop i) hn
    rw [e1]
    exact ⟨s', H', rfl, e2, e3, e4⟩

/-- a quoted word -/
theorem q_loop (d m0 : Nat) (s : W) (so sl : Sl) (l : List W) (H : Heap) (hs : s.length ≤ 1048576) (hl : Words H sl l) (hn : l.length ≤ 1048576) : ∀ (m i : Nat) (acc : W), i ≤ s.length → s.length - i < m → acc.length ≤ i →
    match quoted (s.drop i) with
    | none => ref22_Parse_p1111010010101111101100 d m0 m (S s) so sl (i : Int) (S acc) H = some (.tuple #[.slice none 0 0, .int .i64 5], H)
    | some (w, t) => ∃ j, t = s.drop j ∧ i ≤ j ∧ j ≤ s.length ∧ After d m0 s so sl l (acc ++ w) j H (ref22_Parse_p1111010010101111101100 d m0 m (S s) so sl (i : Int) (S acc) H) := by
  intro m
  induction m with
  | zero => intro i acc h1 h2; omega
  | succ m ih =>
    intro i acc h1 h2 ha
    rw [ref22_Parse_p1111010010101111101100_s]
    simp only [slenS, decide_eq_true_eq]
    by_cases hi : i < s.length
    · have hc : s[i]? = some s[i] := List.getElem?_eq_getElem hi
      have hd : s.drop i = s[i] :: s.drop (i + 1) := by rw [List.drop_eq_getElem_cons hi]
      rw [if_pos (by omega), if_pos (by omega), Int.toNat_natCast, btS hc]
      generalize hcc : s[i] = c
      rw [hcc] at hc hd
      -- a byte is put behind
      have push : ∀ (j : Nat) (e : UInt8), i ≤ j → j < s.length → s[j]? = some e →
          match (if e.toNat < 32 ∨ 126 < e.toNat then none else (quoted (s.drop (j + 1))).map fun q => (e :: q.1, q.2)) with
          | none => ref22_Parse_p11110100101011111011000101 d m0 m (S s) so sl (j : Int) (S acc) H = some (.tuple #[.slice none 0 0, .int .i64 5], H)
          | some (w, t) => ∃ j', t = s.drop j' ∧ i ≤ j' ∧ j' ≤ s.length ∧ After d m0 s so sl l (acc ++ w) j' H (ref22_Parse_p11110100101011111011000101 d m0 m (S s) so sl (j : Int) (S acc) H) := by
        intro j e hj hj2 he
        rw [ref22_Parse_p11110100101011111011000101_eq]
        simp only [slenS, decide_eq_true_eq, Int.toNat_natCast, btS he]
        have hjj : (0 : Int) ≤ (j : Int) ∧ (j : Int) < (s.length : Int) := by omega
        rw [if_pos hjj]
        have step : ref22_Parse_p11110100101011111011000101001 d m0 m (S s) so sl (j : Int) (S acc) false H = ref22_Parse_p1111010010101111101100 d m0 m (S s) so sl ((j + 1 : Nat) : Int) (S (acc ++ [e])) H := by
          rw [ref22_Parse_p11110100101011111011000101001_eq]
          simp only [slenS]
          rw [w64 (by omega)]
          have hsub : sSub (S s) (j : Int).toNat ((j : Int) + 1).toNat = S [e] := by
            rw [show ((j : Int) + 1).toNat = j + 1 by omega, Int.toNat_natCast, sSubS]
            congr 1
            obtain ⟨hj3, rfl⟩ := List.getElem?_eq_some_iff.1 he
            rw [List.take_succ_eq_append_getElem hj3, List.drop_append_of_le_length (by simp; omega), List.drop_of_length_le (by simp; omega)]
            rfl
          rw [if_neg (by simp), if_pos (by omega), hsub, slenS, if_pos (by simp; omega), sCatS]
          rfl
        by_cases g1 : e.toNat < 32
        · rw [if_pos (show e.toNat < 32 ∨ 126 < e.toNat from .inl g1), if_pos (show (e.toNat : Int) < 32 by omega)]
          show _ = _
          rw [ref22_Parse_p11110100101011111011000101001_eq, if_pos rfl]
        · rw [if_neg (show ¬ (e.toNat : Int) < 32 by omega), if_pos hjj]
          by_cases g2 : 126 < e.toNat
          · rw [if_pos (show e.toNat < 32 ∨ 126 < e.toNat from .inr g2), show decide (126 < (e.toNat : Int)) = true from decide_eq_true (by omega)]
            show _ = _
            rw [ref22_Parse_p11110100101011111011000101001_eq, if_pos rfl]
          · rw [if_neg (show ¬ (e.toNat < 32 ∨ 126 < e.toNat) by omega), show decide (126 < (e.toNat : Int)) = false from decide_eq_false (by omega), step]
            have := ih (j + 1) (acc ++ [e]) (by omega) (by omega) (by simp; omega)
            cases hq : quoted (s.drop (j + 1)) with
            | none => rw [hq] at this; exact this
            | some q =>
              obtain ⟨w, t⟩ := q
              rw [hq] at this
              obtain ⟨j', e1, e2, e3, e4⟩ := this
              exact ⟨j', e1, by omega, e3, by simpa using e4⟩
      rw [hd, quoted_cons]
      by_cases g3 : c.toNat = 34
      · rw [if_neg (show ¬ (c.toNat < 32 ∨ 126 < c.toNat) by omega), if_pos g3, show (!decide ((c.toNat : Int) = 34)) = false by simp; omega, ref22_Parse_p1111010010101111101100001_eq, if_neg (by simp)]
        simp only [slenS, decide_eq_true_eq]
        rw [w64 (by omega), if_neg (by omega)]
        refine ⟨i + 1, rfl, by omega, by omega, ?_⟩
        rw [List.append_nil]
        by_cases hj : i + 1 < s.length
        · have hc2 : s[i + 1]? = some s[i + 1] := List.getElem?_eq_getElem hj
          generalize s[i + 1] = e at hc2
          rw [if_pos (by omega), if_pos (by omega), show ((i : Int) + 1).toNat = i + 1 by omega, btS hc2]
          have e32 : decide ((e.toNat : Int) = 32) = decide (e.toNat = 32) := by simp; omega
          have e59 : decide ((e.toNat : Int) = 59) = decide (e.toNat = 59) := by simp; omega
          have hdd := done_drop hc2
          rw [e32, e59]
          by_cases g : e.toNat = 32
          · rw [if_neg (by simp [g])]
            exact after_quote d m0 s so sl l acc (i + 1) H hl hn false (by rw [hdd]; simp [g])
          · rw [if_pos (by simp [g]), if_pos (by omega)]
            exact after_quote d m0 s so sl l acc (i + 1) H hl hn _ (by rw [hdd]; simp [g])
        · rw [if_neg (by omega)]
          exact after_quote d m0 s so sl l acc (i + 1) H hl hn false (by rw [done_end (by omega)]; rfl)
      · rw [show (!decide ((c.toNat : Int) = 34)) = true by simp; omega, ref22_Parse_p1111010010101111101100001_eq, if_pos rfl]
        simp only [slenS, decide_eq_true_eq]
        rw [if_pos (show (0 : Int) ≤ (i : Int) ∧ (i : Int) < (s.length : Int) by omega), Int.toNat_natCast, btS hc]
        by_cases g4 : c.toNat = 92
        · rw [if_neg (show ¬ (c.toNat < 32 ∨ 126 < c.toNat) by omega), if_neg g3, if_pos g4, if_pos (show (c.toNat : Int) = 92 by omega), w64 (by omega)]
          by_cases hj : i + 1 < s.length
          · have hc2 : s[i + 1]? = some s[i + 1] := List.getElem?_eq_getElem hj
            have hd2 : s.drop (i + 1) = s[i + 1] :: s.drop (i + 1 + 1) := by rw [List.drop_eq_getElem_cons hj]
            generalize s[i + 1] = e at hc2 hd2
            rw [if_neg (show ¬ (s.length : Int) ≤ (i : Int) + 1 by omega), if_pos (show (0 : Int) ≤ (i : Int) + 1 ∧ (i : Int) + 1 < (s.length : Int) by omega), show ((i : Int) + 1).toNat = i + 1 by omega, btS hc2, hd2]
            have fin : ∀ b : Bool, b = !(decide (e.toNat = 34) || decide (e.toNat = 92)) →
                match (if e.toNat = 34 ∨ e.toNat = 92 then (quoted (s.drop (i + 1 + 1))).map fun q => (e :: q.1, q.2) else none) with
                | none => ref22_Parse_p111101001010111110110001001011 d m0 m (S s) so sl ((i : Int) + 1) (S acc) b H = some (.tuple #[.slice none 0 0, .int .i64 5], H)
                | some (w, t) => ∃ j', t = s.drop j' ∧ i ≤ j' ∧ j' ≤ s.length ∧ After d m0 s so sl l (acc ++ w) j' H (ref22_Parse_p111101001010111110110001001011 d m0 m (S s) so sl ((i : Int) + 1) (S acc) b H) := by
              intro b hb
              rw [ref22_Parse_p111101001010111110110001001011_eq]
              by_cases g5 : e.toNat = 34 ∨ e.toNat = 92
              · have := push (i + 1) e (by omega) hj hc2
                rw [if_neg (by omega)] at this
                rw [if_pos g5, if_neg (by subst hb; rcases g5 with g | g <;> simp [g])]
                exact this
              · rw [if_neg g5, if_pos (by subst hb; simp at g5; simp [g5])]
            by_cases g6 : e.toNat = 34
            · rw [show (!decide ((e.toNat : Int) = 34)) = false by simp; omega]
              exact fin false (by simp [g6])
            · rw [show (!decide ((e.toNat : Int) = 34)) = true by simp; omega]
              simp only [if_true]
              rw [if_pos (show (0 : Int) ≤ (i : Int) + 1 ∧ (i : Int) + 1 < (s.length : Int) by omega)]
              exact fin _ (by simp [g6]; omega)
          · rw [if_pos (show (s.length : Int) ≤ (i : Int) + 1 by omega), List.drop_eq_nil_of_le (by omega)]
            show _ = _
            rw [ref22_Parse_p111101001010111110110001001011_eq, if_pos rfl]
        · have := push i c (Nat.le_refl _) hi hc
          rw [if_neg (show ¬ (c.toNat : Int) = 92 by omega)]
          by_cases g1 : c.toNat < 32 ∨ 126 < c.toNat
          · rw [if_pos g1] at this ⊢
            exact this
          · rw [if_neg g1] at this ⊢
            rw [if_neg g3, if_neg g4]
            exact this
    · rw [if_neg (by omega), List.drop_eq_nil_of_le (by omega)]
      show _ = _
      rw [ref22_Parse_p1111010010101111101100001_eq, if_neg (by simp)]
      simp only [slenS, decide_eq_true_eq]
      rw [if_pos (by omega)]

/-- a word without quotes -/
theorem b_loop (d m0 : Nat) (s : W) (so sl : Sl) (l : List W) (H : Heap) (i0 : Nat) (hs : s.length ≤ 1048576) (hl : Words H sl l) (hn : l.length ≤ 1048576) : ∀ (m i : Nat), i0 ≤ i → i ≤ s.length → s.length - i < m →
    After (d + 1) m0 s so sl l ((s.take (i + ((s.drop i).takeWhile plainB).length)).drop i0) (i + ((s.drop i).takeWhile plainB).length) H (ref22_Parse_p11110100101011111110100 (d + 1) m0 m (S s) so sl (i : Int) (i0 : Int) H) := by
  intro m
  induction m with
  | zero => intro i h1 h2 h3; omega
  | succ m ih =>
    intro i h0 h1 h2
    rw [ref22_Parse_p11110100101011111110100_s]
    simp only [slenS, decide_eq_true_eq]
    have stop : (∀ c, s[i]? = some c → plainB c = false) → After (d + 1) m0 s so sl l ((s.take i).drop i0) i H (ref22_Parse_p11110100101011111110100001 (d + 1) m0 m (S s) so sl (i : Int) (i0 : Int) false H) := by
      intro _
      rw [ref22_Parse_p11110100101011111110100001_eq, if_neg (by simp)]
      simp only [slenS, decide_eq_true_eq]
      by_cases hi : i < s.length
      · have hc : s[i]? = some s[i] := List.getElem?_eq_getElem hi
        generalize s[i] = e at hc
        rw [if_pos (by omega), if_pos (by omega), Int.toNat_natCast, btS hc]
        have e32 : decide ((e.toNat : Int) = 32) = decide (e.toNat = 32) := by simp; omega
        have e59 : decide ((e.toNat : Int) = 59) = decide (e.toNat = 59) := by simp; omega
        have hdd := done_drop hc
        rw [e32, e59]
        by_cases g : e.toNat = 32
        · rw [if_neg (by simp [g])]
          exact after_word (d + 1) m0 s so sl l i0 i H hl hn h0 h1 false (by rw [hdd]; simp [g])
        · rw [if_pos (by simp [g]), if_pos (by omega)]
          exact after_word (d + 1) m0 s so sl l i0 i H hl hn h0 h1 _ (by rw [hdd]; simp [g])
      · rw [if_neg (by omega)]
        exact after_word (d + 1) m0 s so sl l i0 i H hl hn h0 h1 false (by rw [done_end (by omega)]; rfl)
    by_cases hi : i < s.length
    · have hc : s[i]? = some s[i] := List.getElem?_eq_getElem hi
      have hd : s.drop i = s[i] :: s.drop (i + 1) := by rw [List.drop_eq_getElem_cons hi]
      generalize s[i] = c at hc hd
      rw [if_pos (by omega), if_pos (by omega), Int.toNat_natCast, btS hc, bare_s]
      simp only [callK_s, asB_s]
      cases hp : plainB c with
      | false =>
        rw [hd, List.takeWhile_cons, hp]
        exact stop (fun c' h => by rw [hc] at h; cases h; exact hp)
      | true =>
        rw [ref22_Parse_p11110100101011111110100001_eq, if_pos rfl, w64 (by omega)]
        have := ih (i + 1) (by omega) (by omega) (by omega)
        rw [hd, List.takeWhile_cons, hp]
        simp only [if_true, List.length_cons]
        rw [show i + (((s.drop (i + 1)).takeWhile plainB).length + 1) = i + 1 + ((s.drop (i + 1)).takeWhile plainB).length by omega]
        exact this
    · rw [if_neg (by omega)]
      have := stop (fun c h => by have := (List.getElem?_eq_some_iff.1 h).1; omega)
      rw [List.drop_eq_nil_of_le (show s.length ≤ i by omega)]
      exact this
end Go.Proofs.Ytnpmlgibjhjiiaa.dec

namespace Go.Proofs.Ytnpmlgibjhjiiaa.dec
open Go Go.Cm

attribute [local congr] optK_congr asI_congr asN_congr asB_congr asS_congr asP_congr asA_congr asSL_congr callK_congr castT_congr chk_congr

theorem word_at (s : W) (i : Nat) (_ : i ≤ s.length) : (s.take (i + ((s.drop i).takeWhile plainB).length)).drop i = (s.drop i).takeWhile plainB ∧ s.drop (i + ((s.drop i).takeWhile plainB).length) = (s.drop i).dropWhile plainB := by
  generalize hw : (s.drop i).takeWhile plainB = w
  have hs : w ++ (s.drop i).dropWhile plainB = s.drop i := by rw [← hw]; exact List.takeWhile_append_dropWhile
  generalize (s.drop i).dropWhile plainB = t at hs ⊢
  constructor
  · rw [List.drop_take, ← hs, Nat.add_sub_cancel_left, List.take_left' rfl]
  · rw [← List.drop_drop, ← hs, List.drop_left' rfl]

theorem rparse_loop (d : Nat) (H0 : Heap) (s : W) (hs : s.length ≤ 400) : ∀ (m f i : Nat) (L : List Cmd) (l : List W) (H : Heap) (so sl : Sl), i ≤ s.length → s.length - i < m → s.length - i < f → L.length + l.length + (s.length - i) ≤ 1000 →
    Cmds H (InQ H0.next so) so L → Words H sl l → (∀ j, so.at j → H0.next ≤ j) → (∀ k, sl.at k → H0.next ≤ k ∧ ∀ j, so.at j → j < k) → Keep (fun _ => False) H0 H →
    PPost H0 (parse f (s.drop i) L l) (ref22_Parse_p1111010 (d + 1) m (S s) so sl (i : Int) H) := by
  intro m
  induction m with
  | zero => intro f i L l H so sl h0 h1; omega
  | succ m ih =>
    intro f i L l H so sl h0 h1 h2 hb hc hl hso hsl hk
    obtain ⟨f, rfl⟩ : ∃ g, f = g + 1 := ⟨f - 1, by omega⟩
    rw [ref22_Parse_p1111010_s]
    simp only [slenS, decide_eq_true_eq]
    by_cases hi : i < s.length
    · have hc1 : s[i]? = some s[i] := List.getElem?_eq_getElem hi
      have hd : s.drop i = s[i] :: s.drop (i + 1) := by rw [List.drop_eq_getElem_cons hi]
      generalize s[i] = c at hc1 hd
      rw [if_pos (show (i : Int) < (s.length : Int) by omega), if_pos (show (0 : Int) ≤ (i : Int) ∧ (i : Int) < (s.length : Int) by omega), Int.toNat_natCast, btS hc1, w64 (by omega), show ((i : Int) + 1) = ((i + 1 : Nat) : Int) by omega]
      -- one more word
      have more : ∀ (w : W) (j : Nat) (r : Res), After (d + 1) m s so sl l w j H r → i < j → j ≤ s.length → PPost H0 (if done (s.drop j) = true then parse f (s.drop j) L (l ++ [w]) else none) r := by
        intro w j r ha hij hj
        unfold After at ha
        by_cases gd : done (s.drop j) = true
        · rw [if_pos gd] at ha ⊢
          obtain ⟨sl', H', rfl, e2, e3, e4⟩ := ha
          obtain ⟨cs, c1, c2⟩ := hc
          refine ih f j L (l ++ [w]) H' so sl' hj (by omega) (by omega) (by simp only [List.length_append, List.length_cons, List.length_nil]; omega) ⟨cs, c1.keep e3 (fun k hk h => by have := (hsl k h).2 k hk; omega), ?_⟩ e2 hso (fun k hk => ⟨by have := e4 k hk; have := hk; have := hk; have := ‹Keep (fun _ => False) H0 H›.1; omega, fun j hj => by have := e4 k hk; have := c1.lt hj; omega⟩)
            (hk.trans e3 (fun k q1 q2 => by have := (hsl k q2).1; omega))
          refine c2.keep e3 (fun k hk h => ?_)
          obtain ⟨j, hj, hkj⟩ := hk.2
          have := (hsl k h).2 j hj
          omega
        · rw [if_neg gd] at ha ⊢
          rw [ha]
          exact ⟨H, rfl, hk⟩
      rw [hd]
      simp only [parse]
      by_cases g1 : c.toNat = 32
      · rw [if_pos g1, if_pos (show (c.toNat : Int) = 32 by omega)]
        exact ih f (i + 1) L l H so sl (by omega) (by omega) (by omega) (by omega) hc hl hso hsl hk
      · rw [if_neg g1, if_neg (show ¬ (c.toNat : Int) = 32 by omega)]
        by_cases g2 : c.toNat = 59
        · rw [if_pos g2, if_pos (show (c.toNat : Int) = 59 by omega)]
          obtain ⟨H', so', e1, e2, e3, e4⟩ := flushed_s d H0.next so sl L l H hk.1 hc hl hso (by omega) (by omega)
          rw [e1]
          simp only [callK_s, asSL_s]
          refine ih f (i + 1) (ends L l) [] H' so' Sl.nil (by omega) (by omega) (by omega) ?_ e2 (Whole.nil _ _ _) e3 (fun k hk => absurd hk Sl.at_nil) (hk.trans e4 (fun k q1 q2 => by have := hso k q2; omega))
          cases l <;> simp [ends] at hb ⊢ <;> omega
        · rw [if_neg g2, if_neg (show ¬ (c.toNat : Int) = 59 by omega)]
          by_cases g3 : c.toNat = 34
          · rw [if_pos g3, if_pos (show (c.toNat : Int) = 34 by omega)]
            have hq := q_loop (d + 1) m s so sl l H (by omega) hl (by omega) NN (i + 1) [] (by omega) (NN_big _ (by omega)) (by simp)
            cases hqr : quoted (s.drop (i + 1)) with
            | none =>
              rw [hqr] at hq
              rw [hq]
              exact ⟨H, rfl, hk⟩
            | some q =>
              obtain ⟨w, t⟩ := q
              rw [hqr] at hq
              obtain ⟨j, rfl, q1, q2, q3⟩ := hq
              exact more w j _ (by simpa using q3) (by omega) q2
          · rw [if_neg g3, if_neg (show ¬ (c.toNat : Int) = 34 by omega), bare_s]
            simp only [callK_s, asB_s]
            cases hp : plainB c with
            | false =>
              rw [if_neg (show ¬ (0 < ((c :: s.drop (i + 1)).takeWhile plainB).length ∧ done ((c :: s.drop (i + 1)).dropWhile plainB) = true) from fun h => by have := h.1; rw [List.takeWhile_cons, hp] at this; simp at this), if_neg (show ¬ (false = true) by simp)]
              exact ⟨H, rfl, hk⟩
            | true =>
              rw [if_pos rfl]
              have hw := b_loop d m s so sl l H i (by omega) hl (by omega) NN i (Nat.le_refl _) h0 (NN_big _ (by omega))
              obtain ⟨p1, p2⟩ := word_at s i h0
              rw [p1] at hw
              have hlen : 0 < ((s.drop i).takeWhile plainB).length := by rw [hd, List.takeWhile_cons, hp]; simp
              have hle : ((s.drop i).takeWhile plainB).length ≤ s.length - i := by have := (List.takeWhile_sublist (p := plainB) (l := s.drop i)).length_le; simpa using this
              have := more _ _ _ hw (by omega) (by omega)
              rw [p2] at this
              rw [← hd]
              by_cases gd : done ((s.drop i).dropWhile plainB) = true
              · rw [if_pos gd] at this
                rw [if_pos ⟨hlen, gd⟩]
                exact this
              · rw [if_neg gd] at this
                rw [if_neg (fun h => gd h.2)]
                exact this
    · rw [if_neg (show ¬ (i : Int) < (s.length : Int) by omega), List.drop_eq_nil_of_le (by omega)]
      obtain ⟨H', so', e1, e2, e3, e4⟩ := flushed_s d H0.next so sl L l H hk.1 hc hl hso (by omega) (by omega)
      rw [e1]
      simp only [callK_s, asSL_s, parse]
      obtain ⟨cs, c1, c2⟩ := e2
      exact ⟨H', so', rfl, ⟨cs, c1, c2.mono (fun k _ hk => hk.1)⟩, e3, hk.trans e4 (fun k q1 q2 => by have := hso k q2; omega)⟩

theorem RParse_s (d : Nat) (s : W) (H : Heap) (hs : s.length ≤ 400) : PPost H (parse (s.length + 1) s [] []) (X (d + 2) n_ref22_Parse [.string (S s)] H) := by
  rw [ref22_Parse_eq]
  simp only [slenS, decide_eq_true_eq]
  rw [if_neg (by omega)]
  have := rparse_loop d H s hs NN (s.length + 1) 0 [] [] H Sl.nil Sl.nil (by omega) (NN_big _ (by omega)) (by omega) (by simp; omega) ⟨[], Whole.nil _ _ _, CmdL.nil _ _⟩ (Whole.nil _ _ _) (fun k hk => absurd hk Sl.at_nil) (fun k hk => absurd hk Sl.at_nil) (Keep.refl _)
  simpa using this
theorem RParse_long (d : Nat) (s : W) (H : Heap) (hs : 400 < s.length) : X (d + 2) n_ref22_Parse [.string (S s)] H = some (.tuple #[.slice none 0 0, .int .i64 6], H) := by
  rw [ref22_Parse_eq]
  simp only [slenS, decide_eq_true_eq]
  rw [if_pos (by omega)]

/-! ### same -/
theorem Cmds.at {H : Heap} {P : Nat → Prop} {so : Sl} {L : List Cmd} (h : Cmds H P so L) {i : Nat} {n : W} {ws : List W} (hi : L[i]? = some (n, ws)) : ∃ b a, so.a = some ⟨b, 0, none⟩ ∧ so.n = L.length ∧ H.ld1 ⟨b, i * 2, none⟩ = some (.string (S n)) ∧ H.ld1 ⟨b, i * 2 + 1, none⟩ = some (Sl.v a) ∧ Words H a ws := by
  obtain ⟨cs, h1, h2, h3⟩ := h
  have hlt := (List.getElem?_eq_some_iff.1 hi).1
  have hne : cs ≠ [] := fun e => by subst e; simp at h2; omega
  obtain ⟨b, o, st, e1, e2, e3, _⟩ := Whole.block h1 hne
  obtain ⟨q1, a, q2, q3, _⟩ := h3 i n ws hi
  exact ⟨b, a, by rw [e1], by omega, by rw [ld1_s e3]; exact q1, by rw [ld1_s e3]; exact q2, q3⟩
theorem Cmds.num {H : Heap} {P : Nat → Prop} {so : Sl} {L : List Cmd} (h : Cmds H P so L) : so.n = L.length := by
  obtain ⟨cs, h1, h2, _⟩ := h
  have := h1.len
  omega
theorem Words.num {H : Heap} {a : Sl} {ws : List W} (h : Words H a ws) : a.n = ws.length := by
  have := Whole.len h
  simp [strs] at this; omega
theorem Words.at {H : Heap} {a : Sl} {ws : List W} (h : Words H a ws) {k : Nat} {w : W} (hk : ws[k]? = some w) : ∃ b, a.a = some ⟨b, 0, none⟩ ∧ H.ld1 ⟨b, k, none⟩ = some (.string (S w)) := by
  have hlt := (List.getElem?_eq_some_iff.1 hk).1
  obtain ⟨b, o, st, e1, e2, e3, _⟩ := Whole.block h (fun e => by simp [strs] at e; subst e; simp at hlt)
  refine ⟨b, by rw [e1], ?_⟩
  rw [ld1_s e3]
  simp [strs, hk]

theorem same_words (d m0 : Nat) (H : Heap) (P Q : Nat → Prop) (s1 s2 : Sl) (L : List Cmd) (h1 : Cmds H P s1 L) (h2 : Cmds H Q s2 L) (i : Nat) (n : W) (ws : List W) (hi : L[i]? = some (n, ws)) (hn : ws.length ≤ 1048576) : ∀ (m k : Nat), k ≤ ws.length → ws.length - k < m →
    law24_same_p110100100110 d m0 m s1 s2 (i : Int) (k : Int) H = law24_same_p11010 d m0 s1 s2 (IntKind.i64.wrap ((i : Int) + 1)) H := by
  intro m
  have hlt := (List.getElem?_eq_some_iff.1 hi).1
  obtain ⟨b, a, e1, e2, e3, e4, e5⟩ := h1.at hi
  obtain ⟨b', a', e1', e2', e3', e4', e5'⟩ := h2.at hi
  induction m with
  | zero => intro k q1 q2; omega
  | succ m ih =>
    intro k q1 q2
    rw [law24_same_p110100100110_s]
    simp only [e1, e1', e2, e2', optK_s, ap, Nat.zero_add, Int.toNat_natCast, e4, e4', asSL_s, decide_eq_true_eq]
    rw [if_pos (by omega)]
    have hk1 := e5.num
    have hk2 := e5'.num
    by_cases hk : k < ws.length
    · have hw : ws[k]? = some ws[k] := List.getElem?_eq_getElem hk
      generalize ws[k] = w at hw
      obtain ⟨c, q3, q4⟩ := e5.at hw
      obtain ⟨c', q3', q4'⟩ := e5'.at hw
      simp only [q3, q3', optK_s, Nat.mul_one, Nat.zero_add, q4, q4', asS_s, sEqS]
      rw [if_pos (by omega), if_pos (by omega), if_pos (by omega), if_pos (by omega), if_pos (by omega), if_neg (by simp), w64 (by omega), show ((k : Int) + 1) = ((k + 1 : Nat) : Int) by omega]
      exact ih (k + 1) (by omega) (by omega)
    · rw [if_neg (by omega)]

theorem same_loop (d : Nat) (H : Heap) (P Q : Nat → Prop) (s1 s2 : Sl) (L : List Cmd) (h1 : Cmds H P s1 L) (h2 : Cmds H Q s2 L) (hL : L.length ≤ 1048576) (hw : ∀ c ∈ L, c.2.length ≤ 1048576) : ∀ (m i : Nat), i ≤ L.length → L.length - i < m →
    law24_same_p11010 d m s1 s2 (i : Int) H = some (.bool true, H) := by
  intro m
  induction m with
  | zero => intro i q1 q2; omega
  | succ m ih =>
    intro i q1 q2
    rw [law24_same_p11010_s]
    have hn := h1.num
    simp only [decide_eq_true_eq, hn]
    by_cases hi : i < L.length
    · have hc : L[i]? = some L[i] := List.getElem?_eq_getElem hi
      have hm := hw _ (List.getElem_mem hi)
      generalize L[i] = c at hc hm
      obtain ⟨n, ws⟩ := c
      obtain ⟨b, a, e1, e2, e3, e4, e5⟩ := h1.at hc
      obtain ⟨b', a', e1', e2', e3', e4', e5'⟩ := h2.at hc
      simp only [e1, e1', e2', optK_s, ap, Nat.zero_add, Nat.add_zero, Int.toNat_natCast, e3, e3', e4, e4', asS_s, asSL_s, sEqS, e5.num, e5'.num]
      rw [if_pos (by omega), if_pos (by omega), if_pos (by omega), if_neg (by simp), if_pos (by omega), if_pos (by omega), law24_same_p11010010001_eq, if_neg (by simp), show (0 : Int) = ((0 : Nat) : Int) from rfl, same_words d m H P Q s1 s2 L h1 h2 i n ws hc hm NN 0 (by omega) (NN_big _ (by have : ws.length ≤ 1048576 := hm; omega)), w64 (by omega), show ((i : Int) + 1) = ((i + 1 : Nat) : Int) by omega]
      exact ih (i + 1) (by omega) (by omega)
    · rw [if_neg (by omega)]

theorem same_s (d : Nat) (H : Heap) (P Q : Nat → Prop) (s1 s2 : Sl) (L : List Cmd) (h1 : Cmds H P s1 L) (h2 : Cmds H Q s2 L) (hL : L.length ≤ 1048576) (hw : ∀ c ∈ L, c.2.length ≤ 1048576) : X (d + 1) n_law24_same [s1.v, s2.v] H = some (.bool true, H) := by
  rw [law24_same_eq, if_neg (by simp [h1.num, h2.num])]
  exact same_loop d H P Q s1 s2 L h1 h2 hL hw NN 0 (by omega) (NN_big _ (by omega))

/-! ### how much a line says -/
def size (L : List Cmd) (l : List W) : Prop := ∀ (n : Nat), L.length + l.length ≤ n → True
theorem parse_small : ∀ (f : Nat) (s : W) (L : List Cmd) (l : List W) (B : Nat) (r : List Cmd), parse f s L l = some r → L.length + l.length + s.length ≤ B → (∀ c ∈ L, c.2.length ≤ B) → r.length ≤ B + 1 ∧ ∀ c ∈ r, c.2.length ≤ B := by
  intro f
  induction f with
  | zero => intro s L l B r h; cases h
  | succ f ih =>
    intro s L l B r h hB hL
    have he : ∀ c ∈ ends L l, c.2.length ≤ B := by
      intro c hc
      cases l with
      | nil => exact hL c hc
      | cons w ws =>
        simp only [ends, List.mem_append, List.mem_singleton] at hc
        rcases hc with hc | rfl
        · exact hL c hc
        · simp at hB ⊢; omega
    have hel : (ends L l).length ≤ L.length + l.length := by cases l <;> simp [ends]
    cases s with
    | nil =>
      simp only [parse, Option.some.injEq] at h
      subst h
      exact ⟨by simp at hB; omega, he⟩
    | cons c t =>
      simp only [parse] at h
      simp only [List.length_cons] at hB
      split at h
      · exact ih t L l B r h (by omega) hL
      · split at h
        · exact ih t (ends L l) [] B r h (by simp; omega) he
        · split at h
          · split at h
            · cases h
            · rename_i w t' hq
              split at h
              · exact ih t' L _ B r h (by have := quoted_len _ t w t' (Nat.le_refl _) hq; simp; omega) hL
              · cases h
          · split at h
            · rename_i hw
              have := drop_len c t hw.1
              exact ih _ L _ B r h (by simp only [List.length_append, List.length_cons, List.length_nil] at this ⊢; omega) hL
            · cases h
end Go.Proofs.Ytnpmlgibjhjiiaa.dec

namespace Go.Proofs.Ytnpmlgibjhjiiaa.dec
open Go Go.Cm

attribute [local congr] optK_congr asI_congr asN_congr asB_congr asS_congr asP_congr asA_congr asSL_congr callK_congr castT_congr chk_congr

theorem Pick_s (d : Nat) (n m : Int) (H : Heap) (hm : 0 < m) (hm2 : m ≤ 1048576) : ∃ r : Int, X (d + 1) n_hand_Pick [.int .i64 n, .int .i64 m] H = some (.int .i64 r, H) ∧ 0 ≤ r ∧ r < m := by
  rw [hand_Pick_eq, if_neg (by omega)]
  have h1 := Int.tmod_lt_of_pos n hm
  have h2 : -m < Int.tmod n m := by
    have := Int.lt_tmod_of_pos n hm
    omega
  simp only [decide_eq_true_eq]
  by_cases h : Int.tmod n m < 0
  · rw [if_pos h, w64 (by omega)]
    exact ⟨_, rfl, by omega, by omega⟩
  · rw [if_neg h]
    exact ⟨_, rfl, by omega, h1⟩

/-- an argument that is a slice of numbers -/
def Ints (H : Heap) (x : Sl) (l : List Int) : Prop := x.n ≤ l.length ∧ ∀ (i : Nat) n, i < x.n → l[i]? = some n → ∃ b o, x.a = some ⟨b, o, none⟩ ∧ H.ld1 ⟨b, o + i, none⟩ = some (.int .i64 n)

theorem line_loop (d : Nat) (H : Heap) (x : Sl) (l : List Int) (hx : Ints H x l) (_ : l.length ≤ 1048576) : ∀ (m i : Nat) (w : W), i ≤ x.n → x.n - i < m → w.length ≤ 20 * i →
    ∃ w', law24_line_p11010 (d + 1) m x (S w) (i : Int) H = some (.string (S w'), H) := by
  intro m
  have hle := hx.1
  induction m with
  | zero => intro i w h1 h2; omega
  | succ m ih =>
    intro i w h1 h2 hw
    rw [law24_line_p11010_s]
    simp only [decide_eq_true_eq]
    have stop : ∃ w', law24_line_p11010001 (d + 1) m x (S w) (i : Int) false H = some (.string (S w'), H) := by
      rw [law24_line_p11010001_eq, if_neg (by simp)]
      exact ⟨w, rfl⟩
    by_cases hi : i < x.n
    · rw [if_pos (by omega)]
      by_cases h60 : i < 60
      · rw [show decide ((i : Int) < 60) = true from decide_eq_true (by omega), law24_line_p11010001_eq, if_pos rfl]
        have hc : l[i]? = some l[i] := List.getElem?_eq_getElem (by omega)
        obtain ⟨b, o, e1, e2⟩ := hx.2 i _ hi hc
        obtain ⟨r, p1, p2, p3⟩ := Pick_s d l[i] 16 H (by omega) (by omega)
        simp only [e1, optK_s, ap, Int.toNat_natCast, Nat.mul_one, e2, asI_s, p1, callK_s]
        rw [if_pos (by omega), if_pos (by omega)]
        have key : ∀ (lit : List Value), lit.length = 16 → (∀ v ∈ lit, ∃ u : W, v = .string (S u) ∧ u.length ≤ 20) → ∃ u : W, partL lit (r.toNat * 1) 1 false = some (.string (S u)) ∧ u.length ≤ 20 := by
          intro lit h h'
          have hr : r.toNat < lit.length := by omega
          obtain ⟨u, hu, hu2⟩ := h' _ (List.getElem_mem hr)
          exact ⟨u, by simp [partL, List.getElem?_eq_getElem hr, hu], hu2⟩
        obtain ⟨u, hu, hu2⟩ := key [.string (S [97]), .string (S [122, 111, 111, 109]), .string (S [32]), .string (S [32]), .string (S [59]), .string (S [34]), .string (S [34]), .string (S [92]), .string (S [98, 32, 99]), .string (S [49]), .string (S [45, 104]), .string (S [127]), .string (S [110, 101, 119, 45, 115, 101, 115, 115, 105, 111, 110]), .string (S [9]), .string (S [195, 169]), .string (S [92, 34])] rfl (by
          intro v hv
          simp only [List.mem_cons, List.not_mem_nil, or_false] at hv
          rcases hv with rfl | rfl | rfl | rfl | rfl | rfl | rfl | rfl | rfl | rfl | rfl | rfl | rfl | rfl | rfl | rfl <;> exact ⟨_, rfl, by decide⟩)
        simp only [Nat.mul_one] at hu
        simp only [hu, optK_s, asS_s, slenS, sCatS]
        rw [if_pos (by omega), w64 (by omega), show ((i : Int) + 1) = ((i + 1 : Nat) : Int) by omega]
        exact ih (i + 1) (w ++ u) (by omega) (by omega) (by simp; omega)
      · rw [show decide ((i : Int) < 60) = false from decide_eq_false (by omega)]
        exact stop
    · rw [if_neg (by omega)]
      exact stop

theorem line_s (d : Nat) (H : Heap) (x : Sl) (l : List Int) (hx : Ints H x l) (hl : l.length ≤ 1048576) : ∃ w', X (d + 2) n_law24_line [x.v] H = some (.string (S w'), H) := by
  rw [law24_line_eq]
  exact line_loop d H x l hx hl NN 0 [] (by omega) (NN_big _ (by have := hx.1; omega)) (by simp)

theorem parses_s (d : Nat) (w : W) (H : Heap) : ∃ H', law24_CmdParses_p11 (d + 3) (S w) H = some (.bool true, H') := by
  rw [law24_CmdParses_p11_eq]
  by_cases hw : w.length ≤ 400
  · have h1 := Parse_s d w H hw
    cases hq : parse (w.length + 1) w [] [] with
    | none =>
      rw [hq] at h1
      obtain ⟨H1, e1, k1⟩ := h1
      have h2 := RParse_s (d + 1) w H1 hw
      rw [hq] at h2
      obtain ⟨H2, e2, k2⟩ := h2
      rw [e1]
      simp only [callK_s, castT_s, castL_c, castL_n, cast0, asSl, asI_s, List.getElem?_cons_zero, List.getElem?_cons_succ, optK_s, asSL_s, e2]
      rw [known_s]
      simp only [callK_s, asB_s, if_true]
      have hs := same_s (d + 2) H2 (fun _ => True) (fun _ => True) Sl.nil Sl.nil [] ⟨[], Whole.nil _ _ _, CmdL.nil _ _⟩ ⟨[], Whole.nil _ _ _, CmdL.nil _ _⟩ (by simp) (by simp)
      rw [hs]
      simp [callK_s, asB_s]
    | some L =>
      rw [hq] at h1
      obtain ⟨H1, so1, e1, c1, b1, k1⟩ := h1
      have h2 := RParse_s (d + 1) w H1 hw
      rw [hq] at h2
      obtain ⟨H2, so2, e2, c2, b2, k2⟩ := h2
      rw [e1]
      simp only [callK_s, castT_s, castL_c, castL_n, cast0, asSl, asI_s, List.getElem?_cons_zero, List.getElem?_cons_succ, optK_s, asSL_s, e2]
      rw [known_s]
      simp only [callK_s, asB_s, if_true]
      obtain ⟨cs, q1, q2⟩ := c1
      have hsm := parse_small _ _ _ _ 400 _ hq (by simpa using hw) (by simp)
      have hs := same_s (d + 2) H2 _ _ so1 so2 L ⟨cs, q1.keep k2 (fun _ _ h => h), q2.keep k2 (fun _ _ h => h)⟩ c2 (by omega) (fun c hc => by have := hsm.2 c hc; omega)
      rw [hs]
      simp [callK_s, asB_s]
  · rw [Parse_long d w H (by omega)]
    simp only [callK_s, castT_s, castL_c, castL_n, cast0, asSl, asI_s, List.getElem?_cons_zero, List.getElem?_cons_succ, optK_s, asSL_s]
    rw [RParse_long (d + 1) w H (by omega)]
    simp only [callK_s, castT_s, castL_c, castL_n, cast0, asSl, asI_s, List.getElem?_cons_zero, List.getElem?_cons_succ, optK_s, asSL_s]
    rw [known_s]
    simp only [callK_s, asB_s, if_true]
    have hs := same_s (d + 2) H (fun _ => True) (fun _ => True) Sl.nil Sl.nil [] ⟨[], Whole.nil _ _ _, CmdL.nil _ _⟩ ⟨[], Whole.nil _ _ _, CmdL.nil _ _⟩ (by simp) (by simp)
    rw [hs]
    simp [callK_s, asB_s]

theorem S_lst_eq (s : ByteArray) : S (lst s) = s := rfl

theorem CmdParses_s (d : Nat) (s : ByteArray) (x : Sl) (l : List Int) (any : Bool) (H : Heap) (hx : Ints H x l) (hl : l.length ≤ 1048576) : ∃ H', X (d + 4) n_law24_CmdParses [.string s, x.v, .bool any] H = some (.bool true, H') := by
  rw [law24_CmdParses_eq]
  cases any with
  | true =>
    rw [if_neg (by simp)]
    exact parses_s d (lst s) H
  | false =>
    rw [if_pos (by simp)]
    obtain ⟨w, hw⟩ := line_s (d + 1) H x l hx hl
    rw [hw]
    simp only [callK_s, asS_s]
    exact parses_s d w H
end Go.Proofs.Ytnpmlgibjhjiiaa.dec
