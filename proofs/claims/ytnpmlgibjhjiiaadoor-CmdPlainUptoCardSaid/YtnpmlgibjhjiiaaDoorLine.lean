/-
  cmd: words, commands in memory; the small functions.
  And: cmd: the reader's functions. cmd: quoted words, the end of a command. cmd: the end of a command. cmd.Parse. cmd.Keys: what keys are bound to; presses in memory. cmd.Keys: Feed, the program's and the reference's. cmd.Keys: Feed, the program's. cmd.Right at the commands that keys are bound to. CmdPlain: what the call computes. cmd (door): what the laws' frames share.
-/
import Derived.Test.YtnpmlgibjhjiiaaDoorDec
import Derived.IntWalk
import Derived.Test.YtnpmlgibjhjiiaaDoorRows
import Derived.Test.YtnpmlgibjhjiiaaDoorCmG
import Derived.ChangeMaps5
import Derived.ChangeSlices
namespace Go.Proofs.YtnpmlgibjhjiiaaDoor.dec
open Go Go.Cm

attribute [local congr] optK_congr asI_congr asN_congr asB_congr asS_congr asP_congr asA_congr asSL_congr callK_congr castT_congr chk_congr
attribute [local simp] optK_s asI_s asN_s asB_s asS_s asP_s asA_s asSL_s callK_s chk_s newK_s castT_s castL_n castL_c cast0

abbrev W := List UInt8
abbrev Cmd := W × List W

theorem known_s (d : Nat) (H : Heap) : X (d + 1) n_law24_known [] H = some (.bool true, H) := by kernel_rfl

theorem w64 {n : Int} (h : -9223372036854775808 ≤ n ∧ n ≤ 9223372036854775807) : IntKind.i64.wrap n = n := IntWalk.i64_in n h

/-- a byte of a word without quotes -/
def plainB (c : UInt8) : Bool := decide (33 ≤ c.toNat) && decide (c.toNat ≤ 126) && !decide (c.toNat = 59) && !decide (c.toNat = 34) && !decide (c.toNat = 92)

theorem bt_of {s : ByteArray} {l : W} {i : Nat} {c : UInt8} (h : lst s = l) (hi : l[i]? = some c) : bt s i = (c.toNat : Int) := by
  unfold bt; rw [h, List.getD_eq_getElem?_getD, hi]; rfl

theorem plain_s (d : Nat) (c : UInt8) (H : Heap) : X (d + 1) n_cmd_plain [.int .u8 (c.toNat : Int)] H = some (.bool (plainB c), H) := by
  rw [cmd_plain_eq]
  have h0 : (33 ≤ (c.toNat : Int)) = (33 ≤ c.toNat) := by simp; omega
  have h1 : ((c.toNat : Int) ≤ 126) = (c.toNat ≤ 126) := by simp; omega
  have h2 : ((c.toNat : Int) = 59) = (c.toNat = 59) := by simp; omega
  have h3 : ((c.toNat : Int) = 34) = (c.toNat = 34) := by simp; omega
  have h4 : ((c.toNat : Int) = 92) = (c.toNat = 92) := by simp; omega
  simp only [h0, h1, h2, h3, h4, plainB]
  by_cases g0 : 33 ≤ c.toNat <;> by_cases g1 : c.toNat ≤ 126 <;> by_cases g2 : c.toNat = 59 <;> by_cases g3 : c.toNat = 34 <;> simp [g0, g1, g2, g3]

/-! ### in memory -/
def strs (l : List W) : List Value := l.map fun w => .string (S w)
def Words (H : Heap) (s : Sl) (l : List W) : Prop := Whole H s (strs l) t_string 1

/-- commands: name and words; the words' blocks are of P -/
def CmdL (H : Heap) (P : Nat → Prop) (cs : List Value) (L : List Cmd) : Prop :=
  cs.length = L.length * 2 ∧ ∀ (i : Nat) n ws, L[i]? = some (n, ws) → cs[i * 2]? = some (.string (S n)) ∧ ∃ a : Sl, cs[i * 2 + 1]? = some a.v ∧ Words H a ws ∧ ∀ k, a.at k → P k
def Cmds (H : Heap) (P : Nat → Prop) (s : Sl) (L : List Cmd) : Prop := ∃ cs, Whole H s cs t_cmd_Command 2 ∧ CmdL H P cs L

theorem CmdL.keep {S P : Nat → Prop} {H H' : Heap} {cs : List Value} {L : List Cmd} (h : CmdL H P cs L) (hk : Keep S H H') (hn : ∀ k, P k → ¬ S k) : CmdL H' P cs L :=
  ⟨h.1, fun i n ws hi => let ⟨h1, a, h2, h3, h4⟩ := h.2 i n ws hi; ⟨h1, a, h2, h3.keep hk (fun k hk => hn k (h4 k hk)), h4⟩⟩
theorem CmdL.mono {P Q : Nat → Prop} {H : Heap} {cs : List Value} {L : List Cmd} (h : CmdL H P cs L) (hn : ∀ k, k < H.next → P k → Q k) : CmdL H Q cs L :=
  ⟨h.1, fun i n ws hi => let ⟨h1, a, h2, h3, h4⟩ := h.2 i n ws hi; ⟨h1, a, h2, h3, fun k hk => hn k (h3.lt hk) (h4 k hk)⟩⟩
theorem CmdL.nil (H : Heap) (P : Nat → Prop) : CmdL H P [] [] := ⟨rfl, fun i n ws h => by simp at h⟩
theorem CmdL.snoc {P : Nat → Prop} {H : Heap} {cs : List Value} {L : List Cmd} (h : CmdL H P cs L) {n : W} {ws : List W} {a : Sl} (ha : Words H a ws) (hp : ∀ k, a.at k → P k) : CmdL H P (cs ++ [.string (S n), a.v]) (L ++ [(n, ws)]) := by
  refine ⟨by simp [h.1]; omega, fun i m bs hi => ?_⟩
  by_cases hlt : i < L.length
  · rw [List.getElem?_append_left hlt] at hi
    obtain ⟨h1, b, h2, h3⟩ := h.2 i m bs hi
    refine ⟨?_, b, ?_, h3⟩
    · rw [List.getElem?_append_left (by have := h.1; omega)]; exact h1
    · rw [List.getElem?_append_left (by have := h.1; omega)]; exact h2
  · have hi' : i = L.length := by
      have := (List.getElem?_eq_some_iff.1 hi).1
      simp at this; omega
    subst hi'
    simp at hi
    obtain ⟨rfl, rfl⟩ := hi
    refine ⟨?_, a, ?_, ha, hp⟩
    · rw [List.getElem?_append_right (by have := h.1; omega), h.1]; simp
    · rw [List.getElem?_append_right (by have := h.1; omega), h.1]; simp

theorem ldN_one {H : Heap} {b : Nat} {c : List Value} {e : TypeId} {o : Bool} {fz : Nat} {st : Bool} (h : H.get b = some (.cells c e o fz st)) (hn : c.length = 1) : H.ldN ⟨b, 0, none⟩ 1 = some c := by
  rw [ldN_s h (by omega)]; rw [List.drop_zero, List.take_of_length_le (by omega)]

end Go.Proofs.YtnpmlgibjhjiiaaDoor.dec

namespace Go.Proofs.YtnpmlgibjhjiiaaDoor.dec
open Go Go.Cm

attribute [local congr] optK_congr asI_congr asN_congr asB_congr asS_congr asP_congr asA_congr asSL_congr callK_congr castT_congr chk_congr
attribute [local simp] optK_s asI_s asN_s asB_s asS_s asP_s asA_s asSL_s callK_s chk_s newK_s castT_s castL_n castL_c cast0

/-- the reader -/
def Rd (H : Heap) (p : Nat) (s : W) (so sl : Sl) : Prop := H.get p = some (.cells [.string (S s), so.v, sl.v] t_cmd_reader false 0 false) ∧ p < H.next

theorem Rd.ld0 {H : Heap} {p : Nat} {s : W} {so sl : Sl} (h : Rd H p s so sl) : H.ld1 ⟨p, 0, none⟩ = some (.string (S s)) := by rw [ld1_s h.1]; rfl
theorem Rd.ld1 {H : Heap} {p : Nat} {s : W} {so sl : Sl} (h : Rd H p s so sl) : H.ld1 ⟨p, 1, none⟩ = some so.v := by rw [ld1_s h.1]; rfl
theorem Rd.ld2 {H : Heap} {p : Nat} {s : W} {so sl : Sl} (h : Rd H p s so sl) : H.ld1 ⟨p, 2, none⟩ = some sl.v := by rw [ld1_s h.1]; rfl
theorem Rd.st0 {H : Heap} {p : Nat} {s s' : W} {so sl : Sl} (h : Rd H p s so sl) : ∃ H', H.st1 ⟨p, 0, none⟩ (.string (S s')) = some H' ∧ Rd H' p s' so sl ∧ Keep (· = p) H H' :=
  ⟨_, st1_s h.1 (by simp) (Nat.le_refl _), ⟨by simp, h.2⟩, Keep.put _ _ _ rfl⟩
theorem Rd.st1 {H : Heap} {p : Nat} {s : W} {so so' sl : Sl} (h : Rd H p s so sl) : ∃ H', H.st1 ⟨p, 1, none⟩ so'.v = some H' ∧ Rd H' p s so' sl ∧ Keep (· = p) H H' :=
  ⟨_, st1_s h.1 (by simp) (by simp), ⟨by simp, h.2⟩, Keep.put _ _ _ rfl⟩
theorem Rd.st2 {H : Heap} {p : Nat} {s : W} {so sl sl' : Sl} (h : Rd H p s so sl) : ∃ H', H.st1 ⟨p, 2, none⟩ sl'.v = some H' ∧ Rd H' p s so sl' ∧ Keep (· = p) H H' :=
  ⟨_, st1_s h.1 (by simp) (by simp), ⟨by simp, h.2⟩, Keep.put _ _ _ rfl⟩
theorem Rd.keep {S : Nat → Prop} {H H' : Heap} {p : Nat} {s : W} {so sl : Sl} (h : Rd H p s so sl) (hk : Keep S H H') (hn : ¬ S p) : Rd H' p s so sl :=
  ⟨(hk.2 p h.2 hn).trans h.1, Nat.lt_of_lt_of_le h.2 hk.1⟩

theorem word_loop (d p : Nat) (s : W) (so sl : Sl) (H : Heap) (h : Rd H p s so sl) (hs : s.length ≤ 1048576) : ∀ (m i : Nat), i ≤ s.length → s.length - i < m →
    ∃ m', cmd_reader_word_p1100 (d + 1) m p (i : Int) H = cmd_reader_word_p1100001 (d + 1) m' p ((i + ((s.drop i).takeWhile plainB).length : Nat) : Int) false H := by
  intro m
  induction m with
  | zero => intro i h1 h2; omega
  | succ m ih =>
    intro i h1 h2
    rw [cmd_reader_word_p1100_s]
    simp only [h.ld0, optK_s, asS_s, slenS, decide_eq_true_eq]
    by_cases hi : i < s.length
    · have hc : s[i]? = some s[i] := List.getElem?_eq_getElem hi
      have hd : s.drop i = s[i] :: s.drop (i + 1) := by rw [List.drop_eq_getElem_cons hi]
      rw [if_pos (by omega), if_pos (by omega), Int.toNat_natCast, btS hc, plain_s]
      simp only [callK_s, asB_s]
      cases hp : plainB s[i] with
      | false => exact ⟨m, by rw [hd, List.takeWhile_cons, hp]; rfl⟩
      | true =>
        rw [cmd_reader_word_p1100001_eq]
        simp only [if_true]
        rw [w64 (by omega)]
        obtain ⟨m', hm⟩ := ih (i + 1) (by omega) (by omega)
        refine ⟨m', ?_⟩
        rw [show ((i : Int) + 1) = ((i + 1 : Nat) : Int) by omega, hm]
        simp only [hd, List.takeWhile_cons, hp, if_true, List.length_cons]
        congr 1
        omega
    · rw [if_neg (by omega)]
      exact ⟨m, by rw [List.drop_eq_nil_of_le (by omega)]; simp⟩

theorem NN_big (n : Nat) (h : n ≤ 3000000000) : n < NN := by rw [NN_eq]; omega

theorem word_s (d p : Nat) (s : W) (so sl : Sl) (l : List W) (H : Heap) (h : Rd H p s so sl) (hl : Words H sl l) (hp : ¬ sl.at p) (hs : s.length ≤ 1048576) (hn : l.length ≤ 1048576) :
    ∃ H' sl', X (d + 2) n_cmd_reader_word [P0 p] H = some (.bool (decide (0 < (s.takeWhile plainB).length)), H') ∧ Rd H' p (s.dropWhile plainB) so sl' ∧ Words H' sl' (l ++ [s.takeWhile plainB]) ∧
      Keep (fun k => k = p ∨ sl.at k) H H' ∧ ∀ k, sl'.at k → H.next ≤ k := by
  rw [cmd_reader_word_eq]
  obtain ⟨m', hm⟩ := word_loop d p s so sl H h hs NN 0 (by omega) (NN_big _ (by omega))
  rw [show (0 : Int) = ((0 : Nat) : Int) from rfl, hm, cmd_reader_word_p1100001_eq]
  simp only [Nat.zero_add, List.drop_zero, Bool.false_eq_true, if_false, h.ld2, h.ld0, optK_s, asS_s, asSL_s, newK_s, slenS, Int.toNat_natCast, sSubS]
  generalize hw : (s.takeWhile plainB).length = n
  have hle : n ≤ s.length := by rw [← hw]; exact (List.takeWhile_sublist _).length_le
  have hsplit : s.take n = s.takeWhile plainB ∧ s.drop n = s.dropWhile plainB := by
    have := List.takeWhile_append_dropWhile (p := plainB) (l := s)
    constructor
    · conv => lhs; rw [← this]
      rw [List.take_left' hw]
    · conv => lhs; rw [← this]
      rw [List.drop_left' hw]
  rw [if_pos (by omega)]
  have hlen := hl.len
  simp only [strs, List.length_map, Nat.mul_one] at hlen
  obtain ⟨s', H', e1, e2, e0, e3, e4, e5⟩ := push_whole (bytes := 16) (new := [.string (S (s.take n))]) hl rfl (by omega) (by omega) (by omega)
  have h1 : Rd (H.new (.cells [.string (S (s.take n))] t_string false 0 false)) p s so sl := h.keep (Keep.new (S := fun _ => False) _ _) id
  have h2 : Rd H' p s so sl := h1.keep e3 hp
  obtain ⟨H2, f1, f2, f3⟩ := h2.st2 (sl' := s')
  obtain ⟨H3, g1, g2, g3⟩ := f2.st0 (s' := s.drop n)
  have hat : ∀ k, s'.at k → H.next ≤ k := fun k hk => by have := e4 k hk; omega
  have hne : ¬ s'.at p := fun hk => by have := hat p hk; have := h.2; omega
  refine ⟨H3, s', ?_, hsplit.2 ▸ g2, ?_, ?_, hat⟩
  · rw [e1]
    simp only [asSL_s, f1, optK_s, f2.ld0, asS_s, slenS]
    rw [if_pos (by omega)]
    rw [sSubS, List.take_length, g1]
    simp [rdsOk, rdOk_2, rdAt, readD_ld, h.ld2, h1.ld2, same_sl, chk, optK_s]
  · have := (e2.keep f3 (fun k hk e => hne (e ▸ hk))).keep g3 (fun k hk e => hne (e ▸ hk))
    simpa [Words, strs, hsplit.1, sSubS] using this
  · refine Keep.trans (e0.mono fun k _ hk => .inr hk) ?_ (T := (· = p)) (fun _ _ h => .inl h)
    exact f3.trans g3 fun _ _ h => h
end Go.Proofs.YtnpmlgibjhjiiaaDoor.dec

namespace Go.Proofs.YtnpmlgibjhjiiaaDoor.dec
open Go Go.Cm

attribute [local congr] optK_congr asI_congr asN_congr asB_congr asS_congr asP_congr asA_congr asSL_congr callK_congr castT_congr chk_congr

/-- a quoted word behind its first quote: the word, and what is left -/
def quoted : W → Option (W × W)
  | [] => none
  | c :: r => if c.toNat < 32 ∨ 126 < c.toNat then none
    else if c.toNat = 34 then some ([], r)
    else if c.toNat = 92 then (match r with
      | [] => none
      | e :: r' => if e.toNat = 34 ∨ e.toNat = 92 then (quoted r').map fun q => (e :: q.1, q.2) else none)
    else (quoted r).map fun q => (c :: q.1, q.2)

theorem quoted_cons (c : UInt8) (r : W) : quoted (c :: r) = if c.toNat < 32 ∨ 126 < c.toNat then none
    else if c.toNat = 34 then some ([], r)
    else if c.toNat = 92 then (match r with
      | [] => none
      | e :: r' => if e.toNat = 34 ∨ e.toNat = 92 then (quoted r').map fun q => (e :: q.1, q.2) else none)
    else (quoted r).map fun q => (c :: q.1, q.2) := by
  conv => lhs; rw [quoted.eq_def]
  rfl

def bytes (l : W) : List Value := l.map fun b => .int .u8 (b.toNat : Int)
def Bytes (H : Heap) (s : Sl) (l : W) : Prop := Whole H s (bytes l) t_uint8 1

theorem bytesOf_bytes (l : W) : bytesOf (bytes l) = some l := by
  induction l with
  | nil => rfl
  | cons a l ih =>
    show (match bytesOf (bytes l) with | some r => some (UInt8.ofNat (a.toNat : Int).toNat :: r) | none => none) = _
    rw [ih]
    simp

theorem Bytes.str {H : Heap} {s : Sl} {l : W} (h : Bytes H s l) : readD .bytesStr [s.v] H = some (.string (S l)) := by
  rcases h with ⟨rfl, h2⟩ | ⟨b, n, rfl, h1, h2, o, st, h3⟩
  · have : l = [] := by cases l <;> simp [bytes] at h2 ⊢
    subst this; rfl
  · have hl : l.length = n := by simpa [bytes] using h1
    have : H.ldN ⟨b, 0, none⟩ n = some (bytes l) := by
      rw [ldN_s h3 (by simp [bytes]; omega), List.drop_zero, List.take_of_length_le (by simp [bytes]; omega)]
    simp only [readD, this, bytesOf_bytes]
    split
    · rename_i h0
      rw [List.eq_nil_of_length_eq_zero (hl.trans h0)]
    · rfl

theorem Bytes.push {H : Heap} {s : Sl} {l : W} (h : Bytes H s l) (c : UInt8) (hl : l.length ≤ 1000000000) :
    ∃ s' H', (∀ K, appendK t_uint8 1 1 false s.v (.slice (some ⟨H.next, 0, none⟩) 1 1) (H.new (.cells [.int .u8 (c.toNat : Int)] t_uint8 false 0 false)) K = K s'.v H') ∧ Bytes H' s' (l ++ [c]) ∧ Keep s.at H H' ∧ (∀ k, s'.at k → H.next < k) := by
  have hlen := h.len
  simp only [bytes, List.length_map, Nat.mul_one] at hlen
  obtain ⟨s', H', e1, e2, e3, _, e4, _⟩ := push_whole (bytes := 1) (new := [.int .u8 (c.toNat : Int)]) h rfl (by omega) (by omega) (by omega)
  exact ⟨s', H', e1, by simpa [Bytes, bytes] using e2, e3, e4⟩

theorem Words.push {H : Heap} {s : Sl} {l : List W} (h : Words H s l) (w : W) (hl : l.length ≤ 1048576) :
    ∃ s' H', (∀ K, appendK t_string 1 16 false s.v (.slice (some ⟨H.next, 0, none⟩) 1 1) (H.new (.cells [.string (S w)] t_string false 0 false)) K = K s'.v H') ∧ Words H' s' (l ++ [w]) ∧ Keep s.at H H' ∧
      Keep s.at (H.new (.cells [.string (S w)] t_string false 0 false)) H' ∧ (∀ k, s'.at k → H.next < k) := by
  have hlen := h.len
  simp only [strs, List.length_map, Nat.mul_one] at hlen
  obtain ⟨s', H', e1, e2, e3, e0, e4, _⟩ := push_whole (bytes := 16) (new := [.string (S w)]) h rfl (by omega) (by omega) (by omega)
  exact ⟨s', H', e1, by simpa [Words, strs] using e2, e3, e0, e4⟩

/-- what the quoted word's reader comes to -/
def QPost (B p : Nat) (so sl : Sl) (l : List W) (acc : W) (H : Heap) (q : Option (W × W)) (r : Res) : Prop := match q with
  | none => ∃ H', r = some (.bool false, H') ∧ Keep (fun k => k = p ∨ sl.at k ∨ B ≤ k) H H'
  | some (w, t) => ∃ H' sl', r = some (.bool true, H') ∧ Rd H' p t so sl' ∧ Words H' sl' (l ++ [acc ++ w]) ∧ Keep (fun k => k = p ∨ sl.at k ∨ B ≤ k) H H' ∧ ∀ k, sl'.at k → B ≤ k

theorem QPost.keep {B p : Nat} {so sl : Sl} {l : List W} {acc : W} {H H1 : Heap} {q : Option (W × W)} {r : Res} {c : UInt8} (h : QPost B p so sl l (acc ++ [c]) H1 q r) (hk : Keep (fun k => k = p ∨ sl.at k ∨ B ≤ k) H H1) :
    QPost B p so sl l acc H (q.map fun q => (c :: q.1, q.2)) r := by
  cases q with
  | none => obtain ⟨H', h1, h2⟩ := h; exact ⟨H', h1, hk.trans h2 fun _ _ h => h⟩
  | some q =>
    obtain ⟨w, t⟩ := q
    obtain ⟨H', sl', h1, h2, h3, h4, h5⟩ := h
    exact ⟨H', sl', h1, h2, by simpa using h3, hk.trans h4 fun _ _ h => h, h5⟩

theorem quoted_loop (d p B : Nat) (s : W) (so sl : Sl) (l : List W) (hs : s.length ≤ 1048576) (hl : l.length ≤ 1048576) (hpB : p < B) (hlB : ∀ k, sl.at k → k < B) (hlp : ¬ sl.at p) :
    ∀ (m i : Nat) (x3 : Sl) (acc : W) (H : Heap), i ≤ s.length → s.length - i < m → acc.length ≤ i → Rd H p s so sl → Words H sl l → Bytes H x3 acc → B ≤ H.next → (∀ k, x3.at k → B ≤ k) →
      QPost B p so sl l acc H (quoted (s.drop i)) (cmd_reader_quoted_p11010 d m p x3 (i : Int) H) := by
  intro m
  induction m with
  | zero => intro i x3 acc H h1 h2; omega
  | succ m ih =>
    intro i x3 acc H h1 h2 ha hr hw hb hB hx
    rw [cmd_reader_quoted_p11010_s]
    simp only [hr.ld0, optK_s, asS_s, slenS, decide_eq_true_eq]
    by_cases hi : i < s.length
    · have hc : s[i]? = some s[i] := List.getElem?_eq_getElem hi
      have hd : s.drop i = s[i] :: s.drop (i + 1) := by rw [List.drop_eq_getElem_cons hi]
      rw [if_pos (by omega), if_pos (by omega), Int.toNat_natCast, btS hc]
      generalize hcc : s[i] = c
      rw [hcc] at hc
      -- a byte is put behind
      have push : ∀ (j : Nat) (e : UInt8), i ≤ j → j < s.length → QPost B p so sl l acc H ((quoted (s.drop (j + 1))).map fun q => (e :: q.1, q.2)) (cmd_reader_quoted_p11010010011 d m p x3 (j : Int) (e.toNat : Int) H) := by
        intro j e hj hj2
        rw [cmd_reader_quoted_p11010010011_eq]
        simp only [newK_s]
        obtain ⟨s', H', e1, e2, e3, e4⟩ := hb.push e (by omega)
        rw [e1]
        simp only [asSL_s]
        rw [w64 (by omega), show ((j : Int) + 1) = ((j + 1 : Nat) : Int) by omega]
        have hk : Keep (fun k => k = p ∨ sl.at k ∨ B ≤ k) H H' := e3.mono fun k _ hk => .inr (.inr (hx k hk))
        refine QPost.keep (c := e) (ih (j + 1) s' (acc ++ [e]) H' (by omega) (by omega) (by simp; omega) (hr.keep e3 (fun h => by have := hx p h; omega)) (hw.keep e3 (fun k hk h => by have := hx k h; have := hlB k hk; omega)) e2 (by have := e3.1; omega) (fun k hk => by have := e4 k hk; omega)) hk
      have no : ∀ (j : Nat), QPost B p so sl l acc H none (some (.bool false, H)) := fun _ => ⟨H, rfl, Keep.refl _⟩
      by_cases g1 : c.toNat < 32
      · rw [if_pos (by omega), cmd_reader_quoted_p1101001001001_eq, if_pos rfl, hd, hcc, quoted_cons, if_pos (.inl g1)]
        exact no 0
      · rw [if_neg (by omega), cmd_reader_quoted_p1101001001001_eq]
        simp only [decide_eq_true_eq]
        by_cases g2 : 126 < c.toNat
        · rw [if_pos (by omega), hd, hcc, quoted_cons, if_pos (.inr g2)]
          exact no 0
        · rw [if_neg (by omega)]
          have hq : quoted (s.drop i) = if c.toNat = 34 then some ([], s.drop (i + 1)) else if c.toNat = 92 then (match s.drop (i + 1) with
              | [] => none
              | e :: r' => if e.toNat = 34 ∨ e.toNat = 92 then (quoted r').map fun q => (e :: q.1, q.2) else none)
            else (quoted (s.drop (i + 1))).map fun q => (c :: q.1, q.2) := by
            rw [hd, hcc, quoted_cons, if_neg (by omega)]
            rfl
          by_cases g3 : c.toNat = 34
          · rw [if_pos (by omega), hq, if_pos g3]
            simp only [hr.ld2, hb.str, optK_s, asS_s, asSL_s, newK_s]
            obtain ⟨s', H', e1, e2, e3, e0, e4⟩ := hw.push acc hl
            rw [e1]
            have h2 : Rd H' p s so sl := hr.keep e3 hlp
            obtain ⟨H2, f1, f2, f3⟩ := h2.st2 (sl' := s')
            obtain ⟨H3, q1, q2, q3⟩ := f2.st0 (s' := s.drop (i + 1))
            have hne : ¬ s'.at p := fun hk => by have := e4 p hk; omega
            have hr1 : Rd (H.new (.cells [.string (S acc)] t_string false 0 false)) p s so sl := hr.keep (Keep.new (S := fun _ => False) _ _) id
            refine ⟨H3, s', ?_, q2, ?_, ?_, fun k hk => by have := e4 k hk; omega⟩
            · simp only [asSL_s, f1, optK_s, f2.ld0, asS_s, slenS]
              rw [w64 (by omega), if_pos (by omega), show ((i : Int) + 1).toNat = i + 1 by omega, sSubS, List.take_length, q1]
              simp [rdsOk, rdOk_2, rdAt, readD_ld, hr.ld2, hr1.ld2, same_sl, chk, optK_s]
            · rw [List.append_nil]
              exact Whole.keep (Whole.keep e2 f3 (fun k hk e => hne (e ▸ hk))) q3 (fun k hk e => hne (e ▸ hk))
            · refine Keep.trans (e3.mono fun k _ hk => .inr (.inl hk)) ?_ (T := (· = p)) (fun _ _ h => .inl h)
              exact f3.trans q3 fun _ _ h => h
          · rw [if_neg (by omega)]
            rw [if_neg g3] at hq
            by_cases g4 : c.toNat = 92
            · rw [if_pos (by omega)]
              rw [if_pos g4] at hq
              simp only [hr.ld0, optK_s, asS_s, slenS]
              rw [w64 (by omega)]
              by_cases hj : i + 1 < s.length
              · have hc2 : s[i + 1]? = some s[i + 1] := List.getElem?_eq_getElem hj
                have hd2 : s.drop (i + 1) = s[i + 1] :: s.drop (i + 1 + 1) := by rw [List.drop_eq_getElem_cons hj]
                rw [if_neg (by omega), if_pos (by omega), show ((i : Int) + 1).toNat = i + 1 by omega, btS hc2]
                rw [hd2] at hq
                generalize hee : s[i + 1] = e at hq
                rw [hee] at hc2
                have fin : ∀ b : Bool, b = !(decide (e.toNat = 34) || decide (e.toNat = 92)) → QPost B p so sl l acc H (if e.toNat = 34 ∨ e.toNat = 92 then (quoted (s.drop (i + 1 + 1))).map fun q => (e :: q.1, q.2) else none)
                    (cmd_reader_quoted_p1101001001001011110101 d m p x3 ((i : Int) + 1) b H) := by
                  intro b hb'
                  rw [cmd_reader_quoted_p1101001001001011110101_eq]
                  simp only [hr.ld0, optK_s, asS_s, slenS]
                  by_cases g5 : e.toNat = 34 ∨ e.toNat = 92
                  · rw [if_pos g5, if_neg (by subst hb'; rcases g5 with g | g <;> simp [g]), if_pos (by omega), show ((i : Int) + 1).toNat = i + 1 by omega, btS hc2]
                    exact push (i + 1) e (by omega) hj
                  · rw [if_neg g5, if_pos (by subst hb'; simp at g5; simp [g5])]
                    exact no 0
                by_cases g6 : e.toNat = 34
                · rw [if_neg (by simp; omega), hq]
                  exact fin false (by simp [g6])
                · rw [if_pos (by simp; omega)]
                  rw [if_pos (by omega), hq]
                  refine fin _ ?_
                  simp [g6]
                  omega
              · have hj' : i + 1 = s.length := by omega
                rw [List.drop_eq_nil_of_le (by omega : s.length ≤ i + 1)] at hq
                rw [if_pos (by omega), hq, cmd_reader_quoted_p1101001001001011110101_eq, if_pos rfl]
                exact no 0
            · rw [if_neg (by omega), hq, if_neg g4]
              exact push i c (Nat.le_refl _) hi
    · rw [if_neg (by omega), List.drop_eq_nil_of_le (by omega)]
      exact ⟨H, rfl, Keep.refl _⟩

theorem quoted_s (d p : Nat) (s : W) (so sl : Sl) (l : List W) (H : Heap) (c : UInt8) (h : Rd H p (c :: s) so sl) (hl : Words H sl l) (hp : ¬ sl.at p) (hs : s.length ≤ 1048575) (hn : l.length ≤ 1048576) :
    QPost H.next p so sl l [] H (quoted s) (X (d + 1) n_cmd_reader_quoted [P0 p] H) := by
  rw [cmd_reader_quoted_eq]
  exact quoted_loop d p H.next (c :: s) so sl l (by simp; omega) hn h.2 (fun k hk => Whole.lt hl hk) hp NN 1 Sl.nil [] H (by simp) (NN_big _ (by simp; omega)) (by simp) h hl (Whole.nil _ _ _) (Nat.le_refl _) (fun k hk => absurd hk Sl.at_nil)
end Go.Proofs.YtnpmlgibjhjiiaaDoor.dec

namespace Go.Proofs.YtnpmlgibjhjiiaaDoor.dec
open Go Go.Cm

attribute [local congr] optK_congr asI_congr asN_congr asB_congr asS_congr asP_congr asA_congr asSL_congr callK_congr castT_congr chk_congr

theorem Whole.block {H : Heap} {s : Sl} {cs : List Value} {e : TypeId} {sz : Nat} (h : Whole H s cs e sz) (hne : cs ≠ []) : ∃ b o st, s = ⟨some ⟨b, 0, none⟩, s.n, s.n⟩ ∧ cs.length = s.n * sz ∧ H.get b = some (.cells cs e o 0 st) ∧ s.at b := by
  rcases h with ⟨_, h⟩ | ⟨b, n, rfl, h1, _, o, st, h2⟩
  · exact absurd h hne
  · exact ⟨b, o, st, rfl, h1, h2, _, rfl, rfl⟩

/-- the words behind the first -/
theorem Words.tail {H : Heap} {s : Sl} {w : W} {ws : List W} (h : Words H s (w :: ws)) : ∃ b, s = ⟨some ⟨b, 0, none⟩, ws.length + 1, ws.length + 1⟩ ∧ H.ld1 ⟨b, 0, none⟩ = some (.string (S w)) ∧
    readD (.subSl t_string 1 true false false) [.slice (some ⟨b, 0, none⟩) (ws.length + 1) (ws.length + 1), .int .i64 1] H = some (.slice (some ⟨b, 1, none⟩) ws.length ws.length) ∧ srcCells H 1 ws.length (.slice (some ⟨b, 1, none⟩) ws.length ws.length) = some (strs ws) := by
  obtain ⟨b, o, st, h1, h2, h3, h4⟩ := Whole.block h (by simp [strs])
  have hn : s.n = ws.length + 1 := by simp [strs] at h2; omega
  refine ⟨b, by rw [h1, hn], by rw [ld1_s h3]; rfl, ?_, ?_⟩
  · have ho : H.opnOk b t_string = true := by simp [Heap.opnOk, h3]
    simp only [readD, asSl, bnds, asN_s]
    rw [if_pos (by omega)]
    simp [chk, ho, ap]
  · simp only [srcCells]
    by_cases hz : ws.length = 0
    · rw [if_pos hz, List.eq_nil_of_length_eq_zero hz]; rfl
    · rw [if_neg hz, ldN_s h3 (by simp [strs]; omega)]
      simp [strs]
      rw [List.take_of_length_le (by simp)]

/-- the commands, and the words' blocks: above p, below the commands' own -/
def InP (p : Nat) (so : Sl) (k : Nat) : Prop := p < k ∧ ∃ j, so.at j ∧ k < j

def ends (L : List Cmd) (l : List W) : List Cmd := match l with
  | [] => L
  | w :: ws => L ++ [(w, ws)]

theorem ends_s (d p : Nat) (s : W) (so sl : Sl) (L : List Cmd) (l : List W) (H : Heap) (h : Rd H p s so sl) (hc : Cmds H (InP p so) so L) (hl : Words H sl l) (hso : ∀ j, so.at j → p < j) (hsl : ∀ k, sl.at k → p < k ∧ ∀ j, so.at j → j < k)
    (hn : l.length ≤ 1048576) (hL : L.length ≤ 1048576) :
    ∃ H' so', X (d + 1) n_cmd_reader_ends [P0 p] H = some (.tuple #[], H') ∧ Rd H' p s so' Sl.nil ∧ Cmds H' (InP p so') so' (ends L l) ∧ (∀ j, so'.at j → p < j) ∧ Keep (fun k => p ≤ k) H H' := by
  have last : ∀ H1 so', Rd H1 p s so' sl → ∀ L', Cmds H1 (InP p so') so' L' → (∀ j, so'.at j → p < j) → Keep (fun k => p ≤ k) H H1 →
      ∃ H', cmd_reader_ends_p1 d p H1 = some (.tuple #[], H') ∧ Rd H' p s so' Sl.nil ∧ Cmds H' (InP p so') so' L' ∧ (∀ j, so'.at j → p < j) ∧ Keep (fun k => p ≤ k) H H' := by
    intro H1 so' r1 L' c1 s1 k1
    obtain ⟨H2, e1, e2, e3⟩ := r1.st2 (sl' := Sl.nil)
    obtain ⟨cs, c2, c3⟩ := c1
    refine ⟨H2, ?_, e2, ⟨cs, c2.keep e3 (fun k hk e => by have := s1 k hk; omega), c3.keep e3 (fun k hk e => by have := hk.1; omega)⟩, s1, k1.trans e3 (fun k _ e => by omega)⟩
    rw [cmd_reader_ends_p1_eq]
    simp only [e1, optK_s]
  rw [cmd_reader_ends_eq]
  have hlen := hl.len
  simp only [strs, List.length_map, Nat.mul_one] at hlen
  simp only [h.ld2, optK_s, asSL_s, decide_eq_true_eq]
  cases l with
  | nil =>
    rw [if_neg (by simp at hlen; omega)]
    obtain ⟨H', h1, h2⟩ := last H so h L hc hso (Keep.refl _)
    exact ⟨H', so, h1, h2⟩
  | cons w ws =>
    simp only [List.length_cons] at hn hlen
    rw [if_pos (by omega)]
    obtain ⟨b, rfl, b4, b5, b6⟩ := Words.tail hl
    obtain ⟨cs, c2, c3⟩ := hc
    have hkn : ∀ o, Keep (fun _ => False) H (H.new o) := fun o => Keep.new _ _
    have hH11 := hkn (.cells [] t_string false 0 false)
    have r11 := h.keep hH11 id
    have l11 := hl.keep hH11 (fun _ _ h => h)
    obtain ⟨b', e', d4, d5, d6⟩ := Words.tail l11
    cases e'
    simp only [h.ld1, b4, optK_s, asSL_s, asS_s, newK_s, ap, Nat.add_zero, r11.ld2, d5]
    rw [if_pos (by omega)]
    have hempty : Whole (H.new (.cells [] t_string false 0 false)) ⟨some ⟨H.next, 0, none⟩, 0, 0⟩ [] t_string 1 := .inr ⟨H.next, 0, rfl, rfl, by simp, false, false, by simp⟩
    obtain ⟨a, H17, e1, e2, e3, e4, _, _⟩ := append_whole (bytes := 16) (str := false) (n := ws.length) hempty rfl d6 (by simp [strs]) (by show (0 + ws.length) * 16 ≤ _; omega) (by omega) (by omega)
    rw [e1]
    simp only [asSL_s]
    have ha : ∀ k, a.at k → H.next ≤ k := fun k hk => by
      rcases e4 k hk with ⟨_, e, rfl⟩ | h
      · cases e; exact Nat.le_refl _
      · simp at h; omega
    have k17 : Keep (fun _ => False) H H17 := ⟨by have := e3.1; simp at this; omega, fun k hk _ => (e3.2 k (by simp; omega) (fun ⟨_, e, e'⟩ => by cases e; simp at e'; omega)).trans (Heap.get_new_ne _ _ (by omega))⟩
    have c17 : Whole H17 so cs t_cmd_Command 2 := c2.keep k17 (fun _ _ h => h)
    have hcl := c2.len
    have hcl2 := c3.1
    obtain ⟨so', H22, f1, f2, f3, f4, f5, _⟩ := push_whole (bytes := 40) (new := [.string (S w), a.v]) c17 rfl (by omega) (by omega) (by omega)
    rw [f1]
    simp only [asSL_s]
    have r17 := h.keep k17 id
    have r20 := r17.keep (Keep.new (S := fun _ => False) _ (.cells [.string (S w), a.v] t_cmd_Command false 0 false)) id
    have r22 := r17.keep f3 (fun hk => by have := hso p hk; omega)
    obtain ⟨H24, g1, g2, g3⟩ := r22.st1 (so' := so')
    simp only [g1, optK_s]
    have l17 := hl.keep k17 (fun _ _ h => h)
    obtain ⟨b', e', q4, _, _⟩ := Words.tail l17
    cases e'
    have hrd : rdsOk [H, H.new (.cells [] t_string false 0 false), H17, H17.new (.cells [.string (S w), a.v] t_cmd_Command false 0 false), H22, H24] [⟨.subSl t_string 1 true false false, [.slice (some ⟨b, 0, none⟩) (ws.length + 1) (ws.length + 1), .int .i64 1], .slice (some ⟨b, 1, none⟩) ws.length ws.length, 0, 1⟩, ⟨.load 1 false, [.pointer (some ⟨p, 2, none⟩)], .slice (some ⟨b, 0, none⟩) (ws.length + 1) (ws.length + 1), 0, 1⟩, ⟨.load 1 false, [.pointer (some ⟨b, 0, none⟩)], .string (S w), 0, 2⟩, ⟨.load 1 false, [.pointer (some ⟨p, 2, none⟩)], .slice (some ⟨b, 0, none⟩) (ws.length + 1) (ws.length + 1), 0, 2⟩, ⟨.load 1 false, [.pointer (some ⟨p, 1, none⟩)], so.v, 0, 3⟩] = true := by
      simp [rdsOk, rdOk_2, rdOk_3, rdOk_4, rdAt, readD_ld, b5, d5, h.ld2, r11.ld2, b4, d4, q4, r17.ld2, h.ld1, r11.ld1, r17.ld1, r20.ld1, same_sl, same_str]
    rw [hrd]
    simp only [chk_s]
    have hk22 : Keep (fun k => p ≤ k) H H22 := Keep.trans (k17.mono (fun _ _ h => h.elim)) f3 (fun k _ hk => by have := hso k hk; omega)
    have hnext : H.next ≤ H17.next := k17.1
    have so'lt : ∀ j, so'.at j → H17.next < j := f5
    obtain ⟨bo, _, _, _, _, _, hbo⟩ := Whole.block f2 (by simp)
    refine (last H24 so' g2 _ ?_ (fun j hj => by have := so'lt j hj; have := h.2; omega) (hk22.trans g3 (fun k _ e => by omega))).imp fun H' hh => ⟨so', hh⟩
    have cl17 : CmdL H17 (InP p so) cs L := c3.keep k17 (fun _ _ h => h)
    have cl22 : CmdL H22 (InP p so) cs L := cl17.keep f3 (fun k hk hk' => by
      obtain ⟨j, hj, hkj⟩ := hk.2
      obtain ⟨a1, q1, q2⟩ := hj
      obtain ⟨a2, q3, q4⟩ := hk'
      rw [q1] at q3; cases q3; omega)
    have cl22' : CmdL H22 (InP p so') cs L := cl22.mono (fun k _ hk => ⟨hk.1, bo, hbo, by
      obtain ⟨j, hj, hkj⟩ := hk.2
      have := c17.lt hj
      have := so'lt bo hbo
      omega⟩)
    have a17 : Words H17 a ws := by simpa [Words] using e2
    have a22 : Words H22 a ws := a17.keep f3 (fun k hk hk' => by have := ha k hk; have := c2.lt hk'; omega)
    have fin : CmdL H22 (InP p so') (cs ++ [.string (S w), a.v]) (L ++ [(w, ws)]) := cl22'.snoc a22 (fun k hk => ⟨by have := ha k hk; have := h.2; omega, bo, hbo, by have := a17.lt hk; have := so'lt bo hbo; omega⟩)
    refine ⟨_, f2.keep g3 (fun k hk e => by have := so'lt k hk; have := h.2; omega), fin.keep g3 (fun k hk e => by have := hk.1; omega)⟩
end Go.Proofs.YtnpmlgibjhjiiaaDoor.dec

namespace Go.Proofs.YtnpmlgibjhjiiaaDoor.dec
open Go Go.Cm

attribute [local congr] optK_congr asI_congr asN_congr asB_congr asS_congr asP_congr asA_congr asSL_congr callK_congr castT_congr chk_congr

/-- may a word end here? -/
def done : W → Bool
  | [] => true
  | c :: _ => decide (c.toNat = 32) || decide (c.toNat = 59)
/-- what a line says, behind commands and words -/
def parse : Nat → W → List Cmd → List W → Option (List Cmd)
  | 0, _, _, _ => none
  | _ + 1, [], L, l => some (ends L l)
  | f + 1, c :: r, L, l =>
    if c.toNat = 32 then parse f r L l
    else if c.toNat = 59 then parse f r (ends L l) []
    else if c.toNat = 34 then (match quoted r with
      | none => none
      | some (w, t) => if done t = true then parse f t L (l ++ [w]) else none)
    else if 0 < ((c :: r).takeWhile plainB).length ∧ done ((c :: r).dropWhile plainB) = true then parse f ((c :: r).dropWhile plainB) L (l ++ [(c :: r).takeWhile plainB]) else none

theorem quoted_len : ∀ (n : Nat) (r w t : W), r.length ≤ n → quoted r = some (w, t) → t.length < r.length := by
  intro n
  induction n with
  | zero =>
    intro r w t h h1
    have : r = [] := List.eq_nil_of_length_eq_zero (by omega)
    subst this
    simp [quoted] at h1
  | succ n ih =>
    intro r w t h h1
    cases r with
    | nil => simp [quoted] at h1
    | cons c r =>
      rw [quoted_cons] at h1
      simp only [List.length_cons] at h ⊢
      split at h1
      · cases h1
      · split at h1
        · cases h1; omega
        · split at h1
          · cases r with
            | nil => cases h1
            | cons e r' =>
              simp only at h1
              split at h1
              · obtain ⟨⟨w', t'⟩, h2, h3⟩ := Option.map_eq_some_iff.1 h1
                simp only [Prod.mk.injEq] at h3
                obtain ⟨_, rfl⟩ := h3
                simp only [List.length_cons] at h ⊢
                have := ih r' w' t' (by omega) h2
                omega
              · cases h1
          · obtain ⟨⟨w', t'⟩, h2, h3⟩ := Option.map_eq_some_iff.1 h1
            simp only [Prod.mk.injEq] at h3
            obtain ⟨_, rfl⟩ := h3
            have := ih r w' t' (by omega) h2
            omega

theorem drop_len (c : UInt8) (r : W) (h : 0 < ((c :: r).takeWhile plainB).length) : ((c :: r).dropWhile plainB).length < (c :: r).length := by
  have := congrArg List.length (List.takeWhile_append_dropWhile (p := plainB) (l := c :: r))
  simp only [List.length_append] at this
  omega

/-- what a line's reader comes to -/
def PPost (H0 : Heap) (q : Option (List Cmd)) (r : Res) : Prop := match q with
  | none => ∃ H', r = some (.tuple #[.slice none 0 0, .int .i64 5], H') ∧ Keep (fun _ => False) H0 H'
  | some L => ∃ H' so, r = some (.tuple #[so.v, .int .i64 0], H') ∧ Cmds H' (fun k => H0.next ≤ k) so L ∧ (∀ j, so.at j → H0.next ≤ j) ∧ Keep (fun _ => False) H0 H'

theorem done_step (d m p : Nat) (t : W) (so sl : Sl) (H : Heap) (h : Rd H p t so sl) :
    cmd_Parse_p1110001011 d m p true H = if done t = true then cmd_Parse_p11100 d m p H else some (.tuple #[.slice none 0 0, .int .i64 5], H) := by
  rw [cmd_Parse_p1110001011_eq]
  simp only [h.ld0, optK_s, asS_s, slenS, sEqS]
  cases t with
  | nil =>
    rw [if_neg (by simp), if_neg (by simp), cmd_Parse_p111000101101_eq, if_neg (by simp), show done [] = true from rfl, if_pos rfl]
  | cons c r =>
    have hb : bt (S (c :: r)) 0 = (c.toNat : Int) := btS rfl
    rw [if_neg (by simp), if_pos (by simp), if_pos (by simp)]
    rw [hb]
    have e32 : decide ((c.toNat : Int) = 32) = decide (c.toNat = 32) := by simp; omega
    have e59 : decide ((c.toNat : Int) = 59) = decide (c.toNat = 59) := by simp; omega
    rw [e32, e59, show done (c :: r) = (decide (c.toNat = 32) || decide (c.toNat = 59)) from rfl]
    by_cases g : c.toNat = 32
    · simp [g, cmd_Parse_p111000101101_eq]
    · by_cases g2 : c.toNat = 59
      · simp [g2, cmd_Parse_p111000101101_eq]
      · simp [g, g2, cmd_Parse_p111000101101_eq]

theorem not_step (d m p : Nat) (H : Heap) : cmd_Parse_p1110001011 d m p false H = some (.tuple #[.slice none 0 0, .int .i64 5], H) := by
  rw [cmd_Parse_p1110001011_eq, if_pos (show (!false) = true from rfl), cmd_Parse_p111000101101_eq, if_pos rfl]

theorem parse_loop (d p : Nat) (H0 : Heap) (hp : H0.next ≤ p) : ∀ (m f : Nat) (s : W) (L : List Cmd) (l : List W) (H : Heap) (so sl : Sl), s.length < m → s.length < f → L.length + l.length + s.length ≤ 1000 →
    Rd H p s so sl → Cmds H (InP p so) so L → Words H sl l → (∀ j, so.at j → p < j) → (∀ k, sl.at k → p < k ∧ ∀ j, so.at j → j < k) → Keep (fun _ => False) H0 H →
    PPost H0 (parse f s L l) (cmd_Parse_p11100 (d + 2) m p H) := by
  intro m
  induction m with
  | zero => intro f s L l H so sl h1; omega
  | succ m ih =>
    intro f s L l H so sl h1 h2 hb hr hc hl hso hsl hk
    obtain ⟨f, rfl⟩ : ∃ g, f = g + 1 := ⟨f - 1, by omega⟩
    have base : ∀ {H1 : Heap}, Keep (fun k => p ≤ k) H H1 → Keep (fun _ => False) H0 H1 := fun k1 => hk.trans k1 (fun k q1 q2 => by omega)
    rw [cmd_Parse_p11100_s]
    simp only [hr.ld0, optK_s, asS_s, slenS, sEqS]
    cases s with
    | nil =>
      rw [if_neg (by simp)]
      obtain ⟨H', so', e1, e2, e3, e4, e5⟩ := ends_s (d + 1) p [] so sl L l H hr hc hl hso hsl (by omega) (by omega)
      rw [e1]
      simp only [callK_s, e2.ld1, optK_s, asSL_s, parse]
      obtain ⟨cs, c1, c2⟩ := e3
      exact ⟨H', so', rfl, ⟨cs, c1, c2.mono (fun k _ hk => by have := hk.1; omega)⟩, fun j hj => by have := e4 j hj; omega, base e5⟩
    | cons c r =>
      have hbt : bt (S (c :: r)) 0 = (c.toNat : Int) := btS rfl
      simp only [List.length_cons] at h1 h2 hb
      rw [if_pos (by simp), if_pos (by simp)]
      simp only [hbt, decide_eq_true_eq, parse, List.length_cons]
      by_cases g1 : c.toNat = 32
      · rw [if_pos g1, if_pos (show (c.toNat : Int) = 32 by omega)]
        obtain ⟨H', e1, e2, e3⟩ := hr.st0 (s' := r)
        rw [if_pos (by omega), sSubS, show (List.drop 1 (List.take (r.length + 1) (c :: r))) = r by simp, e1]
        simp only [optK_s]
        obtain ⟨cs, c1, c2⟩ := hc
        exact ih f r L l H' so sl (by omega) (by omega) (by omega) e2 ⟨cs, c1.keep e3 (fun k hk e => by have := hso k hk; omega), c2.keep e3 (fun k hk e => by have := hk.1; omega)⟩ (hl.keep e3 (fun k hk e => by have := (hsl k hk).1; omega)) hso hsl (base (e3.mono fun k _ e => by omega))
      · rw [if_neg g1, if_neg (show ¬ (c.toNat : Int) = 32 by omega)]
        by_cases g2 : c.toNat = 59
        · rw [if_pos g2, if_pos (show (c.toNat : Int) = 59 by omega)]
          obtain ⟨H', e1, e2, e3⟩ := hr.st0 (s' := r)
          rw [if_pos (by omega), sSubS, show (List.drop 1 (List.take (r.length + 1) (c :: r))) = r by simp, e1]
          simp only [optK_s]
          obtain ⟨cs, c1, c2⟩ := hc
          obtain ⟨H2, so', q1, q2, q3, q4, q5⟩ := ends_s (d + 1) p r so sl L l H' e2 ⟨cs, c1.keep e3 (fun k hk e => by have := hso k hk; omega), c2.keep e3 (fun k hk e => by have := hk.1; omega)⟩ (hl.keep e3 (fun k hk e => by have := (hsl k hk).1; omega)) hso hsl (by omega) (by omega)
          rw [q1]
          simp only [callK_s]
          refine ih f r (ends L l) [] H2 so' Sl.nil (by omega) (by omega) ?_ q2 q3 (Whole.nil _ _ _) q4 (fun k hk => absurd hk Sl.at_nil) (base ((e3.mono fun k _ e => by omega).trans q5 (fun _ _ h => h)))
          cases l <;> simp [ends] at hb ⊢ <;> omega
        · rw [if_neg g2, if_neg (show ¬ (c.toNat : Int) = 59 by omega)]
          by_cases g3 : c.toNat = 34
          · rw [if_pos g3, if_pos (show (c.toNat : Int) = 34 by omega)]
            have hq := quoted_s (d + 1) p r so sl l H c hr hl (fun h => by have := (hsl p h).1; omega) (by omega) (by omega)
            cases hqr : quoted r with
            | none =>
              rw [hqr] at hq
              obtain ⟨H', e1, e2⟩ := hq
              rw [e1]
              simp only [callK_s, asB_s]
              rw [not_step]
              exact ⟨H', rfl, base (e2.mono fun k q h => by rcases h with h | h | h; omega; have := (hsl k h).1; omega; omega)⟩
            | some q =>
              obtain ⟨w, t⟩ := q
              rw [hqr] at hq
              obtain ⟨H', sl', e1, e2, e3, e4, e5⟩ := hq
              rw [e1]
              simp only [callK_s, asB_s]
              rw [done_step _ _ _ _ _ _ _ e2]
              have hkb : Keep (fun _ => False) H0 H' := base (e4.mono fun k q h => by rcases h with h | h | h; omega; have := (hsl k h).1; omega; omega)
              by_cases gd : done t = true
              · rw [if_pos gd, if_pos gd]
                have := quoted_len _ r w t (Nat.le_refl _) hqr
                obtain ⟨cs, c1, c2⟩ := hc
                have hsn : ∀ k, so.at k → ¬ (k = p ∨ sl.at k ∨ H.next ≤ k) := fun k hk h => by
                  have := hso k hk
                  rcases h with h | h | h
                  · omega
                  · have := (hsl k h).2 k hk; omega
                  · have := c1.lt hk; omega
                refine ih f t L (l ++ [w]) H' so sl' (by omega) (by omega) (by simp; omega) e2 ⟨cs, c1.keep e4 hsn, ?_⟩ (by simpa using e3) hso (fun k hk => ⟨by have := e5 k hk; have := hr.2; omega, fun j hj => by have := e5 k hk; have := c1.lt hj; omega⟩) hkb
                refine c2.keep e4 (fun k hk h => ?_)
                obtain ⟨j, hj, hkj⟩ := hk.2
                have := c1.lt hj
                rcases h with h | h | h
                · have := hk.1; omega
                · have := (hsl k h).2 j hj; omega
                · omega
              · rw [if_neg gd, if_neg gd]
                exact ⟨H', rfl, hkb⟩
          · rw [if_neg g3, if_neg (show ¬ (c.toNat : Int) = 34 by omega)]
            obtain ⟨H', sl', e1, e2, e3, e4, e5⟩ := word_s d p (c :: r) so sl l H hr hl (fun h => by have := (hsl p h).1; omega) (by simp; omega) (by omega)
            rw [e1]
            simp only [callK_s, asB_s]
            have hkb : Keep (fun _ => False) H0 H' := base (e4.mono fun k q h => by rcases h with h | h; omega; have := (hsl k h).1; omega)
            by_cases g4 : 0 < ((c :: r).takeWhile plainB).length
            · rw [show decide (0 < ((c :: r).takeWhile plainB).length) = true from decide_eq_true g4, done_step _ _ _ _ _ _ _ e2]
              by_cases gd : done ((c :: r).dropWhile plainB) = true
              · rw [if_pos gd, if_pos ⟨g4, gd⟩]
                have := drop_len c r g4
                simp only [List.length_cons] at this
                obtain ⟨cs, c1, c2⟩ := hc
                have hsn : ∀ k, so.at k → ¬ (k = p ∨ sl.at k) := fun k hk h => by
                  have := hso k hk
                  rcases h with h | h
                  · omega
                  · have := (hsl k h).2 k hk; omega
                refine ih f _ L _ H' so sl' (by omega) (by omega) (by simp only [List.length_append, List.length_cons, List.length_nil]; omega) e2 ⟨cs, c1.keep e4 hsn, ?_⟩ e3 hso (fun k hk => ⟨by have := e5 k hk; have := hr.2; omega, fun j hj => by have := e5 k hk; have := c1.lt hj; omega⟩) hkb
                refine c2.keep e4 (fun k hk h => ?_)
                obtain ⟨j, hj, hkj⟩ := hk.2
                rcases h with h | h
                · have := hk.1; omega
                · have := (hsl k h).2 j hj; omega
              · rw [if_neg gd, if_neg (fun h => gd h.2)]
                exact ⟨H', rfl, hkb⟩
            · rw [show decide (0 < ((c :: r).takeWhile plainB).length) = false from decide_eq_false g4, not_step, if_neg (fun h => g4 h.1)]
              exact ⟨H', rfl, hkb⟩

/-- THE PROGRAM's Parse. -/
theorem Parse_s (d : Nat) (s : W) (H : Heap) (hs : s.length ≤ 400) : PPost H (parse (s.length + 1) s [] []) (X (d + 3) n_cmd_Parse [.string (S s)] H) := by
  rw [cmd_Parse_eq]
  simp only [slenS, decide_eq_true_eq, newK_s]
  rw [if_neg (by omega)]
  refine parse_loop d H.next H (Nat.le_refl _) NN (s.length + 1) s [] [] _ Sl.nil Sl.nil (NN_big _ (by omega)) (by omega) (by simp; omega) ⟨by simp, by simp⟩ ⟨[], Whole.nil _ _ _, CmdL.nil _ _⟩ (Whole.nil _ _ _) (fun k hk => absurd hk Sl.at_nil) (fun k hk => absurd hk Sl.at_nil) (Keep.new _ _)
theorem Parse_long (d : Nat) (s : W) (H : Heap) (hs : 400 < s.length) : X (d + 3) n_cmd_Parse [.string (S s)] H = some (.tuple #[.slice none 0 0, .int .i64 6], H) := by
  rw [cmd_Parse_eq]
  simp only [slenS, decide_eq_true_eq, newK_s]
  rw [if_pos (by omega)]
end Go.Proofs.YtnpmlgibjhjiiaaDoor.dec

namespace Go.Proofs.YtnpmlgibjhjiiaaDoor.dec
open Go Go.Cm

attribute [local congr] optK_congr asI_congr asN_congr asB_congr asS_congr asP_congr asA_congr asSL_congr callK_congr castT_congr chk_congr

def InQ (B : Nat) (so : Sl) (k : Nat) : Prop := B ≤ k ∧ ∃ j, so.at j ∧ k < j

/-- a key's command -/
def bound (c : UInt8) : Option W :=
  if c.toNat = 99 then some [110, 101, 119, 45, 119, 105, 110, 100, 111, 119]
  else if c.toNat = 38 then some [107, 105, 108, 108, 45, 119, 105, 110, 100, 111, 119]
  else if c.toNat = 37 then some [115, 112, 108, 105, 116, 45, 119, 105, 110, 100, 111, 119, 32, 45, 104]
  else if c.toNat = 34 then some [115, 112, 108, 105, 116, 45, 119, 105, 110, 100, 111, 119, 32, 45, 118]
  else if c.toNat = 120 then some [107, 105, 108, 108, 45, 112, 97, 110, 101]
  else if c.toNat = 122 then some [122, 111, 111, 109]
  else if c.toNat = 111 then some [115, 101, 108, 101, 99, 116, 45, 112, 97, 110, 101, 32, 48]
  else if c.toNat = 93 then some [112, 97, 115, 116, 101, 32, 48]
  else if 48 ≤ c.toNat ∧ c.toNat ≤ 57 then some [115, 101, 108, 101, 99, 116, 45, 112, 97, 110, 101, 32, c]
  else none
/-- as both tell it -/
def told (q : Option W) : Value := match q with
  | some w => .tuple #[.string (S w), .bool true]
  | none => .tuple #[.string (S []), .bool false]

theorem enc_digit (c : UInt8) (h : 48 ≤ c.toNat ∧ c.toNat ≤ 57) : Utf8.encode (IntKind.wrap .i32 (c.toNat : Int)) = S [c] := by
  have : c.toNat = 48 ∨ c.toNat = 49 ∨ c.toNat = 50 ∨ c.toNat = 51 ∨ c.toNat = 52 ∨ c.toNat = 53 ∨ c.toNat = 54 ∨ c.toNat = 55 ∨ c.toNat = 56 ∨ c.toNat = 57 := by omega
  have hc : c = UInt8.ofNat c.toNat := by simp
  rcases this with h | h | h | h | h | h | h | h | h | h <;> (rw [h] at hc; subst hc; decide)

theorem u8eq (c : UInt8) (n : Nat) (m : Int) (h : m = n) : ((c.toNat : Int) = m) = (c.toNat = n) := by
  subst h
  simp only [eq_iff_iff]
  omega

theorem Bound_s (d : Nat) (c : UInt8) (H : Heap) : X (d + 1) n_cmd_Bound [.int .u8 (c.toNat : Int)] H = some (told (bound c), H) := by
  rw [cmd_Bound_eq]
  simp only [decide_eq_true_eq, bound]
  simp only [u8eq c 99 99 rfl, u8eq c 38 38 rfl, u8eq c 37 37 rfl, u8eq c 34 34 rfl, u8eq c 120 120 rfl, u8eq c 122 122 rfl, u8eq c 111 111 rfl, u8eq c 93 93 rfl]
  split
  · rfl
  split
  · rfl
  split
  · rfl
  split
  · rfl
  split
  · rfl
  split
  · rfl
  split
  · rfl
  split
  · rfl
  by_cases g : 48 ≤ c.toNat
  · rw [if_pos (show (48 : Int) ≤ (c.toNat : Int) by omega), cmd_Bound_p1101_eq]
    by_cases g2 : c.toNat ≤ 57
    · rw [if_pos (show decide ((c.toNat : Int) ≤ 57) = true from decide_eq_true (by omega)), if_pos (show 48 ≤ c.toNat ∧ c.toNat ≤ 57 from ⟨g, g2⟩), enc_digit c ⟨g, g2⟩]
      simp only [slenS, sCatS]
      rw [if_pos (by simp)]
      rfl
    · rw [if_neg (show ¬ decide ((c.toNat : Int) ≤ 57) = true by simp; omega), if_neg (fun h => g2 h.2)]
      rfl
  · rw [if_neg (show ¬ (48 : Int) ≤ (c.toNat : Int) by omega), cmd_Bound_p1101_eq, if_neg (by simp), if_neg (fun h => g h.1)]
    rfl

/-! ### presses -/
abbrev Pr := W × W
/-- presses: input and command; the inputs' blocks are of P -/
def PrL (H : Heap) (P : Nat → Prop) (cs : List Value) (L : List Pr) : Prop :=
  cs.length = L.length * 2 ∧ ∀ (i : Nat) n m, L[i]? = some (n, m) → ∃ a : Sl, cs[i * 2]? = some a.v ∧ cs[i * 2 + 1]? = some (.string (S m)) ∧ Bytes H a n ∧ ∀ k, a.at k → P k
def Prs (H : Heap) (P : Nat → Prop) (s : Sl) (L : List Pr) : Prop := ∃ cs, Whole H s cs t_cmd_Press 2 ∧ PrL H P cs L

theorem PrL.keep {S P : Nat → Prop} {H H' : Heap} {cs : List Value} {L : List Pr} (h : PrL H P cs L) (hk : Keep S H H') (hn : ∀ k, P k → ¬ S k) : PrL H' P cs L :=
  ⟨h.1, fun i n m hi => let ⟨a, h1, h2, h3, h4⟩ := h.2 i n m hi; ⟨a, h1, h2, h3.keep hk (fun k hk => hn k (h4 k hk)), h4⟩⟩
theorem PrL.mono {P Q : Nat → Prop} {H : Heap} {cs : List Value} {L : List Pr} (h : PrL H P cs L) (hn : ∀ k, k < H.next → P k → Q k) : PrL H Q cs L :=
  ⟨h.1, fun i n m hi => let ⟨a, h1, h2, h3, h4⟩ := h.2 i n m hi; ⟨a, h1, h2, h3, fun k hk => hn k (h3.lt hk) (h4 k hk)⟩⟩
theorem PrL.nil (H : Heap) (P : Nat → Prop) : PrL H P [] [] := ⟨rfl, fun i n m h => by simp at h⟩
theorem PrL.snoc {P : Nat → Prop} {H : Heap} {cs : List Value} {L : List Pr} (h : PrL H P cs L) {n m : W} {a : Sl} (ha : Bytes H a n) (hp : ∀ k, a.at k → P k) : PrL H P (cs ++ [a.v, .string (S m)]) (L ++ [(n, m)]) := by
  refine ⟨by simp [h.1]; omega, fun i n' m' hi => ?_⟩
  by_cases hlt : i < L.length
  · rw [List.getElem?_append_left hlt] at hi
    obtain ⟨b, h1, h2, h3⟩ := h.2 i n' m' hi
    refine ⟨b, ?_, ?_, h3⟩
    · rw [List.getElem?_append_left (by have := h.1; omega)]; exact h1
    · rw [List.getElem?_append_left (by have := h.1; omega)]; exact h2
  · have hi' : i = L.length := by
      have := (List.getElem?_eq_some_iff.1 hi).1
      simp at this; omega
    subst hi'
    simp at hi
    obtain ⟨rfl, rfl⟩ := hi
    refine ⟨a, ?_, ?_, ha, hp⟩
    · rw [List.getElem?_append_right (by have := h.1; omega), h.1]; simp
    · rw [List.getElem?_append_right (by have := h.1; omega), h.1]; simp

/-- a state of a reader of keys: presses, and the run of input that has not ended; blocks from B on, the run's block above the presses' own, which is above the inputs' -/
structure KS (B : Nat) (H : Heap) (so sr : Sl) (L : List Pr) (run : W) : Prop where
  prs : Prs H (InQ B so) so L
  rn : Bytes H sr run
  out : ∀ j, so.at j → B ≤ j
  ord : ∀ k, sr.at k → B ≤ k ∧ ∀ j, so.at j → j < k

/-- one more press -/
theorem KS.press {B : Nat} {H : Heap} {so sr : Sl} {L : List Pr} {run : W} (h : KS B H so sr L run) {a : Sl} {n m : W} (ha : Bytes H a n) (haB : ∀ k, a.at k → B ≤ k ∧ ¬ so.at k) (hL : L.length ≤ 4000000) (hB : B ≤ H.next) :
    ∃ so' H', (∀ K, appendK t_cmd_Press 2 40 false so.v (.slice (some ⟨H.next, 0, none⟩) 1 1) (H.new (.cells [a.v, .string (S m)] t_cmd_Press false 0 false)) K = K so'.v H') ∧
      KS B H' so' Sl.nil (L ++ [(n, m)]) [] ∧ Keep so.at H H' ∧ ∀ j, so'.at j → H.next < j := by
  obtain ⟨cs, c1, c2⟩ := h.prs
  have hcl := c1.len
  have hcl2 := c2.1
  obtain ⟨so', H', f1, f2, f3, f4, f5, _⟩ := push_whole (bytes := 40) (new := [a.v, .string (S m)]) c1 rfl (by omega) (by omega) (by omega)
  obtain ⟨bo, _, _, _, _, _, hbo⟩ := Whole.block f2 (by simp)
  have k1 : PrL H' (InQ B so') cs L := by
    have q := c2.keep f3 (fun k hk hk' => by
      obtain ⟨j, hj, hkj⟩ := hk.2
      obtain ⟨a1, q1, q2⟩ := hj
      obtain ⟨a2, q3, q4⟩ := hk'
      rw [q1] at q3; cases q3; omega)
    exact q.mono (fun k _ hk => ⟨hk.1, bo, hbo, by
      obtain ⟨j, hj, hkj⟩ := hk.2
      have := c1.lt hj
      have := f5 bo hbo
      omega⟩)
  have ha' : Bytes H' a n := ha.keep f3 (fun k hk => (haB k hk).2)
  refine ⟨so', H', f1, ⟨⟨_, f2, k1.snoc ha' (fun k hk => ⟨(haB k hk).1, bo, hbo, by have := ha.lt hk; have := f5 bo hbo; omega⟩)⟩, Whole.nil _ _ _, fun j hj => by have := f5 j hj; omega, fun k hk => absurd hk Sl.at_nil⟩, f3, f5⟩

/-- one more byte of input -/
theorem KS.byte {B : Nat} {H : Heap} {so sr : Sl} {L : List Pr} {run : W} (h : KS B H so sr L run) (c : UInt8) (hn : run.length ≤ 1048576) (hB : B ≤ H.next) :
    ∃ sr' H', (∀ K, appendK t_uint8 1 1 false sr.v (.slice (some ⟨H.next, 0, none⟩) 1 1) (H.new (.cells [.int .u8 (c.toNat : Int)] t_uint8 false 0 false)) K = K sr'.v H') ∧
      KS B H' so sr' L (run ++ [c]) ∧ Keep sr.at H H' := by
  obtain ⟨sr', H', e1, e2, e3, e4⟩ := h.rn.push c (by omega)
  obtain ⟨cs, c1, c2⟩ := h.prs
  refine ⟨sr', H', e1, ⟨⟨cs, c1.keep e3 (fun k hk hk' => by have := (h.ord k hk').2 k hk; omega), c2.keep e3 (fun k hk hk' => ?_)⟩, e2, h.out, fun k hk => ⟨by have := e4 k hk; omega, fun j hj => by have := e4 k hk; have := c1.lt hj; omega⟩⟩, e3⟩
  obtain ⟨j, hj, hkj⟩ := hk.2
  have := (h.ord k hk').2 j hj
  omega

/-- kept -/
theorem KS.keep {B : Nat} {S : Nat → Prop} {H H' : Heap} {so sr : Sl} {L : List Pr} {run : W} (h : KS B H so sr L run) (hk : Keep S H H') (hn : ∀ k, S k → k < B) : KS B H' so sr L run := by
  obtain ⟨cs, c1, c2⟩ := h.prs
  exact ⟨⟨cs, c1.keep hk (fun k q q' => by have := h.out k q; have := hn k q'; omega), c2.keep hk (fun k q q' => by have := q.1; have := hn k q'; omega)⟩, h.rn.keep hk (fun k q q' => by have := (h.ord k q).1; have := hn k q'; omega), h.out, h.ord⟩

def flushed (L : List Pr) (run : W) : List Pr := if run = [] then L else L ++ [(run, [])]
/-- what bytes come to: is a prefix ahead; presses; the run -/
def feed : Bool → List Pr → W → W → Bool × List Pr
  | a, L, run, [] => (a, flushed L run)
  | a, L, run, c :: r =>
    if a = false ∧ c.toNat = 2 then feed true L run r
    else if a = false ∨ c.toNat = 2 then feed false L (run ++ [c]) r
    else match bound c with
      | some m => feed false (flushed L run ++ [([], m)]) [] r
      | none => feed false L run r

end Go.Proofs.YtnpmlgibjhjiiaaDoor.dec

namespace Go.Proofs.YtnpmlgibjhjiiaaDoor.dec
open Go Go.Cm

attribute [local congr] optK_congr asI_congr asN_congr asB_congr asS_congr asP_congr asA_congr asSL_congr callK_congr castT_congr chk_congr

/-- a block of one truth -/
def Flag (H : Heap) (r : Nat) (e : TypeId) (a : Bool) : Prop := H.get r = some (.cells [.bool a] e false 0 false) ∧ r < H.next
theorem Flag.ld {H : Heap} {r : Nat} {e : TypeId} {a : Bool} (h : Flag H r e a) : H.ld1 ⟨r, 0, none⟩ = some (.bool a) := by rw [ld1_s h.1]; rfl
theorem Flag.st {H : Heap} {r : Nat} {e : TypeId} {a : Bool} (b : Bool) (h : Flag H r e a) : ∃ H', H.st1 ⟨r, 0, none⟩ (.bool b) = some H' ∧ Flag H' r e b ∧ Keep (· = r) H H' :=
  ⟨_, st1_s h.1 (by simp) (Nat.le_refl _), ⟨by simp, h.2⟩, Keep.put _ _ _ rfl⟩
theorem Flag.keep {S : Nat → Prop} {H H' : Heap} {r : Nat} {e : TypeId} {a : Bool} (h : Flag H r e a) (hk : Keep S H H') (hn : ¬ S r) : Flag H' r e a :=
  ⟨(hk.2 r h.2 hn).trans h.1, Nat.lt_of_lt_of_le h.2 hk.1⟩

theorem Bytes.num {H : Heap} {a : Sl} {w : W} (h : Bytes H a w) : a.n = w.length := by
  have := Whole.len h
  simp [bytes] at this; omega
theorem Bytes.at {H : Heap} {a : Sl} {w : W} (h : Bytes H a w) {k : Nat} {c : UInt8} (hk : w[k]? = some c) : ∃ b, a.a = some ⟨b, 0, none⟩ ∧ H.ld1 ⟨b, k, none⟩ = some (.int .u8 (c.toNat : Int)) ∧ a.at b := by
  have hlt := (List.getElem?_eq_some_iff.1 hk).1
  obtain ⟨b, o, st, e1, e2, e3, e4⟩ := Whole.block h (fun e => by simp [bytes] at e; subst e; simp at hlt)
  refine ⟨b, by rw [e1], ?_, e4⟩
  rw [ld1_s e3]
  simp [bytes, hk]

/-- what a Feed comes to -/
def FPost (B r : Nat) (e : TypeId) (H : Heap) (q : Bool × List Pr) (x : Res) : Prop :=
  ∃ H' so, x = some (Sl.v so, H') ∧ Flag H' r e q.1 ∧ Prs H' (fun k => B ≤ k) so q.2 ∧ (∀ j, so.at j → B ≤ j) ∧ Keep (fun k => k = r ∨ B ≤ k) H H'
theorem FPost.keep {B r : Nat} {e : TypeId} {H H1 : Heap} {q : Bool × List Pr} {x : Res} (h : FPost B r e H1 q x) (hk : Keep (fun k => k = r ∨ B ≤ k) H H1) : FPost B r e H q x := by
  obtain ⟨H', so, h1, h2, h3, h4, h5⟩ := h
  exact ⟨H', so, h1, h2, h3, h4, hk.trans h5 fun _ _ h => h⟩
theorem KS.done {B : Nat} {H : Heap} {so sr : Sl} {L : List Pr} {run : W} (h : KS B H so sr L run) : Prs H (fun k => B ≤ k) so L := by
  obtain ⟨cs, c1, c2⟩ := h.prs
  exact ⟨cs, c1, c2.mono (fun k _ hk => hk.1)⟩

end Go.Proofs.YtnpmlgibjhjiiaaDoor.dec

namespace Go.Proofs.YtnpmlgibjhjiiaaDoor.dec
open Go Go.Cm

attribute [local congr] optK_congr asI_congr asN_congr asB_congr asS_congr asP_congr asA_congr asSL_congr callK_congr castT_congr chk_congr

/-- a variable that holds a slice -/
def Box (H : Heap) (p : Nat) (e : TypeId) (s : Sl) : Prop := H.get p = some (.cells [s.v] e false 0 false) ∧ p < H.next
theorem Box.ld {H : Heap} {p : Nat} {e : TypeId} {s : Sl} (h : Box H p e s) : H.ld1 ⟨p, 0, none⟩ = some s.v := by rw [ld1_s h.1]; rfl
theorem Box.st {H : Heap} {p : Nat} {e : TypeId} {s : Sl} (s' : Sl) (h : Box H p e s) : ∃ H', H.st1 ⟨p, 0, none⟩ s'.v = some H' ∧ Box H' p e s' ∧ Keep (· = p) H H' :=
  ⟨_, st1_s h.1 (by simp) (Nat.le_refl _), ⟨by simp, h.2⟩, Keep.put _ _ _ rfl⟩
theorem Box.keep {S : Nat → Prop} {H H' : Heap} {p : Nat} {e : TypeId} {s : Sl} (h : Box H p e s) (hk : Keep S H H') (hn : ¬ S p) : Box H' p e s :=
  ⟨(hk.2 p h.2 hn).trans h.1, Nat.lt_of_lt_of_le h.2 hk.1⟩

/-- the program's state -/
structure PK (B po pr : Nat) (H : Heap) (so sr : Sl) (L : List Pr) (run : W) : Prop where
  ks : KS B H so sr L run
  bo : Box H po t_S_cmd_Press so
  br : Box H pr t_S_uint8 sr
  le : B ≤ H.next

def mine (B po pr : Nat) (k : Nat) : Prop := k = po ∨ k = pr ∨ B ≤ k

theorem flush_s (d B po pr : Nat) (hpo : po < B) (hpr : pr < B) (hne : po ≠ pr) (H : Heap) (so sr : Sl) (L : List Pr) (run : W) (h : PK B po pr H so sr L run) (hL : L.length ≤ 4000000) :
    ∃ H' so', X (d + 1) n_cmd_Keys_Feed_1 [P0 pr, P0 po] H = some (.tuple #[], H') ∧ PK B po pr H' so' Sl.nil (flushed L run) [] ∧ Keep (mine B po pr) H H' := by
  rw [cmd_Keys_Feed_1_eq]
  have hlen := h.ks.rn.num
  simp only [h.br.ld, h.bo.ld, optK_s, asSL_s, decide_eq_true_eq]
  have last : ∀ (H1 : Heap) (so' : Sl), KS B H1 so' Sl.nil (flushed L run) [] → Box H1 po t_S_cmd_Press so' → (∃ s, Box H1 pr t_S_uint8 s) → Keep (mine B po pr) H H1 →
      ∃ H' so', cmd_Keys_Feed_1_p1 d pr H1 = some (.tuple #[], H') ∧ PK B po pr H' so' Sl.nil (flushed L run) [] ∧ Keep (mine B po pr) H H' := by
    intro H1 so' k1 b1 ⟨s, b2⟩ kp
    obtain ⟨H2, e1, e2, e3⟩ := b2.st Sl.nil
    rw [cmd_Keys_Feed_1_p1_eq]
    simp only [e1, optK_s]
    have kp2 : Keep (mine B po pr) H H2 := kp.trans e3 (fun k _ q => .inr (.inl q))
    exact ⟨H2, so', rfl, ⟨k1.keep e3 (fun k q => by omega), b1.keep e3 (fun q => hne q), e2, by have := kp2.1; have := h.le; omega⟩, kp2⟩
  by_cases h0 : run = []
  · rw [if_neg (show ¬ (0 : Int) < (sr.n : Int) by subst h0; simp at hlen; omega)]
    exact last H so (by rw [flushed, if_pos h0]; exact ⟨h.ks.prs, Whole.nil _ _ _, h.ks.out, fun k hk => absurd hk Sl.at_nil⟩) h.bo ⟨sr, h.br⟩ (Keep.refl _)
  · have : run.length ≠ 0 := fun e => h0 (List.eq_nil_of_length_eq_zero e)
    rw [if_pos (show (0 : Int) < (sr.n : Int) by omega)]
    obtain ⟨so', H1, e1, e2, e3, e4⟩ := h.ks.press (m := []) h.ks.rn (fun k hk => ⟨(h.ks.ord k hk).1, fun hj => by have := (h.ks.ord k hk).2 k hj; omega⟩) hL h.le
    simp only [newK_s]
    rw [e1]
    simp only [asSL_s]
    have b1 : Box H1 po t_S_cmd_Press so := h.bo.keep e3 (fun hk => by have := h.ks.out po hk; omega)
    have b2 : Box H1 pr t_S_uint8 sr := h.br.keep e3 (fun hk => by have := h.ks.out pr hk; omega)
    obtain ⟨H2, f1, f2, f3⟩ := b1.st so'
    rw [f1]
    simp only [optK_s]
    exact last H2 so' (by rw [flushed, if_neg h0]; exact e2.keep f3 (fun k q => by omega)) f2 ⟨sr, b2.keep f3 (fun q => hne q.symm)⟩ ((e3.mono (fun k _ q => .inr (.inr (h.ks.out k q)))).trans f3 (fun k _ q => .inl q))

theorem told_eq (q : Option W) : told q = .tuple ⟨[.string (S (q.getD [])), .bool q.isSome]⟩ := by cases q <;> rfl

/-- kept by a flag's turn -/
theorem PK.flag {B po pr k : Nat} {H H' : Heap} {so sr : Sl} {L : List Pr} {run : W} (h : PK B po pr H so sr L run) (hk : Keep (· = k) H H') (h1 : k < B) (h2 : k ≠ po) (h3 : k ≠ pr) : PK B po pr H' so sr L run :=
  ⟨h.ks.keep hk (fun j q => by omega), h.bo.keep hk (fun q => h2 q.symm), h.br.keep hk (fun q => h3 q.symm), by have := hk.1; have := h.le; omega⟩

theorem pfeed_loop (d kk po pr B : Nat) (x1 : Sl) (w : W) (hkB : kk < B) (hpo : po < B) (hpr : pr < B) (hne : po ≠ pr) (hko : kk ≠ po) (hkr : kk ≠ pr) (hx : ∀ k, x1.at k → k < B ∧ k ≠ kk ∧ k ≠ po ∧ k ≠ pr) (hw : w.length ≤ 1048576) :
    ∀ (m i : Nat) (L : List Pr) (run : W) (so sr : Sl) (H : Heap) (a : Bool), i ≤ w.length → w.length - i < m → L.length ≤ 2 * i → run.length ≤ i → PK B po pr H so sr L run → Flag H kk t_cmd_Keys a → Bytes H x1 w →
      ∃ H' so', cmd_Keys_Feed_p1111010 (d + 1) m kk po pr pr po x1 (w.length : Int) (i : Int) H = some (so'.v, H') ∧ Flag H' kk t_cmd_Keys (feed a L run (w.drop i)).1 ∧ Prs H' (fun k => B ≤ k) so' (feed a L run (w.drop i)).2 ∧ (∀ j, so'.at j → B ≤ j) ∧
        Keep (fun k => k = kk ∨ mine B po pr k) H H' := by
  intro m
  induction m with
  | zero => intro i L run so sr H a h1 h2; omega
  | succ m ih =>
    intro i L run so sr H a h1 h2 hL hrun hK hf hb
    rw [cmd_Keys_Feed_p1111010_s]
    simp only [decide_eq_true_eq, hb.num]
    by_cases hi : i < w.length
    · have hc : w[i]? = some w[i] := List.getElem?_eq_getElem hi
      have hd : w.drop i = w[i] :: w.drop (i + 1) := by rw [List.drop_eq_getElem_cons hi]
      generalize w[i] = c at hc hd
      obtain ⟨b, e1, e2, e3⟩ := hb.at hc
      rw [if_pos (show (i : Int) < (w.length : Int) by omega)]
      have hii : (0 : Int) ≤ (i : Int) ∧ (i : Int) < (w.length : Int) := by omega
      simp only [optK_s, e1, ap, Int.toNat_natCast, Nat.mul_one, Nat.zero_add, e2, asI_s]
      rw [if_pos hii, Bound_s]
      simp only [callK_s, told_eq, castT_s, castL_c, castL_n, cast0, asS_s, asB_s, List.getElem?_cons_zero, List.getElem?_cons_succ, optK_s, hf.ld]
      -- what goes on
      have next : ∀ (L' : List Pr) (run' : W) (so' sr' : Sl) (H1 : Heap) (a' : Bool), L'.length ≤ 2 * (i + 1) → run'.length ≤ i + 1 → PK B po pr H1 so' sr' L' run' → Flag H1 kk t_cmd_Keys a' → Keep (fun k => k = kk ∨ mine B po pr k) H H1 →
          ∃ H' so', cmd_Keys_Feed_p11110100111 (d + 1) m kk po pr pr po x1 (w.length : Int) (i : Int) H1 = some (so'.v, H') ∧ Flag H' kk t_cmd_Keys (feed a' L' run' (w.drop (i + 1))).1 ∧ Prs H' (fun k => B ≤ k) so' (feed a' L' run' (w.drop (i + 1))).2 ∧ (∀ j, so'.at j → B ≤ j) ∧
            Keep (fun k => k = kk ∨ mine B po pr k) H H' := by
        intro L' run' so' sr' H1 a' q1 q2 q3 q4 q5
        rw [cmd_Keys_Feed_p11110100111_eq, w64 (by omega), show ((i : Int) + 1) = ((i + 1 : Nat) : Int) by omega]
        obtain ⟨H', so2, g1, g2, g3, g4, g5⟩ := ih (i + 1) L' run' so' sr' H1 a' (by omega) (by omega) q1 q2 q3 q4 (Whole.keep hb q5 (fun k hk h => by have := hx k hk; unfold mine at h; omega))
        exact ⟨H', so2, g1, g2, g3, g4, q5.trans g5 (fun _ _ h => h)⟩
      have next0 : ∀ (L' : List Pr) (run' : W) (so' sr' : Sl) (H1 : Heap) (a' : Bool), L'.length ≤ 2 * (i + 1) → run'.length ≤ i + 1 → PK B po pr H1 so' sr' L' run' → Flag H1 kk t_cmd_Keys a' → Keep (fun k => k = kk ∨ mine B po pr k) H H1 →
          ∃ H' so', cmd_Keys_Feed_p111101001100111 (d + 1) m kk po pr pr po x1 (w.length : Int) (i : Int) H1 = some (so'.v, H') ∧ Flag H' kk t_cmd_Keys (feed false L' run' (w.drop (i + 1))).1 ∧ Prs H' (fun k => B ≤ k) so' (feed false L' run' (w.drop (i + 1))).2 ∧ (∀ j, so'.at j → B ≤ j) ∧
            Keep (fun k => k = kk ∨ mine B po pr k) H H' := by
        intro L' run' so' sr' H1 a' q1 q2 q3 q4 q5
        rw [cmd_Keys_Feed_p111101001100111_eq]
        obtain ⟨H2, f1, f2, f3⟩ := q4.st false
        simp only [f1, optK_s]
        exact next L' run' so' sr' H2 false q1 q2 (q3.flag f3 hkB hko hkr) f2 (q5.trans f3 (fun k _ q => .inl q))
      -- a byte of input
      have byte : ∃ H' so', cmd_Keys_Feed_p11110100110011001011 (d + 1) m kk po pr pr po (c.toNat : Int) (S ((bound c).getD [])) (bound c).isSome x1 (w.length : Int) (i : Int) true H = some (so'.v, H') ∧ Flag H' kk t_cmd_Keys (feed false L (run ++ [c]) (w.drop (i + 1))).1 ∧
          Prs H' (fun k => B ≤ k) so' (feed false L (run ++ [c]) (w.drop (i + 1))).2 ∧ (∀ j, so'.at j → B ≤ j) ∧ Keep (fun k => k = kk ∨ mine B po pr k) H H' := by
        rw [cmd_Keys_Feed_p11110100110011001011_eq, if_pos rfl]
        simp only [hK.br.ld, optK_s, asSL_s, newK_s]
        obtain ⟨sr', H1, f1, f2, f3⟩ := hK.ks.byte c (by omega) hK.le
        rw [f1]
        simp only [asSL_s]
        have b1 : Box H1 po t_S_cmd_Press so := hK.bo.keep f3 (fun hk => by have := (hK.ks.ord po hk).1; omega)
        have b2 : Box H1 pr t_S_uint8 sr := hK.br.keep f3 (fun hk => by have := (hK.ks.ord pr hk).1; omega)
        obtain ⟨H2, g1, g2, g3⟩ := b2.st sr'
        rw [g1]
        simp only [optK_s]
        have hk2 : Keep (fun k => k = kk ∨ mine B po pr k) H H2 := (f3.mono (fun k _ q => .inr (.inr (.inr (hK.ks.ord k q).1)))).trans g3 (fun k _ q => .inr (.inr (.inl q)))
        exact next0 L (run ++ [c]) so sr' H2 a (by omega) (by simp; omega) ⟨f2.keep g3 (fun k q => by omega), b1.keep g3 hne, g2, by have := hk2.1; have := hK.le; omega⟩ ((hf.keep f3 (fun hk => by have := (hK.ks.ord kk hk).1; omega)).keep g3 hkr) hk2
      rw [hd]
      simp only [feed]
      cases a with
      | false =>
        rw [if_pos (show (!false) = true from rfl), cmd_Keys_Feed_p11110100110011001_eq]
        by_cases g : c.toNat = 2
        · rw [if_pos (show false = false ∧ c.toNat = 2 from ⟨rfl, g⟩), if_pos (show decide ((c.toNat : Int) = 2) = true from decide_eq_true (by omega))]
          obtain ⟨H1, f1, f2, f3⟩ := hf.st true
          simp only [f1, optK_s]
          exact next L run so sr H1 true (by omega) (by omega) (hK.flag f3 hkB hko hkr) f2 (f3.mono (fun k _ q => .inl q))
        · rw [if_neg (show ¬ (false = false ∧ c.toNat = 2) from fun h => g h.2), if_pos (show false = false ∨ c.toNat = 2 from .inl rfl), if_neg (show ¬ decide ((c.toNat : Int) = 2) = true by simp; omega)]
          simp only [hf.ld, optK_s, asB_s]
          rw [if_pos (show (!false) = true from rfl)]
          exact byte
      | true =>
        rw [if_neg (show ¬ (!true) = true by simp), if_neg (show ¬ (true = false ∧ c.toNat = 2) by simp), cmd_Keys_Feed_p11110100110011001_eq, if_neg (show ¬ false = true by simp)]
        simp only [hf.ld, optK_s, asB_s]
        rw [if_neg (show ¬ (!true) = true by simp)]
        by_cases g : c.toNat = 2
        · rw [if_pos (show true = false ∨ c.toNat = 2 from .inr g), show decide ((c.toNat : Int) = 2) = true from decide_eq_true (by omega)]
          exact byte
        · rw [if_neg (show ¬ (true = false ∨ c.toNat = 2) by simp [g]), show decide ((c.toNat : Int) = 2) = false from decide_eq_false (by omega), cmd_Keys_Feed_p11110100110011001011_eq, if_neg (show ¬ false = true by simp)]
          cases hbd : bound c with
          | none =>
            simp only [Option.isSome_none]
            rw [if_neg (show ¬ false = true by simp)]
            exact next0 L run so sr H true (by omega) (by omega) hK hf (Keep.refl _)
          | some mm =>
            simp only [Option.isSome_some, Option.getD_some]
            rw [if_pos trivial]
            obtain ⟨H1, so1, s1, s2, s3⟩ := flush_s d B po pr hpo hpr hne H so sr L run hK (by omega)
            rw [s1]
            simp only [callK_s, s2.bo.ld, optK_s, asSL_s, newK_s]
            have hfl : (flushed L run).length ≤ L.length + 1 := by unfold flushed; split <;> simp
            obtain ⟨so2, H2, u1, u2, u3, u4⟩ := s2.ks.press (a := Sl.nil) (n := []) (m := mm) (Whole.nil _ _ _) (fun k hk => absurd hk Sl.at_nil) (by omega) s2.le
            rw [u1]
            simp only [asSL_s]
            have b1 : Box H2 po t_S_cmd_Press so1 := s2.bo.keep u3 (fun hk => by have := s2.ks.out po hk; omega)
            have b2 : Box H2 pr t_S_uint8 Sl.nil := s2.br.keep u3 (fun hk => by have := s2.ks.out pr hk; omega)
            obtain ⟨H3, g1, g2, g3⟩ := b1.st so2
            rw [g1]
            simp only [optK_s]
            have k1 : Keep (fun k => k = kk ∨ mine B po pr k) H H1 := s3.mono (fun k _ q => .inr q)
            have k2 : Keep (fun k => k = kk ∨ mine B po pr k) H H2 := k1.trans u3 (fun k _ q => .inr (.inr (.inr (s2.ks.out k q))))
            have k3 : Keep (fun k => k = kk ∨ mine B po pr k) H H3 := k2.trans g3 (fun k _ q => .inr (.inl q))
            refine next0 _ [] so2 Sl.nil H3 true (by simp only [List.length_append, List.length_cons, List.length_nil]; omega) (by simp) ⟨u2.keep g3 (fun k q => by omega), g2, b2.keep g3 (fun q => hne q.symm), by have := k3.1; have := hK.le; omega⟩ ?_ k3
            refine ((hf.keep s3 (fun hk => by unfold mine at hk; omega)).keep u3 (fun hk => by have := s2.ks.out kk hk; omega)).keep g3 hko
    · rw [if_neg (show ¬ (i : Int) < (w.length : Int) by omega), List.drop_eq_nil_of_le (by omega)]
      obtain ⟨H1, so1, s1, s2, s3⟩ := flush_s d B po pr hpo hpr hne H so sr L run hK (by omega)
      rw [s1]
      simp only [callK_s, s2.bo.ld, optK_s, asSL_s, feed]
      exact ⟨H1, so1, rfl, hf.keep s3 (fun hk => by unfold mine at hk; omega), s2.ks.done, s2.ks.out, s3.mono (fun k _ q => .inr q)⟩

theorem Feed_s (d kk : Nat) (x1 : Sl) (w : W) (H : Heap) (a : Bool) (hf : Flag H kk t_cmd_Keys a) (hb : Bytes H x1 w) (hx : ∀ k, x1.at k → k ≠ kk) (hw : w.length ≤ 1048576) : FPost H.next kk t_cmd_Keys H (feed a [] [] w) (X (d + 2) n_cmd_Keys_Feed [P0 kk, x1.v] H) := by
  rw [cmd_Keys_Feed_eq]
  simp only [newK_s, hb.num]
  have k1 : Keep (fun _ => False) H (H.new (.cells [.slice none 0 0] t_S_cmd_Press false 0 false)) := Keep.new _ _
  have k2 := k1.trans (Keep.new (S := fun _ => False) (H.new (.cells [.slice none 0 0] t_S_cmd_Press false 0 false)) (.cells [.slice none 0 0] t_S_uint8 false 0 false)) (fun _ _ h => h)
  simp only [Heap.next_new]
  have hkk := hf.2
  have hbo : Box ((H.new (.cells [.slice none 0 0] t_S_cmd_Press false 0 false)).new (.cells [.slice none 0 0] t_S_uint8 false 0 false)) H.next t_S_cmd_Press Sl.nil := ⟨by rw [Heap.get_new_ne _ _ (by simp)]; simp, by simp; omega⟩
  have hbr : Box ((H.new (.cells [.slice none 0 0] t_S_cmd_Press false 0 false)).new (.cells [.slice none 0 0] t_S_uint8 false 0 false)) (H.next + 1) t_S_uint8 Sl.nil := ⟨by rw [Heap.get_new]; simp, by simp⟩
  obtain ⟨H', so', g1, g2, g3, g4, g5⟩ := pfeed_loop d kk H.next (H.next + 1) (H.next + 2) x1 w (by omega) (by omega) (by omega) (by omega) (by omega) (by omega) (fun k hk => by have := Whole.lt hb hk; have := hx k hk; omega) hw NN 0 [] [] Sl.nil Sl.nil _ a (by omega) (NN_big _ (by omega)) (by simp) (by simp)
    ⟨⟨⟨[], Whole.nil _ _ _, PrL.nil _ _⟩, Whole.nil _ _ _, fun j hj => absurd hj Sl.at_nil, fun j hj => absurd hj Sl.at_nil⟩, hbo, hbr, by simp⟩ (hf.keep k2 id) (Whole.keep hb k2 (fun _ _ h => h))
  rw [List.drop_zero] at g2 g3
  refine ⟨H', so', g1, g2, ?_, fun j hj => by have := g4 j hj; omega, (k2.mono (fun _ _ h => h.elim)).trans g5 (fun k hk q => ?_)⟩
  · obtain ⟨cs, c1, c2⟩ := g3
    exact ⟨cs, c1, c2.mono (fun k _ q => by omega)⟩
  · unfold mine at q; omega
end Go.Proofs.YtnpmlgibjhjiiaaDoor.dec

namespace Go.Proofs.YtnpmlgibjhjiiaaDoor.dec
open Go Go.Cm

attribute [local congr] optK_congr asI_congr asN_congr asB_congr asS_congr asP_congr asA_congr asSL_congr callK_congr castT_congr chk_congr

theorem dec_digit (c : UInt8) (h : 48 ≤ c.toNat ∧ c.toNat ≤ 57) : Utf8.decode (S [c]) 0 = (c.toNat, 1) := by
  have : c.toNat = 48 ∨ c.toNat = 49 ∨ c.toNat = 50 ∨ c.toNat = 51 ∨ c.toNat = 52 ∨ c.toNat = 53 ∨ c.toNat = 54 ∨ c.toNat = 55 ∨ c.toNat = 56 ∨ c.toNat = 57 := by omega
  have hc : c = UInt8.ofNat c.toNat := by simp
  rcases this with h | h | h | h | h | h | h | h | h | h <;> (rw [h] at hc; subst hc; decide)

theorem NN_two : ∃ m, NN = m + 2 := ⟨NN - 2, by have := NN_big 2 (by omega); omega⟩

theorem wrap_digit (c : UInt8) (h : 48 ≤ c.toNat ∧ c.toNat ≤ 57) : IntKind.wrap .u8 ((c.toNat : Int) - 48) = (c.toNat : Int) - 48 := by
  have : c.toNat = 48 ∨ c.toNat = 49 ∨ c.toNat = 50 ∨ c.toNat = 51 ∨ c.toNat = 52 ∨ c.toNat = 53 ∨ c.toNat = 54 ∨ c.toNat = 55 ∨ c.toNat = 56 ∨ c.toNat = 57 := by omega
  rcases this with h | h | h | h | h | h | h | h | h | h <;> (rw [h]; decide)

theorem Atoi_digit (d : Nat) (c : UInt8) (h : 48 ≤ c.toNat ∧ c.toNat ≤ 57) (H : Heap) : ∃ n H', X (d + 2) n_strconv_Atoi [.string (S [c])] H = some (.tuple #[.int .i64 n, .nilIface], H') := by
  rw [strconv_Atoi_eq, strconv_Atoix_eq, slenS]
  simp only [List.length_cons, List.length_nil, decide_eq_true_eq]
  rw [if_pos (by decide), strconv_Atoix_p1101_eq, slenS]
  simp only [List.length_cons, List.length_nil, decide_eq_true_eq]
  rw [if_pos (by decide), if_pos (by decide), btS (l := [c]) (i := 0) (c := c) rfl, if_neg (by omega), if_pos (by decide),
    show decide ((c.toNat : Int) = 43) = false from decide_eq_false (by omega), strconv_Atoix_p110100101_eq, if_neg (by simp), strconv_Atoix_p11010011_eq, lstS]
  simp only [newK_s, slenS, List.length_cons, List.length_nil]
  obtain ⟨m, hm⟩ := NN_two
  rw [hm, strconv_Atoix_p1101001101010_s]
  simp only [decide_eq_true_eq]
  rw [if_pos (by decide)]
  simp only [optK_s, ap]
  rw [if_pos (by decide), show (⟨H.next, 0 + (0 : Int).toNat * 1, none⟩ : Addr) = ⟨H.next, 0, none⟩ from rfl, ld1_s (Heap.get_new_same H _)]
  simp only [List.map_cons, List.map_nil, List.getElem?_cons_zero, optK_s, asI_s]
  rw [wrap_digit c h, if_neg (by omega), strconv_Atoix_p1101001101010_s]
  simp only [decide_eq_true_eq]
  rw [if_neg (by decide), slenS]
  simp only [List.length_cons, List.length_nil]
  rw [if_pos (by decide), btS (l := [c]) (i := 0) (c := c) rfl, if_neg (by omega)]
  simp only [callK_s, castT_s, castL_c, castL_n, cast0, asI_s, List.getElem?_cons_zero, List.getElem?_cons_succ, optK_s, isNil]
  exact ⟨_, _, rfl⟩

theorem num_digit (d : Nat) (c : UInt8) (h : 48 ≤ c.toNat ∧ c.toNat ≤ 57) (H : Heap) : ∃ H', X (d + 4) n_cmd_isNumber [.string (S [c])] H = some (.bool true, H') := by
  rw [cmd_isNumber_eq, cmd_number_eq, sEqS, slenS]
  simp only [List.length_cons, List.length_nil, decide_eq_true_eq]
  rw [if_neg (by simp), if_neg (by decide), if_neg (by decide), cmd_number_p101_eq, if_neg (by simp)]
  simp only [newK_s]
  obtain ⟨m, hm⟩ := NN_two
  rw [hm, cmd_number_p11010_s]
  simp only [nextK, Heap.get_new_same, slenS, List.length_cons, List.length_nil, dec_digit c h]
  rw [if_pos trivial, if_pos (by decide)]
  simp only [decide_eq_true_eq]
  rw [if_neg (by omega), show decide ((57 : Int) < (c.toNat : Int)) = false from decide_eq_false (by omega), cmd_number_p11010011011_eq, if_neg (by simp), cmd_number_p11010_s]
  simp only [nextK, Heap.get_put_same, slenS, List.length_cons, List.length_nil]
  rw [if_pos trivial, if_neg (by decide)]
  obtain ⟨n, H', e⟩ := Atoi_digit d c h ((H.new (.iter (S [c]) 0)).put H.next (.iter (S [c]) (0 + 1)))
  rw [e]
  simp only [callK_s, castT_s, castL_c, castL_n, cast0, asI_s, asB_s, List.getElem?_cons_zero, List.getElem?_cons_succ, optK_s, isNil]
  exact ⟨_, rfl⟩

/-- the commands of keys -/
def RK (name : W) (ws : List W) : Prop :=
  (ws = [] ∧ (name = [110, 101, 119, 45, 119, 105, 110, 100, 111, 119] ∨ name = [107, 105, 108, 108, 45, 119, 105, 110, 100, 111, 119] ∨ name = [107, 105, 108, 108, 45, 112, 97, 110, 101] ∨ name = [122, 111, 111, 109])) ∨
  (∃ e : UInt8, (48 ≤ e.toNat ∧ e.toNat ≤ 57) ∧ ws = [[e]] ∧ (name = [115, 101, 108, 101, 99, 116, 45, 112, 97, 110, 101] ∨ name = [112, 97, 115, 116, 101])) ∨
  (name = [115, 112, 108, 105, 116, 45, 119, 105, 110, 100, 111, 119] ∧ (ws = [[45, 104]] ∨ ws = [[45, 118]]))

theorem bound_parse (c : UInt8) (m : W) (h : bound c = some m) : ∃ name ws, parse (m.length + 1) m [] [] = some [(name, ws)] ∧ m.length ≤ 400 ∧ RK name ws := by
  unfold bound at h
  split at h
  · cases h; exact ⟨_, [], by rfl, by decide, .inl ⟨rfl, .inl rfl⟩⟩
  split at h
  · cases h; exact ⟨_, [], by rfl, by decide, .inl ⟨rfl, .inr (.inl rfl)⟩⟩
  split at h
  · cases h; exact ⟨_, _, by rfl, by decide, .inr (.inr ⟨rfl, .inl rfl⟩)⟩
  split at h
  · cases h; exact ⟨_, _, by rfl, by decide, .inr (.inr ⟨rfl, .inr rfl⟩)⟩
  split at h
  · cases h; exact ⟨_, [], by rfl, by decide, .inl ⟨rfl, .inr (.inr (.inl rfl))⟩⟩
  split at h
  · cases h; exact ⟨_, [], by rfl, by decide, .inl ⟨rfl, .inr (.inr (.inr rfl))⟩⟩
  split at h
  · cases h; exact ⟨_, _, by rfl, by decide, .inr (.inl ⟨48, by decide, rfl, .inl rfl⟩)⟩
  split at h
  · cases h; exact ⟨_, _, by rfl, by decide, .inr (.inl ⟨48, by decide, rfl, .inr rfl⟩)⟩
  split at h
  · rename_i hd
    cases h
    have : c.toNat = 48 ∨ c.toNat = 49 ∨ c.toNat = 50 ∨ c.toNat = 51 ∨ c.toNat = 52 ∨ c.toNat = 53 ∨ c.toNat = 54 ∨ c.toNat = 55 ∨ c.toNat = 56 ∨ c.toNat = 57 := by omega
    have hc : c = UInt8.ofNat c.toNat := by simp
    rcases this with h | h | h | h | h | h | h | h | h | h <;> (rw [h] at hc; subst hc; exact ⟨_, _, by rfl, by decide, .inr (.inl ⟨_, by decide, rfl, .inl rfl⟩)⟩)
  · cases h

theorem box2 {u v : Value} (hu : one u = true) (hv : one v = true) (t : TypeId) (H : Heap) (K : Value → Heap → Res) : effK (.box t) [.agg #[u, v]] H K = K (P0 H.next) (H.new (.cells [u, v] t false 0 false)) := by
  simp only [effK]
  rw [if_pos (by simp [cellsL, hu, hv])]
  rfl

theorem Right_s (d : Nat) (name : W) (ws : List W) (a : Sl) (H : Heap) (hw : Words H a ws) (h : RK name ws) : ∃ H', X (d + 5) n_cmd_Right [.agg #[.string (S name), a.v]] H = some (.bool true, H') := by
  rw [cmd_Right_eq, box2 rfl rfl]
  have k1 : Keep (fun _ => False) H (H.new (.cells [.string (S name), a.v] t_cmd_Command false 0 false)) := Keep.new _ _
  have hw1 : Words _ a ws := Whole.keep hw k1 (fun _ _ h => h)
  have g1 : (H.new (.cells [.string (S name), a.v] t_cmd_Command false 0 false)).get H.next = some (.cells [.string (S name), a.v] t_cmd_Command false 0 false) := by simp
  generalize (H.new (.cells [.string (S name), a.v] t_cmd_Command false 0 false)) = H1 at *
  simp only [show ∀ (K : Option Addr → Res), asP (P0 H.next) K = K (some ⟨H.next, 0, none⟩) from fun _ => rfl, optK_s, ap, Nat.zero_add, ld1_s g1, List.getElem?_cons_zero, List.getElem?_cons_succ, Sl.v, asSL_s, asS_s, sEqS]
  have hlen := Whole.len hw1
  simp only [strs, List.length_map, Nat.mul_one] at hlen
  rcases h with ⟨rfl, h⟩ | ⟨e, he, rfl, h⟩ | ⟨rfl, h⟩
  · have fin : ∀ w, cmd_Right_p110101 (d + 4) ⟨a.a, a.n, a.c⟩ w true H1 = some (.bool true, H1) := fun w => by
      rw [cmd_Right_p110101_eq, if_pos rfl, show decide (((a.n : Nat) : Int) = 0) = true from decide_eq_true (by simp at hlen; omega)]
    rcases h with rfl | rfl | rfl | rfl
    · rw [if_neg (by decide), if_pos (by decide)]; exact ⟨H1, fin _⟩
    · rw [if_neg (by decide), if_neg (by decide), if_pos (by decide)]; exact ⟨H1, fin _⟩
    · rw [if_neg (by decide), if_neg (by decide), if_neg (by decide), if_pos (by decide)]; exact ⟨H1, fin _⟩
    · rw [if_neg (by decide), if_neg (by decide), if_neg (by decide), if_neg (by decide)]; exact ⟨H1, fin _⟩
  · obtain ⟨b, o, st, q1, q2, q3, _⟩ := Whole.block hw1 (by simp [strs])
    have fin : ∀ w, ∃ H', cmd_Right_p110101011011 (d + 4) ⟨a.a, a.n, a.c⟩ w true H1 = some (.bool true, H') := fun w => by
      rw [cmd_Right_p110101011011_eq, if_pos rfl]
      simp only [decide_eq_true_eq]
      have hn1 : a.n = 1 := by simp at hlen; omega
      rw [if_pos (show ((a.n : Nat) : Int) = 1 by omega), q1]
      simp only [optK_s, ap, Nat.zero_add]
      rw [if_pos (show (0 : Int) ≤ 0 ∧ (0 : Int) < ((a.n : Nat) : Int) by omega), ld1_s q3]
      simp only [strs, List.map_cons, List.map_nil, List.getElem?_cons_zero, optK_s, asS_s]
      obtain ⟨H', e'⟩ := num_digit d e he H1
      rw [e']
      simp only [callK_s, asB_s]
      exact ⟨H', rfl⟩
    rcases h with rfl | rfl
    · rw [if_neg (by decide), if_neg (by decide), if_neg (by decide), if_neg (by decide), show (([115, 101, 108, 101, 99, 116, 45, 112, 97, 110, 101] : W) == [122, 111, 111, 109]) = false from by decide, cmd_Right_p110101_eq, if_neg (by simp), sEqS, sEqS, if_neg (by decide),
        show (([115, 101, 108, 101, 99, 116, 45, 112, 97, 110, 101] : W) == [114, 101, 110, 97, 109, 101]) = false from by decide, cmd_Right_p110101011_eq, if_neg (by simp)]
      simp only [sEqS]
      rw [if_neg (by decide), if_pos (by decide)]
      exact fin _
    · rw [if_neg (by decide), if_neg (by decide), if_neg (by decide), if_neg (by decide), show (([112, 97, 115, 116, 101] : W) == [122, 111, 111, 109]) = false from by decide, cmd_Right_p110101_eq, if_neg (by simp), sEqS, sEqS, if_neg (by decide),
        show (([112, 97, 115, 116, 101] : W) == [114, 101, 110, 97, 109, 101]) = false from by decide, cmd_Right_p110101011_eq, if_neg (by simp)]
      simp only [sEqS]
      rw [if_neg (by decide), if_neg (by decide), if_neg (by decide)]
      exact fin _
  · have hws : ∃ u, ws = [u] ∧ (u = [45, 104] ∨ u = [45, 118]) := by rcases h with rfl | rfl <;> exact ⟨_, rfl, by simp⟩
    obtain ⟨u, rfl, hu⟩ := hws
    obtain ⟨b, o, st, q1, q2, q3, _⟩ := Whole.block hw1 (by simp [strs])
    have hn1 : a.n = 1 := by simp at hlen; omega
    rw [if_neg (by decide), if_neg (by decide), if_neg (by decide), if_neg (by decide), show (([115, 112, 108, 105, 116, 45, 119, 105, 110, 100, 111, 119] : W) == [122, 111, 111, 109]) = false from by decide, cmd_Right_p110101_eq, if_neg (by simp), sEqS, sEqS, if_neg (by decide),
      show (([115, 112, 108, 105, 116, 45, 119, 105, 110, 100, 111, 119] : W) == [114, 101, 110, 97, 109, 101]) = false from by decide, cmd_Right_p110101011_eq, if_neg (by simp)]
    simp only [sEqS]
    rw [if_neg (by decide), if_neg (by decide), if_neg (by decide), show (([115, 112, 108, 105, 116, 45, 119, 105, 110, 100, 111, 119] : W) == [112, 97, 115, 116, 101]) = false from by decide, cmd_Right_p110101011011_eq, if_neg (by simp), sEqS, if_pos (by decide)]
    simp only [decide_eq_true_eq]
    rw [if_pos (show ((a.n : Nat) : Int) = 1 by omega), q1]
    simp only [optK_s, ap, Nat.zero_add]
    rw [if_pos (show (0 : Int) ≤ 0 ∧ (0 : Int) < ((a.n : Nat) : Int) by omega), ld1_s q3]
    simp only [strs, List.map_cons, List.map_nil, List.getElem?_cons_zero, optK_s, asS_s, sEqS]
    rcases hu with rfl | rfl
    · rw [if_pos (by decide)]; exact ⟨H1, rfl⟩
    · rw [if_neg (by decide), if_pos (show (0 : Int) ≤ 0 ∧ (0 : Int) < ((a.n : Nat) : Int) by omega)]
      exact ⟨H1, rfl⟩
end Go.Proofs.YtnpmlgibjhjiiaaDoor.dec

namespace Go.Proofs.YtnpmlgibjhjiiaaDoor.dec
open Go Go.Cm

attribute [local congr] optK_congr asI_congr asN_congr asB_congr asS_congr asP_congr asA_congr asSL_congr callK_congr castT_congr chk_congr

theorem Prs.at {H : Heap} {P : Nat → Prop} {so : Sl} {L : List Pr} (h : Prs H P so L) {i : Nat} {n m : W} (hi : L[i]? = some (n, m)) : ∃ b a, so.a = some ⟨b, 0, none⟩ ∧ H.ld1 ⟨b, i * 2, none⟩ = some (Sl.v a) ∧ H.ld1 ⟨b, i * 2 + 1, none⟩ = some (.string (S m)) ∧ Bytes H a n := by
  obtain ⟨cs, h1, h2, h3⟩ := h
  have hlt := (List.getElem?_eq_some_iff.1 hi).1
  have hne : cs ≠ [] := fun e => by subst e; simp at h2; omega
  obtain ⟨b, o, st, e1, e2, e3, _⟩ := Whole.block h1 hne
  obtain ⟨a, q1, q2, q3, _⟩ := h3 i n m hi
  exact ⟨b, a, by rw [e1], by rw [ld1_s e3]; exact q1, by rw [ld1_s e3]; exact q2, q3⟩
theorem Prs.num {H : Heap} {P : Nat → Prop} {so : Sl} {L : List Pr} (h : Prs H P so L) : so.n = L.length := by
  obtain ⟨cs, h1, h2, _⟩ := h
  have := h1.len
  omega
theorem Prs.keep {S P : Nat → Prop} {H H' : Heap} {so : Sl} {L : List Pr} (h : Prs H P so L) (hk : Keep S H H') (hn : ∀ k, k < H.next → P k → ¬ S k) (ho : ∀ j, so.at j → ¬ S j) : Prs H' P so L := by
  obtain ⟨cs, h1, h2⟩ := h
  exact ⟨cs, h1.keep hk ho, (h2.mono (Q := fun k => P k ∧ k < H.next) fun k hk hp => ⟨hp, hk⟩).keep hk (fun k hk => hn k hk.2 hk.1) |>.mono fun k _ hp => hp.1⟩

/-- bytes without the prefix are a run -/
theorem feed_run : ∀ (w run : W) (L : List Pr), (∀ c ∈ w, c.toNat ≠ 2) → feed false L run w = (false, flushed L (run ++ w)) := by
  intro w
  induction w with
  | nil => intro run L _; simp [feed]
  | cons c w ih =>
    intro run L h
    have hc := h c (by simp)
    rw [feed, if_neg (by simp [hc]), if_pos (.inl rfl), ih _ _ fun x hx => h x (by simp [hx])]
    simp
theorem feed_key (c : UInt8) (m : W) (h : bound c = some m) : feed false [] [] [2, c] = (false, [([], m)]) := by
  have hc : c.toNat ≠ 2 := by
    intro e
    unfold bound at h
    simp [e] at h
  rw [feed, if_pos ⟨rfl, by decide⟩, feed, if_neg (by simp), if_neg (by simp [hc]), h]
  rfl

/-- an argument of bytes -/
def BA (B : Nat) (H : Heap) (x : Sl) (w : W) : Prop := x.n = w.length ∧ B ≤ H.next ∧ ∀ (i : Nat) c, w[i]? = some c → ∃ b o, b < B ∧ x.a = some ⟨b, o, none⟩ ∧ H.ld1 ⟨b, o + i, none⟩ = some (.int .u8 (c.toNat : Int))
theorem BA.keep {B : Nat} {H H' : Heap} {x : Sl} {w : W} (h : BA B H x w) (hk : Keep (fun k => B ≤ k) H H') : BA B H' x w := by
  obtain ⟨h1, h2, h3⟩ := h
  refine ⟨h1, Nat.le_trans h2 hk.1, fun i c hi => ?_⟩
  obtain ⟨b, o, e1, e2, e3⟩ := h3 i c hi
  refine ⟨b, o, e1, e2, ?_⟩
  rw [← e3]
  simp only [Heap.ld1, hk.2 b (by omega) (by show ¬ B ≤ b; omega)]

theorem new_bytes (H : Heap) (w : W) (o st : Bool) : Bytes (H.new (.cells (bytes w) t_uint8 o 0 st)) ⟨some ⟨H.next, 0, none⟩, w.length, w.length⟩ w := .inr ⟨H.next, w.length, rfl, by simp [bytes], by simp, o, st, by simp⟩

/-- behind all bytes -/
theorem plain_end (d m kk : Nat) (key : UInt8) (want : W) (x9 : Sl) (i : Int) (H : Heap) (hf : Flag H kk t_cmd_Keys false) (hi : ¬ i < (x9.n : Int)) :
    ∃ H', law24_CmdPlain_p1111111010 (d + 5) (m + 1) (key.toNat : Int) (some ⟨kk, 0, none⟩) (S want) (S want) x9 i H = some (.bool true, H') := by
  rw [law24_CmdPlain_p1111111010_s]
  simp only [decide_eq_true_eq]
  rw [if_neg hi, Bound_s]
  have k1 : Keep (fun _ => False) H (H.new (.cells (bytes [2, key]) t_uint8 false 0 false)) := Keep.new _ _
  have hb := new_bytes H [2, key] false false
  have hf1 := hf.keep k1 id
  have feedS := Feed_s (d + 3) kk ⟨some ⟨H.next, 0, none⟩, 2, 2⟩ [2, key] _ false hf1 hb (fun k hk => by
    obtain ⟨_, e, rfl⟩ := hk
    cases e
    show H.next ≠ kk
    have := hf.2
    omega) (by simp)
  obtain ⟨H2, so, e1, e2, e3, e4, e5⟩ := feedS
  have hbl : bytes [2, key] = [.int .u8 2, .int .u8 (key.toNat : Int)] := rfl
  rw [hbl] at e1
  have e1' : X (d + 5) n_cmd_Keys_Feed [.pointer (some ⟨kk, 0, none⟩), .slice (some ⟨H.next, 0, none⟩) 2 2] (H.new (.cells [.int .u8 2, .int .u8 (key.toNat : Int)] t_uint8 false 0 false)) = some (so.v, H2) := e1
  cases hq : bound key with
  | none =>
    simp only [told, callK_s, castT_s, castL_c, castL_n, cast0, asB_s, asS_s, List.getElem?_cons_zero, List.getElem?_cons_succ, optK_s, newK_s, e1', Sl.v, asSL_s]
    rw [if_pos (by rfl), sEqS, sEqS, if_pos (by simp)]
    exact ⟨H2, rfl⟩
  | some mm =>
    simp only [told, callK_s, castT_s, castL_c, castL_n, cast0, asB_s, asS_s, List.getElem?_cons_zero, List.getElem?_cons_succ, optK_s, newK_s, e1', Sl.v, asSL_s]
    rw [if_neg (by simp)]
    obtain ⟨name, ws, p1, p2, p3⟩ := bound_parse key mm hq
    rw [feed_key key mm hq] at e3
    have hp := Parse_s (d + 2) mm H2 p2
    rw [p1] at hp
    obtain ⟨H3, sp, q1, q2, q3, q4⟩ := hp
    rw [q1]
    have e3' := e3.keep q4 (fun _ _ _ h => h) (fun _ _ h => h)
    obtain ⟨b, a, r1, r2, r3, r4⟩ := e3'.at (i := 0) rfl
    have hn := e3'.num
    obtain ⟨cs, c1, c2⟩ := q2
    have hl := c1.len
    have hl2 := c2.1
    obtain ⟨v1, aa, v2, v3, _⟩ := c2.2 0 name ws rfl
    obtain ⟨bb, o, st, w1, w2, w3, _⟩ := Whole.block c1 (fun e => by subst e; simp at hl2)
    simp only [callK_s, castT_s, castL_c, castL_n, cast0, asSl, asI_s, List.getElem?_cons_zero, List.getElem?_cons_succ, optK_s, asSL_s, sEqS, beq_self_eq_true, if_true, decide_eq_true_eq]
    rw [if_pos (show ((so.n : Nat) : Int) = 1 by rw [hn]; rfl), r1]
    simp only [optK_s, ap, Nat.zero_add]
    rw [if_pos (show (0 : Int) ≤ 0 ∧ (0 : Int) < ((so.n : Nat) : Int) by rw [hn]; exact ⟨Int.le_refl _, by show (0 : Int) < ((1 : Nat) : Int); decide⟩), show H3.ld1 ⟨b, 1, none⟩ = some (.string (S mm)) from r3]
    simp only [optK_s, asS_s, sEqS, beq_self_eq_true, if_true]
    have hsp : sp.n = 1 := by simp at hl2; omega
    rw [if_pos (show ((sp.n : Nat) : Int) = 1 by omega), w1]
    simp only [optK_s, ap, Nat.zero_add]
    rw [if_pos (show (0 : Int) ≤ 0 ∧ (0 : Int) < ((sp.n : Nat) : Int) by omega)]
    have hcs : cs = [.string (S name), aa.v] := by
      match cs, hl2, v1, v2 with
      | [x, y], _, v1, v2 =>
        simp at v1 v2
        rw [v1, v2]
    have hld : Cm.ldA H3 ⟨bb, 0, none⟩ 2 = some (.agg #[.string (S name), aa.v]) := by
      unfold Cm.ldA
      rw [ldN_s w3 (by rw [hcs]; simp), hcs]
      rfl
    rw [hld]
    simp only [optK_s, asA_s]
    obtain ⟨H4, f1⟩ := Right_s d name ws aa H3 v3 p3
    rw [f1]
    exact ⟨H4, rfl⟩

/-- the presses of a run -/
theorem plain_press (d kk : Nat) (key : UInt8) (want : W) (hw : want.length ≤ 1048576) (x9 : Sl) (H : Heap) (P : Nat → Prop) (hf : Flag H kk t_cmd_Keys false) (hp : Prs H P x9 (flushed [] want)) :
    ∃ H', law24_CmdPlain_p1111111010 (d + 5) NN (key.toNat : Int) (some ⟨kk, 0, none⟩) (S []) (S want) x9 0 H = some (.bool true, H') := by
  obtain ⟨m, hm⟩ := NN_two
  have hn := hp.num
  rw [hm]
  by_cases h0 : want = []
  · subst h0
    rw [flushed, if_pos rfl] at hn
    exact plain_end d (m + 1) kk key [] x9 0 H hf (by simp at hn; omega)
  · rw [flushed, if_neg h0] at hn hp
    obtain ⟨b, a, r1, r2, r3, r4⟩ := hp.at (i := 0) rfl
    simp only [List.nil_append, List.length_cons, List.length_nil] at hn
    rw [law24_CmdPlain_p1111111010_s]
    simp only [decide_eq_true_eq]
    rw [if_pos (show (0 : Int) < ((x9.n : Nat) : Int) by omega), r1]
    simp only [optK_s, ap, Nat.zero_add]
    rw [if_pos (show (0 : Int) ≤ 0 ∧ (0 : Int) < ((x9.n : Nat) : Int) by omega), show H.ld1 ⟨b, (0 : Int).toNat * 2 + 1, none⟩ = some (.string (S [])) from r3]
    simp only [optK_s, asS_s, sEqS]
    rw [if_neg (by simp), if_pos (show (0 : Int) ≤ 0 ∧ (0 : Int) < ((x9.n : Nat) : Int) by omega), show H.ld1 ⟨b, (0 : Int).toNat * 2 + 0, none⟩ = some a.v from r2]
    simp only [optK_s, Sl.v, asSL_s]
    rw [show readD .bytesStr [.slice a.a a.n a.c] H = some (.string (S want)) from r4.str]
    simp only [optK_s, asS_s, slenS, sCatS, List.nil_append, List.length_nil]
    rw [if_pos (by omega), show IntKind.wrap .i64 (0 + 1) = 1 from rfl]
    exact plain_end d m kk key want x9 1 H hf (by omega)

theorem plain_loop (d kk B : Nat) (hkk : B ≤ kk) (key : UInt8) (x : Sl) (w : W) (hw : w.length ≤ 1048576) : ∀ (m i : Nat) (want : W) (H : Heap), i ≤ w.length → w.length - i < m → want.length ≤ i → (∀ c ∈ want, c.toNat ≠ 2) → Flag H kk t_cmd_Keys false → BA B H x w →
    ∃ H', law24_CmdPlain_p11111010 (d + 5) m x (key.toNat : Int) (some ⟨kk, 0, none⟩) (S []) (S want) (i : Int) H = some (.bool true, H') := by
  intro m
  induction m with
  | zero => intro i want H h1 h2; omega
  | succ m ih =>
    intro i want H hi hm hl hno hf hx
    have hxn := hx.1
    rw [law24_CmdPlain_p11111010_s]
    simp only [decide_eq_true_eq]
    by_cases h : i < w.length
    · rw [if_pos (by omega)]
      have hc : w[i]? = some w[i] := List.getElem?_eq_getElem h
      generalize w[i] = c at hc
      obtain ⟨b, o, e1, e2, e3⟩ := hx.2.2 i c hc
      rw [e2]
      simp only [optK_s, ap, Int.toNat_natCast, Nat.mul_one]
      rw [if_pos (by omega), e3]
      simp only [optK_s, asI_s]
      by_cases h2 : c.toNat = 2
      · rw [if_neg (by simp [h2]), law24_CmdPlain_p11111010011_eq, w64 (by omega), show ((i : Int) + 1) = ((i + 1 : Nat) : Int) by omega]
        exact ih (i + 1) want H (by omega) (by omega) (by omega) hno hf hx
      · rw [if_pos (by simp; omega), if_pos (by omega)]
        simp only [newK_s]
        have hb := new_bytes H [c] false false
        rw [show bytes [c] = [.int .u8 (c.toNat : Int)] from rfl] at hb
        have hs := hb.str
        simp only [Sl.v, List.length_cons, List.length_nil] at hs
        have k1 : Keep (fun _ => False) H (H.new (.cells [.int .u8 (c.toNat : Int)] t_uint8 false 0 false)) := Keep.new _ _
        rw [show readD .bytesStr [.slice (some ⟨H.next, 0, none⟩) 1 1] (H.new (.cells [.int .u8 (c.toNat : Int)] t_uint8 false 0 false)) = some (.string (S [c])) from hs]
        simp only [optK_s, asS_s, slenS, sCatS, List.length_cons, List.length_nil]
        rw [if_pos (by omega), law24_CmdPlain_p11111010011_eq, w64 (by omega), show ((i : Int) + 1) = ((i + 1 : Nat) : Int) by omega]
        refine ih (i + 1) (want ++ [c]) _ (by omega) (by omega) (by simp; omega) (fun y hy => ?_) (hf.keep k1 id) (hx.keep (k1.mono fun _ _ h => h.elim))
        rcases List.mem_append.1 hy with hy | hy
        · exact hno y hy
        · simp only [List.mem_singleton] at hy; subst hy; exact h2
    · rw [if_neg (by omega), lstS, slenS]
      simp only [newK_s]
      have hb := new_bytes H want true true
      have k1 : Keep (fun _ => False) H (H.new (.cells (bytes want) t_uint8 true 0 true)) := Keep.new _ _
      have hf1 := hf.keep k1 id
      obtain ⟨H2, so, g1, g2, g3, g4, g5⟩ := Feed_s (d + 3) kk ⟨some ⟨H.next, 0, none⟩, want.length, want.length⟩ want _ false hf1 hb (fun k hk => by
        obtain ⟨_, e, rfl⟩ := hk
        cases e
        show H.next ≠ kk
        have := hf.2
        omega) (by omega)
      have g1' : X (d + 5) n_cmd_Keys_Feed [.pointer (some ⟨kk, 0, none⟩), .slice (some ⟨H.next, 0, none⟩) want.length want.length] (H.new (.cells (want.map fun b => .int .u8 b.toNat) t_uint8 true 0 true)) = some (so.v, H2) := g1
      rw [g1']
      simp only [callK_s, Sl.v, asSL_s]
      rw [feed_run want [] [] hno] at g2 g3
      exact plain_press d kk key want (by omega) ⟨so.a, so.n, so.c⟩ H2 _ g2 g3

theorem CmdPlain_s (d : Nat) (x : Sl) (w : W) (key : UInt8) (H : Heap) (hw : w.length ≤ 1048576) (hx : BA H.next H x w) : ∃ H', X (d + 6) n_law24_CmdPlain [x.v, .int .u8 (key.toNat : Int)] H = some (.bool true, H') := by
  rw [law24_CmdPlain_eq, cmd_NewKeys_eq]
  simp only [newK_s, callK_s, show ∀ (K : Option Addr → Res), asP (P0 H.next) K = K (some ⟨H.next, 0, none⟩) from fun _ => rfl]
  rw [known_s]
  simp only [callK_s, asB_s]
  rw [if_neg (by simp), show (some (⟨H.next, 0, none⟩ : Addr)).isNone = false from rfl, law24_CmdPlain_p1101_eq, if_neg (by simp)]
  have k1 : Keep (fun _ => False) H (H.new (.cells [.bool false] t_cmd_Keys false 0 false)) := Keep.new _ _
  exact plain_loop d H.next H.next (Nat.le_refl _) key x w hw NN 0 [] _ (by omega) (NN_big _ (by omega)) (by simp) (fun c hc => by cases hc) ⟨by simp, by simp⟩ (hx.keep (k1.mono fun _ _ h => h.elim))
end Go.Proofs.YtnpmlgibjhjiiaaDoor.dec

namespace Go.Proofs.YtnpmlgibjhjiiaaDoor.frame
open Go Go.Cm Go.ChangeShapes Go.WideShapes Go.ChangeAt Go.RowKit

theorem own : ownKnob Tryd.prog.godebug = none := by kernel_rfl
theorem mixed : Tryd.prog.follows .mixedOrders = true := Tryd.checked.mixed

theorem one_le {H : Type} (d : DataW H) : 1 ≤ Rows.uptoBulk d := by
  cases d with
  | lit l => cases l <;> simp [Rows.uptoBulk]
  | _ => simp [Rows.uptoBulk]
theorem length_le {H : Type} (l : List (DataW H)) : l.length ≤ Rows.uptoBulkAll l := by
  induction l with
  | nil => simp [Rows.uptoBulkAll]
  | cons x r ih => have := one_le x; simp only [Rows.uptoBulkAll, List.length_cons]; omega

theorem known_ev : (match callD ⟨autoFn [] Tryd.prog, fun _ => none⟩ 1000 50 7 [] (heap0 0 fun _ => none) with
  | some (.bool b, _) => b
  | _ => false) = true := by kernel_rfl
theorem known : ∃ H1, callD ⟨autoFn [] Tryd.prog, fun _ => none⟩ 1000 50 7 [] (heap0 0 fun _ => none) = some (.bool true, H1) := by
  have h := known_ev
  split at h
  · rename_i b H1 e
    subst h
    exact ⟨H1, e⟩
  · cases h

theorem prog_ok (n0 : Nat) (w : World) : ProgOK Tryd.prog (startG ([] : List GW).length n0 w) [] dec.C := by
  refine ⟨fun g h => absurd h (List.not_mem_nil), fun _ _ h => autoC_ok h, fun f p h => ?_, fun _ hc _ => draw_ok mixed (fun g h => absurd h (List.not_mem_nil)) hc⟩
  unfold dec.C at h
  simp only at h
  split at h
  · rename_i e
    subst e
    simp only [Option.some.injEq] at h
    subst h
    obtain ⟨H1, hev⟩ := known
    have hk := sure_ok (w0 := startG ([] : List GW).length n0 w) mixed hev
    intro g vs vs' H v H' μ w' hc
    by_cases e : g = 7
    · subst e
      refine hk 7 vs vs' H v H' μ w' ?_
      simpa using hc
    · exact absurd hc (by simp [e])
  · cases h

theorem bytes_of {H : Type} {ws : List Win} {cs : List Value} {d : DataW H} (h : DR Tryd.prog ws 22 cs d) : ∃ (x : Sl) (w : dec.W), cs = [x.v] ∧ dec.BA (heapW ws).next (heapW ws) x w ∧ w.length ≤ Rows.uptoBulk d := by
  obtain ⟨x, es, rest, rfl, h1, _, h3, h4⟩ := h.slice_inv Tryd.underlying22
  have hc : Tryd.prog.cellsOf 5 = 1 := by kernel_rfl
  rw [hc] at h4
  have each : ∀ i, i < es.length → ∃ (n : UInt8) (b : Nat), b < ws.length ∧ x.a = some ⟨b, 0, none⟩ ∧ (heapW ws).ld1 ⟨b, i, none⟩ = some (.int .u8 (n.toNat : Int)) := by
    intro i hi
    obtain ⟨b, y, q1, q2, q3, q4⟩ := h4 i _ (List.getElem?_eq_getElem hi)
    obtain ⟨n, g1, _, g2⟩ := q4.int_inv Tryd.underlying5
    have hn : 0 ≤ n ∧ n ≤ 255 := by
      simp only [Lit.wf, decide_eq_true_eq, Bool.and_eq_true] at g2
      have e1 : IntKind.u8.min = 0 := by decide
      have e2 : IntKind.u8.max = 255 := by decide
      omega
    refine ⟨UInt8.ofNat n.toNat, b, (List.getElem?_eq_some_iff.1 q2).1, q1, ?_⟩
    rw [ld1_s (heapW_get q2)]
    rw [Nat.mul_one] at g1
    have e : ((UInt8.ofNat n.toNat).toNat : Int) = n := by simp; omega
    rw [e]
    have : ((y.cells.drop i).take 1)[0]? = some (.int .u8 n) := by rw [g1]; rfl
    simpa using this
  refine ⟨x, (List.range es.length).map fun i => if hi : i < es.length then (each i hi).choose else 0, rfl, ⟨by simp; omega, Nat.le_refl _, fun i n hn => ?_⟩, ?_⟩
  · have hlt := (List.getElem?_eq_some_iff.1 hn).1
    simp only [List.length_map, List.length_range] at hlt
    rw [List.getElem?_map, List.getElem?_range hlt] at hn
    simp only [Option.map_some, Option.some.injEq, dif_pos hlt] at hn
    subst hn
    obtain ⟨b, q0, q1, q2⟩ := (each i hlt).choose_spec
    exact ⟨b, 0, q0, q1, by rw [Nat.zero_add]; exact q2⟩
  · rcases h3 with ⟨rfl, rfl⟩ | rfl
    · simp
    · have := length_le es
      simp only [Rows.uptoBulk, List.length_map, List.length_range]; omega

theorem byte_of {H : Type} {ws : List Win} {cs : List Value} {d : DataW H} (h : DR Tryd.prog ws 5 cs d) : ∃ c : UInt8, cs = [.int .u8 (c.toNat : Int)] := by
  obtain ⟨n, g1, _, g2⟩ := h.int_inv Tryd.underlying5
  have hn : 0 ≤ n ∧ n ≤ 255 := by
    simp only [Lit.wf, decide_eq_true_eq, Bool.and_eq_true] at g2
    have e1 : IntKind.u8.min = 0 := by decide
    have e2 : IntKind.u8.max = 255 := by decide
    omega
  have e : ((UInt8.ofNat n.toNat).toNat : Int) = n := by simp; omega
  exact ⟨UInt8.ofNat n.toNat, by rw [e]; exact g1⟩
end Go.Proofs.YtnpmlgibjhjiiaaDoor.frame
