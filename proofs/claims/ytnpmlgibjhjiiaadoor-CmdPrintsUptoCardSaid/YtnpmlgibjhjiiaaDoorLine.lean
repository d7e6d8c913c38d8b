/-
  cmd: words, commands in memory; the small functions.
  And: cmd: the reader's functions. cmd: quoted words, the end of a command. cmd: the end of a command. cmd.Parse. cmd: what is printed is parsed to the same. No program in sight. cmd: a word, as it is shown. cmd.Keys: what keys are bound to; presses in memory. cmd.Keys: Feed, the program's and the reference's. cmd.Keys: Feed, the program's. cmd.Right at the commands that keys are bound to. cmd: numbers. Both read a line alike. cmd: strings.Join; what is printed. cmd: what is printed, word by word. cmd: what is printed, command by command. cmd: the law's commands. cmd: the law's commands, their last part. cmd: the law's commands, what is done to them last. cmd: the law's commands. cmd: a list of the law's commands; CmdBack. The reference's Print: what it computes. Right and Needs, of both: what they compute. Right and Needs, of both: whole. CmdPrints: what the call computes. cmd (door): what the laws' frames share.
-/
import Derived.Test.YtnpmlgibjhjiiaaDoorDec
import Derived.IntWalk
import Derived.Lib.Join
import Derived.Test.YtnpmlgibjhjiiaaDoorChecked
import Derived.Shelf.Strings.OnBuilder
import Derived.WalkKit
import Derived.Laws.IdiomStrings
import Derived.Deep.RegionWith
import Derived.Test.YtnpmlgibjhjiiaaDoorRows
import Derived.Test.YtnpmlgibjhjiiaaDoorCmG
import Derived.Test.YtnpmlgibjhjiiaaDoorShelf
import Derived.ChangeMaps5
import Derived.ChangeSlices
namespace Go.Proofs.YtnpmlgibjhjiiaaDoor.dec
open Go Go.Cm

attribute [local congr] optK_congr asI_congr asN_congr asB_congr asS_congr asP_congr asA_congr asSL_congr callK_congr castT_congr chk_congr
attribute [local simp] optK_s asI_s asN_s asB_s asS_s asP_s asA_s asSL_s callK_s chk_s newK_s castT_s castL_n castL_c cast0

abbrev W := List UInt8
abbrev Cmd := W × List W

theorem known_s (d : Nat) (H : Heap) : X (d + 1) n_law24_known [] H = some (.bool true, H) := by kernel_rfl

theorem w64 {n : Int} (h : -9223372036854775808 ≤ n ∧ n ≤ 9223372036854775807) : IntKind.i64.wrap n = n := IntWalk.i64_in n h

/-- a byte of a word without quotes -/
def plainB (c : UInt8) : Bool := decide (33 ≤ c.toNat) && decide (c.toNat ≤ 126) && !decide (c.toNat = 59) && !decide (c.toNat = 34) && !decide (c.toNat = 92)

theorem bt_of {s : ByteArray} {l : W} {i : Nat} {c : UInt8} (h : lst s = l) (hi : l[i]? = some c) : bt s i = (c.toNat : Int) := by
  unfold bt; rw [h, List.getD_eq_getElem?_getD, hi]; rfl

theorem plain_s (d : Nat) (c : UInt8) (H : Heap) : X (d + 1) n_cmd_plain [.int .u8 (c.toNat : Int)] H = some (.bool (plainB c), H) := by
  rw [cmd_plain_eq]
  have h0 : (33 ≤ (c.toNat : Int)) = (33 ≤ c.toNat) := by simp; omega
  have h1 : ((c.toNat : Int) ≤ 126) = (c.toNat ≤ 126) := by simp; omega
  have h2 : ((c.toNat : Int) = 59) = (c.toNat = 59) := by simp; omega
  have h3 : ((c.toNat : Int) = 34) = (c.toNat = 34) := by simp; omega
  have h4 : ((c.toNat : Int) = 92) = (c.toNat = 92) := by simp; omega
  simp only [h0, h1, h2, h3, h4, plainB]
  by_cases g0 : 33 ≤ c.toNat <;> by_cases g1 : c.toNat ≤ 126 <;> by_cases g2 : c.toNat = 59 <;> by_cases g3 : c.toNat = 34 <;> simp [g0, g1, g2, g3]

/-! ### in memory -/
def strs (l : List W) : List Value := l.map fun w => .string (S w)
def Words (H : Heap) (s : Sl) (l : List W) : Prop := Whole H s (strs l) t_string 1

/-- commands: name and words; the words' blocks are of P -/
def CmdL (H : Heap) (P : Nat → Prop) (cs : List Value) (L : List Cmd) : Prop :=
  cs.length = L.length * 2 ∧ ∀ (i : Nat) n ws, L[i]? = some (n, ws) → cs[i * 2]? = some (.string (S n)) ∧ ∃ a : Sl, cs[i * 2 + 1]? = some a.v ∧ Words H a ws ∧ ∀ k, a.at k → P k
def Cmds (H : Heap) (P : Nat → Prop) (s : Sl) (L : List Cmd) : Prop := ∃ cs, Whole H s cs t_cmd_Command 2 ∧ CmdL H P cs L

theorem CmdL.keep {S P : Nat → Prop} {H H' : Heap} {cs : List Value} {L : List Cmd} (h : CmdL H P cs L) (hk : Keep S H H') (hn : ∀ k, P k → ¬ S k) : CmdL H' P cs L :=
  ⟨h.1, fun i n ws hi => let ⟨h1, a, h2, h3, h4⟩ := h.2 i n ws hi; ⟨h1, a, h2, h3.keep hk (fun k hk => hn k (h4 k hk)), h4⟩⟩
theorem CmdL.mono {P Q : Nat → Prop} {H : Heap} {cs : List Value} {L : List Cmd} (h : CmdL H P cs L) (hn : ∀ k, k < H.next → P k → Q k) : CmdL H Q cs L :=
  ⟨h.1, fun i n ws hi => let ⟨h1, a, h2, h3, h4⟩ := h.2 i n ws hi; ⟨h1, a, h2, h3, fun k hk => hn k (h3.lt hk) (h4 k hk)⟩⟩
theorem CmdL.nil (H : Heap) (P : Nat → Prop) : CmdL H P [] [] := ⟨rfl, fun i n ws h => by simp at h⟩
theorem CmdL.snoc {P : Nat → Prop} {H : Heap} {cs : List Value} {L : List Cmd} (h : CmdL H P cs L) {n : W} {ws : List W} {a : Sl} (ha : Words H a ws) (hp : ∀ k, a.at k → P k) : CmdL H P (cs ++ [.string (S n), a.v]) (L ++ [(n, ws)]) := by
  refine ⟨by simp [h.1]; omega, fun i m bs hi => ?_⟩
  by_cases hlt : i < L.length
  · rw [List.getElem?_append_left hlt] at hi
    obtain ⟨h1, b, h2, h3⟩ := h.2 i m bs hi
    refine ⟨?_, b, ?_, h3⟩
    · rw [List.getElem?_append_left (by have := h.1; omega)]; exact h1
    · rw [List.getElem?_append_left (by have := h.1; omega)]; exact h2
  · have hi' : i = L.length := by
      have := (List.getElem?_eq_some_iff.1 hi).1
      simp at this; omega
    subst hi'
    simp at hi
    obtain ⟨rfl, rfl⟩ := hi
    refine ⟨?_, a, ?_, ha, hp⟩
    · rw [List.getElem?_append_right (by have := h.1; omega), h.1]; simp
    · rw [List.getElem?_append_right (by have := h.1; omega), h.1]; simp

theorem ldN_one {H : Heap} {b : Nat} {c : List Value} {e : TypeId} {o : Bool} {fz : Nat} {st : Bool} (h : H.get b = some (.cells c e o fz st)) (hn : c.length = 1) : H.ldN ⟨b, 0, none⟩ 1 = some c := by
  rw [ldN_s h (by omega)]; rw [List.drop_zero, List.take_of_length_le (by omega)]

end Go.Proofs.YtnpmlgibjhjiiaaDoor.dec

namespace Go.Proofs.YtnpmlgibjhjiiaaDoor.dec
open Go Go.Cm

attribute [local congr] optK_congr asI_congr asN_congr asB_congr asS_congr asP_congr asA_congr asSL_congr callK_congr castT_congr chk_congr
attribute [local simp] optK_s asI_s asN_s asB_s asS_s asP_s asA_s asSL_s callK_s chk_s newK_s castT_s castL_n castL_c cast0

/-- the reader -/
def Rd (H : Heap) (p : Nat) (s : W) (so sl : Sl) : Prop := H.get p = some (.cells [.string (S s), so.v, sl.v] t_cmd_reader false 0 false) ∧ p < H.next

theorem Rd.ld0 {H : Heap} {p : Nat} {s : W} {so sl : Sl} (h : Rd H p s so sl) : H.ld1 ⟨p, 0, none⟩ = some (.string (S s)) := by rw [ld1_s h.1]; rfl
theorem Rd.ld1 {H : Heap} {p : Nat} {s : W} {so sl : Sl} (h : Rd H p s so sl) : H.ld1 ⟨p, 1, none⟩ = some so.v := by rw [ld1_s h.1]; rfl
theorem Rd.ld2 {H : Heap} {p : Nat} {s : W} {so sl : Sl} (h : Rd H p s so sl) : H.ld1 ⟨p, 2, none⟩ = some sl.v := by rw [ld1_s h.1]; rfl
theorem Rd.st0 {H : Heap} {p : Nat} {s s' : W} {so sl : Sl} (h : Rd H p s so sl) : ∃ H', H.st1 ⟨p, 0, none⟩ (.string (S s')) = some H' ∧ Rd H' p s' so sl ∧ Keep (· = p) H H' :=
  ⟨_, st1_s h.1 (by simp) (Nat.le_refl _), ⟨by simp, h.2⟩, Keep.put _ _ _ rfl⟩
theorem Rd.st1 {H : Heap} {p : Nat} {s : W} {so so' sl : Sl} (h : Rd H p s so sl) : ∃ H', H.st1 ⟨p, 1, none⟩ so'.v = some H' ∧ Rd H' p s so' sl ∧ Keep (· = p) H H' :=
  ⟨_, st1_s h.1 (by simp) (by simp), ⟨by simp, h.2⟩, Keep.put _ _ _ rfl⟩
theorem Rd.st2 {H : Heap} {p : Nat} {s : W} {so sl sl' : Sl} (h : Rd H p s so sl) : ∃ H', H.st1 ⟨p, 2, none⟩ sl'.v = some H' ∧ Rd H' p s so sl' ∧ Keep (· = p) H H' :=
  ⟨_, st1_s h.1 (by simp) (by simp), ⟨by simp, h.2⟩, Keep.put _ _ _ rfl⟩
theorem Rd.keep {S : Nat → Prop} {H H' : Heap} {p : Nat} {s : W} {so sl : Sl} (h : Rd H p s so sl) (hk : Keep S H H') (hn : ¬ S p) : Rd H' p s so sl :=
  ⟨(hk.2 p h.2 hn).trans h.1, Nat.lt_of_lt_of_le h.2 hk.1⟩

theorem word_loop (d p : Nat) (s : W) (so sl : Sl) (H : Heap) (h : Rd H p s so sl) (hs : s.length ≤ 1048576) : ∀ (m i : Nat), i ≤ s.length → s.length - i < m →
    ∃ m', cmd_reader_word_p1100 (d + 1) m p (i : Int) H = cmd_reader_word_p1100001 (d + 1) m' p ((i + ((s.drop i).takeWhile plainB).length : Nat) : Int) false H := by
  intro m
  induction m with
  | zero => intro i h1 h2; omega
  | succ m ih =>
    intro i h1 h2
    rw [cmd_reader_word_p1100_s]
    simp only [h.ld0, optK_s, asS_s, slenS, decide_eq_true_eq]
    by_cases hi : i < s.length
    · have hc : s[i]? = some s[i] := List.getElem?_eq_getElem hi
      have hd : s.drop i = s[i] :: s.drop (i + 1) := by rw [List.drop_eq_getElem_cons hi]
      rw [if_pos (by omega), if_pos (by omega), Int.toNat_natCast, btS hc, plain_s]
      simp only [callK_s, asB_s]
      cases hp : plainB s[i] with
      | false => exact ⟨m, by rw [hd, List.takeWhile_cons, hp]; rfl⟩
      | true =>
        rw [cmd_reader_word_p1100001_eq]
        simp only [if_true]
        rw [w64 (by omega)]
        obtain ⟨m', hm⟩ := ih (i + 1) (by omega) (by omega)
        refine ⟨m', ?_⟩
        rw [show ((i : Int) + 1) = ((i + 1 : Nat) : Int) by omega, hm]
        simp only [hd, List.takeWhile_cons, hp, if_true, List.length_cons]
        congr 1
        omega
    · rw [if_neg (by omega)]
      exact ⟨m, by rw [List.drop_eq_nil_of_le (by omega)]; simp⟩

theorem NN_big (n : Nat) (h : n ≤ 3000000000) : n < NN := by rw [NN_eq]; omega

theorem word_s (d p : Nat) (s : W) (so sl : Sl) (l : List W) (H : Heap) (h : Rd H p s so sl) (hl : Words H sl l) (hp : ¬ sl.at p) (hs : s.length ≤ 1048576) (hn : l.length ≤ 1048576) :
    ∃ H' sl', X (d + 2) n_cmd_reader_word [P0 p] H = some (.bool (decide (0 < (s.takeWhile plainB).length)), H') ∧ Rd H' p (s.dropWhile plainB) so sl' ∧ Words H' sl' (l ++ [s.takeWhile plainB]) ∧
      Keep (fun k => k = p ∨ sl.at k) H H' ∧ ∀ k, sl'.at k → H.next ≤ k := by
  rw [cmd_reader_word_eq]
  obtain ⟨m', hm⟩ := word_loop d p s so sl H h hs NN 0 (by omega) (NN_big _ (by omega))
  rw [show (0 : Int) = ((0 : Nat) : Int) from rfl, hm, cmd_reader_word_p1100001_eq]
  simp only [Nat.zero_add, List.drop_zero, Bool.false_eq_true, if_false, h.ld2, h.ld0, optK_s, asS_s, asSL_s, newK_s, slenS, Int.toNat_natCast, sSubS]
  generalize hw : (s.takeWhile plainB).length = n
  have hle : n ≤ s.length := by rw [← hw]; exact (List.takeWhile_sublist _).length_le
  have hsplit : s.take n = s.takeWhile plainB ∧ s.drop n = s.dropWhile plainB := by
    have := List.takeWhile_append_dropWhile (p := plainB) (l := s)
    constructor
    · conv => lhs; rw [← this]
      rw [List.take_left' hw]
    · conv => lhs; rw [← this]
      rw [List.drop_left' hw]
  rw [if_pos (by omega)]
  have hlen := hl.len
  simp only [strs, List.length_map, Nat.mul_one] at hlen
  obtain ⟨s', H', e1, e2, e0, e3, e4, e5⟩ := push_whole (bytes := 16) (new := [.string (S (s.take n))]) hl rfl (by omega) (by omega) (by omega)
  have h1 : Rd (H.new (.cells [.string (S (s.take n))] t_string false 0 false)) p s so sl := h.keep (Keep.new (S := fun _ => False) _ _) id
  have h2 : Rd H' p s so sl := h1.keep e3 hp
  obtain ⟨H2, f1, f2, f3⟩ := h2.st2 (sl' := s')
  obtain ⟨H3, g1, g2, g3⟩ := f2.st0 (s' := s.drop n)
  have hat : ∀ k, s'.at k → H.next ≤ k := fun k hk => by have := e4 k hk; omega
  have hne : ¬ s'.at p := fun hk => by have := hat p hk; have := h.2; omega
  refine ⟨H3, s', ?_, hsplit.2 ▸ g2, ?_, ?_, hat⟩
  · rw [e1]
    simp only [asSL_s, f1, optK_s, f2.ld0, asS_s, slenS]
    rw [if_pos (by omega)]
    rw [sSubS, List.take_length, g1]
    simp [rdsOk, rdOk_2, rdAt, readD_ld, h.ld2, h1.ld2, same_sl, chk, optK_s]
  · have := (e2.keep f3 (fun k hk e => hne (e ▸ hk))).keep g3 (fun k hk e => hne (e ▸ hk))
    simpa [Words, strs, hsplit.1, sSubS] using this
  · refine Keep.trans (e0.mono fun k _ hk => .inr hk) ?_ (T := (· = p)) (fun _ _ h => .inl h)
    exact f3.trans g3 fun _ _ h => h
end Go.Proofs.YtnpmlgibjhjiiaaDoor.dec

namespace Go.Proofs.YtnpmlgibjhjiiaaDoor.dec
open Go Go.Cm

attribute [local congr] optK_congr asI_congr asN_congr asB_congr asS_congr asP_congr asA_congr asSL_congr callK_congr castT_congr chk_congr

/-- a quoted word behind its first quote: the word, and what is left -/
def quoted : W → Option (W × W)
  | [] => none
  | c :: r => if c.toNat < 32 ∨ 126 < c.toNat then none
    else if c.toNat = 34 then some ([], r)
    else if c.toNat = 92 then (match r with
      | [] => none
      | e :: r' => if e.toNat = 34 ∨ e.toNat = 92 then (quoted r').map fun q => (e :: q.1, q.2) else none)
    else (quoted r).map fun q => (c :: q.1, q.2)

theorem quoted_cons (c : UInt8) (r : W) : quoted (c :: r) = if c.toNat < 32 ∨ 126 < c.toNat then none
    else if c.toNat = 34 then some ([], r)
    else if c.toNat = 92 then (match r with
      | [] => none
      | e :: r' => if e.toNat = 34 ∨ e.toNat = 92 then (quoted r').map fun q => (e :: q.1, q.2) else none)
    else (quoted r).map fun q => (c :: q.1, q.2) := by
  conv => lhs; rw [quoted.eq_def]
  rfl

def bytes (l : W) : List Value := l.map fun b => .int .u8 (b.toNat : Int)
def Bytes (H : Heap) (s : Sl) (l : W) : Prop := Whole H s (bytes l) t_uint8 1

theorem bytesOf_bytes (l : W) : bytesOf (bytes l) = some l := by
  induction l with
  | nil => rfl
  | cons a l ih =>
    show (match bytesOf (bytes l) with | some r => some (UInt8.ofNat (a.toNat : Int).toNat :: r) | none => none) = _
    rw [ih]
    simp

theorem Bytes.str {H : Heap} {s : Sl} {l : W} (h : Bytes H s l) : readD .bytesStr [s.v] H = some (.string (S l)) := by
  rcases h with ⟨rfl, h2⟩ | ⟨b, n, rfl, h1, h2, o, st, h3⟩
  · have : l = [] := by cases l <;> simp [bytes] at h2 ⊢
    subst this; rfl
  · have hl : l.length = n := by simpa [bytes] using h1
    have : H.ldN ⟨b, 0, none⟩ n = some (bytes l) := by
      rw [ldN_s h3 (by simp [bytes]; omega), List.drop_zero, List.take_of_length_le (by simp [bytes]; omega)]
    simp only [readD, this, bytesOf_bytes]
    split
    · rename_i h0
      rw [List.eq_nil_of_length_eq_zero (hl.trans h0)]
    · rfl

theorem Bytes.push {H : Heap} {s : Sl} {l : W} (h : Bytes H s l) (c : UInt8) (hl : l.length ≤ 1000000000) :
    ∃ s' H', (∀ K, appendK t_uint8 1 1 false s.v (.slice (some ⟨H.next, 0, none⟩) 1 1) (H.new (.cells [.int .u8 (c.toNat : Int)] t_uint8 false 0 false)) K = K s'.v H') ∧ Bytes H' s' (l ++ [c]) ∧ Keep s.at H H' ∧ (∀ k, s'.at k → H.next < k) := by
  have hlen := h.len
  simp only [bytes, List.length_map, Nat.mul_one] at hlen
  obtain ⟨s', H', e1, e2, e3, _, e4, _⟩ := push_whole (bytes := 1) (new := [.int .u8 (c.toNat : Int)]) h rfl (by omega) (by omega) (by omega)
  exact ⟨s', H', e1, by simpa [Bytes, bytes] using e2, e3, e4⟩

theorem Words.push {H : Heap} {s : Sl} {l : List W} (h : Words H s l) (w : W) (hl : l.length ≤ 1048576) :
    ∃ s' H', (∀ K, appendK t_string 1 16 false s.v (.slice (some ⟨H.next, 0, none⟩) 1 1) (H.new (.cells [.string (S w)] t_string false 0 false)) K = K s'.v H') ∧ Words H' s' (l ++ [w]) ∧ Keep s.at H H' ∧
      Keep s.at (H.new (.cells [.string (S w)] t_string false 0 false)) H' ∧ (∀ k, s'.at k → H.next < k) := by
  have hlen := h.len
  simp only [strs, List.length_map, Nat.mul_one] at hlen
  obtain ⟨s', H', e1, e2, e3, e0, e4, _⟩ := push_whole (bytes := 16) (new := [.string (S w)]) h rfl (by omega) (by omega) (by omega)
  exact ⟨s', H', e1, by simpa [Words, strs] using e2, e3, e0, e4⟩

/-- what the quoted word's reader comes to -/
def QPost (B p : Nat) (so sl : Sl) (l : List W) (acc : W) (H : Heap) (q : Option (W × W)) (r : Res) : Prop := match q with
  | none => ∃ H', r = some (.bool false, H') ∧ Keep (fun k => k = p ∨ sl.at k ∨ B ≤ k) H H'
  | some (w, t) => ∃ H' sl', r = some (.bool true, H') ∧ Rd H' p t so sl' ∧ Words H' sl' (l ++ [acc ++ w]) ∧ Keep (fun k => k = p ∨ sl.at k ∨ B ≤ k) H H' ∧ ∀ k, sl'.at k → B ≤ k

theorem QPost.keep {B p : Nat} {so sl : Sl} {l : List W} {acc : W} {H H1 : Heap} {q : Option (W × W)} {r : Res} {c : UInt8} (h : QPost B p so sl l (acc ++ [c]) H1 q r) (hk : Keep (fun k => k = p ∨ sl.at k ∨ B ≤ k) H H1) :
    QPost B p so sl l acc H (q.map fun q => (c :: q.1, q.2)) r := by
  cases q with
  | none => obtain ⟨H', h1, h2⟩ := h; exact ⟨H', h1, hk.trans h2 fun _ _ h => h⟩
  | some q =>
    obtain ⟨w, t⟩ := q
    obtain ⟨H', sl', h1, h2, h3, h4, h5⟩ := h
    exact ⟨H', sl', h1, h2, by simpa using h3, hk.trans h4 fun _ _ h => h, h5⟩

theorem quoted_loop (d p B : Nat) (s : W) (so sl : Sl) (l : List W) (hs : s.length ≤ 1048576) (hl : l.length ≤ 1048576) (hpB : p < B) (hlB : ∀ k, sl.at k → k < B) (hlp : ¬ sl.at p) :
    ∀ (m i : Nat) (x3 : Sl) (acc : W) (H : Heap), i ≤ s.length → s.length - i < m → acc.length ≤ i → Rd H p s so sl → Words H sl l → Bytes H x3 acc → B ≤ H.next → (∀ k, x3.at k → B ≤ k) →
      QPost B p so sl l acc H (quoted (s.drop i)) (cmd_reader_quoted_p11010 d m p x3 (i : Int) H) := by
  intro m
  induction m with
  | zero => intro i x3 acc H h1 h2; omega
  | succ m ih =>
    intro i x3 acc H h1 h2 ha hr hw hb hB hx
    rw [cmd_reader_quoted_p11010_s]
    simp only [hr.ld0, optK_s, asS_s, slenS, decide_eq_true_eq]
    by_cases hi : i < s.length
    · have hc : s[i]? = some s[i] := List.getElem?_eq_getElem hi
      have hd : s.drop i = s[i] :: s.drop (i + 1) := by rw [List.drop_eq_getElem_cons hi]
      rw [if_pos (by omega), if_pos (by omega), Int.toNat_natCast, btS hc]
      generalize hcc : s[i] = c
      rw [hcc] at hc
      -- a byte is put behind
      have push : ∀ (j : Nat) (e : UInt8), i ≤ j → j < s.length → QPost B p so sl l acc H ((quoted (s.drop (j + 1))).map fun q => (e :: q.1, q.2)) (cmd_reader_quoted_p11010010011 d m p x3 (j : Int) (e.toNat : Int) H) := by
        intro j e hj hj2
        rw [cmd_reader_quoted_p11010010011_eq]
        simp only [newK_s]
        obtain ⟨s', H', e1, e2, e3, e4⟩ := hb.push e (by omega)
        rw [e1]
        simp only [asSL_s]
        rw [w64 (by omega), show ((j : Int) + 1) = ((j + 1 : Nat) : Int) by omega]
        have hk : Keep (fun k => k = p ∨ sl.at k ∨ B ≤ k) H H' := e3.mono fun k _ hk => .inr (.inr (hx k hk))
        refine QPost.keep (c := e) (ih (j + 1) s' (acc ++ [e]) H' (by omega) (by omega) (by simp; omega) (hr.keep e3 (fun h => by have := hx p h; omega)) (hw.keep e3 (fun k hk h => by have := hx k h; have := hlB k hk; omega)) e2 (by have := e3.1; omega) (fun k hk => by have := e4 k hk; omega)) hk
      have no : ∀ (j : Nat), QPost B p so sl l acc H none (some (.bool false, H)) := fun _ => ⟨H, rfl, Keep.refl _⟩
      by_cases g1 : c.toNat < 32
      · rw [if_pos (by omega), cmd_reader_quoted_p1101001001001_eq, if_pos rfl, hd, hcc, quoted_cons, if_pos (.inl g1)]
        exact no 0
      · rw [if_neg (by omega), cmd_reader_quoted_p1101001001001_eq]
        simp only [decide_eq_true_eq]
        by_cases g2 : 126 < c.toNat
        · rw [if_pos (by omega), hd, hcc, quoted_cons, if_pos (.inr g2)]
          exact no 0
        · rw [if_neg (by omega)]
          have hq : quoted (s.drop i) = if c.toNat = 34 then some ([], s.drop (i + 1)) else if c.toNat = 92 then (match s.drop (i + 1) with
              | [] => none
              | e :: r' => if e.toNat = 34 ∨ e.toNat = 92 then (quoted r').map fun q => (e :: q.1, q.2) else none)
            else (quoted (s.drop (i + 1))).map fun q => (c :: q.1, q.2) := by
            rw [hd, hcc, quoted_cons, if_neg (by omega)]
            rfl
          by_cases g3 : c.toNat = 34
          · rw [if_pos (by omega), hq, if_pos g3]
            simp only [hr.ld2, hb.str, optK_s, asS_s, asSL_s, newK_s]
            obtain ⟨s', H', e1, e2, e3, e0, e4⟩ := hw.push acc hl
            rw [e1]
            have h2 : Rd H' p s so sl := hr.keep e3 hlp
            obtain ⟨H2, f1, f2, f3⟩ := h2.st2 (sl' := s')
            obtain ⟨H3, q1, q2, q3⟩ := f2.st0 (s' := s.drop (i + 1))
            have hne : ¬ s'.at p := fun hk => by have := e4 p hk; omega
            have hr1 : Rd (H.new (.cells [.string (S acc)] t_string false 0 false)) p s so sl := hr.keep (Keep.new (S := fun _ => False) _ _) id
            refine ⟨H3, s', ?_, q2, ?_, ?_, fun k hk => by have := e4 k hk; omega⟩
            · simp only [asSL_s, f1, optK_s, f2.ld0, asS_s, slenS]
              rw [w64 (by omega), if_pos (by omega), show ((i : Int) + 1).toNat = i + 1 by omega, sSubS, List.take_length, q1]
              simp [rdsOk, rdOk_2, rdAt, readD_ld, hr.ld2, hr1.ld2, same_sl, chk, optK_s]
            · rw [List.append_nil]
              exact Whole.keep (Whole.keep e2 f3 (fun k hk e => hne (e ▸ hk))) q3 (fun k hk e => hne (e ▸ hk))
            · refine Keep.trans (e3.mono fun k _ hk => .inr (.inl hk)) ?_ (T := (· = p)) (fun _ _ h => .inl h)
              exact f3.trans q3 fun _ _ h => h
          · rw [if_neg (by omega)]
            rw [if_neg g3] at hq
            by_cases g4 : c.toNat = 92
            · rw [if_pos (by omega)]
              rw [if_pos g4] at hq
              simp only [hr.ld0, optK_s, asS_s, slenS]
              rw [w64 (by omega)]
              by_cases hj : i + 1 < s.length
              · have hc2 : s[i + 1]? = some s[i + 1] := List.getElem?_eq_getElem hj
                have hd2 : s.drop (i + 1) = s[i + 1] :: s.drop (i + 1 + 1) := by rw [List.drop_eq_getElem_cons hj]
                rw [if_neg (by omega), if_pos (by omega), show ((i : Int) + 1).toNat = i + 1 by omega, btS hc2]
                rw [hd2] at hq
                generalize hee : s[i + 1] = e at hq
                rw [hee] at hc2
                have fin : ∀ b : Bool, b = !(decide (e.toNat = 34) || decide (e.toNat = 92)) → QPost B p so sl l acc H (if e.toNat = 34 ∨ e.toNat = 92 then (quoted (s.drop (i + 1 + 1))).map fun q => (e :: q.1, q.2) else none)
                    (cmd_reader_quoted_p1101001001001011110101 d m p x3 ((i : Int) + 1) b H) := by
                  intro b hb'
                  rw [cmd_reader_quoted_p1101001001001011110101_eq]
                  simp only [hr.ld0, optK_s, asS_s, slenS]
                  by_cases g5 : e.toNat = 34 ∨ e.toNat = 92
                  · rw [if_pos g5, if_neg (by subst hb'; rcases g5 with g | g <;> simp [g]), if_pos (by omega), show ((i : Int) + 1).toNat = i + 1 by omega, btS hc2]
                    exact push (i + 1) e (by omega) hj
                  · rw [if_neg g5, if_pos (by subst hb'; simp at g5; simp [g5])]
                    exact no 0
                by_cases g6 : e.toNat = 34
                · rw [if_neg (by simp; omega), hq]
                  exact fin false (by simp [g6])
                · rw [if_pos (by simp; omega)]
                  rw [if_pos (by omega), hq]
                  refine fin _ ?_
                  simp [g6]
                  omega
              · have hj' : i + 1 = s.length := by omega
                rw [List.drop_eq_nil_of_le (by omega : s.length ≤ i + 1)] at hq
                rw [if_pos (by omega), hq, cmd_reader_quoted_p1101001001001011110101_eq, if_pos rfl]
                exact no 0
            · rw [if_neg (by omega), hq, if_neg g4]
              exact push i c (Nat.le_refl _) hi
    · rw [if_neg (by omega), List.drop_eq_nil_of_le (by omega)]
      exact ⟨H, rfl, Keep.refl _⟩

theorem quoted_s (d p : Nat) (s : W) (so sl : Sl) (l : List W) (H : Heap) (c : UInt8) (h : Rd H p (c :: s) so sl) (hl : Words H sl l) (hp : ¬ sl.at p) (hs : s.length ≤ 1048575) (hn : l.length ≤ 1048576) :
    QPost H.next p so sl l [] H (quoted s) (X (d + 1) n_cmd_reader_quoted [P0 p] H) := by
  rw [cmd_reader_quoted_eq]
  exact quoted_loop d p H.next (c :: s) so sl l (by simp; omega) hn h.2 (fun k hk => Whole.lt hl hk) hp NN 1 Sl.nil [] H (by simp) (NN_big _ (by simp; omega)) (by simp) h hl (Whole.nil _ _ _) (Nat.le_refl _) (fun k hk => absurd hk Sl.at_nil)
end Go.Proofs.YtnpmlgibjhjiiaaDoor.dec

namespace Go.Proofs.YtnpmlgibjhjiiaaDoor.dec
open Go Go.Cm

attribute [local congr] optK_congr asI_congr asN_congr asB_congr asS_congr asP_congr asA_congr asSL_congr callK_congr castT_congr chk_congr

theorem Whole.block {H : Heap} {s : Sl} {cs : List Value} {e : TypeId} {sz : Nat} (h : Whole H s cs e sz) (hne : cs ≠ []) : ∃ b o st, s = ⟨some ⟨b, 0, none⟩, s.n, s.n⟩ ∧ cs.length = s.n * sz ∧ H.get b = some (.cells cs e o 0 st) ∧ s.at b := by
  rcases h with ⟨_, h⟩ | ⟨b, n, rfl, h1, _, o, st, h2⟩
  · exact absurd h hne
  · exact ⟨b, o, st, rfl, h1, h2, _, rfl, rfl⟩

/-- the words behind the first -/
theorem Words.tail {H : Heap} {s : Sl} {w : W} {ws : List W} (h : Words H s (w :: ws)) : ∃ b, s = ⟨some ⟨b, 0, none⟩, ws.length + 1, ws.length + 1⟩ ∧ H.ld1 ⟨b, 0, none⟩ = some (.string (S w)) ∧
    readD (.subSl t_string 1 true false false) [.slice (some ⟨b, 0, none⟩) (ws.length + 1) (ws.length + 1), .int .i64 1] H = some (.slice (some ⟨b, 1, none⟩) ws.length ws.length) ∧ srcCells H 1 ws.length (.slice (some ⟨b, 1, none⟩) ws.length ws.length) = some (strs ws) := by
  obtain ⟨b, o, st, h1, h2, h3, h4⟩ := Whole.block h (by simp [strs])
  have hn : s.n = ws.length + 1 := by simp [strs] at h2; omega
  refine ⟨b, by rw [h1, hn], by rw [ld1_s h3]; rfl, ?_, ?_⟩
  · have ho : H.opnOk b t_string = true := by simp [Heap.opnOk, h3]
    simp only [readD, asSl, bnds, asN_s]
    rw [if_pos (by omega)]
    simp [chk, ho, ap]
  · simp only [srcCells]
    by_cases hz : ws.length = 0
    · rw [if_pos hz, List.eq_nil_of_length_eq_zero hz]; rfl
    · rw [if_neg hz, ldN_s h3 (by simp [strs]; omega)]
      simp [strs]
      rw [List.take_of_length_le (by simp)]

/-- the commands, and the words' blocks: above p, below the commands' own -/
def InP (p : Nat) (so : Sl) (k : Nat) : Prop := p < k ∧ ∃ j, so.at j ∧ k < j

def ends (L : List Cmd) (l : List W) : List Cmd := match l with
  | [] => L
  | w :: ws => L ++ [(w, ws)]

theorem ends_s (d p : Nat) (s : W) (so sl : Sl) (L : List Cmd) (l : List W) (H : Heap) (h : Rd H p s so sl) (hc : Cmds H (InP p so) so L) (hl : Words H sl l) (hso : ∀ j, so.at j → p < j) (hsl : ∀ k, sl.at k → p < k ∧ ∀ j, so.at j → j < k)
    (hn : l.length ≤ 1048576) (hL : L.length ≤ 1048576) :
    ∃ H' so', X (d + 1) n_cmd_reader_ends [P0 p] H = some (.tuple #[], H') ∧ Rd H' p s so' Sl.nil ∧ Cmds H' (InP p so') so' (ends L l) ∧ (∀ j, so'.at j → p < j) ∧ Keep (fun k => p ≤ k) H H' := by
  have last : ∀ H1 so', Rd H1 p s so' sl → ∀ L', Cmds H1 (InP p so') so' L' → (∀ j, so'.at j → p < j) → Keep (fun k => p ≤ k) H H1 →
      ∃ H', cmd_reader_ends_p1 d p H1 = some (.tuple #[], H') ∧ Rd H' p s so' Sl.nil ∧ Cmds H' (InP p so') so' L' ∧ (∀ j, so'.at j → p < j) ∧ Keep (fun k => p ≤ k) H H' := by
    intro H1 so' r1 L' c1 s1 k1
    obtain ⟨H2, e1, e2, e3⟩ := r1.st2 (sl' := Sl.nil)
    obtain ⟨cs, c2, c3⟩ := c1
    refine ⟨H2, ?_, e2, ⟨cs, c2.keep e3 (fun k hk e => by have := s1 k hk; omega), c3.keep e3 (fun k hk e => by have := hk.1; omega)⟩, s1, k1.trans e3 (fun k _ e => by omega)⟩
    rw [cmd_reader_ends_p1_eq]
    simp only [e1, optK_s]
  rw [cmd_reader_ends_eq]
  have hlen := hl.len
  simp only [strs, List.length_map, Nat.mul_one] at hlen
  simp only [h.ld2, optK_s, asSL_s, decide_eq_true_eq]
  cases l with
  | nil =>
    rw [if_neg (by simp at hlen; omega)]
    obtain ⟨H', h1, h2⟩ := last H so h L hc hso (Keep.refl _)
    exact ⟨H', so, h1, h2⟩
  | cons w ws =>
    simp only [List.length_cons] at hn hlen
    rw [if_pos (by omega)]
    obtain ⟨b, rfl, b4, b5, b6⟩ := Words.tail hl
    obtain ⟨cs, c2, c3⟩ := hc
    have hkn : ∀ o, Keep (fun _ => False) H (H.new o) := fun o => Keep.new _ _
    have hH11 := hkn (.cells [] t_string false 0 false)
    have r11 := h.keep hH11 id
    have l11 := hl.keep hH11 (fun _ _ h => h)
    obtain ⟨b', e', d4, d5, d6⟩ := Words.tail l11
    cases e'
    simp only [h.ld1, b4, optK_s, asSL_s, asS_s, newK_s, ap, Nat.add_zero, r11.ld2, d5]
    rw [if_pos (by omega)]
    have hempty : Whole (H.new (.cells [] t_string false 0 false)) ⟨some ⟨H.next, 0, none⟩, 0, 0⟩ [] t_string 1 := .inr ⟨H.next, 0, rfl, rfl, by simp, false, false, by simp⟩
    obtain ⟨a, H17, e1, e2, e3, e4, _, _⟩ := append_whole (bytes := 16) (str := false) (n := ws.length) hempty rfl d6 (by simp [strs]) (by show (0 + ws.length) * 16 ≤ _; omega) (by omega) (by omega)
    rw [e1]
    simp only [asSL_s]
    have ha : ∀ k, a.at k → H.next ≤ k := fun k hk => by
      rcases e4 k hk with ⟨_, e, rfl⟩ | h
      · cases e; exact Nat.le_refl _
      · simp at h; omega
    have k17 : Keep (fun _ => False) H H17 := ⟨by have := e3.1; simp at this; omega, fun k hk _ => (e3.2 k (by simp; omega) (fun ⟨_, e, e'⟩ => by cases e; simp at e'; omega)).trans (Heap.get_new_ne _ _ (by omega))⟩
    have c17 : Whole H17 so cs t_cmd_Command 2 := c2.keep k17 (fun _ _ h => h)
    have hcl := c2.len
    have hcl2 := c3.1
    obtain ⟨so', H22, f1, f2, f3, f4, f5, _⟩ := push_whole (bytes := 40) (new := [.string (S w), a.v]) c17 rfl (by omega) (by omega) (by omega)
    rw [f1]
    simp only [asSL_s]
    have r17 := h.keep k17 id
    have r20 := r17.keep (Keep.new (S := fun _ => False) _ (.cells [.string (S w), a.v] t_cmd_Command false 0 false)) id
    have r22 := r17.keep f3 (fun hk => by have := hso p hk; omega)
    obtain ⟨H24, g1, g2, g3⟩ := r22.st1 (so' := so')
    simp only [g1, optK_s]
    have l17 := hl.keep k17 (fun _ _ h => h)
    obtain ⟨b', e', q4, _, _⟩ := Words.tail l17
    cases e'
    have hrd : rdsOk [H, H.new (.cells [] t_string false 0 false), H17, H17.new (.cells [.string (S w), a.v] t_cmd_Command false 0 false), H22, H24] [⟨.subSl t_string 1 true false false, [.slice (some ⟨b, 0, none⟩) (ws.length + 1) (ws.length + 1), .int .i64 1], .slice (some ⟨b, 1, none⟩) ws.length ws.length, 0, 1⟩, ⟨.load 1 false, [.pointer (some ⟨p, 2, none⟩)], .slice (some ⟨b, 0, none⟩) (ws.length + 1) (ws.length + 1), 0, 1⟩, ⟨.load 1 false, [.pointer (some ⟨b, 0, none⟩)], .string (S w), 0, 2⟩, ⟨.load 1 false, [.pointer (some ⟨p, 2, none⟩)], .slice (some ⟨b, 0, none⟩) (ws.length + 1) (ws.length + 1), 0, 2⟩, ⟨.load 1 false, [.pointer (some ⟨p, 1, none⟩)], so.v, 0, 3⟩] = true := by
      simp [rdsOk, rdOk_2, rdOk_3, rdOk_4, rdAt, readD_ld, b5, d5, h.ld2, r11.ld2, b4, d4, q4, r17.ld2, h.ld1, r11.ld1, r17.ld1, r20.ld1, same_sl, same_str]
    rw [hrd]
    simp only [chk_s]
    have hk22 : Keep (fun k => p ≤ k) H H22 := Keep.trans (k17.mono (fun _ _ h => h.elim)) f3 (fun k _ hk => by have := hso k hk; omega)
    have hnext : H.next ≤ H17.next := k17.1
    have so'lt : ∀ j, so'.at j → H17.next < j := f5
    obtain ⟨bo, _, _, _, _, _, hbo⟩ := Whole.block f2 (by simp)
    refine (last H24 so' g2 _ ?_ (fun j hj => by have := so'lt j hj; have := h.2; omega) (hk22.trans g3 (fun k _ e => by omega))).imp fun H' hh => ⟨so', hh⟩
    have cl17 : CmdL H17 (InP p so) cs L := c3.keep k17 (fun _ _ h => h)
    have cl22 : CmdL H22 (InP p so) cs L := cl17.keep f3 (fun k hk hk' => by
      obtain ⟨j, hj, hkj⟩ := hk.2
      obtain ⟨a1, q1, q2⟩ := hj
      obtain ⟨a2, q3, q4⟩ := hk'
      rw [q1] at q3; cases q3; omega)
    have cl22' : CmdL H22 (InP p so') cs L := cl22.mono (fun k _ hk => ⟨hk.1, bo, hbo, by
      obtain ⟨j, hj, hkj⟩ := hk.2
      have := c17.lt hj
      have := so'lt bo hbo
      omega⟩)
    have a17 : Words H17 a ws := by simpa [Words] using e2
    have a22 : Words H22 a ws := a17.keep f3 (fun k hk hk' => by have := ha k hk; have := c2.lt hk'; omega)
    have fin : CmdL H22 (InP p so') (cs ++ [.string (S w), a.v]) (L ++ [(w, ws)]) := cl22'.snoc a22 (fun k hk => ⟨by have := ha k hk; have := h.2; omega, bo, hbo, by have := a17.lt hk; have := so'lt bo hbo; omega⟩)
    refine ⟨_, f2.keep g3 (fun k hk e => by have := so'lt k hk; have := h.2; omega), fin.keep g3 (fun k hk e => by have := hk.1; omega)⟩
end Go.Proofs.YtnpmlgibjhjiiaaDoor.dec

namespace Go.Proofs.YtnpmlgibjhjiiaaDoor.dec
open Go Go.Cm

attribute [local congr] optK_congr asI_congr asN_congr asB_congr asS_congr asP_congr asA_congr asSL_congr callK_congr castT_congr chk_congr

/-- may a word end here? -/
def done : W → Bool
  | [] => true
  | c :: _ => decide (c.toNat = 32) || decide (c.toNat = 59)
/-- what a line says, behind commands and words -/
def parse : Nat → W → List Cmd → List W → Option (List Cmd)
  | 0, _, _, _ => none
  | _ + 1, [], L, l => some (ends L l)
  | f + 1, c :: r, L, l =>
    if c.toNat = 32 then parse f r L l
    else if c.toNat = 59 then parse f r (ends L l) []
    else if c.toNat = 34 then (match quoted r with
      | none => none
      | some (w, t) => if done t = true then parse f t L (l ++ [w]) else none)
    else if 0 < ((c :: r).takeWhile plainB).length ∧ done ((c :: r).dropWhile plainB) = true then parse f ((c :: r).dropWhile plainB) L (l ++ [(c :: r).takeWhile plainB]) else none

theorem quoted_len : ∀ (n : Nat) (r w t : W), r.length ≤ n → quoted r = some (w, t) → t.length < r.length := by
  intro n
  induction n with
  | zero =>
    intro r w t h h1
    have : r = [] := List.eq_nil_of_length_eq_zero (by omega)
    subst this
    simp [quoted] at h1
  | succ n ih =>
    intro r w t h h1
    cases r with
    | nil => simp [quoted] at h1
    | cons c r =>
      rw [quoted_cons] at h1
      simp only [List.length_cons] at h ⊢
      split at h1
      · cases h1
      · split at h1
        · cases h1; omega
        · split at h1
          · cases r with
            | nil => cases h1
            | cons e r' =>
              simp only at h1
              split at h1
              · obtain ⟨⟨w', t'⟩, h2, h3⟩ := Option.map_eq_some_iff.1 h1
                simp only [Prod.mk.injEq] at h3
                obtain ⟨_, rfl⟩ := h3
                simp only [List.length_cons] at h ⊢
                have := ih r' w' t' (by omega) h2
                omega
              · cases h1
          · obtain ⟨⟨w', t'⟩, h2, h3⟩ := Option.map_eq_some_iff.1 h1
            simp only [Prod.mk.injEq] at h3
            obtain ⟨_, rfl⟩ := h3
            have := ih r w' t' (by omega) h2
            omega

theorem drop_len (c : UInt8) (r : W) (h : 0 < ((c :: r).takeWhile plainB).length) : ((c :: r).dropWhile plainB).length < (c :: r).length := by
  have := congrArg List.length (List.takeWhile_append_dropWhile (p := plainB) (l := c :: r))
  simp only [List.length_append] at this
  omega

/-- what a line's reader comes to -/
def PPost (H0 : Heap) (q : Option (List Cmd)) (r : Res) : Prop := match q with
  | none => ∃ H', r = some (.tuple #[.slice none 0 0, .int .i64 5], H') ∧ Keep (fun _ => False) H0 H'
  | some L => ∃ H' so, r = some (.tuple #[so.v, .int .i64 0], H') ∧ Cmds H' (fun k => H0.next ≤ k) so L ∧ (∀ j, so.at j → H0.next ≤ j) ∧ Keep (fun _ => False) H0 H'

theorem done_step (d m p : Nat) (t : W) (so sl : Sl) (H : Heap) (h : Rd H p t so sl) :
    cmd_Parse_p1110001011 d m p true H = if done t = true then cmd_Parse_p11100 d m p H else some (.tuple #[.slice none 0 0, .int .i64 5], H) := by
  rw [cmd_Parse_p1110001011_eq]
  simp only [h.ld0, optK_s, asS_s, slenS, sEqS]
  cases t with
  | nil =>
    rw [if_neg (by simp), if_neg (by simp), cmd_Parse_p111000101101_eq, if_neg (by simp), show done [] = true from rfl, if_pos rfl]
  | cons c r =>
    have hb : bt (S (c :: r)) 0 = (c.toNat : Int) := btS rfl
    rw [if_neg (by simp), if_pos (by simp), if_pos (by simp)]
    rw [hb]
    have e32 : decide ((c.toNat : Int) = 32) = decide (c.toNat = 32) := by simp; omega
    have e59 : decide ((c.toNat : Int) = 59) = decide (c.toNat = 59) := by simp; omega
    rw [e32, e59, show done (c :: r) = (decide (c.toNat = 32) || decide (c.toNat = 59)) from rfl]
    by_cases g : c.toNat = 32
    · simp [g, cmd_Parse_p111000101101_eq]
    · by_cases g2 : c.toNat = 59
      · simp [g2, cmd_Parse_p111000101101_eq]
      · simp [g, g2, cmd_Parse_p111000101101_eq]

theorem not_step (d m p : Nat) (H : Heap) : cmd_Parse_p1110001011 d m p false H = some (.tuple #[.slice none 0 0, .int .i64 5], H) := by
  rw [cmd_Parse_p1110001011_eq, if_pos (show (!false) = true from rfl), cmd_Parse_p111000101101_eq, if_pos rfl]

theorem parse_loop (d p : Nat) (H0 : Heap) (hp : H0.next ≤ p) : ∀ (m f : Nat) (s : W) (L : List Cmd) (l : List W) (H : Heap) (so sl : Sl), s.length < m → s.length < f → L.length + l.length + s.length ≤ 1000 →
    Rd H p s so sl → Cmds H (InP p so) so L → Words H sl l → (∀ j, so.at j → p < j) → (∀ k, sl.at k → p < k ∧ ∀ j, so.at j → j < k) → Keep (fun _ => False) H0 H →
    PPost H0 (parse f s L l) (cmd_Parse_p11100 (d + 2) m p H) := by
  intro m
  induction m with
  | zero => intro f s L l H so sl h1; omega
  | succ m ih =>
    intro f s L l H so sl h1 h2 hb hr hc hl hso hsl hk
    obtain ⟨f, rfl⟩ : ∃ g, f = g + 1 := ⟨f - 1, by omega⟩
    have base : ∀ {H1 : Heap}, Keep (fun k => p ≤ k) H H1 → Keep (fun _ => False) H0 H1 := fun k1 => hk.trans k1 (fun k q1 q2 => by omega)
    rw [cmd_Parse_p11100_s]
    simp only [hr.ld0, optK_s, asS_s, slenS, sEqS]
    cases s with
    | nil =>
      rw [if_neg (by simp)]
      obtain ⟨H', so', e1, e2, e3, e4, e5⟩ := ends_s (d + 1) p [] so sl L l H hr hc hl hso hsl (by omega) (by omega)
      rw [e1]
      simp only [callK_s, e2.ld1, optK_s, asSL_s, parse]
      obtain ⟨cs, c1, c2⟩ := e3
      exact ⟨H', so', rfl, ⟨cs, c1, c2.mono (fun k _ hk => by have := hk.1; omega)⟩, fun j hj => by have := e4 j hj; omega, base e5⟩
    | cons c r =>
      have hbt : bt (S (c :: r)) 0 = (c.toNat : Int) := btS rfl
      simp only [List.length_cons] at h1 h2 hb
      rw [if_pos (by simp), if_pos (by simp)]
      simp only [hbt, decide_eq_true_eq, parse, List.length_cons]
      by_cases g1 : c.toNat = 32
      · rw [if_pos g1, if_pos (show (c.toNat : Int) = 32 by omega)]
        obtain ⟨H', e1, e2, e3⟩ := hr.st0 (s' := r)
        rw [if_pos (by omega), sSubS, show (List.drop 1 (List.take (r.length + 1) (c :: r))) = r by simp, e1]
        simp only [optK_s]
        obtain ⟨cs, c1, c2⟩ := hc
        exact ih f r L l H' so sl (by omega) (by omega) (by omega) e2 ⟨cs, c1.keep e3 (fun k hk e => by have := hso k hk; omega), c2.keep e3 (fun k hk e => by have := hk.1; omega)⟩ (hl.keep e3 (fun k hk e => by have := (hsl k hk).1; omega)) hso hsl (base (e3.mono fun k _ e => by omega))
      · rw [if_neg g1, if_neg (show ¬ (c.toNat : Int) = 32 by omega)]
        by_cases g2 : c.toNat = 59
        · rw [if_pos g2, if_pos (show (c.toNat : Int) = 59 by omega)]
          obtain ⟨H', e1, e2, e3⟩ := hr.st0 (s' := r)
          rw [if_pos (by omega), sSubS, show (List.drop 1 (List.take (r.length + 1) (c :: r))) = r by simp, e1]
          simp only [optK_s]
          obtain ⟨cs, c1, c2⟩ := hc
          obtain ⟨H2, so', q1, q2, q3, q4, q5⟩ := ends_s (d + 1) p r so sl L l H' e2 ⟨cs, c1.keep e3 (fun k hk e => by have := hso k hk; omega), c2.keep e3 (fun k hk e => by have := hk.1; omega)⟩ (hl.keep e3 (fun k hk e => by have := (hsl k hk).1; omega)) hso hsl (by omega) (by omega)
          rw [q1]
          simp only [callK_s]
          refine ih f r (ends L l) [] H2 so' Sl.nil (by omega) (by omega) ?_ q2 q3 (Whole.nil _ _ _) q4 (fun k hk => absurd hk Sl.at_nil) (base ((e3.mono fun k _ e => by omega).trans q5 (fun _ _ h => h)))
          cases l <;> simp [ends] at hb ⊢ <;> omega
        · rw [if_neg g2, if_neg (show ¬ (c.toNat : Int) = 59 by omega)]
          by_cases g3 : c.toNat = 34
          · rw [if_pos g3, if_pos (show (c.toNat : Int) = 34 by omega)]
            have hq := quoted_s (d + 1) p r so sl l H c hr hl (fun h => by have := (hsl p h).1; omega) (by omega) (by omega)
            cases hqr : quoted r with
            | none =>
              rw [hqr] at hq
              obtain ⟨H', e1, e2⟩ := hq
              rw [e1]
              simp only [callK_s, asB_s]
              rw [not_step]
              exact ⟨H', rfl, base (e2.mono fun k q h => by rcases h with h | h | h; omega; have := (hsl k h).1; omega; omega)⟩
            | some q =>
              obtain ⟨w, t⟩ := q
              rw [hqr] at hq
              obtain ⟨H', sl', e1, e2, e3, e4, e5⟩ := hq
              rw [e1]
              simp only [callK_s, asB_s]
              rw [done_step _ _ _ _ _ _ _ e2]
              have hkb : Keep (fun _ => False) H0 H' := base (e4.mono fun k q h => by rcases h with h | h | h; omega; have := (hsl k h).1; omega; omega)
              by_cases gd : done t = true
              · rw [if_pos gd, if_pos gd]
                have := quoted_len _ r w t (Nat.le_refl _) hqr
                obtain ⟨cs, c1, c2⟩ := hc
                have hsn : ∀ k, so.at k → ¬ (k = p ∨ sl.at k ∨ H.next ≤ k) := fun k hk h => by
                  have := hso k hk
                  rcases h with h | h | h
                  · omega
                  · have := (hsl k h).2 k hk; omega
                  · have := c1.lt hk; omega
                refine ih f t L (l ++ [w]) H' so sl' (by omega) (by omega) (by simp; omega) e2 ⟨cs, c1.keep e4 hsn, ?_⟩ (by simpa using e3) hso (fun k hk => ⟨by have := e5 k hk; have := hr.2; omega, fun j hj => by have := e5 k hk; have := c1.lt hj; omega⟩) hkb
                refine c2.keep e4 (fun k hk h => ?_)
                obtain ⟨j, hj, hkj⟩ := hk.2
                have := c1.lt hj
                rcases h with h | h | h
                · have := hk.1; omega
                · have := (hsl k h).2 j hj; omega
                · omega
              · rw [if_neg gd, if_neg gd]
                exact ⟨H', rfl, hkb⟩
          · rw [if_neg g3, if_neg (show ¬ (c.toNat : Int) = 34 by omega)]
            obtain ⟨H', sl', e1, e2, e3, e4, e5⟩ := word_s d p (c :: r) so sl l H hr hl (fun h => by have := (hsl p h).1; omega) (by simp; omega) (by omega)
            rw [e1]
            simp only [callK_s, asB_s]
            have hkb : Keep (fun _ => False) H0 H' := base (e4.mono fun k q h => by rcases h with h | h; omega; have := (hsl k h).1; omega)
            by_cases g4 : 0 < ((c :: r).takeWhile plainB).length
            · rw [show decide (0 < ((c :: r).takeWhile plainB).length) = true from decide_eq_true g4, done_step _ _ _ _ _ _ _ e2]
              by_cases gd : done ((c :: r).dropWhile plainB) = true
              · rw [if_pos gd, if_pos ⟨g4, gd⟩]
                have := drop_len c r g4
                simp only [List.length_cons] at this
                obtain ⟨cs, c1, c2⟩ := hc
                have hsn : ∀ k, so.at k → ¬ (k = p ∨ sl.at k) := fun k hk h => by
                  have := hso k hk
                  rcases h with h | h
                  · omega
                  · have := (hsl k h).2 k hk; omega
                refine ih f _ L _ H' so sl' (by omega) (by omega) (by simp only [List.length_append, List.length_cons, List.length_nil]; omega) e2 ⟨cs, c1.keep e4 hsn, ?_⟩ e3 hso (fun k hk => ⟨by have := e5 k hk; have := hr.2; omega, fun j hj => by have := e5 k hk; have := c1.lt hj; omega⟩) hkb
                refine c2.keep e4 (fun k hk h => ?_)
                obtain ⟨j, hj, hkj⟩ := hk.2
                rcases h with h | h
                · have := hk.1; omega
                · have := (hsl k h).2 j hj; omega
              · rw [if_neg gd, if_neg (fun h => gd h.2)]
                exact ⟨H', rfl, hkb⟩
            · rw [show decide (0 < ((c :: r).takeWhile plainB).length) = false from decide_eq_false g4, not_step, if_neg (fun h => g4 h.1)]
              exact ⟨H', rfl, hkb⟩

/-- THE PROGRAM's Parse. -/
theorem Parse_s (d : Nat) (s : W) (H : Heap) (hs : s.length ≤ 400) : PPost H (parse (s.length + 1) s [] []) (X (d + 3) n_cmd_Parse [.string (S s)] H) := by
  rw [cmd_Parse_eq]
  simp only [slenS, decide_eq_true_eq, newK_s]
  rw [if_neg (by omega)]
  refine parse_loop d H.next H (Nat.le_refl _) NN (s.length + 1) s [] [] _ Sl.nil Sl.nil (NN_big _ (by omega)) (by omega) (by simp; omega) ⟨by simp, by simp⟩ ⟨[], Whole.nil _ _ _, CmdL.nil _ _⟩ (Whole.nil _ _ _) (fun k hk => absurd hk Sl.at_nil) (fun k hk => absurd hk Sl.at_nil) (Keep.new _ _)
theorem Parse_long (d : Nat) (s : W) (H : Heap) (hs : 400 < s.length) : X (d + 3) n_cmd_Parse [.string (S s)] H = some (.tuple #[.slice none 0 0, .int .i64 6], H) := by
  rw [cmd_Parse_eq]
  simp only [slenS, decide_eq_true_eq, newK_s]
  rw [if_pos (by omega)]
end Go.Proofs.YtnpmlgibjhjiiaaDoor.dec

namespace Go.Proofs.YtnpmlgibjhjiiaaDoor.dec
open Go Go.Cm

/-- a byte that may stand in a line -/
def okB (c : UInt8) : Bool := decide (32 ≤ c.toNat) && decide (c.toNat ≤ 126)
/-- a byte between quotes -/
def escB (c : UInt8) : W := if c.toNat = 34 ∨ c.toNat = 92 then [92, c] else [c]
def escs (s : W) : W := s.flatMap escB
def quotes (s : W) : Bool := s.isEmpty || s.any fun c => !plainB c
/-- a word as it is printed -/
def shownW (s : W) : Option W := if s.all okB = true then some (if quotes s = true then 34 :: escs s ++ [34] else escs s) else none

theorem quoted_escs (t : W) : ∀ s : W, s.all okB = true → quoted (escs s ++ 34 :: t) = some (s, t) := by
  intro s
  induction s with
  | nil => intro _; simp [escs, quoted_cons]
  | cons c s ih =>
    intro h
    simp only [List.all_cons, Bool.and_eq_true] at h
    have hi := ih h.2
    have hc := h.1
    simp only [okB, Bool.and_eq_true, decide_eq_true_eq] at hc
    have e0 : escs (c :: s) = escB c ++ escs s := by simp [escs]
    rw [e0, List.append_assoc]
    by_cases hq : c.toNat = 34 ∨ c.toNat = 92
    · rw [show escB c = [92, c] from if_pos hq]
      show quoted (92 :: c :: (escs s ++ 34 :: t)) = _
      rw [quoted_cons, if_neg (by decide), if_neg (by decide), if_pos (by decide)]
      simp only [if_pos hq, hi, Option.map_some]
    · rw [show escB c = [c] from if_neg hq]
      show quoted (c :: (escs s ++ 34 :: t)) = _
      rw [quoted_cons, if_neg (by omega), if_neg (by omega), if_neg (by omega), hi]
      rfl

theorem plain_ok {c : UInt8} (h : plainB c = true) : c.toNat ≠ 32 ∧ c.toNat ≠ 59 ∧ c.toNat ≠ 34 ∧ c.toNat ≠ 92 := by
  simp only [plainB, Bool.and_eq_true, decide_eq_true_eq, Bool.not_eq_true', decide_eq_false_iff_not] at h
  omega

theorem escs_plain : ∀ s : W, (∀ c ∈ s, plainB c = true) → escs s = s := by
  intro s
  induction s with
  | nil => intro _; rfl
  | cons c s ih =>
    intro h
    have e0 : escs (c :: s) = escB c ++ escs s := by simp [escs]
    obtain ⟨_, _, h1, h2⟩ := plain_ok (h c (by simp))
    rw [e0, ih fun x hx => h x (by simp [hx]), show escB c = [c] from if_neg (by omega)]
    rfl

theorem take_plain : ∀ (s t : W), (∀ c ∈ s, plainB c = true) → done t = true → (s ++ t).takeWhile plainB = s ∧ (s ++ t).dropWhile plainB = t := by
  intro s t h hd
  have h0 : t.takeWhile plainB = [] ∧ t.dropWhile plainB = t := by
    cases t with
    | nil => exact ⟨rfl, rfl⟩
    | cons c t =>
      simp only [done, Bool.or_eq_true, decide_eq_true_eq] at hd
      have : plainB c = false := by
        cases hp : plainB c with
        | false => rfl
        | true => have := plain_ok hp; omega
      simp [this]
  induction s with
  | nil => simpa using h0
  | cons c s ih =>
    have := ih fun x hx => h x (by simp [hx])
    simp [h c (by simp), this]

theorem quotes_not {s : W} (h : quotes s = false) : s ≠ [] ∧ ∀ c ∈ s, plainB c = true := by
  simp only [quotes, Bool.or_eq_false_iff, List.any_eq_false, Bool.not_eq_true', Bool.not_eq_false] at h
  refine ⟨fun e => by subst e; simp at h, fun c hc => ?_⟩
  have := h.2 c hc
  simpa using this

/-- one word of a line -/
theorem parse_word {s v : W} (h : shownW s = some v) {t : W} (ht : done t = true) (L : List Cmd) (l : List W) (f : Nat) : parse (f + 1) (v ++ t) L l = parse f t L (l ++ [s]) ∧ v ≠ [] := by
  unfold shownW at h
  split at h
  · rename_i hok
    simp only [Option.some.injEq] at h
    subst h
    cases hq : quotes s with
    | true =>
      simp only [if_true]
      refine ⟨?_, by simp⟩
      show parse (f + 1) (34 :: (escs s ++ [34] ++ t)) L l = _
      rw [List.append_assoc, parse, if_neg (by decide), if_neg (by decide), if_pos (by decide)]
      show (match quoted (escs s ++ 34 :: t) with
        | none => none
        | some (w, t) => if done t = true then parse f t L (l ++ [w]) else none) = _
      rw [quoted_escs t s hok]
      simp only [if_pos ht]
    | false =>
      simp only [Bool.false_eq_true, if_false]
      obtain ⟨h1, h2⟩ := quotes_not hq
      rw [escs_plain s h2]
      refine ⟨?_, h1⟩
      cases s with
      | nil => exact absurd rfl h1
      | cons c s =>
        obtain ⟨p1, p2, p3, p4⟩ := plain_ok (h2 c (by simp))
        obtain ⟨q1, q2⟩ := take_plain (c :: s) t h2 ht
        show parse (f + 1) (c :: (s ++ t)) L l = _
        rw [parse, if_neg p1, if_neg p2, if_neg p3]
        rw [List.cons_append] at q1 q2
        rw [q1, q2, if_pos ⟨by simp, ht⟩]
  · cases h
end Go.Proofs.YtnpmlgibjhjiiaaDoor.dec

namespace Go.Proofs.YtnpmlgibjhjiiaaDoor.dec
open Go Go.Cm

attribute [local congr] optK_congr asI_congr asN_congr asB_congr asS_congr asP_congr asA_congr asSL_congr callK_congr castT_congr chk_congr
attribute [local simp] optK_s asI_s asN_s asB_s asS_s asP_s asA_s asSL_s callK_s chk_s newK_s castT_s castL_n castL_c cast0

def wrapQ (q : Bool) (x : W) : W := if q = true then 34 :: x ++ [34] else x
def shRes (q : Bool) (acc t : W) : Array Value := if t.all okB = true then #[.string (S (wrapQ (q || t.any fun c => !plainB c) (acc ++ escs t))), .bool true] else #[.string (S []), .bool false]

theorem escs_len : ∀ s : W, (escs s).length ≤ 2 * s.length := by
  intro s
  induction s with
  | nil => simp [escs]
  | cons c s ih =>
    have e0 : escs (c :: s) = escB c ++ escs s := by simp [escs]
    rw [e0, List.length_append, List.length_cons]
    have : (escB c).length ≤ 2 := by unfold escB; split <;> simp
    omega

theorem shRes_cons {q : Bool} {acc t : W} {c : UInt8} (h : okB c = true) : shRes (q || !plainB c) (acc ++ escB c) t = shRes q acc (c :: t) := by
  have e0 : escs (c :: t) = escB c ++ escs t := by simp [escs]
  simp only [shRes, List.all_cons, h, Bool.true_and, List.any_cons, Bool.or_assoc, e0, List.append_assoc]

theorem shown_loop (d B : Nat) (s : W) (hs : s.length ≤ 100000000) : ∀ (m i : Nat) (q : Bool) (x5 : Sl) (acc : W) (H : Heap), i ≤ s.length → s.length - i < m → acc.length ≤ 2 * i → Bytes H x5 acc → B ≤ H.next → (∀ k, x5.at k → B ≤ k) → s.length ≤ 100000000 →
    ∃ H', cmd_shown_p111010 (d + 1) m (S s) q x5 (i : Int) H = some (.tuple (shRes q acc (s.drop i)), H') ∧ Keep (fun k => B ≤ k) H H' := by
  intro m
  induction m with
  | zero => intro i q x5 acc H h1 h2; omega
  | succ m ih =>
    intro i q x5 acc H h1 h2 ha hb hB hx hs5
    rw [cmd_shown_p111010_s]
    simp only [slenS, decide_eq_true_eq]
    by_cases hi : i < s.length
    · have hc : s[i]? = some s[i] := List.getElem?_eq_getElem hi
      have hd : s.drop i = s[i] :: s.drop (i + 1) := by rw [List.drop_eq_getElem_cons hi]
      rw [if_pos (by omega), if_pos (by omega), Int.toNat_natCast, btS hc]
      generalize hcc : s[i] = c
      rw [hcc] at hc hd
      -- the byte itself
      have last : ∀ (q' : Bool) (y : Sl) (acc' : W) (H1 : Heap), Keep (fun k => B ≤ k) H H1 → Bytes H1 y acc' → (∀ k, y.at k → B ≤ k) → acc' ++ [c] = acc ++ escB c → q' = (q || !plainB c) → okB c = true →
          ∃ H', cmd_shown_p111010010011101 (d + 1) m (S s) q' y (i : Int) (c.toNat : Int) H1 = some (.tuple (shRes q acc (s.drop i)), H') ∧ Keep (fun k => B ≤ k) H H' := by
        intro q' y acc' H1 hk hy hyB he hq hok
        have hlen : acc'.length ≤ 2 * i + 1 := by
          have := congrArg List.length he
          have h2 : (escB c).length ≤ 2 := by unfold escB; split <;> simp
          simp only [List.length_append, List.length_singleton] at this
          omega
        rw [cmd_shown_p111010010011101_eq]
        simp only [newK_s]
        obtain ⟨s', H', e1, e2, e3, e4⟩ := hy.push c (by omega)
        rw [e1]
        simp only [asSL_s]
        rw [w64 (by omega), show ((i : Int) + 1) = ((i + 1 : Nat) : Int) by omega]
        have hn := hk.1
        have h2 := (escs_len [c])
        have hk2 : Keep (fun k => B ≤ k) H H' := hk.trans (e3.mono fun k _ h => hyB k h) fun _ _ h => h
        obtain ⟨H2, f1, f2⟩ := ih (i + 1) q' s' (acc' ++ [c]) H' (by omega) (by omega) (by
          rw [he, List.length_append]
          have h2 : (escB c).length ≤ 2 := by unfold escB; split <;> simp
          omega) e2 (by have := hk2.1; omega) (fun k hk => by have := e4 k hk; omega) hs5
        refine ⟨H2, ?_, hk2.trans f2 fun _ _ h => h⟩
        rw [f1, he, hq, shRes_cons hok, hd]
      have step : ∀ q' : Bool, q' = (q || !plainB c) → okB c = true → ∃ H', cmd_shown_p1110100100111 (d + 1) m (S s) q' x5 (i : Int) (c.toNat : Int) H = some (.tuple (shRes q acc (s.drop i)), H') ∧ Keep (fun k => B ≤ k) H H' := by
        intro q' hq hok
        have esc : ∀ b : Bool, b = (decide (c.toNat = 34) || decide (c.toNat = 92)) → ∃ H', cmd_shown_p1110100100111001 (d + 1) m (S s) q' x5 (i : Int) (c.toNat : Int) b H = some (.tuple (shRes q acc (s.drop i)), H') ∧ Keep (fun k => B ≤ k) H H' := by
          intro b hb'
          rw [cmd_shown_p1110100100111001_eq]
          by_cases g : c.toNat = 34 ∨ c.toNat = 92
          · rw [if_pos (by subst hb'; rcases g with g | g <;> simp [g])]
            simp only [newK_s]
            obtain ⟨s', H', e1, e2, e3, e4⟩ := hb.push 92 (by omega)
            have e1' := e1
            rw [show (((92 : UInt8).toNat : Int)) = 92 from rfl] at e1'
            rw [e1']
            simp only [asSL_s]
            exact last q' s' (acc ++ [92]) H' (e3.mono fun k _ h => hx k h) e2 (fun k hk => by have := e4 k hk; omega) (by simp [escB, g]) hq hok
          · rw [if_neg (by subst hb'; simp at g; simp [g])]
            exact last q' x5 acc H (Keep.refl _) hb hx (by simp [escB, g]) hq hok
        rw [cmd_shown_p1110100100111_eq]
        by_cases g : c.toNat = 34
        · rw [if_pos (by simp; omega)]
          exact esc true (by simp [g])
        · rw [if_neg (by simp; omega)]
          refine esc _ ?_
          simp [g]
          omega
      by_cases g1 : c.toNat < 32
      · rw [if_pos (by omega), cmd_shown_p1110100100101_eq, if_pos rfl]
        refine ⟨H, ?_, Keep.refl _⟩
        have : okB c = false := by simp [okB]; omega
        simp [shRes, hd, this]
      · rw [if_neg (by omega), cmd_shown_p1110100100101_eq]
        simp only [decide_eq_true_eq]
        by_cases g2 : 126 < c.toNat
        · rw [if_pos (by omega)]
          refine ⟨H, ?_, Keep.refl _⟩
          have : okB c = false := by simp [okB]; omega
          simp [shRes, hd, this]
        · rw [if_neg (by omega)]
          have hok : okB c = true := by simp [okB]; omega
          cases q with
          | true => rw [if_pos rfl]; exact step true (by simp) hok
          | false =>
            rw [if_neg (by simp), plain_s]
            simp only [callK_s, asB_s]
            exact step _ (by simp) hok
    · rw [if_neg (by omega), List.drop_eq_nil_of_le (by omega)]
      have e : shRes q acc [] = #[.string (S (wrapQ q acc)), .bool true] := by simp [shRes, escs]
      rw [e]
      refine ⟨H, ?_, Keep.refl _⟩
      cases q with
      | true =>
        rw [if_pos rfl, hb.str]
        simp only [optK_s, asS_s, slenS, sCatS]
        rw [if_pos (by simp; omega), if_pos (by simp; omega)]
        simp [wrapQ]
      | false =>
        rw [if_neg (by simp), hb.str]
        simp [wrapQ]

theorem shown_s (d : Nat) (s : W) (H : Heap) (hs : s.length ≤ 100000000) : ∃ H', X (d + 2) n_cmd_shown [.string (S s)] H = some (.tuple (match shownW s with
    | some v => #[.string (S v), .bool true]
    | none => #[.string (S []), .bool false]), H') ∧ Keep (fun _ => False) H H' := by
  rw [cmd_shown_eq]
  obtain ⟨H', h1, h2⟩ := shown_loop d H.next s (by omega) NN 0 (sEq (S s) (S [])) Sl.nil [] H (by omega) (NN_big _ (by omega)) (by simp) (Whole.nil _ _ _) (Nat.le_refl _) (fun k hk => by obtain ⟨_, h, _⟩ := hk; cases h) hs
  refine ⟨H', ?_, h2.mono fun k hk h => by omega⟩
  rw [show (0 : Int) = ((0 : Nat) : Int) from rfl, h1, sEqS]
  unfold shownW shRes
  rw [List.drop_zero, List.nil_append]
  by_cases hok : s.all okB = true
  · rw [if_pos hok, if_pos hok]
    have : (s == [] || s.any fun c => !plainB c) = quotes s := by
      unfold quotes
      cases s <;> simp
    simp only [this, wrapQ]
  · rw [if_neg hok, if_neg hok]
end Go.Proofs.YtnpmlgibjhjiiaaDoor.dec

namespace Go.Proofs.YtnpmlgibjhjiiaaDoor.dec
open Go Go.Cm

attribute [local congr] optK_congr asI_congr asN_congr asB_congr asS_congr asP_congr asA_congr asSL_congr callK_congr castT_congr chk_congr

def InQ (B : Nat) (so : Sl) (k : Nat) : Prop := B ≤ k ∧ ∃ j, so.at j ∧ k < j

/-- a key's command -/
def bound (c : UInt8) : Option W :=
  if c.toNat = 99 then some [110, 101, 119, 45, 119, 105, 110, 100, 111, 119]
  else if c.toNat = 38 then some [107, 105, 108, 108, 45, 119, 105, 110, 100, 111, 119]
  else if c.toNat = 37 then some [115, 112, 108, 105, 116, 45, 119, 105, 110, 100, 111, 119, 32, 45, 104]
  else if c.toNat = 34 then some [115, 112, 108, 105, 116, 45, 119, 105, 110, 100, 111, 119, 32, 45, 118]
  else if c.toNat = 120 then some [107, 105, 108, 108, 45, 112, 97, 110, 101]
  else if c.toNat = 122 then some [122, 111, 111, 109]
  else if c.toNat = 111 then some [115, 101, 108, 101, 99, 116, 45, 112, 97, 110, 101, 32, 48]
  else if c.toNat = 93 then some [112, 97, 115, 116, 101, 32, 48]
  else if 48 ≤ c.toNat ∧ c.toNat ≤ 57 then some [115, 101, 108, 101, 99, 116, 45, 112, 97, 110, 101, 32, c]
  else none
/-- as both tell it -/
def told (q : Option W) : Value := match q with
  | some w => .tuple #[.string (S w), .bool true]
  | none => .tuple #[.string (S []), .bool false]

theorem enc_digit (c : UInt8) (h : 48 ≤ c.toNat ∧ c.toNat ≤ 57) : Utf8.encode (IntKind.wrap .i32 (c.toNat : Int)) = S [c] := by
  have : c.toNat = 48 ∨ c.toNat = 49 ∨ c.toNat = 50 ∨ c.toNat = 51 ∨ c.toNat = 52 ∨ c.toNat = 53 ∨ c.toNat = 54 ∨ c.toNat = 55 ∨ c.toNat = 56 ∨ c.toNat = 57 := by omega
  have hc : c = UInt8.ofNat c.toNat := by simp
  rcases this with h | h | h | h | h | h | h | h | h | h <;> (rw [h] at hc; subst hc; decide)

theorem u8eq (c : UInt8) (n : Nat) (m : Int) (h : m = n) : ((c.toNat : Int) = m) = (c.toNat = n) := by
  subst h
  simp only [eq_iff_iff]
  omega

theorem Bound_s (d : Nat) (c : UInt8) (H : Heap) : X (d + 1) n_cmd_Bound [.int .u8 (c.toNat : Int)] H = some (told (bound c), H) := by
  rw [cmd_Bound_eq]
  simp only [decide_eq_true_eq, bound]
  simp only [u8eq c 99 99 rfl, u8eq c 38 38 rfl, u8eq c 37 37 rfl, u8eq c 34 34 rfl, u8eq c 120 120 rfl, u8eq c 122 122 rfl, u8eq c 111 111 rfl, u8eq c 93 93 rfl]
  split
  · rfl
  split
  · rfl
  split
  · rfl
  split
  · rfl
  split
  · rfl
  split
  · rfl
  split
  · rfl
  split
  · rfl
  by_cases g : 48 ≤ c.toNat
  · rw [if_pos (show (48 : Int) ≤ (c.toNat : Int) by omega), cmd_Bound_p1101_eq]
    by_cases g2 : c.toNat ≤ 57
    · rw [if_pos (show decide ((c.toNat : Int) ≤ 57) = true from decide_eq_true (by omega)), if_pos (show 48 ≤ c.toNat ∧ c.toNat ≤ 57 from ⟨g, g2⟩), enc_digit c ⟨g, g2⟩]
      simp only [slenS, sCatS]
      rw [if_pos (by simp)]
      rfl
    · rw [if_neg (show ¬ decide ((c.toNat : Int) ≤ 57) = true by simp; omega), if_neg (fun h => g2 h.2)]
      rfl
  · rw [if_neg (show ¬ (48 : Int) ≤ (c.toNat : Int) by omega), cmd_Bound_p1101_eq, if_neg (by simp), if_neg (fun h => g h.1)]
    rfl

/-! ### presses -/
abbrev Pr := W × W
/-- presses: input and command; the inputs' blocks are of P -/
def PrL (H : Heap) (P : Nat → Prop) (cs : List Value) (L : List Pr) : Prop :=
  cs.length = L.length * 2 ∧ ∀ (i : Nat) n m, L[i]? = some (n, m) → ∃ a : Sl, cs[i * 2]? = some a.v ∧ cs[i * 2 + 1]? = some (.string (S m)) ∧ Bytes H a n ∧ ∀ k, a.at k → P k
def Prs (H : Heap) (P : Nat → Prop) (s : Sl) (L : List Pr) : Prop := ∃ cs, Whole H s cs t_cmd_Press 2 ∧ PrL H P cs L

theorem PrL.keep {S P : Nat → Prop} {H H' : Heap} {cs : List Value} {L : List Pr} (h : PrL H P cs L) (hk : Keep S H H') (hn : ∀ k, P k → ¬ S k) : PrL H' P cs L :=
  ⟨h.1, fun i n m hi => let ⟨a, h1, h2, h3, h4⟩ := h.2 i n m hi; ⟨a, h1, h2, h3.keep hk (fun k hk => hn k (h4 k hk)), h4⟩⟩
theorem PrL.mono {P Q : Nat → Prop} {H : Heap} {cs : List Value} {L : List Pr} (h : PrL H P cs L) (hn : ∀ k, k < H.next → P k → Q k) : PrL H Q cs L :=
  ⟨h.1, fun i n m hi => let ⟨a, h1, h2, h3, h4⟩ := h.2 i n m hi; ⟨a, h1, h2, h3, fun k hk => hn k (h3.lt hk) (h4 k hk)⟩⟩
theorem PrL.nil (H : Heap) (P : Nat → Prop) : PrL H P [] [] := ⟨rfl, fun i n m h => by simp at h⟩
theorem PrL.snoc {P : Nat → Prop} {H : Heap} {cs : List Value} {L : List Pr} (h : PrL H P cs L) {n m : W} {a : Sl} (ha : Bytes H a n) (hp : ∀ k, a.at k → P k) : PrL H P (cs ++ [a.v, .string (S m)]) (L ++ [(n, m)]) := by
  refine ⟨by simp [h.1]; omega, fun i n' m' hi => ?_⟩
  by_cases hlt : i < L.length
  · rw [List.getElem?_append_left hlt] at hi
    obtain ⟨b, h1, h2, h3⟩ := h.2 i n' m' hi
    refine ⟨b, ?_, ?_, h3⟩
    · rw [List.getElem?_append_left (by have := h.1; omega)]; exact h1
    · rw [List.getElem?_append_left (by have := h.1; omega)]; exact h2
  · have hi' : i = L.length := by
      have := (List.getElem?_eq_some_iff.1 hi).1
      simp at this; omega
    subst hi'
    simp at hi
    obtain ⟨rfl, rfl⟩ := hi
    refine ⟨a, ?_, ?_, ha, hp⟩
    · rw [List.getElem?_append_right (by have := h.1; omega), h.1]; simp
    · rw [List.getElem?_append_right (by have := h.1; omega), h.1]; simp

/-- a state of a reader of keys: presses, and the run of input that has not ended; blocks from B on, the run's block above the presses' own, which is above the inputs' -/
structure KS (B : Nat) (H : Heap) (so sr : Sl) (L : List Pr) (run : W) : Prop where
  prs : Prs H (InQ B so) so L
  rn : Bytes H sr run
  out : ∀ j, so.at j → B ≤ j
  ord : ∀ k, sr.at k → B ≤ k ∧ ∀ j, so.at j → j < k

/-- one more press -/
theorem KS.press {B : Nat} {H : Heap} {so sr : Sl} {L : List Pr} {run : W} (h : KS B H so sr L run) {a : Sl} {n m : W} (ha : Bytes H a n) (haB : ∀ k, a.at k → B ≤ k ∧ ¬ so.at k) (hL : L.length ≤ 4000000) (hB : B ≤ H.next) :
    ∃ so' H', (∀ K, appendK t_cmd_Press 2 40 false so.v (.slice (some ⟨H.next, 0, none⟩) 1 1) (H.new (.cells [a.v, .string (S m)] t_cmd_Press false 0 false)) K = K so'.v H') ∧
      KS B H' so' Sl.nil (L ++ [(n, m)]) [] ∧ Keep so.at H H' ∧ ∀ j, so'.at j → H.next < j := by
  obtain ⟨cs, c1, c2⟩ := h.prs
  have hcl := c1.len
  have hcl2 := c2.1
  obtain ⟨so', H', f1, f2, f3, f4, f5, _⟩ := push_whole (bytes := 40) (new := [a.v, .string (S m)]) c1 rfl (by omega) (by omega) (by omega)
  obtain ⟨bo, _, _, _, _, _, hbo⟩ := Whole.block f2 (by simp)
  have k1 : PrL H' (InQ B so') cs L := by
    have q := c2.keep f3 (fun k hk hk' => by
      obtain ⟨j, hj, hkj⟩ := hk.2
      obtain ⟨a1, q1, q2⟩ := hj
      obtain ⟨a2, q3, q4⟩ := hk'
      rw [q1] at q3; cases q3; omega)
    exact q.mono (fun k _ hk => ⟨hk.1, bo, hbo, by
      obtain ⟨j, hj, hkj⟩ := hk.2
      have := c1.lt hj
      have := f5 bo hbo
      omega⟩)
  have ha' : Bytes H' a n := ha.keep f3 (fun k hk => (haB k hk).2)
  refine ⟨so', H', f1, ⟨⟨_, f2, k1.snoc ha' (fun k hk => ⟨(haB k hk).1, bo, hbo, by have := ha.lt hk; have := f5 bo hbo; omega⟩)⟩, Whole.nil _ _ _, fun j hj => by have := f5 j hj; omega, fun k hk => absurd hk Sl.at_nil⟩, f3, f5⟩

/-- one more byte of input -/
theorem KS.byte {B : Nat} {H : Heap} {so sr : Sl} {L : List Pr} {run : W} (h : KS B H so sr L run) (c : UInt8) (hn : run.length ≤ 1048576) (hB : B ≤ H.next) :
    ∃ sr' H', (∀ K, appendK t_uint8 1 1 false sr.v (.slice (some ⟨H.next, 0, none⟩) 1 1) (H.new (.cells [.int .u8 (c.toNat : Int)] t_uint8 false 0 false)) K = K sr'.v H') ∧
      KS B H' so sr' L (run ++ [c]) ∧ Keep sr.at H H' := by
  obtain ⟨sr', H', e1, e2, e3, e4⟩ := h.rn.push c (by omega)
  obtain ⟨cs, c1, c2⟩ := h.prs
  refine ⟨sr', H', e1, ⟨⟨cs, c1.keep e3 (fun k hk hk' => by have := (h.ord k hk').2 k hk; omega), c2.keep e3 (fun k hk hk' => ?_)⟩, e2, h.out, fun k hk => ⟨by have := e4 k hk; omega, fun j hj => by have := e4 k hk; have := c1.lt hj; omega⟩⟩, e3⟩
  obtain ⟨j, hj, hkj⟩ := hk.2
  have := (h.ord k hk').2 j hj
  omega

/-- kept -/
theorem KS.keep {B : Nat} {S : Nat → Prop} {H H' : Heap} {so sr : Sl} {L : List Pr} {run : W} (h : KS B H so sr L run) (hk : Keep S H H') (hn : ∀ k, S k → k < B) : KS B H' so sr L run := by
  obtain ⟨cs, c1, c2⟩ := h.prs
  exact ⟨⟨cs, c1.keep hk (fun k q q' => by have := h.out k q; have := hn k q'; omega), c2.keep hk (fun k q q' => by have := q.1; have := hn k q'; omega)⟩, h.rn.keep hk (fun k q q' => by have := (h.ord k q).1; have := hn k q'; omega), h.out, h.ord⟩

def flushed (L : List Pr) (run : W) : List Pr := if run = [] then L else L ++ [(run, [])]
/-- what bytes come to: is a prefix ahead; presses; the run -/
def feed : Bool → List Pr → W → W → Bool × List Pr
  | a, L, run, [] => (a, flushed L run)
  | a, L, run, c :: r =>
    if a = false ∧ c.toNat = 2 then feed true L run r
    else if a = false ∨ c.toNat = 2 then feed false L (run ++ [c]) r
    else match bound c with
      | some m => feed false (flushed L run ++ [([], m)]) [] r
      | none => feed false L run r

end Go.Proofs.YtnpmlgibjhjiiaaDoor.dec

namespace Go.Proofs.YtnpmlgibjhjiiaaDoor.dec
open Go Go.Cm

attribute [local congr] optK_congr asI_congr asN_congr asB_congr asS_congr asP_congr asA_congr asSL_congr callK_congr castT_congr chk_congr

/-- a block of one truth -/
def Flag (H : Heap) (r : Nat) (e : TypeId) (a : Bool) : Prop := H.get r = some (.cells [.bool a] e false 0 false) ∧ r < H.next
theorem Flag.ld {H : Heap} {r : Nat} {e : TypeId} {a : Bool} (h : Flag H r e a) : H.ld1 ⟨r, 0, none⟩ = some (.bool a) := by rw [ld1_s h.1]; rfl
theorem Flag.st {H : Heap} {r : Nat} {e : TypeId} {a : Bool} (b : Bool) (h : Flag H r e a) : ∃ H', H.st1 ⟨r, 0, none⟩ (.bool b) = some H' ∧ Flag H' r e b ∧ Keep (· = r) H H' :=
  ⟨_, st1_s h.1 (by simp) (Nat.le_refl _), ⟨by simp, h.2⟩, Keep.put _ _ _ rfl⟩
theorem Flag.keep {S : Nat → Prop} {H H' : Heap} {r : Nat} {e : TypeId} {a : Bool} (h : Flag H r e a) (hk : Keep S H H') (hn : ¬ S r) : Flag H' r e a :=
  ⟨(hk.2 r h.2 hn).trans h.1, Nat.lt_of_lt_of_le h.2 hk.1⟩

theorem Bytes.num {H : Heap} {a : Sl} {w : W} (h : Bytes H a w) : a.n = w.length := by
  have := Whole.len h
  simp [bytes] at this; omega
theorem Bytes.at {H : Heap} {a : Sl} {w : W} (h : Bytes H a w) {k : Nat} {c : UInt8} (hk : w[k]? = some c) : ∃ b, a.a = some ⟨b, 0, none⟩ ∧ H.ld1 ⟨b, k, none⟩ = some (.int .u8 (c.toNat : Int)) ∧ a.at b := by
  have hlt := (List.getElem?_eq_some_iff.1 hk).1
  obtain ⟨b, o, st, e1, e2, e3, e4⟩ := Whole.block h (fun e => by simp [bytes] at e; subst e; simp at hlt)
  refine ⟨b, by rw [e1], ?_, e4⟩
  rw [ld1_s e3]
  simp [bytes, hk]

/-- what a Feed comes to -/
def FPost (B r : Nat) (e : TypeId) (H : Heap) (q : Bool × List Pr) (x : Res) : Prop :=
  ∃ H' so, x = some (Sl.v so, H') ∧ Flag H' r e q.1 ∧ Prs H' (fun k => B ≤ k) so q.2 ∧ (∀ j, so.at j → B ≤ j) ∧ Keep (fun k => k = r ∨ B ≤ k) H H'
theorem FPost.keep {B r : Nat} {e : TypeId} {H H1 : Heap} {q : Bool × List Pr} {x : Res} (h : FPost B r e H1 q x) (hk : Keep (fun k => k = r ∨ B ≤ k) H H1) : FPost B r e H q x := by
  obtain ⟨H', so, h1, h2, h3, h4, h5⟩ := h
  exact ⟨H', so, h1, h2, h3, h4, hk.trans h5 fun _ _ h => h⟩
theorem KS.done {B : Nat} {H : Heap} {so sr : Sl} {L : List Pr} {run : W} (h : KS B H so sr L run) : Prs H (fun k => B ≤ k) so L := by
  obtain ⟨cs, c1, c2⟩ := h.prs
  exact ⟨cs, c1, c2.mono (fun k _ hk => hk.1)⟩

end Go.Proofs.YtnpmlgibjhjiiaaDoor.dec

namespace Go.Proofs.YtnpmlgibjhjiiaaDoor.dec
open Go Go.Cm

attribute [local congr] optK_congr asI_congr asN_congr asB_congr asS_congr asP_congr asA_congr asSL_congr callK_congr castT_congr chk_congr

/-- a variable that holds a slice -/
def Box (H : Heap) (p : Nat) (e : TypeId) (s : Sl) : Prop := H.get p = some (.cells [s.v] e false 0 false) ∧ p < H.next
theorem Box.ld {H : Heap} {p : Nat} {e : TypeId} {s : Sl} (h : Box H p e s) : H.ld1 ⟨p, 0, none⟩ = some s.v := by rw [ld1_s h.1]; rfl
theorem Box.st {H : Heap} {p : Nat} {e : TypeId} {s : Sl} (s' : Sl) (h : Box H p e s) : ∃ H', H.st1 ⟨p, 0, none⟩ s'.v = some H' ∧ Box H' p e s' ∧ Keep (· = p) H H' :=
  ⟨_, st1_s h.1 (by simp) (Nat.le_refl _), ⟨by simp, h.2⟩, Keep.put _ _ _ rfl⟩
theorem Box.keep {S : Nat → Prop} {H H' : Heap} {p : Nat} {e : TypeId} {s : Sl} (h : Box H p e s) (hk : Keep S H H') (hn : ¬ S p) : Box H' p e s :=
  ⟨(hk.2 p h.2 hn).trans h.1, Nat.lt_of_lt_of_le h.2 hk.1⟩

/-- the program's state -/
structure PK (B po pr : Nat) (H : Heap) (so sr : Sl) (L : List Pr) (run : W) : Prop where
  ks : KS B H so sr L run
  bo : Box H po t_S_cmd_Press so
  br : Box H pr t_S_uint8 sr
  le : B ≤ H.next

def mine (B po pr : Nat) (k : Nat) : Prop := k = po ∨ k = pr ∨ B ≤ k

theorem flush_s (d B po pr : Nat) (hpo : po < B) (hpr : pr < B) (hne : po ≠ pr) (H : Heap) (so sr : Sl) (L : List Pr) (run : W) (h : PK B po pr H so sr L run) (hL : L.length ≤ 4000000) :
    ∃ H' so', X (d + 1) n_cmd_Keys_Feed_1 [P0 pr, P0 po] H = some (.tuple #[], H') ∧ PK B po pr H' so' Sl.nil (flushed L run) [] ∧ Keep (mine B po pr) H H' := by
  rw [cmd_Keys_Feed_1_eq]
  have hlen := h.ks.rn.num
  simp only [h.br.ld, h.bo.ld, optK_s, asSL_s, decide_eq_true_eq]
  have last : ∀ (H1 : Heap) (so' : Sl), KS B H1 so' Sl.nil (flushed L run) [] → Box H1 po t_S_cmd_Press so' → (∃ s, Box H1 pr t_S_uint8 s) → Keep (mine B po pr) H H1 →
      ∃ H' so', cmd_Keys_Feed_1_p1 d pr H1 = some (.tuple #[], H') ∧ PK B po pr H' so' Sl.nil (flushed L run) [] ∧ Keep (mine B po pr) H H' := by
    intro H1 so' k1 b1 ⟨s, b2⟩ kp
    obtain ⟨H2, e1, e2, e3⟩ := b2.st Sl.nil
    rw [cmd_Keys_Feed_1_p1_eq]
    simp only [e1, optK_s]
    have kp2 : Keep (mine B po pr) H H2 := kp.trans e3 (fun k _ q => .inr (.inl q))
    exact ⟨H2, so', rfl, ⟨k1.keep e3 (fun k q => by omega), b1.keep e3 (fun q => hne q), e2, by have := kp2.1; have := h.le; omega⟩, kp2⟩
  by_cases h0 : run = []
  · rw [if_neg (show ¬ (0 : Int) < (sr.n : Int) by subst h0; simp at hlen; omega)]
    exact last H so (by rw [flushed, if_pos h0]; exact ⟨h.ks.prs, Whole.nil _ _ _, h.ks.out, fun k hk => absurd hk Sl.at_nil⟩) h.bo ⟨sr, h.br⟩ (Keep.refl _)
  · have : run.length ≠ 0 := fun e => h0 (List.eq_nil_of_length_eq_zero e)
    rw [if_pos (show (0 : Int) < (sr.n : Int) by omega)]
    obtain ⟨so', H1, e1, e2, e3, e4⟩ := h.ks.press (m := []) h.ks.rn (fun k hk => ⟨(h.ks.ord k hk).1, fun hj => by have := (h.ks.ord k hk).2 k hj; omega⟩) hL h.le
    simp only [newK_s]
    rw [e1]
    simp only [asSL_s]
    have b1 : Box H1 po t_S_cmd_Press so := h.bo.keep e3 (fun hk => by have := h.ks.out po hk; omega)
    have b2 : Box H1 pr t_S_uint8 sr := h.br.keep e3 (fun hk => by have := h.ks.out pr hk; omega)
    obtain ⟨H2, f1, f2, f3⟩ := b1.st so'
    rw [f1]
    simp only [optK_s]
    exact last H2 so' (by rw [flushed, if_neg h0]; exact e2.keep f3 (fun k q => by omega)) f2 ⟨sr, b2.keep f3 (fun q => hne q.symm)⟩ ((e3.mono (fun k _ q => .inr (.inr (h.ks.out k q)))).trans f3 (fun k _ q => .inl q))

theorem told_eq (q : Option W) : told q = .tuple ⟨[.string (S (q.getD [])), .bool q.isSome]⟩ := by cases q <;> rfl

/-- kept by a flag's turn -/
theorem PK.flag {B po pr k : Nat} {H H' : Heap} {so sr : Sl} {L : List Pr} {run : W} (h : PK B po pr H so sr L run) (hk : Keep (· = k) H H') (h1 : k < B) (h2 : k ≠ po) (h3 : k ≠ pr) : PK B po pr H' so sr L run :=
  ⟨h.ks.keep hk (fun j q => by omega), h.bo.keep hk (fun q => h2 q.symm), h.br.keep hk (fun q => h3 q.symm), by have := hk.1; have := h.le; omega⟩

theorem pfeed_loop (d kk po pr B : Nat) (x1 : Sl) (w : W) (hkB : kk < B) (hpo : po < B) (hpr : pr < B) (hne : po ≠ pr) (hko : kk ≠ po) (hkr : kk ≠ pr) (hx : ∀ k, x1.at k → k < B ∧ k ≠ kk ∧ k ≠ po ∧ k ≠ pr) (hw : w.length ≤ 1048576) :
    ∀ (m i : Nat) (L : List Pr) (run : W) (so sr : Sl) (H : Heap) (a : Bool), i ≤ w.length → w.length - i < m → L.length ≤ 2 * i → run.length ≤ i → PK B po pr H so sr L run → Flag H kk t_cmd_Keys a → Bytes H x1 w →
      ∃ H' so', cmd_Keys_Feed_p1111010 (d + 1) m kk po pr pr po x1 (w.length : Int) (i : Int) H = some (so'.v, H') ∧ Flag H' kk t_cmd_Keys (feed a L run (w.drop i)).1 ∧ Prs H' (fun k => B ≤ k) so' (feed a L run (w.drop i)).2 ∧ (∀ j, so'.at j → B ≤ j) ∧
        Keep (fun k => k = kk ∨ mine B po pr k) H H' := by
  intro m
  induction m with
  | zero => intro i L run so sr H a h1 h2; omega
  | succ m ih =>
    intro i L run so sr H a h1 h2 hL hrun hK hf hb
    rw [cmd_Keys_Feed_p1111010_s]
    simp only [decide_eq_true_eq, hb.num]
    by_cases hi : i < w.length
    · have hc : w[i]? = some w[i] := List.getElem?_eq_getElem hi
      have hd : w.drop i = w[i] :: w.drop (i + 1) := by rw [List.drop_eq_getElem_cons hi]
      generalize w[i] = c at hc hd
      obtain ⟨b, e1, e2, e3⟩ := hb.at hc
      rw [if_pos (show (i : Int) < (w.length : Int) by omega)]
      have hii : (0 : Int) ≤ (i : Int) ∧ (i : Int) < (w.length : Int) := by omega
      simp only [optK_s, e1, ap, Int.toNat_natCast, Nat.mul_one, Nat.zero_add, e2, asI_s]
      rw [if_pos hii, Bound_s]
      simp only [callK_s, told_eq, castT_s, castL_c, castL_n, cast0, asS_s, asB_s, List.getElem?_cons_zero, List.getElem?_cons_succ, optK_s, hf.ld]
      -- what goes on
      have next : ∀ (L' : List Pr) (run' : W) (so' sr' : Sl) (H1 : Heap) (a' : Bool), L'.length ≤ 2 * (i + 1) → run'.length ≤ i + 1 → PK B po pr H1 so' sr' L' run' → Flag H1 kk t_cmd_Keys a' → Keep (fun k => k = kk ∨ mine B po pr k) H H1 →
          ∃ H' so', cmd_Keys_Feed_p11110100111 (d + 1) m kk po pr pr po x1 (w.length : Int) (i : Int) H1 = some (so'.v, H') ∧ Flag H' kk t_cmd_Keys (feed a' L' run' (w.drop (i + 1))).1 ∧ Prs H' (fun k => B ≤ k) so' (feed a' L' run' (w.drop (i + 1))).2 ∧ (∀ j, so'.at j → B ≤ j) ∧
            Keep (fun k => k = kk ∨ mine B po pr k) H H' := by
        intro L' run' so' sr' H1 a' q1 q2 q3 q4 q5
        rw [cmd_Keys_Feed_p11110100111_eq, w64 (by omega), show ((i : Int) + 1) = ((i + 1 : Nat) : Int) by omega]
        obtain ⟨H', so2, g1, g2, g3, g4, g5⟩ := ih (i + 1) L' run' so' sr' H1 a' (by omega) (by omega) q1 q2 q3 q4 (Whole.keep hb q5 (fun k hk h => by have := hx k hk; unfold mine at h; omega))
        exact ⟨H', so2, g1, g2, g3, g4, q5.trans g5 (fun _ _ h => h)⟩
      have next0 : ∀ (L' : List Pr) (run' : W) (so' sr' : Sl) (H1 : Heap) (a' : Bool), L'.length ≤ 2 * (i + 1) → run'.length ≤ i + 1 → PK B po pr H1 so' sr' L' run' → Flag H1 kk t_cmd_Keys a' → Keep (fun k => k = kk ∨ mine B po pr k) H H1 →
          ∃ H' so', cmd_Keys_Feed_p111101001100111 (d + 1) m kk po pr pr po x1 (w.length : Int) (i : Int) H1 = some (so'.v, H') ∧ Flag H' kk t_cmd_Keys (feed false L' run' (w.drop (i + 1))).1 ∧ Prs H' (fun k => B ≤ k) so' (feed false L' run' (w.drop (i + 1))).2 ∧ (∀ j, so'.at j → B ≤ j) ∧
            Keep (fun k => k = kk ∨ mine B po pr k) H H' := by
        intro L' run' so' sr' H1 a' q1 q2 q3 q4 q5
        rw [cmd_Keys_Feed_p111101001100111_eq]
        obtain ⟨H2, f1, f2, f3⟩ := q4.st false
        simp only [f1, optK_s]
        exact next L' run' so' sr' H2 false q1 q2 (q3.flag f3 hkB hko hkr) f2 (q5.trans f3 (fun k _ q => .inl q))
      -- a byte of input
      have byte : ∃ H' so', cmd_Keys_Feed_p11110100110011001011 (d + 1) m kk po pr pr po (c.toNat : Int) (S ((bound c).getD [])) (bound c).isSome x1 (w.length : Int) (i : Int) true H = some (so'.v, H') ∧ Flag H' kk t_cmd_Keys (feed false L (run ++ [c]) (w.drop (i + 1))).1 ∧
          Prs H' (fun k => B ≤ k) so' (feed false L (run ++ [c]) (w.drop (i + 1))).2 ∧ (∀ j, so'.at j → B ≤ j) ∧ Keep (fun k => k = kk ∨ mine B po pr k) H H' := by
        rw [cmd_Keys_Feed_p11110100110011001011_eq, if_pos rfl]
        simp only [hK.br.ld, optK_s, asSL_s, newK_s]
        obtain ⟨sr', H1, f1, f2, f3⟩ := hK.ks.byte c (by omega) hK.le
        rw [f1]
        simp only [asSL_s]
        have b1 : Box H1 po t_S_cmd_Press so := hK.bo.keep f3 (fun hk => by have := (hK.ks.ord po hk).1; omega)
        have b2 : Box H1 pr t_S_uint8 sr := hK.br.keep f3 (fun hk => by have := (hK.ks.ord pr hk).1; omega)
        obtain ⟨H2, g1, g2, g3⟩ := b2.st sr'
        rw [g1]
        simp only [optK_s]
        have hk2 : Keep (fun k => k = kk ∨ mine B po pr k) H H2 := (f3.mono (fun k _ q => .inr (.inr (.inr (hK.ks.ord k q).1)))).trans g3 (fun k _ q => .inr (.inr (.inl q)))
        exact next0 L (run ++ [c]) so sr' H2 a (by omega) (by simp; omega) ⟨f2.keep g3 (fun k q => by omega), b1.keep g3 hne, g2, by have := hk2.1; have := hK.le; omega⟩ ((hf.keep f3 (fun hk => by have := (hK.ks.ord kk hk).1; omega)).keep g3 hkr) hk2
      rw [hd]
      simp only [feed]
      cases a with
      | false =>
        rw [if_pos (show (!false) = true from rfl), cmd_Keys_Feed_p11110100110011001_eq]
        by_cases g : c.toNat = 2
        · rw [if_pos (show false = false ∧ c.toNat = 2 from ⟨rfl, g⟩), if_pos (show decide ((c.toNat : Int) = 2) = true from decide_eq_true (by omega))]
          obtain ⟨H1, f1, f2, f3⟩ := hf.st true
          simp only [f1, optK_s]
          exact next L run so sr H1 true (by omega) (by omega) (hK.flag f3 hkB hko hkr) f2 (f3.mono (fun k _ q => .inl q))
        · rw [if_neg (show ¬ (false = false ∧ c.toNat = 2) from fun h => g h.2), if_pos (show false = false ∨ c.toNat = 2 from .inl rfl), if_neg (show ¬ decide ((c.toNat : Int) = 2) = true by simp; omega)]
          simp only [hf.ld, optK_s, asB_s]
          rw [if_pos (show (!false) = true from rfl)]
          exact byte
      | true =>
        rw [if_neg (show ¬ (!true) = true by simp), if_neg (show ¬ (true = false ∧ c.toNat = 2) by simp), cmd_Keys_Feed_p11110100110011001_eq, if_neg (show ¬ false = true by simp)]
        simp only [hf.ld, optK_s, asB_s]
        rw [if_neg (show ¬ (!true) = true by simp)]
        by_cases g : c.toNat = 2
        · rw [if_pos (show true = false ∨ c.toNat = 2 from .inr g), show decide ((c.toNat : Int) = 2) = true from decide_eq_true (by omega)]
          exact byte
        · rw [if_neg (show ¬ (true = false ∨ c.toNat = 2) by simp [g]), show decide ((c.toNat : Int) = 2) = false from decide_eq_false (by omega), cmd_Keys_Feed_p11110100110011001011_eq, if_neg (show ¬ false = true by simp)]
          cases hbd : bound c with
          | none =>
            simp only [Option.isSome_none]
            rw [if_neg (show ¬ false = true by simp)]
            exact next0 L run so sr H true (by omega) (by omega) hK hf (Keep.refl _)
          | some mm =>
            simp only [Option.isSome_some, Option.getD_some]
            rw [if_pos trivial]
            obtain ⟨H1, so1, s1, s2, s3⟩ := flush_s d B po pr hpo hpr hne H so sr L run hK (by omega)
            rw [s1]
            simp only [callK_s, s2.bo.ld, optK_s, asSL_s, newK_s]
            have hfl : (flushed L run).length ≤ L.length + 1 := by unfold flushed; split <;> simp
            obtain ⟨so2, H2, u1, u2, u3, u4⟩ := s2.ks.press (a := Sl.nil) (n := []) (m := mm) (Whole.nil _ _ _) (fun k hk => absurd hk Sl.at_nil) (by omega) s2.le
            rw [u1]
            simp only [asSL_s]
            have b1 : Box H2 po t_S_cmd_Press so1 := s2.bo.keep u3 (fun hk => by have := s2.ks.out po hk; omega)
            have b2 : Box H2 pr t_S_uint8 Sl.nil := s2.br.keep u3 (fun hk => by have := s2.ks.out pr hk; omega)
            obtain ⟨H3, g1, g2, g3⟩ := b1.st so2
            rw [g1]
            simp only [optK_s]
            have k1 : Keep (fun k => k = kk ∨ mine B po pr k) H H1 := s3.mono (fun k _ q => .inr q)
            have k2 : Keep (fun k => k = kk ∨ mine B po pr k) H H2 := k1.trans u3 (fun k _ q => .inr (.inr (.inr (s2.ks.out k q))))
            have k3 : Keep (fun k => k = kk ∨ mine B po pr k) H H3 := k2.trans g3 (fun k _ q => .inr (.inl q))
            refine next0 _ [] so2 Sl.nil H3 true (by simp only [List.length_append, List.length_cons, List.length_nil]; omega) (by simp) ⟨u2.keep g3 (fun k q => by omega), g2, b2.keep g3 (fun q => hne q.symm), by have := k3.1; have := hK.le; omega⟩ ?_ k3
            refine ((hf.keep s3 (fun hk => by unfold mine at hk; omega)).keep u3 (fun hk => by have := s2.ks.out kk hk; omega)).keep g3 hko
    · rw [if_neg (show ¬ (i : Int) < (w.length : Int) by omega), List.drop_eq_nil_of_le (by omega)]
      obtain ⟨H1, so1, s1, s2, s3⟩ := flush_s d B po pr hpo hpr hne H so sr L run hK (by omega)
      rw [s1]
      simp only [callK_s, s2.bo.ld, optK_s, asSL_s, feed]
      exact ⟨H1, so1, rfl, hf.keep s3 (fun hk => by unfold mine at hk; omega), s2.ks.done, s2.ks.out, s3.mono (fun k _ q => .inr q)⟩

theorem Feed_s (d kk : Nat) (x1 : Sl) (w : W) (H : Heap) (a : Bool) (hf : Flag H kk t_cmd_Keys a) (hb : Bytes H x1 w) (hx : ∀ k, x1.at k → k ≠ kk) (hw : w.length ≤ 1048576) : FPost H.next kk t_cmd_Keys H (feed a [] [] w) (X (d + 2) n_cmd_Keys_Feed [P0 kk, x1.v] H) := by
  rw [cmd_Keys_Feed_eq]
  simp only [newK_s, hb.num]
  have k1 : Keep (fun _ => False) H (H.new (.cells [.slice none 0 0] t_S_cmd_Press false 0 false)) := Keep.new _ _
  have k2 := k1.trans (Keep.new (S := fun _ => False) (H.new (.cells [.slice none 0 0] t_S_cmd_Press false 0 false)) (.cells [.slice none 0 0] t_S_uint8 false 0 false)) (fun _ _ h => h)
  simp only [Heap.next_new]
  have hkk := hf.2
  have hbo : Box ((H.new (.cells [.slice none 0 0] t_S_cmd_Press false 0 false)).new (.cells [.slice none 0 0] t_S_uint8 false 0 false)) H.next t_S_cmd_Press Sl.nil := ⟨by rw [Heap.get_new_ne _ _ (by simp)]; simp, by simp; omega⟩
  have hbr : Box ((H.new (.cells [.slice none 0 0] t_S_cmd_Press false 0 false)).new (.cells [.slice none 0 0] t_S_uint8 false 0 false)) (H.next + 1) t_S_uint8 Sl.nil := ⟨by rw [Heap.get_new]; simp, by simp⟩
  obtain ⟨H', so', g1, g2, g3, g4, g5⟩ := pfeed_loop d kk H.next (H.next + 1) (H.next + 2) x1 w (by omega) (by omega) (by omega) (by omega) (by omega) (by omega) (fun k hk => by have := Whole.lt hb hk; have := hx k hk; omega) hw NN 0 [] [] Sl.nil Sl.nil _ a (by omega) (NN_big _ (by omega)) (by simp) (by simp)
    ⟨⟨⟨[], Whole.nil _ _ _, PrL.nil _ _⟩, Whole.nil _ _ _, fun j hj => absurd hj Sl.at_nil, fun j hj => absurd hj Sl.at_nil⟩, hbo, hbr, by simp⟩ (hf.keep k2 id) (Whole.keep hb k2 (fun _ _ h => h))
  rw [List.drop_zero] at g2 g3
  refine ⟨H', so', g1, g2, ?_, fun j hj => by have := g4 j hj; omega, (k2.mono (fun _ _ h => h.elim)).trans g5 (fun k hk q => ?_)⟩
  · obtain ⟨cs, c1, c2⟩ := g3
    exact ⟨cs, c1, c2.mono (fun k _ q => by omega)⟩
  · unfold mine at q; omega
end Go.Proofs.YtnpmlgibjhjiiaaDoor.dec

namespace Go.Proofs.YtnpmlgibjhjiiaaDoor.dec
open Go Go.Cm

attribute [local congr] optK_congr asI_congr asN_congr asB_congr asS_congr asP_congr asA_congr asSL_congr callK_congr castT_congr chk_congr

theorem dec_digit (c : UInt8) (h : 48 ≤ c.toNat ∧ c.toNat ≤ 57) : Utf8.decode (S [c]) 0 = (c.toNat, 1) := by
  have : c.toNat = 48 ∨ c.toNat = 49 ∨ c.toNat = 50 ∨ c.toNat = 51 ∨ c.toNat = 52 ∨ c.toNat = 53 ∨ c.toNat = 54 ∨ c.toNat = 55 ∨ c.toNat = 56 ∨ c.toNat = 57 := by omega
  have hc : c = UInt8.ofNat c.toNat := by simp
  rcases this with h | h | h | h | h | h | h | h | h | h <;> (rw [h] at hc; subst hc; decide)

theorem NN_two : ∃ m, NN = m + 2 := ⟨NN - 2, by have := NN_big 2 (by omega); omega⟩

theorem wrap_digit (c : UInt8) (h : 48 ≤ c.toNat ∧ c.toNat ≤ 57) : IntKind.wrap .u8 ((c.toNat : Int) - 48) = (c.toNat : Int) - 48 := by
  have : c.toNat = 48 ∨ c.toNat = 49 ∨ c.toNat = 50 ∨ c.toNat = 51 ∨ c.toNat = 52 ∨ c.toNat = 53 ∨ c.toNat = 54 ∨ c.toNat = 55 ∨ c.toNat = 56 ∨ c.toNat = 57 := by omega
  rcases this with h | h | h | h | h | h | h | h | h | h <;> (rw [h]; decide)

theorem Atoi_digit (d : Nat) (c : UInt8) (h : 48 ≤ c.toNat ∧ c.toNat ≤ 57) (H : Heap) : ∃ n H', X (d + 2) n_strconv_Atoi [.string (S [c])] H = some (.tuple #[.int .i64 n, .nilIface], H') := by
  rw [strconv_Atoi_eq, strconv_Atoix_eq, slenS]
  simp only [List.length_cons, List.length_nil, decide_eq_true_eq]
  rw [if_pos (by decide), strconv_Atoix_p1101_eq, slenS]
  simp only [List.length_cons, List.length_nil, decide_eq_true_eq]
  rw [if_pos (by decide), if_pos (by decide), btS (l := [c]) (i := 0) (c := c) rfl, if_neg (by omega), if_pos (by decide),
    show decide ((c.toNat : Int) = 43) = false from decide_eq_false (by omega), strconv_Atoix_p110100101_eq, if_neg (by simp), strconv_Atoix_p11010011_eq, lstS]
  simp only [newK_s, slenS, List.length_cons, List.length_nil]
  obtain ⟨m, hm⟩ := NN_two
  rw [hm, strconv_Atoix_p1101001101010_s]
  simp only [decide_eq_true_eq]
  rw [if_pos (by decide)]
  simp only [optK_s, ap]
  rw [if_pos (by decide), show (⟨H.next, 0 + (0 : Int).toNat * 1, none⟩ : Addr) = ⟨H.next, 0, none⟩ from rfl, ld1_s (Heap.get_new_same H _)]
  simp only [List.map_cons, List.map_nil, List.getElem?_cons_zero, optK_s, asI_s]
  rw [wrap_digit c h, if_neg (by omega), strconv_Atoix_p1101001101010_s]
  simp only [decide_eq_true_eq]
  rw [if_neg (by decide), slenS]
  simp only [List.length_cons, List.length_nil]
  rw [if_pos (by decide), btS (l := [c]) (i := 0) (c := c) rfl, if_neg (by omega)]
  simp only [callK_s, castT_s, castL_c, castL_n, cast0, asI_s, List.getElem?_cons_zero, List.getElem?_cons_succ, optK_s, isNil]
  exact ⟨_, _, rfl⟩

theorem num_digit (d : Nat) (c : UInt8) (h : 48 ≤ c.toNat ∧ c.toNat ≤ 57) (H : Heap) : ∃ H', X (d + 4) n_cmd_isNumber [.string (S [c])] H = some (.bool true, H') := by
  rw [cmd_isNumber_eq, cmd_number_eq, sEqS, slenS]
  simp only [List.length_cons, List.length_nil, decide_eq_true_eq]
  rw [if_neg (by simp), if_neg (by decide), if_neg (by decide), cmd_number_p101_eq, if_neg (by simp)]
  simp only [newK_s]
  obtain ⟨m, hm⟩ := NN_two
  rw [hm, cmd_number_p11010_s]
  simp only [nextK, Heap.get_new_same, slenS, List.length_cons, List.length_nil, dec_digit c h]
  rw [if_pos trivial, if_pos (by decide)]
  simp only [decide_eq_true_eq]
  rw [if_neg (by omega), show decide ((57 : Int) < (c.toNat : Int)) = false from decide_eq_false (by omega), cmd_number_p11010011011_eq, if_neg (by simp), cmd_number_p11010_s]
  simp only [nextK, Heap.get_put_same, slenS, List.length_cons, List.length_nil]
  rw [if_pos trivial, if_neg (by decide)]
  obtain ⟨n, H', e⟩ := Atoi_digit d c h ((H.new (.iter (S [c]) 0)).put H.next (.iter (S [c]) (0 + 1)))
  rw [e]
  simp only [callK_s, castT_s, castL_c, castL_n, cast0, asI_s, asB_s, List.getElem?_cons_zero, List.getElem?_cons_succ, optK_s, isNil]
  exact ⟨_, rfl⟩

/-- the commands of keys -/
def RK (name : W) (ws : List W) : Prop :=
  (ws = [] ∧ (name = [110, 101, 119, 45, 119, 105, 110, 100, 111, 119] ∨ name = [107, 105, 108, 108, 45, 119, 105, 110, 100, 111, 119] ∨ name = [107, 105, 108, 108, 45, 112, 97, 110, 101] ∨ name = [122, 111, 111, 109])) ∨
  (∃ e : UInt8, (48 ≤ e.toNat ∧ e.toNat ≤ 57) ∧ ws = [[e]] ∧ (name = [115, 101, 108, 101, 99, 116, 45, 112, 97, 110, 101] ∨ name = [112, 97, 115, 116, 101])) ∨
  (name = [115, 112, 108, 105, 116, 45, 119, 105, 110, 100, 111, 119] ∧ (ws = [[45, 104]] ∨ ws = [[45, 118]]))

theorem bound_parse (c : UInt8) (m : W) (h : bound c = some m) : ∃ name ws, parse (m.length + 1) m [] [] = some [(name, ws)] ∧ m.length ≤ 400 ∧ RK name ws := by
  unfold bound at h
  split at h
  · cases h; exact ⟨_, [], by rfl, by decide, .inl ⟨rfl, .inl rfl⟩⟩
  split at h
  · cases h; exact ⟨_, [], by rfl, by decide, .inl ⟨rfl, .inr (.inl rfl)⟩⟩
  split at h
  · cases h; exact ⟨_, _, by rfl, by decide, .inr (.inr ⟨rfl, .inl rfl⟩)⟩
  split at h
  · cases h; exact ⟨_, _, by rfl, by decide, .inr (.inr ⟨rfl, .inr rfl⟩)⟩
  split at h
  · cases h; exact ⟨_, [], by rfl, by decide, .inl ⟨rfl, .inr (.inr (.inl rfl))⟩⟩
  split at h
  · cases h; exact ⟨_, [], by rfl, by decide, .inl ⟨rfl, .inr (.inr (.inr rfl))⟩⟩
  split at h
  · cases h; exact ⟨_, _, by rfl, by decide, .inr (.inl ⟨48, by decide, rfl, .inl rfl⟩)⟩
  split at h
  · cases h; exact ⟨_, _, by rfl, by decide, .inr (.inl ⟨48, by decide, rfl, .inr rfl⟩)⟩
  split at h
  · rename_i hd
    cases h
    have : c.toNat = 48 ∨ c.toNat = 49 ∨ c.toNat = 50 ∨ c.toNat = 51 ∨ c.toNat = 52 ∨ c.toNat = 53 ∨ c.toNat = 54 ∨ c.toNat = 55 ∨ c.toNat = 56 ∨ c.toNat = 57 := by omega
    have hc : c = UInt8.ofNat c.toNat := by simp
    rcases this with h | h | h | h | h | h | h | h | h | h <;> (rw [h] at hc; subst hc; exact ⟨_, _, by rfl, by decide, .inr (.inl ⟨_, by decide, rfl, .inl rfl⟩)⟩)
  · cases h

theorem box2 {u v : Value} (hu : one u = true) (hv : one v = true) (t : TypeId) (H : Heap) (K : Value → Heap → Res) : effK (.box t) [.agg #[u, v]] H K = K (P0 H.next) (H.new (.cells [u, v] t false 0 false)) := by
  simp only [effK]
  rw [if_pos (by simp [cellsL, hu, hv])]
  rfl

theorem Right_s (d : Nat) (name : W) (ws : List W) (a : Sl) (H : Heap) (hw : Words H a ws) (h : RK name ws) : ∃ H', X (d + 5) n_cmd_Right [.agg #[.string (S name), a.v]] H = some (.bool true, H') := by
  rw [cmd_Right_eq, box2 rfl rfl]
  have k1 : Keep (fun _ => False) H (H.new (.cells [.string (S name), a.v] t_cmd_Command false 0 false)) := Keep.new _ _
  have hw1 : Words _ a ws := Whole.keep hw k1 (fun _ _ h => h)
  have g1 : (H.new (.cells [.string (S name), a.v] t_cmd_Command false 0 false)).get H.next = some (.cells [.string (S name), a.v] t_cmd_Command false 0 false) := by simp
  generalize (H.new (.cells [.string (S name), a.v] t_cmd_Command false 0 false)) = H1 at *
  simp only [show ∀ (K : Option Addr → Res), asP (P0 H.next) K = K (some ⟨H.next, 0, none⟩) from fun _ => rfl, optK_s, ap, Nat.zero_add, ld1_s g1, List.getElem?_cons_zero, List.getElem?_cons_succ, Sl.v, asSL_s, asS_s, sEqS]
  have hlen := Whole.len hw1
  simp only [strs, List.length_map, Nat.mul_one] at hlen
  rcases h with ⟨rfl, h⟩ | ⟨e, he, rfl, h⟩ | ⟨rfl, h⟩
  · have fin : ∀ w, cmd_Right_p110101 (d + 4) ⟨a.a, a.n, a.c⟩ w true H1 = some (.bool true, H1) := fun w => by
      rw [cmd_Right_p110101_eq, if_pos rfl, show decide (((a.n : Nat) : Int) = 0) = true from decide_eq_true (by simp at hlen; omega)]
    rcases h with rfl | rfl | rfl | rfl
    · rw [if_neg (by decide), if_pos (by decide)]; exact ⟨H1, fin _⟩
    · rw [if_neg (by decide), if_neg (by decide), if_pos (by decide)]; exact ⟨H1, fin _⟩
    · rw [if_neg (by decide), if_neg (by decide), if_neg (by decide), if_pos (by decide)]; exact ⟨H1, fin _⟩
    · rw [if_neg (by decide), if_neg (by decide), if_neg (by decide), if_neg (by decide)]; exact ⟨H1, fin _⟩
  · obtain ⟨b, o, st, q1, q2, q3, _⟩ := Whole.block hw1 (by simp [strs])
    have fin : ∀ w, ∃ H', cmd_Right_p110101011011 (d + 4) ⟨a.a, a.n, a.c⟩ w true H1 = some (.bool true, H') := fun w => by
      rw [cmd_Right_p110101011011_eq, if_pos rfl]
      simp only [decide_eq_true_eq]
      have hn1 : a.n = 1 := by simp at hlen; omega
      rw [if_pos (show ((a.n : Nat) : Int) = 1 by omega), q1]
      simp only [optK_s, ap, Nat.zero_add]
      rw [if_pos (show (0 : Int) ≤ 0 ∧ (0 : Int) < ((a.n : Nat) : Int) by omega), ld1_s q3]
      simp only [strs, List.map_cons, List.map_nil, List.getElem?_cons_zero, optK_s, asS_s]
      obtain ⟨H', e'⟩ := num_digit d e he H1
      rw [e']
      simp only [callK_s, asB_s]
      exact ⟨H', rfl⟩
    rcases h with rfl | rfl
    · rw [if_neg (by decide), if_neg (by decide), if_neg (by decide), if_neg (by decide), show (([115, 101, 108, 101, 99, 116, 45, 112, 97, 110, 101] : W) == [122, 111, 111, 109]) = false from by decide, cmd_Right_p110101_eq, if_neg (by simp), sEqS, sEqS, if_neg (by decide),
        show (([115, 101, 108, 101, 99, 116, 45, 112, 97, 110, 101] : W) == [114, 101, 110, 97, 109, 101]) = false from by decide, cmd_Right_p110101011_eq, if_neg (by simp)]
      simp only [sEqS]
      rw [if_neg (by decide), if_pos (by decide)]
      exact fin _
    · rw [if_neg (by decide), if_neg (by decide), if_neg (by decide), if_neg (by decide), show (([112, 97, 115, 116, 101] : W) == [122, 111, 111, 109]) = false from by decide, cmd_Right_p110101_eq, if_neg (by simp), sEqS, sEqS, if_neg (by decide),
        show (([112, 97, 115, 116, 101] : W) == [114, 101, 110, 97, 109, 101]) = false from by decide, cmd_Right_p110101011_eq, if_neg (by simp)]
      simp only [sEqS]
      rw [if_neg (by decide), if_neg (by decide), if_neg (by decide)]
      exact fin _
  · have hws : ∃ u, ws = [u] ∧ (u = [45, 104] ∨ u = [45, 118]) := by rcases h with rfl | rfl <;> exact ⟨_, rfl, by simp⟩
    obtain ⟨u, rfl, hu⟩ := hws
    obtain ⟨b, o, st, q1, q2, q3, _⟩ := Whole.block hw1 (by simp [strs])
    have hn1 : a.n = 1 := by simp at hlen; omega
    rw [if_neg (by decide), if_neg (by decide), if_neg (by decide), if_neg (by decide), show (([115, 112, 108, 105, 116, 45, 119, 105, 110, 100, 111, 119] : W) == [122, 111, 111, 109]) = false from by decide, cmd_Right_p110101_eq, if_neg (by simp), sEqS, sEqS, if_neg (by decide),
      show (([115, 112, 108, 105, 116, 45, 119, 105, 110, 100, 111, 119] : W) == [114, 101, 110, 97, 109, 101]) = false from by decide, cmd_Right_p110101011_eq, if_neg (by simp)]
    simp only [sEqS]
    rw [if_neg (by decide), if_neg (by decide), if_neg (by decide), show (([115, 112, 108, 105, 116, 45, 119, 105, 110, 100, 111, 119] : W) == [112, 97, 115, 116, 101]) = false from by decide, cmd_Right_p110101011011_eq, if_neg (by simp), sEqS, if_pos (by decide)]
    simp only [decide_eq_true_eq]
    rw [if_pos (show ((a.n : Nat) : Int) = 1 by omega), q1]
    simp only [optK_s, ap, Nat.zero_add]
    rw [if_pos (show (0 : Int) ≤ 0 ∧ (0 : Int) < ((a.n : Nat) : Int) by omega), ld1_s q3]
    simp only [strs, List.map_cons, List.map_nil, List.getElem?_cons_zero, optK_s, asS_s, sEqS]
    rcases hu with rfl | rfl
    · rw [if_pos (by decide)]; exact ⟨H1, rfl⟩
    · rw [if_neg (by decide), if_pos (show (0 : Int) ≤ 0 ∧ (0 : Int) < ((a.n : Nat) : Int) by omega)]
      exact ⟨H1, rfl⟩
end Go.Proofs.YtnpmlgibjhjiiaaDoor.dec

namespace Go.Proofs.YtnpmlgibjhjiiaaDoor.dec
open Go Go.Cm

attribute [local congr] optK_congr asI_congr asN_congr asB_congr asS_congr asP_congr asA_congr asSL_congr callK_congr castT_congr chk_congr

def digB (c : UInt8) : Bool := decide (48 ≤ c.toNat) && decide (c.toNat ≤ 57)
theorem digB_t {c : UInt8} : digB c = true ↔ 48 ≤ c.toNat ∧ c.toNat ≤ 57 := by simp [digB]
/-- 1 to 4 digits, no needless nought ahead -/
def isNum (w : W) : Bool := !w.isEmpty && decide (w.length ≤ 4) && (decide (w.length ≤ 1) || !(decide ((w.headD 0).toNat = 48))) && w.all digB

theorem get_at {w : W} {i : Nat} {c : UInt8} (h : w[i]? = some c) : (S w).get! (i + 0) = c := by
  have hi := (List.getElem?_eq_some_iff.1 h)
  obtain ⟨hl, he⟩ := hi
  show (ByteArray.mk w.toArray).data[i]! = c
  simp [hl, he]

theorem dec_at {w : W} {i : Nat} {c : UInt8} (h : w[i]? = some c) : (c.toNat < 128 → Utf8.decode (S w) i = (c.toNat, 1)) ∧ (128 ≤ c.toNat → 128 ≤ (Utf8.decode (S w) i).1) := by
  have hg := get_at h
  constructor
  · intro hc
    unfold Utf8.decode
    simp only [hg]
    rw [if_pos (by omega)]
  · intro hc
    unfold Utf8.decode
    simp only [hg]
    rw [if_neg (by omega)]
    split
    · split
      · rename_i h2; exact h2
      · decide
    · split
      · split
        · rename_i h2
          simp only [Bool.and_eq_true, decide_eq_true_eq] at h2
          omega
        · decide
      · split
        · split
          · rename_i h2
            simp only [Bool.and_eq_true, decide_eq_true_eq] at h2
            omega
          · decide
        · decide

theorem wrap_dig {c : UInt8} (h : digB c = true) : IntKind.wrap .u8 ((c.toNat : Int) - 48) = (c.toNat : Int) - 48 := by
  rw [digB_t] at h
  exact wrap_digit c h

/-- the bytes of a string as Atoi walks over them -/
theorem atoi_loop (d : Nat) (w v : W) (hv : v ≠ []) (hd : w.all digB = true) (h45 : (v.headD 0).toNat ≠ 45) (hl : w.length ≤ 4) (b : Nat) (H : Heap) (hb : H.get b = some (.cells (bytes w) t_uint8 true 0 true)) : ∀ (m i : Nat) (n : Int), i ≤ w.length → w.length - i < m →
    ∃ r, strconv_Atoix_p1101001101010 d m (S v) n ⟨some ⟨b, 0, none⟩, w.length, w.length⟩ (w.length : Int) (i : Int) H = some (.tuple #[.int .i64 r, .nilIface], H) := by
  intro m
  induction m with
  | zero => intro i n h1 h2; omega
  | succ m ih =>
    intro i n hi hm
    rw [strconv_Atoix_p1101001101010_s]
    simp only [decide_eq_true_eq]
    by_cases h : i < w.length
    · rw [if_pos (by omega)]
      have hc : w[i]? = some w[i] := List.getElem?_eq_getElem h
      have hdc : digB w[i] = true := List.all_eq_true.1 hd _ (List.getElem_mem h)
      generalize w[i] = c at hc hdc
      simp only [optK_s, ap, Nat.zero_add, Int.toNat_natCast, Nat.mul_one]
      rw [if_pos (by omega), ld1_s hb, show (bytes w)[i]? = some (.int .u8 (c.toNat : Int)) by simp [bytes, hc]]
      simp only [optK_s, asI_s]
      rw [wrap_dig hdc]
      rw [digB_t] at hdc
      rw [if_neg (by omega), w64 (n := (i : Int) + 1) (by omega), show ((i : Int) + 1) = ((i + 1 : Nat) : Int) by omega]
      exact ih (i + 1) _ (by omega) (by omega)
    · rw [if_neg (by omega), slenS]
      cases v with
      | nil => exact absurd rfl hv
      | cons e v =>
        simp only [List.headD_cons] at h45
        rw [if_pos (by simp only [List.length_cons]; omega), btS (l := e :: v) (i := 0) (c := e) rfl, if_neg (by omega)]
        exact ⟨n, rfl⟩

theorem Atoi_digits (d : Nat) (w : W) (hw : w ≠ []) (hd : w.all digB = true) (hl : w.length ≤ 4) (H : Heap) : ∃ n H', X (d + 2) n_strconv_Atoi [.string (S w)] H = some (.tuple #[.int .i64 n, .nilIface], H') ∧ Keep (fun _ => False) H H' := by
  cases w with
  | nil => exact absurd rfl hw
  | cons c v =>
    have hc : digB c = true := List.all_eq_true.1 hd _ (by simp)
    rw [digB_t] at hc
    rw [strconv_Atoi_eq, strconv_Atoix_eq, slenS]
    simp only [decide_eq_true_eq]
    have hl1 : ((c :: v).length : Int) ≤ 4 := by omega
    have hl0 : (0 : Int) < ((c :: v).length : Int) := by simp only [List.length_cons]; omega
    rw [if_pos hl0, show decide (((c :: v).length : Int) < 19) = true from decide_eq_true (by omega), strconv_Atoix_p1101_eq, slenS]
    simp only [decide_eq_true_eq]
    rw [if_pos trivial, if_pos ⟨Int.le_refl _, hl0⟩, btS (l := c :: v) (i := 0) (c := c) rfl, if_neg (by omega), if_pos ⟨Int.le_refl _, hl0⟩,
      show decide ((c.toNat : Int) = 43) = false from decide_eq_false (by omega), strconv_Atoix_p110100101_eq, if_neg (by simp), strconv_Atoix_p11010011_eq, lstS]
    simp only [newK_s, slenS]
    obtain ⟨r, e⟩ := atoi_loop d (c :: v) (c :: v) (by simp) hd (by simp only [List.headD_cons]; omega) hl H.next (H.new (.cells (bytes (c :: v)) t_uint8 true 0 true)) (by simp) NN 0 0 (by omega) (NN_big _ (by omega))
    have e' : strconv_Atoix_p1101001101010 d NN (S (c :: v)) 0 ⟨some ⟨H.next, 0, none⟩, (c :: v).length, (c :: v).length⟩ ((c :: v).length : Int) 0 (H.new (.cells ((c :: v).map fun b => .int .u8 b.toNat) t_uint8 true 0 true)) = _ := e
    rw [e']
    simp only [callK_s, castT_s, castL_c, castL_n, cast0, asI_s, List.getElem?_cons_zero, List.getElem?_cons_succ, optK_s, isNil]
    exact ⟨_, _, rfl, Keep.new _ _⟩

/-- number walks over the runes of a string -/
theorem number_loop (d : Nat) (w : W) (hw : w ≠ []) (hl : w.length ≤ 4) (H0 : Heap) : ∀ (m i : Nat) (b : Nat) (H : Heap), i ≤ w.length → w.length - i < m → H.get b = some (.iter (S w) i) → H0.next ≤ b → b < H.next → Keep (fun _ => False) H0 H → (w.take i).all digB = true →
    ∃ n H', cmd_number_p11010 (d + 2) m (S w) b H = some (.tuple #[.int .i64 n, .bool (w.all digB)], H') ∧ Keep (fun _ => False) H0 H' := by
  intro m
  induction m with
  | zero => intro i b H h1 h2; omega
  | succ m ih =>
    intro i b H hi hm hg hb hbn hk ht
    rw [cmd_number_p11010_s]
    simp only [nextK, hg, slenS]
    rw [if_pos trivial]
    by_cases h : i < w.length
    · rw [if_pos h]
      have hc : w[i]? = some w[i] := List.getElem?_eq_getElem h
      have hmem := List.getElem_mem h
      have htk : w.take (i + 1) = w.take i ++ [w[i]] := by rw [List.take_add_one, hc]; rfl
      generalize w[i] = c at hc hmem htk
      obtain ⟨q1, q2⟩ := dec_at hc
      simp only [decide_eq_true_eq]
      have kp : Keep (fun _ => False) H0 (H.put b (.iter (S w) (i + (Utf8.decode (S w) i).2))) := ⟨by simp; have := hk.1; omega, fun k hk' hn => by rw [Heap.get_put_ne _ _ (by omega)]; exact hk.2 k hk' hn⟩
      by_cases hd : digB c = true
      · have hd' := digB_t.1 hd
        have e := q1 (by omega)
        rw [e] at kp ⊢
        rw [if_neg (show ¬ ((c.toNat : Nat) : Int) < 48 by omega), show decide ((57 : Int) < ((c.toNat : Nat) : Int)) = false from decide_eq_false (by omega), cmd_number_p11010011011_eq, if_neg (by simp)]
        exact ih (i + 1) b _ (by omega) (by omega) (by simp) hb (by simpa using hbn) kp (by rw [htk, List.all_append, ht]; simp [hd])
      · have hno : w.all digB = false := by
          cases ha : w.all digB with
          | false => rfl
          | true => exact absurd (List.all_eq_true.1 ha c hmem) hd
        rw [hno]
        have hd2 : c.toNat < 48 ∨ 57 < c.toNat := by
          rw [digB_t] at hd; omega
        by_cases h48 : ((Utf8.decode (S w) i).1 : Int) < 48
        · rw [if_pos h48, cmd_number_p11010011011_eq, if_pos rfl]
          exact ⟨_, _, rfl, kp⟩
        · rw [if_neg h48, show decide ((57 : Int) < ((Utf8.decode (S w) i).1 : Int)) = true from decide_eq_true (by
            by_cases h128 : c.toNat < 128
            · rw [q1 h128] at h48 ⊢
              simp only at h48 ⊢
              omega
            · have := q2 (by omega); omega), cmd_number_p11010011011_eq, if_pos rfl]
          exact ⟨_, _, rfl, kp⟩
    · rw [if_neg h]
      rw [List.take_of_length_le (by omega)] at ht
      obtain ⟨n, H', e, k⟩ := Atoi_digits d w hw ht hl H
      rw [e, ht]
      simp only [callK_s, castT_s, castL_c, castL_n, cast0, asI_s, List.getElem?_cons_zero, List.getElem?_cons_succ, optK_s, isNil]
      exact ⟨_, _, rfl, hk.trans k fun _ _ h => h⟩

theorem isNumber_s (d : Nat) (w : W) (H : Heap) : ∃ H', X (d + 4) n_cmd_isNumber [.string (S w)] H = some (.bool (isNum w), H') ∧ Keep (fun _ => False) H H' := by
  rw [cmd_isNumber_eq, cmd_number_eq, sEqS, slenS]
  have no : ∀ H : Heap, cmd_number_p101 (d + 2) (S w) true H = some (.tuple #[.int .i64 0, .bool false], H) := fun H => by rw [cmd_number_p101_eq, if_pos rfl]
  have yes : w ≠ [] → w.length ≤ 4 → ∃ n H', cmd_number_p101 (d + 2) (S w) false H = some (.tuple #[.int .i64 n, .bool (w.all digB)], H') ∧ Keep (fun _ => False) H H' := fun h1 h2 => by
    rw [cmd_number_p101_eq, if_neg (by simp)]
    simp only [newK_s]
    exact number_loop d w h1 h2 H NN 0 H.next _ (by omega) (NN_big _ (by omega)) (by simp) (Nat.le_refl _) (by simp) (Keep.new _ _) (by simp)
  simp only [decide_eq_true_eq]
  by_cases h0 : w = []
  · subst h0
    rw [if_pos (by rfl), no]
    exact ⟨H, rfl, Keep.refl _⟩
  have hne : w.isEmpty = false := by cases w <;> simp_all
  rw [if_neg (by simpa using h0)]
  by_cases h4 : 4 < w.length
  · rw [if_pos (by omega), no, show isNum w = false by simp [isNum, show ¬ w.length ≤ 4 by omega]]
    exact ⟨H, rfl, Keep.refl _⟩
  rw [if_neg (by omega)]
  by_cases h1 : 1 < w.length
  · rw [if_pos (by omega), if_pos (by omega)]
    obtain ⟨c, v, rfl⟩ : ∃ c v, w = c :: v := by cases w with
      | nil => exact absurd rfl h0
      | cons c v => exact ⟨c, v, rfl⟩
    rw [btS (l := c :: v) (i := 0) (c := c) rfl]
    by_cases h48 : c.toNat = 48
    · rw [show decide ((c.toNat : Int) = 48) = true from decide_eq_true (by omega), no, show isNum (c :: v) = false from by
        have e1 : decide ((c :: v).length ≤ 1) = false := decide_eq_false (by omega)
        have e2 : decide (((c :: v).headD 0).toNat = 48) = true := decide_eq_true h48
        unfold isNum
        rw [e1, e2]
        simp]
      exact ⟨H, rfl, Keep.refl _⟩
    · rw [show decide ((c.toNat : Int) = 48) = false from decide_eq_false (by omega)]
      obtain ⟨n, H', e, k⟩ := yes h0 (by omega)
      rw [e, show isNum (c :: v) = (c :: v).all digB from by
        have e1 : decide ((c :: v).length ≤ 4) = true := decide_eq_true (by omega)
        have e2 : decide (((c :: v).headD 0).toNat = 48) = false := decide_eq_false h48
        unfold isNum
        rw [e1, e2]
        simp]
      exact ⟨H', rfl, k⟩
  · rw [if_neg (by omega)]
    obtain ⟨n, H', e, k⟩ := yes h0 (by omega)
    rw [e, show isNum w = w.all digB by simp [isNum, hne, show w.length ≤ 1 by omega, show w.length ≤ 4 by omega]]
    exact ⟨H', rfl, k⟩
end Go.Proofs.YtnpmlgibjhjiiaaDoor.dec

namespace Go.Proofs.YtnpmlgibjhjiiaaDoor.dec
open Go Go.Cm

attribute [local congr] optK_congr asI_congr asN_congr asB_congr asS_congr asP_congr asA_congr asSL_congr callK_congr castT_congr chk_congr

/-! ### same -/
theorem Cmds.at {H : Heap} {P : Nat → Prop} {so : Sl} {L : List Cmd} (h : Cmds H P so L) {i : Nat} {n : W} {ws : List W} (hi : L[i]? = some (n, ws)) : ∃ b a, so.a = some ⟨b, 0, none⟩ ∧ so.n = L.length ∧ H.ld1 ⟨b, i * 2, none⟩ = some (.string (S n)) ∧ H.ld1 ⟨b, i * 2 + 1, none⟩ = some (Sl.v a) ∧ Words H a ws := by
  obtain ⟨cs, h1, h2, h3⟩ := h
  have hlt := (List.getElem?_eq_some_iff.1 hi).1
  have hne : cs ≠ [] := fun e => by subst e; simp at h2; omega
  obtain ⟨b, o, st, e1, e2, e3, _⟩ := Whole.block h1 hne
  obtain ⟨q1, a, q2, q3, _⟩ := h3 i n ws hi
  exact ⟨b, a, by rw [e1], by omega, by rw [ld1_s e3]; exact q1, by rw [ld1_s e3]; exact q2, q3⟩
theorem Cmds.num {H : Heap} {P : Nat → Prop} {so : Sl} {L : List Cmd} (h : Cmds H P so L) : so.n = L.length := by
  obtain ⟨cs, h1, h2, _⟩ := h
  have := h1.len
  omega
theorem Words.num {H : Heap} {a : Sl} {ws : List W} (h : Words H a ws) : a.n = ws.length := by
  have := Whole.len h
  simp [strs] at this; omega
theorem Words.at {H : Heap} {a : Sl} {ws : List W} (h : Words H a ws) {k : Nat} {w : W} (hk : ws[k]? = some w) : ∃ b, a.a = some ⟨b, 0, none⟩ ∧ H.ld1 ⟨b, k, none⟩ = some (.string (S w)) := by
  have hlt := (List.getElem?_eq_some_iff.1 hk).1
  obtain ⟨b, o, st, e1, e2, e3, _⟩ := Whole.block h (fun e => by simp [strs] at e; subst e; simp at hlt)
  refine ⟨b, by rw [e1], ?_⟩
  rw [ld1_s e3]
  simp [strs, hk]

/-! ### how much a line says -/
def size (L : List Cmd) (l : List W) : Prop := ∀ (n : Nat), L.length + l.length ≤ n → True
theorem parse_small : ∀ (f : Nat) (s : W) (L : List Cmd) (l : List W) (B : Nat) (r : List Cmd), parse f s L l = some r → L.length + l.length + s.length ≤ B → (∀ c ∈ L, c.2.length ≤ B) → r.length ≤ B + 1 ∧ ∀ c ∈ r, c.2.length ≤ B := by
  intro f
  induction f with
  | zero => intro s L l B r h; cases h
  | succ f ih =>
    intro s L l B r h hB hL
    have he : ∀ c ∈ ends L l, c.2.length ≤ B := by
      intro c hc
      cases l with
      | nil => exact hL c hc
      | cons w ws =>
        simp only [ends, List.mem_append, List.mem_singleton] at hc
        rcases hc with hc | rfl
        · exact hL c hc
        · simp at hB ⊢; omega
    have hel : (ends L l).length ≤ L.length + l.length := by cases l <;> simp [ends]
    cases s with
    | nil =>
      simp only [parse, Option.some.injEq] at h
      subst h
      exact ⟨by simp at hB; omega, he⟩
    | cons c t =>
      simp only [parse] at h
      simp only [List.length_cons] at hB
      split at h
      · exact ih t L l B r h (by omega) hL
      · split at h
        · exact ih t (ends L l) [] B r h (by simp; omega) he
        · split at h
          · split at h
            · cases h
            · rename_i w t' hq
              split at h
              · exact ih t' L _ B r h (by have := quoted_len _ t w t' (Nat.le_refl _) hq; simp; omega) hL
              · cases h
          · split at h
            · rename_i hw
              have := drop_len c t hw.1
              exact ih _ L _ B r h (by simp only [List.length_append, List.length_cons, List.length_nil] at this ⊢; omega) hL
            · cases h
theorem Pick_s (d : Nat) (n m : Int) (H : Heap) (hm : 0 < m) (hm2 : m ≤ 1048576) : ∃ r : Int, X (d + 1) n_hand_Pick [.int .i64 n, .int .i64 m] H = some (.int .i64 r, H) ∧ 0 ≤ r ∧ r < m := by
  rw [hand_Pick_eq, if_neg (by omega)]
  have h1 := Int.tmod_lt_of_pos n hm
  have h2 : -m < Int.tmod n m := by
    have := Int.lt_tmod_of_pos n hm
    omega
  simp only [decide_eq_true_eq]
  by_cases h : Int.tmod n m < 0
  · rw [if_pos h, w64 (by omega)]
    exact ⟨_, rfl, by omega, by omega⟩
  · rw [if_neg h]
    exact ⟨_, rfl, by omega, h1⟩

end Go.Proofs.YtnpmlgibjhjiiaaDoor.dec

namespace Go.Proofs.YtnpmlgibjhjiiaaDoor.dec
open Go Go.Cm

attribute [local congr] optK_congr asI_congr asN_congr asB_congr asS_congr asP_congr asA_congr asSL_congr callK_congr castT_congr chk_congr
attribute [local simp] optK_s asI_s asN_s asB_s asS_s asP_s asA_s asSL_s callK_s chk_s newK_s castT_s castL_n castL_c cast0

theorem strsAt_of {H : Heap} {b : Nat} : ∀ (l : List W) (o : Nat), (∀ (j : Nat) w, l[j]? = some w → H.ld1 ⟨b, o + j, none⟩ = some (.string (S w))) → strsAt H b o l.length = some (l.map S) := by
  intro l
  induction l with
  | nil => intro o _; rfl
  | cons w l ih =>
    intro o h
    have h0 := h 0 w rfl
    have hr := ih (o + 1) fun j x hx => by
      have := h (j + 1) x hx
      rwa [show o + (j + 1) = o + 1 + j by omega] at this
    simp only [List.length_cons, strsAt]
    rw [Nat.add_zero] at h0
    rw [h0, hr]
    rfl

theorem join_X (d : Nat) (x : Sl) (sep : ByteArray) (H : Heap) : X (d + 1) n_strings_Join [x.v, .string sep] H = joinP [x.v, .string sep] H := by kernel_rfl
theorem join_s (d : Nat) (x : Sl) (l : List W) (sep : W) (H : Heap) (h : Words H x l) (hl : (Lib.join l sep).length ≤ 140737488355328) (hn : l.length ≤ 1048576) :
    X (d + 1) n_strings_Join [x.v, .string (S sep)] H = some (.string (S (Lib.join l sep)), H) := by
  rw [join_X]
  have hnum := h.num
  have hS : (l.map S).map (·.data.toList) = l := by
    rw [List.map_map]
    exact List.map_id'' (fun w => by simp [S]) l
  cases l with
  | nil =>
    simp only [List.length_nil] at hnum
    simp only [joinP, Sl.v, hnum, if_true]
    rfl
  | cons w l =>
    obtain ⟨b, hb, h1⟩ := h.at (k := 0) rfl
    have hst := strsAt_of (b := b) (w :: l) 0 fun j v hv => by
      obtain ⟨b', e1, e2⟩ := h.at hv
      rw [hb] at e1
      cases e1
      rw [Nat.zero_add]; exact e2
    simp only [joinP, Sl.v, hb, hnum, if_true]
    rw [if_neg (by simp), hst]
    simp only [hS]
    have : (S sep).data.toList = sep := by simp [S]
    rw [this, if_pos ⟨hl, by simp only [List.length_cons] at hn ⊢; omega⟩]
    rfl

/-- the words of a command, shown; none where its name is empty -/
def okW (name : W) : List W → Option (List W)
  | [] => some []
  | w :: r => match shownW w with
    | some v => if name = [] then none else (okW name r).map (v :: ·)
    | none => none
end Go.Proofs.YtnpmlgibjhjiiaaDoor.dec

namespace Go.Proofs.YtnpmlgibjhjiiaaDoor.dec
open Go Go.Cm

attribute [local congr] optK_congr asI_congr asN_congr asB_congr asS_congr asP_congr asA_congr asSL_congr callK_congr castT_congr chk_congr
attribute [local simp] optK_s asI_s asN_s asB_s asS_s asP_s asA_s asSL_s callK_s chk_s newK_s castT_s castL_n castL_c cast0

theorem shownW_len {s v : W} (h : shownW s = some v) : v.length ≤ 2 * s.length + 2 := by
  unfold shownW at h
  have := escs_len s
  split at h
  · simp only [Option.some.injEq] at h
    subst h
    split
    · simp; omega
    · omega
  · cases h

theorem join_len (M : Nat) (sep : W) : ∀ l : List W, (∀ v ∈ l, v.length ≤ M) → (Lib.join l sep).length ≤ l.length * (M + sep.length) := by
  intro l
  cases l with
  | nil => intro _; simp [Lib.join_nil]
  | cons v l =>
    intro h
    have ht : ∀ r : List W, (∀ v ∈ r, v.length ≤ M) → (Lib.joinTail sep r).length ≤ r.length * (M + sep.length) := by
      intro r
      induction r with
      | nil => intro _; simp [Lib.joinTail]
      | cons x r ih =>
        intro h
        have h1 := ih fun v hv => h v (by simp [hv])
        have h2 := h x (by simp)
        have e : Lib.joinTail sep (x :: r) = sep ++ x ++ Lib.joinTail sep r := by simp [Lib.joinTail]
        rw [e, List.length_append, List.length_append, List.length_cons, Nat.add_mul]
        omega
    have h1 := ht l fun v hv => h v (by simp [hv])
    have h2 := h v (by simp)
    rw [Lib.join_cons, List.length_append, List.length_cons, Nat.add_mul]
    omega

def WPost (d m0 B : Nat) (x11 : Sl) (x12 x13 : Int) (vs acc : List W) (H : Heap) (q : Option (List W)) (r : Res) : Prop := match q with
  | none => ∃ H1, r = some (.string (S []), H1) ∧ Keep (fun k => B ≤ k) H H1
  | some us => ∃ H1 x3', r = cmd_Print_p11010 (d + 2) m0 x3' x11 x12 (IntKind.wrap .i64 (x13 + 1)) H1 ∧ Words H1 x3' (vs ++ [Lib.join (acc ++ us) [32]]) ∧ Keep (fun k => B ≤ k) H H1 ∧ ∀ k, x3'.at k → B ≤ k

theorem WPost.keep {d m0 B : Nat} {x11 : Sl} {x12 x13 : Int} {vs acc : List W} {H H1 : Heap} {q : Option (List W)} {r : Res} {v : W} (h : WPost d m0 B x11 x12 x13 vs (acc ++ [v]) H1 q r) (hk : Keep (fun k => B ≤ k) H H1) :
    WPost d m0 B x11 x12 x13 vs acc H (q.map (v :: ·)) r := by
  cases q with
  | none => obtain ⟨H', h1, h2⟩ := h; exact ⟨H', h1, hk.trans h2 fun _ _ h => h⟩
  | some us =>
    obtain ⟨H', x, h1, h2, h3, h4⟩ := h
    exact ⟨H', x, h1, by simpa using h2, hk.trans h3 fun _ _ h => h, h4⟩

theorem print_words (d m0 B C p : Nat) (name : W) (ws vs : List W) (x3 x11 x22 : Sl) (x12 x13 : Int) (hn : ws.length ≤ 1048576) (hw : ∀ w ∈ ws, w.length ≤ 1048576) (hv : vs.length ≤ 1048576) (hBC : B ≤ C) (hp : p < C) (h3 : ∀ k, x3.at k → k < C) (h3B : ∀ k, x3.at k → B ≤ k) (h22 : ∀ k, x22.at k → k < C) :
    ∀ (m1 j : Nat) (x6 : Sl) (acc : List W) (H : Heap), j ≤ ws.length → ws.length - j < m1 → acc.length ≤ j → (∀ v ∈ acc, v.length ≤ 2097200) → H.ld1 ⟨p, 0, none⟩ = some (.string (S name)) → (∀ v ∈ acc, name ≠ []) → C ≤ H.next → Words H x22 ws → Words H x6 acc → Words H x3 vs → (∀ k, x6.at k → C ≤ k) →
      WPost d m0 B x11 x12 x13 vs acc H (okW name (ws.drop j)) (cmd_Print_p110100110011010 (d + 2) m0 m1 x3 p x6 x11 x12 x13 x22 (ws.length : Int) (j : Int) H) := by
  intro m1
  induction m1 with
  | zero => intro j x6 acc H h1 h2; omega
  | succ m1 ih =>
    intro j x6 acc H h1 h2 ha hal hnm hne hC hW22 hW6 hW3 hx6
    rw [cmd_Print_p110100110011010_s]
    simp only [decide_eq_true_eq]
    by_cases hj : j < ws.length
    · rw [if_pos (by omega)]
      have hc : ws[j]? = some ws[j] := List.getElem?_eq_getElem hj
      have hd : ws.drop j = ws[j] :: ws.drop (j + 1) := by rw [List.drop_eq_getElem_cons hj]
      have hlw : ws[j].length ≤ 1048576 := hw _ (List.getElem_mem hj)
      generalize hcc : ws[j] = w at hc hd hlw
      obtain ⟨b, e1, e2⟩ := hW22.at hc
      obtain ⟨H1, s1, s2⟩ := shown_s d w H (by omega)
      have hnum := hW22.num
      simp only [e1, optK_s, hnum]
      rw [if_pos (by omega)]
      simp only [ap, Nat.zero_add, Int.toNat_natCast, Nat.mul_one, e2, optK_s, asS_s]
      rw [s1, hd]
      have hk1 : Keep (fun k => B ≤ k) H H1 := s2.mono fun k _ h => h.elim
      have hnm1 : H1.ld1 ⟨p, 0, none⟩ = some (.string (S name)) := by
        rw [← hnm]
        have := s2.2 p (by omega) id
        simp only [Heap.ld1, this]
      cases hs : shownW w with
      | none =>
        have e : okW name (w :: ws.drop (j + 1)) = none := by simp [okW, hs]
        rw [e]
        refine ⟨H1, ?_, hk1⟩
        simp [cmd_Print_p110100110011010011001101_eq]
      | some v =>
        by_cases hz : name = []
        · have e : okW name (w :: ws.drop (j + 1)) = none := by simp [okW, hs, hz]
          rw [e]
          refine ⟨H1, ?_, hk1⟩
          subst hz
          simp [cmd_Print_p110100110011010011001101_eq, hnm1, sEqS]
        · have e : okW name (w :: ws.drop (j + 1)) = (okW name (ws.drop (j + 1))).map (v :: ·) := by simp [okW, hs, hz]
          rw [e]
          have hvl := shownW_len hs
          have hW6' : Words H1 x6 acc := Whole.keep hW6 s2 (fun _ _ h => h)
          obtain ⟨s', H', q1, q2, q3, q0, q4⟩ := hW6'.push v (by omega)
          have hsep : ∀ k, x6.at k → C ≤ k := hx6
          have hn1 := hk1.1
          have hn2 := q3.1
          have hk2 : Keep (fun k => B ≤ k) H H' := hk1.trans (q3.mono fun k _ h => by have := hx6 k h; show B ≤ k; omega) fun _ _ h => h
          refine WPost.keep (v := v) ?_ hk2
          have hfin := ih (j + 1) s' (acc ++ [v]) H' (by omega) (by omega) (by simp; omega) (by
            intro y hy
            rcases List.mem_append.1 hy with h | h
            · exact hal y h
            · simp only [List.mem_singleton] at h; subst h; omega) (by
            rw [← hnm1]
            have := q3.2 p (by omega) (fun h => by have := hx6 p h; omega)
            simp only [Heap.ld1, this]) (fun _ _ => hz) (by omega) ((hW22.keep s2 (fun _ _ h => h)).keep q3 (fun k hk h => by have := hx6 k h; have := h22 k hk; omega)) q2
            ((hW3.keep s2 (fun _ _ h => h)).keep q3 (fun k hk h => by have := hx6 k h; have := h3 k hk; omega)) (fun k hk => by have := q4 k hk; omega)
          have hw1 : IntKind.i64.wrap ((j : Int) + 1) = ((j + 1 : Nat) : Int) := by rw [w64 (by omega)]; omega
          simp only [callK_s, castT_s, castL_n, castL_c, cast0]
          simp [cmd_Print_p110100110011010011001101_eq, hnm1, sEqS, hz, q1, hw1]
          simpa using hfin
    · rw [if_neg (by omega), List.drop_eq_nil_of_le (by omega)]
      have hb := join_len 2097200 [32] acc hal
      have hm : acc.length * (2097200 + [(32 : UInt8)].length) ≤ 1048576 * (2097200 + 1) := Nat.mul_le_mul (by omega) (Nat.le_refl _)
      rw [join_s (d + 1) x6 acc [32] H hW6 (by omega) (by omega)]
      simp only [callK_s, asS_s, newK_s]
      obtain ⟨s', H', q1, q2, q3, q0, q4⟩ := hW3.push (Lib.join acc [32]) (by omega)
      rw [q1]
      refine ⟨H', s', ?_, by simpa using q2, q3.mono fun k _ h => h3B k h, fun k hk => by have := q4 k hk; omega⟩
      simp only [asSL_s]
end Go.Proofs.YtnpmlgibjhjiiaaDoor.dec

namespace Go.Proofs.YtnpmlgibjhjiiaaDoor.dec
open Go Go.Cm

attribute [local congr] optK_congr asI_congr asN_congr asB_congr asS_congr asP_congr asA_congr asSL_congr callK_congr castT_congr chk_congr
attribute [local simp] optK_s asI_s asN_s asB_s asS_s asP_s asA_s asSL_s callK_s chk_s newK_s castT_s castL_n castL_c cast0

/-- the commands as they are printed; none where one may not be -/
def cmdsV : List Cmd → Option (List W)
  | [] => some []
  | c :: cs => match okW c.1 (c.1 :: c.2) with
    | some ws => (cmdsV cs).map (Lib.join ws [32] :: ·)
    | none => none
def printW (L : List Cmd) : W := match cmdsV L with
  | some vs => Lib.join vs [59, 32]
  | none => []

theorem take_two {cs : List Value} {i : Nat} {x y : Value} (h1 : cs[i]? = some x) (h2 : cs[i + 1]? = some y) : (cs.drop i).take 2 = [x, y] := by
  have l1 := (List.getElem?_eq_some_iff.1 h1)
  have l2 := (List.getElem?_eq_some_iff.1 h2)
  obtain ⟨q1, rfl⟩ := l1
  obtain ⟨q2, rfl⟩ := l2
  rw [List.drop_eq_getElem_cons q1, List.drop_eq_getElem_cons q2]
  rfl

theorem Cmds.ldA {H : Heap} {P : Nat → Prop} {so : Sl} {L : List Cmd} (h : Cmds H P so L) {i : Nat} {n : W} {ws : List W} (hi : L[i]? = some (n, ws)) :
    ∃ b a, so.a = some ⟨b, 0, none⟩ ∧ Cm.ldA H ⟨b, i * 2, none⟩ 2 = some (.agg #[.string (S n), Sl.v a]) ∧ Words H a ws ∧ ∀ k, a.at k → P k := by
  obtain ⟨cs, h1, h2, h3⟩ := h
  have hlt := (List.getElem?_eq_some_iff.1 hi).1
  have hne : cs ≠ [] := fun e => by subst e; simp at h2; omega
  obtain ⟨b, o, st, e1, e2, e3, _⟩ := Whole.block h1 hne
  obtain ⟨q1, a, q2, q3, q4⟩ := h3 i n ws hi
  refine ⟨b, a, by rw [e1], ?_, q3, q4⟩
  unfold Cm.ldA
  rw [ldN_s e3 (by omega), take_two q1 q2]
theorem store2 {H : Heap} {p : Nat} {x y u v : Value} {e : TypeId} (h : H.get p = some (.cells [x, y] e false 0 false)) (hu : one u = true) (hv : one v = true) (K : Value → Heap → Res) :
    effK (.store 2) [P0 p, .agg #[u, v]] H K = K (.tuple #[]) (H.put p (.cells [u, v] e false 0 false)) := by
  simp [effK, cellsL, P0, Heap.stN, h, hu, hv, optK_s]
  rfl

theorem Words.src {H : Heap} {a : Sl} {ws : List W} (h : Words H a ws) : srcN false a.v = some ws.length ∧ srcCells H 1 ws.length a.v = some (strs ws) := by
  have hn := h.num
  cases ws with
  | nil =>
    simp only [List.length_nil] at hn
    refine ⟨by simp [srcN, Sl.v, hn], ?_⟩
    obtain ⟨aa, an, ac⟩ := a
    cases aa <;> simp [srcCells, Sl.v, strs]
  | cons w ws =>
    obtain ⟨b, o, st, e1, e2, e3, _⟩ := Whole.block h (by simp [strs])
    have hl : (strs (w :: ws)).length = (w :: ws).length := by simp [strs]
    refine ⟨by simp [srcN, Sl.v, hn], ?_⟩
    rw [e1]
    simp only [srcCells, Sl.v]
    rw [if_neg (by simp), Nat.mul_one, ldN_s e3 (by omega), List.drop_zero, List.take_of_length_le (by omega)]

theorem okW_len (M : Nat) (name : W) : ∀ ws us : List W, okW name ws = some us → (∀ w ∈ ws, w.length ≤ M) → us.length = ws.length ∧ ∀ v ∈ us, v.length ≤ 2 * M + 2 := by
  intro ws
  induction ws with
  | nil => intro us h _; simp only [okW, Option.some.injEq] at h; subst h; simp
  | cons w ws ih =>
    intro us h hM
    simp only [okW] at h
    split at h
    · rename_i v hv
      split at h
      · cases h
      · obtain ⟨r, h1, rfl⟩ := Option.map_eq_some_iff.1 h
        obtain ⟨h2, h3⟩ := ih r h1 fun x hx => hM x (by simp [hx])
        have h4 := shownW_len hv
        have h5 := hM w (by simp)
        refine ⟨by simp [h2], fun x hx => ?_⟩
        rcases List.mem_cons.1 hx with rfl | hx
        · omega
        · exact h3 x hx
    · cases h

theorem print_loop (d B : Nat) (L : List Cmd) (P : Nat → Prop) (x11 : Sl) (hL : L.length ≤ 16) (hsm : ∀ c ∈ L, c.1.length ≤ 1048576 ∧ c.2.length ≤ 1048575 ∧ ∀ w ∈ c.2, w.length ≤ 1048576) (hP : ∀ k, P k → k < B) (hx : ∀ k, x11.at k → k < B) :
    ∀ (m i : Nat) (x3 : Sl) (vs : List W) (H : Heap), i ≤ L.length → L.length - i < m → vs.length ≤ i → (∀ v ∈ vs, v.length ≤ 2200000000000) → B ≤ H.next → Cmds H P x11 L → Words H x3 vs → (∀ k, x3.at k → B ≤ k) →
      ∃ H', cmd_Print_p11010 (d + 2) m x3 x11 (L.length : Int) (i : Int) H = some (.string (S (match cmdsV (L.drop i) with
        | some us => Lib.join (vs ++ us) [59, 32]
        | none => [])), H') ∧ Keep (fun k => B ≤ k) H H' := by
  intro m
  induction m with
  | zero => intro i x3 vs H h1 h2; omega
  | succ m ih =>
    intro i x3 vs H h1 h2 hv hvl hB hC hW hx3
    rw [cmd_Print_p11010_s]
    simp only [decide_eq_true_eq]
    by_cases hi : i < L.length
    · rw [if_pos (by omega)]
      have hc : L[i]? = some L[i] := List.getElem?_eq_getElem hi
      have hd : L.drop i = L[i] :: L.drop (i + 1) := by rw [List.drop_eq_getElem_cons hi]
      have hsc := hsm _ (List.getElem_mem hi)
      generalize hcc : L[i] = c at hc hd hsc
      obtain ⟨n, ws⟩ := c
      obtain ⟨b, a, e1, e2, e3, e4⟩ := hC.ldA hc
      have hnum := hC.num
      simp only [e1, optK_s, hnum]
      rw [if_pos (by omega)]
      simp only [ap, Nat.zero_add, Int.toNat_natCast, e2, optK_s, asA_s, newK_s]
      rw [store2 (Heap.get_new_same H _) rfl rfl]
      generalize hH2 : (H.new _).put _ _ = H2
      have k2 : Keep (fun _ => False) H H2 := by
        subst hH2
        exact ⟨by simp, fun k hk _ => by rw [Heap.get_put_ne _ _ (by omega), Heap.get_new_ne _ _ (by omega)]⟩
      have g2 : H2.get H.next = some (.cells [.string (S n), a.v] t_cmd_Command false 0 false) := by subst hH2; simp
      have n2 : H2.next = H.next + 1 := by subst hH2; simp
      simp only [ld1_s g2, List.getElem?_cons_zero, optK_s, asS_s, newK_s]
      generalize hH11 : H2.new _ = H11
      have k11 : Keep (fun _ => False) H2 H11 := by subst hH11; exact Keep.new _ _
      have g11 : H11.get H.next = some (.cells [.string (S n), a.v] t_cmd_Command false 0 false) := by subst hH11; rw [Heap.get_new_ne _ _ (by omega)]; exact g2
      have n11 : H11.next = H.next + 2 := by subst hH11; simp; omega
      have hone : Whole H11 ⟨some ⟨H2.next, 0, none⟩, 1, 1⟩ [.string (S n)] t_string 1 := by subst hH11; exact .inr ⟨H2.next, 1, rfl, rfl, by simp, false, false, by simp⟩
      have k0 : Keep (fun _ => False) H H11 := k2.trans k11 fun _ _ h => h
      have ha : Words H11 a ws := Whole.keep e3 k0 (fun _ _ h => h)
      simp only [ld1_s g11, List.getElem?_cons_succ, List.getElem?_cons_zero, optK_s, asSL_s]
      obtain ⟨s1, s2⟩ := Words.src ha
      obtain ⟨l16, H15, q1, q2, q3, q4, _, _⟩ := append_whole (bytes := 16) (str := false) (n := ws.length) hone s1 s2 (by simp [strs]) (by show (1 + ws.length) * 16 ≤ _; have := hsc.2.1; simp only at this; omega) (by omega) (by omega)
      have q1' := q1
      simp only [Sl.v] at q1'
      rw [show (Value.slice (some ⟨H2.next, 0, none⟩) 1 1) = Sl.v ⟨some ⟨H2.next, 0, none⟩, 1, 1⟩ from rfl, q1]
      simp only [asSL_s]
      have hw16 : Words H15 l16 (n :: ws) := by simpa [Words, strs] using q2
      have hl16 : l16.n = (n :: ws).length := hw16.num
      rw [show (⟨l16.a, l16.n, l16.c⟩ : Sl) = l16 from rfl, hl16]
      have k15 : Keep (fun k => B ≤ k) H H15 := (k0.mono fun _ _ h => h.elim).trans (q3.mono fun k _ hk => by
        obtain ⟨_, e, rfl⟩ := hk
        cases e
        show B ≤ H2.next
        omega) fun _ _ h => h
      have n15 := q3.1
      have g15 : H15.ld1 ⟨H.next, 0, none⟩ = some (.string (S n)) := by
        have := q3.2 H.next (by omega) (fun ⟨_, e, e'⟩ => by cases e; simp at e'; omega)
        simp only [Heap.ld1, this, g11]
        rfl
      have hW15 : Words H15 x3 vs := Whole.keep (Whole.keep hW k0 (fun _ _ h => h)) q3 (fun k hk ⟨_, e, e'⟩ => by
        cases e
        have := Whole.lt hW hk
        simp only at e'
        omega)
      have hall : ∀ w ∈ n :: ws, w.length ≤ 1048576 := fun w hw => by
        rcases List.mem_cons.1 hw with rfl | hw
        · exact hsc.1
        · exact hsc.2.2 w hw
      have h2l : (n :: ws).length ≤ 1048576 := by have := hsc.2.1; simp only [List.length_cons] at this ⊢; omega
      have pw := print_words d m B H15.next H.next n (n :: ws) vs x3 x11 l16 (L.length : Int) (i : Int) h2l hall (by omega) (by omega) (by omega) (fun k hk => Whole.lt hW15 hk) hx3 (fun k hk => Whole.lt hw16 hk)
        NN 0 Sl.nil [] H15 (by omega) (NN_big _ (by omega)) (by simp) (by simp) g15 (by simp) (Nat.le_refl _) hw16 (Whole.nil _ _ _) hW15 (fun k hk => by obtain ⟨_, h, _⟩ := hk; cases h)
      rw [show ((0 : Nat) : Int) = 0 from rfl, List.drop_zero] at pw
      rw [hd]
      cases hq : okW n (n :: ws) with
      | none =>
        rw [hq] at pw
        obtain ⟨H1, r1, r2⟩ := pw
        exact ⟨H1, by rw [r1]; simp [cmdsV, hq], k15.trans r2 fun _ _ h => h⟩
      | some us =>
        rw [hq] at pw
        obtain ⟨H1, x3', r1, r2, r3, r4⟩ := pw
        have kk : Keep (fun k => B ≤ k) H H1 := k15.trans r3 fun _ _ h => h
        rw [List.nil_append] at r2
        obtain ⟨u1, u2⟩ := okW_len 1048576 n _ us hq hall
        have u3 := join_len 2097154 [32] us u2
        have u4 : us.length * (2097154 + [(32 : UInt8)].length) ≤ 1048576 * (2097154 + 1) := Nat.mul_le_mul (by omega) (Nat.le_refl _)
        obtain ⟨cs, c1, c2⟩ := hC
        have hC1 : Cmds H1 P x11 L := ⟨cs, Whole.keep c1 kk (fun k hk h => by have := hx k hk; omega), c2.keep kk (fun k hk h => by have := hP k hk; omega)⟩
        obtain ⟨H2', f1, f2⟩ := ih (i + 1) x3' (vs ++ [Lib.join us [32]]) H1 (by omega) (by omega) (by simp; omega) (by
          intro v hv'
          rcases List.mem_append.1 hv' with h | h
          · exact hvl v h
          · simp only [List.mem_singleton] at h; subst h; omega) (by have := kk.1; omega) hC1 r2 r4
        refine ⟨H2', ?_, kk.trans f2 fun _ _ h => h⟩
        rw [r1, w64 (by omega), show ((i : Int) + 1) = ((i + 1 : Nat) : Int) by omega, f1]
        simp only [cmdsV, hq]
        cases cmdsV (L.drop (i + 1)) <;> simp
    · rw [if_neg (by omega), List.drop_eq_nil_of_le (by omega)]
      have hb := join_len 2200000000000 [59, 32] vs hvl
      have hm : vs.length * (2200000000000 + [(59 : UInt8), 32].length) ≤ 16 * (2200000000000 + 2) := Nat.mul_le_mul (by omega) (Nat.le_refl _)
      rw [join_s (d + 1) x3 vs [59, 32] H hW (by omega) (by omega)]
      refine ⟨H, ?_, Keep.refl _⟩
      simp [cmdsV]

/-- may Print meet it? -/
def Small (L : List Cmd) : Prop := L.length ≤ 16 ∧ ∀ c ∈ L, c.1.length ≤ 1048576 ∧ c.2.length ≤ 1048575 ∧ ∀ w ∈ c.2, w.length ≤ 1048576

theorem Print_s (d : Nat) (L : List Cmd) (P : Nat → Prop) (x : Sl) (H : Heap) (hL : Small L) (h : Cmds H P x L) : ∃ H', X (d + 3) n_cmd_Print [x.v] H = some (.string (S (printW L)), H') ∧ Keep (fun _ => False) H H' := by
  rw [cmd_Print_eq, h.num]
  obtain ⟨cs, c1, c2⟩ := h
  have hC : Cmds H (fun k => P k ∧ k < H.next) x L := ⟨cs, c1, c2.mono fun k hk hp => ⟨hp, hk⟩⟩
  obtain ⟨H', h1, h2⟩ := print_loop d H.next L _ x hL.1 hL.2 (fun k hk => hk.2) (fun k hk => Whole.lt c1 hk) NN 0 Sl.nil [] H (by omega) (NN_big _ (by have := hL.1; omega)) (by simp) (by simp) (Nat.le_refl _) hC (Whole.nil _ _ _) (fun k hk => by obtain ⟨_, h, _⟩ := hk; cases h)
  refine ⟨H', ?_, h2.mono fun k hk h => by omega⟩
  rw [show (0 : Int) = ((0 : Nat) : Int) from rfl, h1, List.drop_zero]
  simp only [List.nil_append]
  rfl
end Go.Proofs.YtnpmlgibjhjiiaaDoor.dec

namespace Go.Proofs.YtnpmlgibjhjiiaaDoor.dec
open Go Go.Cm

attribute [local congr] optK_congr asI_congr asN_congr asB_congr asS_congr asP_congr asA_congr asSL_congr callK_congr castT_congr chk_congr
attribute [local simp] optK_s asI_s asN_s asB_s asS_s asP_s asA_s asSL_s callK_s chk_s newK_s castT_s castL_n castL_c cast0

/-- strings that are given: any slice of strings -/
def Strs (H : Heap) (x : Sl) (l : List W) : Prop := x.n = l.length ∧ (l = [] ∨ ∃ b off c e o fz st, x.a = some ⟨b, off, none⟩ ∧ b < H.next ∧ H.get b = some (.cells c e o fz st) ∧ off + l.length ≤ c.length ∧ (c.drop off).take l.length = strs l)

theorem Strs.keep {H H' : Heap} {x : Sl} {l : List W} (h : Strs H x l) (hk : Keep (fun _ => False) H H') : Strs H' x l := by
  obtain ⟨h1, h2⟩ := h
  refine ⟨h1, h2.imp id ?_⟩
  rintro ⟨b, off, c, e, o, fz, st, e1, e2, e3, e4, e5⟩
  exact ⟨b, off, c, e, o, fz, st, e1, Nat.lt_of_lt_of_le e2 hk.1, by rw [hk.2 b e2 id]; exact e3, e4, e5⟩

theorem Strs.src {H : Heap} {x : Sl} {l : List W} (h : Strs H x l) : srcN false x.v = some l.length ∧ srcCells H 1 l.length x.v = some (strs l) := by
  obtain ⟨h1, h2⟩ := h
  refine ⟨by simp [srcN, Sl.v, h1], ?_⟩
  rcases h2 with rfl | ⟨b, off, c, e, o, fz, st, e1, e2, e3, e4, e5⟩
  · obtain ⟨xa, xn, xc⟩ := x
    cases xa <;> simp [srcCells, Sl.v, strs]
  · simp only [srcCells, Sl.v, e1]
    by_cases hz : l.length = 0
    · rw [if_pos hz]
      have := List.eq_nil_of_length_eq_zero hz
      subst this
      rfl
    · rw [if_neg hz, Nat.mul_one, ldN_s e3 e4, e5]

theorem Strs.first {H : Heap} {x : Sl} {w : W} {l : List W} (h : Strs H x (w :: l)) : ∃ a, x.a = some a ∧ H.ld1 (ap a 0) = some (.string (S w)) := by
  obtain ⟨h1, h2⟩ := h
  rcases h2 with h2 | ⟨b, off, c, e, o, fz, st, e1, e2, e3, e4, e5⟩
  · cases h2
  · refine ⟨_, e1, ?_⟩
    simp only [ap, Nat.add_zero]
    rw [ld1_s e3]
    have := congrArg (fun l => l[0]?) e5
    simpa [strs] using this

theorem below_s (d : Nat) (n : Int) (H : Heap) (h : -12 < n ∧ n ≤ 0) : ∃ w : W, X (d + 1) n_ref22_below [.int .i64 n] H = some (.string (S w), H) ∧ w.length ≤ 2 := by
  have e : X (d + 1) n_ref22_below [.int .i64 n] H = digP dig2 [.int .i64 n] H := by kernel_rfl
  rw [e]
  simp only [digP, dig2, if_pos h]
  by_cases g : -10 < n
  · rw [if_pos g]; exact ⟨[UInt8.ofNat (48 - n).toNat], rfl, by simp⟩
  · rw [if_neg g]; exact ⟨[49, UInt8.ofNat (38 - n).toNat], rfl, by simp⟩

theorem Digits_s (d : Nat) (n : Int) (H : Heap) (h : 0 ≤ n ∧ n < 12) : ∃ w : W, X (d + 2) n_ref22_Digits [.int .i64 n] H = some (.string (S w), H) ∧ w.length ≤ 2 := by
  rw [ref22_Digits_eq, w64 (by omega)]
  obtain ⟨w, h1, h2⟩ := below_s d (0 - n) H (by omega)
  refine ⟨w, ?_, h2⟩
  simp only [decide_eq_true_eq]
  rw [if_neg (by omega), h1]
  simp only [callK_s, asS_s]
end Go.Proofs.YtnpmlgibjhjiiaaDoor.dec

namespace Go.Proofs.YtnpmlgibjhjiiaaDoor.dec
open Go Go.Cm

attribute [local congr] optK_congr asI_congr asN_congr asB_congr asS_congr asP_congr asA_congr asSL_congr callK_congr castT_congr chk_congr
attribute [local simp] optK_s asI_s asN_s asB_s asS_s asP_s asA_s asSL_s callK_s chk_s newK_s castT_s castL_n castL_c cast0

/-- the raw command in its box; the command under way; the cell of the result -/
structure Raws (H : Heap) (pr p3 p4 : Nat) (nm a b how : Int) (odd : Sl) (name : W) (args : Sl) : Prop where
  raw : H.get pr = some (.cells [.int .i64 nm, .int .i64 a, .int .i64 b, odd.v, .int .i64 how] t_law24_Raw false 0 false)
  res : ∃ u v, H.get p3 = some (.cells [u, v] t_cmd_Command false 0 false)
  cmd : H.get p4 = some (.cells [.string (S name), args.v] t_cmd_Command false 0 false)
  lt : pr < p3 ∧ p3 < p4 ∧ p4 < H.next

theorem Raws.keep {H H' : Heap} {pr p3 p4 : Nat} {nm a b how : Int} {odd : Sl} {name : W} {args : Sl} (h : Raws H pr p3 p4 nm a b how odd name args) {T : Nat → Prop} (hk : Keep T H H') (hT : ∀ k, k ≤ p4 → ¬ T k) : Raws H' pr p3 p4 nm a b how odd name args := by
  have h4 := h.lt
  refine ⟨?_, ?_, ?_, by have := hk.1; omega⟩
  · rw [hk.2 pr (by omega) (hT pr (by omega))]; exact h.raw
  · obtain ⟨u, v, e⟩ := h.res
    exact ⟨u, v, by rw [hk.2 p3 (by omega) (hT p3 (by omega))]; exact e⟩
  · rw [hk.2 p4 (by omega) (hT p4 (Nat.le_refl _))]; exact h.cmd

theorem Raws.setArgs {H : Heap} {pr p3 p4 : Nat} {nm a b how : Int} {odd : Sl} {name : W} {args args' : Sl} (h : Raws H pr p3 p4 nm a b how odd name args) :
    ∃ H', H.st1 ⟨p4, 1, none⟩ args'.v = some H' ∧ Raws H' pr p3 p4 nm a b how odd name args' ∧ Keep (· = p4) H H' := by
  have h4 := h.lt
  refine ⟨_, st1_s h.cmd (by simp) (by simp), ?_, Keep.put _ _ _ rfl⟩
  obtain ⟨u, v, e⟩ := h.res
  exact ⟨by rw [Heap.get_put_ne _ _ (by omega)]; exact h.raw, ⟨u, v, by rw [Heap.get_put_ne _ _ (by omega)]; exact e⟩, by simp, h4⟩
theorem Raws.setName {H : Heap} {pr p3 p4 : Nat} {nm a b how : Int} {odd : Sl} {name name' : W} {args : Sl} (h : Raws H pr p3 p4 nm a b how odd name args) :
    ∃ H', H.st1 ⟨p4, 0, none⟩ (.string (S name')) = some H' ∧ Raws H' pr p3 p4 nm a b how odd name' args ∧ Keep (· = p4) H H' := by
  have h4 := h.lt
  refine ⟨_, st1_s h.cmd (by simp) (by simp), ?_, Keep.put _ _ _ rfl⟩
  obtain ⟨u, v, e⟩ := h.res
  exact ⟨by rw [Heap.get_put_ne _ _ (by omega)]; exact h.raw, ⟨u, v, by rw [Heap.get_put_ne _ _ (by omega)]; exact e⟩, by simp, h4⟩

/-- a command is handed back -/
def CPost (B : Nat) (H : Heap) (r : Res) : Prop := ∃ H' name args ws, r = some (.agg #[.string (S name), Sl.v args], H') ∧ Words H' args ws ∧ (∀ k, args.at k → B ≤ k) ∧ Keep (fun k => B ≤ k) H H' ∧ name.length ≤ 1048576 ∧ ws.length ≤ 1048575 ∧ ∀ w ∈ ws, w.length ≤ 1048576

theorem hand_back {H : Heap} {pr p3 p4 B : Nat} {nm a b how : Int} {odd : Sl} {name : W} {args : Sl} {ws : List W} (h : Raws H pr p3 p4 nm a b how odd name args) (hB : B ≤ p3) (hw : Words H args ws) (ha : ∀ k, args.at k → p4 < k) (hn : name.length ≤ 1048576) (h2 : ws.length ≤ 1048575) (h3 : ∀ w ∈ ws, w.length ≤ 1048576) :
    CPost B H (optK (ldA H ⟨p4, 0, none⟩ 2) fun v => asA v fun c => effK (.store 2) [P0 p3, .agg c] H fun _ H' => retK [.cell 2 2 true] [(2, P0 p3)] H') := by
  have h4 := h.lt
  obtain ⟨u, v, e⟩ := h.res
  have hl : ldA H ⟨p4, 0, none⟩ 2 = some (.agg #[.string (S name), args.v]) := by
    unfold ldA
    rw [ldN_s h.cmd (by simp)]
    rfl
  simp only [hl, optK_s, asA_s]
  rw [store2 e rfl rfl]
  refine ⟨H.put p3 (.cells [.string (S name), args.v] t_cmd_Command false 0 false), name, args, ws, ?_, Whole.keep hw (Keep.put _ _ _ rfl) (fun k hk e => by have := ha k hk; omega), fun k hk => by have := ha k hk; omega, (Keep.put _ _ _ rfl).mono (fun k _ e => by show B ≤ k; omega), hn, h2, h3⟩
  have hl2 : (H.put p3 (.cells [.string (S name), args.v] t_cmd_Command false 0 false)).ldN ⟨p3, 0, none⟩ 2 = some [.string (S name), args.v] := by
    rw [ldN_s (c := [.string (S name), args.v]) (e := t_cmd_Command) (o := false) (fz := 0) (st := false) (by simp) (by simp)]
    rfl
  have hl3 : readD (.load 2 true) [P0 p3] (H.put p3 (.cells [.string (S name), args.v] t_cmd_Command false 0 false)) = some (.agg #[.string (S name), args.v]) := by
    simp [readD, P0, hl2]
  have hg : Fr.get [(2, P0 p3)] 2 = some (P0 p3) := rfl
  simp only [retK, resL, hg, hl3]
end Go.Proofs.YtnpmlgibjhjiiaaDoor.dec

namespace Go.Proofs.YtnpmlgibjhjiiaaDoor.dec
open Go Go.Cm

attribute [local congr] optK_congr asI_congr asN_congr asB_congr asS_congr asP_congr asA_congr asSL_congr callK_congr castT_congr chk_congr
attribute [local simp] optK_s asI_s asN_s asB_s asS_s asP_s asA_s asSL_s callK_s chk_s newK_s castT_s castL_n castL_c cast0

theorem CPost.keep {B : Nat} {H H1 : Heap} {r : Res} (hk : Keep (fun k => B ≤ k) H H1) (h : CPost B H1 r) : CPost B H r := by
  obtain ⟨H', name, args, ws, h1, h2, h3, h4, h5⟩ := h
  exact ⟨H', name, args, ws, h1, h2, h3, hk.trans h4 fun _ _ h => h, h5⟩

theorem empty_whole (H : Heap) : Words (H.new (.cells [] t_string false 0 false)) ⟨some ⟨H.next, 0, none⟩, 0, 0⟩ [] := .inr ⟨H.next, 0, rfl, rfl, by simp, false, false, by simp [strs]⟩

/-- what is left of the heap's old part -/
theorem keep_new_then {H H1 H2 : Heap} {o : CObj} {s : Sl} {B : Nat} (e : H1 = H.new o) (hk : Keep s.at H1 H2) (hs : ∀ k, s.at k → B ≤ k) : Keep (fun k => B ≤ k) H H2 := by
  subst e
  exact (Keep.new (S := fun k => B ≤ k) H o).trans hk fun k _ h => hs k h

theorem tail_0 (d : Nat) (H : Heap) {pr p3 p4 B : Nat} {nm a b how : Int} {odd : Sl} {name : W} {args : Sl} {ol : List W} (h : Raws H pr p3 p4 nm a b how odd name args) (hB : B ≤ p3) (hn : name.length ≤ 1048576) (ho : Strs H odd ol) (h2 : ol.length ≤ 1048575) (h3 : ∀ w ∈ ol, w.length ≤ 1048576) :
    CPost B H (newK H (.cells [] t_string false 0 false) fun p8 H9 =>
    asP (P0 pr) fun o10 =>
    optK o10 fun a11 =>
    optK (Heap.ld1 H9 (ap a11 3)) fun v12 =>
    asSL v12 fun l13 =>
    appendK t_string 1 16 false (.slice (some ⟨p8, 0, none⟩) 0 0) l13.v H9 fun v14 H15 =>
    asSL v14 fun l16 =>
    optK (Heap.st1 H15 ⟨p4, 1, none⟩ l16.v) fun H17 =>
    optK (ldA H17 ⟨p4, 0, none⟩ 2) fun v18 =>
    asA v18 fun c19 =>
    effK (.store 2) [P0 p3, .agg c19] H17 fun _ H21 =>
    retK [.cell 2 2 true] [(2, P0 p3)] H21) := by
  have h4 := h.lt
  simp only [newK_s, P0, asP_s, optK_s, ap, Nat.zero_add]
  have k9 : Keep (fun _ => False) H (H.new (.cells [] t_string false 0 false)) := Keep.new _ _
  have r9 := h.keep k9 (fun _ _ h => h)
  have ho9 := ho.keep k9
  have e9 := empty_whole H
  have n9 : (H.new (.cells [] t_string false 0 false)).next = H.next + 1 := by simp
  generalize hH9 : H.new (.cells [] t_string false 0 false) = H9 at *
  rw [ld1_s r9.raw]
  simp only [List.getElem?_cons_succ, List.getElem?_cons_zero, optK_s]
  show CPost B H (asSL odd.v _)
  obtain ⟨s1, s2⟩ := ho9.src
  obtain ⟨l, H15, q1, q2, q3, q4, _, _⟩ := append_whole (bytes := 16) (str := false) (n := ol.length) (sz := 1) e9 s1 s2 (by simp [strs]) (by simp only; omega) (by omega) (by omega)
  have q1' := q1
  simp only [Sl.v] at q1'
  simp only [Sl.v, asSL_s]
  rw [q1']
  have kk : Keep (fun k => p4 < k) H H15 := by
    refine (Keep.new (S := fun k => p4 < k) H (.cells [] t_string false 0 false)).trans (hH9 ▸ q3) fun k _ hk => ?_
    obtain ⟨_, e, rfl⟩ := hk
    cases e
    show p4 < H.next
    omega
  have r15 := h.keep kk (fun k hk => by show ¬ p4 < k; omega)
  simp only [asSL_s]
  obtain ⟨H17, g1, g2, g3⟩ := r15.setArgs (args' := l)
  rw [show (Value.slice l.a l.n l.c) = l.v from rfl, g1, optK_s]
  have hl : ∀ k, l.at k → p4 < k := fun k hk => by
    rcases q4 k hk with ⟨_, e, rfl⟩ | h
    · cases e; show p4 < H.next; omega
    · omega
  have hw : Words H15 l ol := by have := q2; rwa [show strs [] ++ strs ol = strs ol from rfl] at this
  have hw17 : Words H17 l ol := Whole.keep hw g3 (fun k hk e => by have := hl k hk; omega)
  have kB : Keep (fun k => B ≤ k) H H17 := (kk.mono (fun k _ hk => by show B ≤ k; omega)).trans g3 (fun k _ e => by show B ≤ k; omega)
  exact CPost.keep kB (hand_back g2 hB hw17 hl hn h2 h3)

theorem tail_1 (d : Nat) (H : Heap) {pr p3 p4 B : Nat} {nm a b how : Int} {odd : Sl} {name : W} {args : Sl} {ws : List W} (h : Raws H pr p3 p4 nm a b how odd name args) (hB : B ≤ p3) (hw : Words H args ws) (hn : name.length ≤ 1048576) (h2 : ws.length ≤ 1000) (h3 : ∀ w ∈ ws, w.length ≤ 1048576) :
    CPost B H (newK H (.cells [] t_string false 0 false) fun p23 H24 =>
      optK (Heap.ld1 H24 ⟨p4, 1, none⟩) fun v25 =>
      asSL v25 fun l26 =>
      appendK t_string 1 16 false (.slice (some ⟨p23, 0, none⟩) 0 0) l26.v H24 fun v27 H28 =>
      asSL v27 fun l29 =>
      newK H28 (.cells [.string (S [109, 111, 114, 101])] t_string false 0 false) fun p30 H31 =>
      appendK t_string 1 16 false l29.v (.slice (some ⟨p30, 0, none⟩) 1 1) H31 fun v32 H33 =>
      asSL v32 fun l34 =>
      optK (Heap.st1 H33 ⟨p4, 1, none⟩ l34.v) fun H35 =>
      optK (ldA H35 ⟨p4, 0, none⟩ 2) fun v36 =>
      asA v36 fun c37 =>
      effK (.store 2) [P0 p3, .agg c37] H35 fun _ H39 =>
      retK [.cell 2 2 true] [(2, P0 p3)] H39) := by
  have h4 := h.lt
  simp only [newK_s]
  have k9 : Keep (fun _ => False) H (H.new (.cells [] t_string false 0 false)) := Keep.new _ _
  have r9 := h.keep k9 (fun _ _ h => h)
  have hw9 : Words _ args ws := Whole.keep hw k9 (fun _ _ h => h)
  have e9 := empty_whole H
  have n9 : (H.new (.cells [] t_string false 0 false)).next = H.next + 1 := by simp
  generalize hH9 : H.new (.cells [] t_string false 0 false) = H9 at *
  rw [ld1_s r9.cmd]
  simp only [List.getElem?_cons_succ, List.getElem?_cons_zero, optK_s]
  obtain ⟨s1, s2⟩ := Words.src hw9
  obtain ⟨l, H15, q1, q2, q3, q4, _, _⟩ := append_whole (bytes := 16) (str := false) (n := ws.length) (sz := 1) e9 s1 s2 (by simp [strs]) (by simp only; omega) (by omega) (by omega)
  have q1' := q1
  simp only [Sl.v] at q1'
  simp only [Sl.v, asSL_s]
  rw [q1']
  have kk : Keep (fun k => p4 < k) H H15 := by
    refine (Keep.new (S := fun k => p4 < k) H (.cells [] t_string false 0 false)).trans (hH9 ▸ q3) fun k _ hk => ?_
    obtain ⟨_, e, rfl⟩ := hk
    cases e
    show p4 < H.next
    omega
  have hl : ∀ k, l.at k → p4 < k := fun k hk => by
    rcases q4 k hk with ⟨_, e, rfl⟩ | h
    · cases e; show p4 < H.next; omega
    · omega
  have hw15 : Words H15 l ws := by have := q2; rwa [show strs [] ++ strs ws = strs ws from rfl] at this
  have n15 := kk.1
  simp only [asSL_s]
  obtain ⟨l2, H33, u1, u2, u3, u4, u5⟩ := hw15.push [109, 111, 114, 101] (by omega)
  rw [show (Value.slice l.a l.n l.c) = l.v from rfl, u1]
  simp only [Sl.v, asSL_s]
  have hl2 : ∀ k, l2.at k → p4 < k := fun k hk => by have := u5 k hk; omega
  have kk2 : Keep (fun k => p4 < k) H H33 := kk.trans u3 fun k _ hk => hl k hk
  have r33 := h.keep kk2 (fun k hk => by show ¬ p4 < k; omega)
  obtain ⟨H17, g1, g2, g3⟩ := r33.setArgs (args' := l2)
  rw [show (Value.slice l2.a l2.n l2.c) = l2.v from rfl, g1, optK_s]
  have hw17 : Words H17 l2 (ws ++ [[109, 111, 114, 101]]) := Whole.keep u2 g3 (fun k hk e => by have := hl2 k hk; omega)
  have kB : Keep (fun k => B ≤ k) H H17 := (kk2.mono (fun k _ hk => by show B ≤ k; omega)).trans g3 (fun k _ e => by show B ≤ k; omega)
  refine CPost.keep kB (hand_back g2 hB hw17 hl2 hn (by simp; omega) (fun w hw => ?_))
  rcases List.mem_append.1 hw with hw | hw
  · exact h3 w hw
  · simp only [List.mem_singleton] at hw; subst hw; decide

theorem tail_s (d : Nat) (H : Heap) {pr p3 p4 B : Nat} {nm a b how : Int} {odd : Sl} {name : W} {args : Sl} {ws ol : List W} (h : Raws H pr p3 p4 nm a b how odd name args) (hB : B ≤ p3) (hw : Words H args ws) (ha : ∀ k, args.at k → p4 < k) (hn : name.length ≤ 1048576) (h2 : ws.length ≤ 1000) (h3 : ∀ w ∈ ws, w.length ≤ 1048576)
    (ho : Strs H odd ol) (o2 : ol.length ≤ 1048575) (o3 : ∀ w ∈ ol, w.length ≤ 1048576) :
    CPost B H (law24_command_p11111 (d + 1) (P0 pr) p3 p4 H) := by
  have h4 := h.lt
  rw [law24_command_p11111_eq]
  simp only [show asP (P0 pr) = fun (K : Option Addr → Res) => K (some ⟨pr, 0, none⟩) from rfl, optK_s, ap, Nat.zero_add]
  rw [ld1_s h.raw]
  simp only [List.getElem?_cons_succ, List.getElem?_cons_zero, optK_s, asI_s]
  obtain ⟨r, e, r1, r2⟩ := Pick_s d how 20 H (by omega) (by omega)
  rw [e]
  simp only [callK_s, asI_s, decide_eq_true_eq]
  by_cases c0 : r = 0
  · rw [if_pos c0]
    exact tail_0 d H h hB hn ho o2 o3
  rw [if_neg c0]
  by_cases c1 : r = 1
  · rw [if_pos c1]
    exact tail_1 d H h hB hw hn h2 h3
  rw [if_neg c1]
  by_cases c2 : r = 2
  · rw [if_pos c2]
    simp only [ld1_s h.raw, List.getElem?_cons_succ, List.getElem?_cons_zero, optK_s, Sl.v, asSL_s]
    cases ol with
    | nil =>
      have : odd.n = 0 := ho.1
      rw [if_neg (show ¬ (0 : Int) < (odd.n : Int) by omega)]
      exact hand_back h hB hw ha hn (by omega) h3
    | cons w ol =>
      have hno : odd.n = ol.length + 1 := ho.1
      rw [if_pos (show (0 : Int) < (odd.n : Int) by omega)]
      obtain ⟨a, q1, q2⟩ := ho.first
      simp only [q1, optK_s]
      rw [if_pos (show (0 : Int) ≤ 0 ∧ (0 : Int) < (odd.n : Int) by omega)]
      have q2' : H.ld1 ⟨a.block, a.off + 0, none⟩ = some (.string (S w)) := q2
      simp only [ap, Nat.add_zero] at q2' ⊢
      obtain ⟨H17, g1, g2, g3⟩ := h.setName (name' := w)
      simp only [show H.ld1 ⟨a.block, a.off, none⟩ = some (.string (S w)) from q2', optK_s, asS_s, g1]
      have kB : Keep (fun k => B ≤ k) H H17 := g3.mono (fun k _ e => by show B ≤ k; omega)
      exact CPost.keep kB (hand_back g2 hB (Whole.keep hw g3 (fun k hk e => by have := ha k hk; omega)) ha (o3 w (by simp)) (by omega) h3)
  · rw [if_neg c2]
    exact hand_back h hB hw ha hn (by omega) h3
end Go.Proofs.YtnpmlgibjhjiiaaDoor.dec

namespace Go.Proofs.YtnpmlgibjhjiiaaDoor.dec
open Go Go.Cm

attribute [local congr] optK_congr asI_congr asN_congr asB_congr asS_congr asP_congr asA_congr asSL_congr callK_congr castT_congr chk_congr
attribute [local simp] optK_s asI_s asN_s asB_s asS_s asP_s asA_s asSL_s callK_s chk_s newK_s castT_s castL_n castL_c cast0

theorem Strs.keep' {H H' : Heap} {x : Sl} {l : List W} (h : Strs H x l) {T : Nat → Prop} (hk : Keep T H H') (hT : ∀ k, x.at k → ¬ T k) : Strs H' x l := by
  obtain ⟨h1, h2⟩ := h
  refine ⟨h1, h2.imp id ?_⟩
  rintro ⟨b, off, c, e, o, fz, st, e1, e2, e3, e4, e5⟩
  exact ⟨b, off, c, e, o, fz, st, e1, Nat.lt_of_lt_of_le e2 hk.1, by rw [hk.2 b e2 (hT b ⟨_, e1, rfl⟩)]; exact e3, e4, e5⟩

theorem partL_pick {lit : List Value} {r : Int} {m : Nat} (h0 : 0 ≤ r) (h : r < (m : Int)) (hl : lit.length = m) (hv : ∀ v ∈ lit, ∃ u : W, v = .string (S u) ∧ u.length ≤ 20) : ∃ u : W, partL lit (r.toNat * 1) 1 false = some (.string (S u)) ∧ u.length ≤ 20 := by
  have hr : r.toNat < lit.length := by omega
  obtain ⟨u, hu, hu2⟩ := hv _ (List.getElem_mem hr)
  exact ⟨u, by simp [partL, List.getElem?_eq_getElem hr, hu], hu2⟩

theorem asP0 (p : Nat) (K : Option Addr → Res) : asP (P0 p) K = K (some ⟨p, 0, none⟩) := rfl

theorem args_s (d : Nat) (H : Heap) {pr p3 p4 B : Nat} {nm a b how : Int} {odd : Sl} {name : W} {args : Sl} {ol : List W} (h : Raws H pr p3 p4 nm a b how odd name args) (hB : B ≤ p3) (hn : name.length ≤ 1048576)
    (ho : Strs H odd ol) (hob : ∀ k, odd.at k → k < B) (o2 : ol.length ≤ 1048575) (o3 : ∀ w ∈ ol, w.length ≤ 1048576) (ws : List W) (h2 : ws.length ≤ 1000) (h3 : ∀ w ∈ ws, w.length ≤ 1048576) :
    CPost B H (newK H (.cells (strs ws) t_string false 0 false) fun p H2 => optK (Heap.st1 H2 ⟨p4, 1, none⟩ (.slice (some ⟨p, 0, none⟩) ws.length ws.length)) fun H3 => law24_command_p11111 (d + 1) (P0 pr) p3 p4 H3) := by
  have h4 := h.lt
  simp only [newK_s]
  have k9 : Keep (fun _ => False) H (H.new (.cells (strs ws) t_string false 0 false)) := Keep.new _ _
  have r9 := h.keep k9 (fun _ _ h => h)
  have ho9 := ho.keep k9
  have hw9 : Words (H.new (.cells (strs ws) t_string false 0 false)) ⟨some ⟨H.next, 0, none⟩, ws.length, ws.length⟩ ws := .inr ⟨H.next, ws.length, rfl, by simp [strs], by simp, false, false, by simp⟩
  obtain ⟨H17, g1, g2, g3⟩ := r9.setArgs (args' := ⟨some ⟨H.next, 0, none⟩, ws.length, ws.length⟩)
  rw [show (Value.slice (some ⟨H.next, 0, none⟩) ws.length ws.length) = Sl.v ⟨some ⟨H.next, 0, none⟩, ws.length, ws.length⟩ from rfl, g1, optK_s]
  have hat : ∀ k, Sl.at ⟨some ⟨H.next, 0, none⟩, ws.length, ws.length⟩ k → p4 < k := fun k hk => by obtain ⟨_, e, rfl⟩ := hk; cases e; show p4 < H.next; omega
  have kB : Keep (fun k => B ≤ k) H H17 := (k9.mono (fun _ _ h => h.elim)).trans g3 (fun k _ e => by show B ≤ k; omega)
  have ho17 : Strs H17 odd ol := ho9.keep' g3 (fun k hk e => by have := hob k hk; omega)
  exact CPost.keep kB (tail_s d H17 g2 hB (Whole.keep hw9 g3 (fun k hk e => by have := hat k hk; omega)) hat hn h2 h3 ho17 o2 o3)

theorem arms_s (d : Nat) (H : Heap) {pr p3 p4 B : Nat} {nm a b how : Int} {odd : Sl} {name : W} {ol : List W} (h : Raws H pr p3 p4 nm a b how odd name Sl.nil) (hB : B ≤ p3) (hn : name.length ≤ 1048576)
    (ho : Strs H odd ol) (hob : ∀ k, odd.at k → k < B) (o2 : ol.length ≤ 1048575) (o3 : ∀ w ∈ ol, w.length ≤ 1048576) (k : W) (hk : k.length ≤ 2) (x17 : ByteArray) (x28 : Bool) :
    CPost B H (law24_command_p11110101011 (d + 2) (P0 pr) p3 p4 (S k) x17 x28 H) := by
  have h4 := h.lt
  rw [law24_command_p11110101011_eq]
  by_cases c0 : x28 = true
  · rw [if_pos c0]
    exact args_s (d + 1) H h hB hn ho hob o2 o3 [k] (by simp) (by simp; omega)
  rw [if_neg c0]
  split
  · 
    simp only [asP0, optK_s, ap, Nat.zero_add]
    rw [ld1_s h.raw]
    simp only [List.getElem?_cons_succ, List.getElem?_cons_zero, optK_s, asI_s]
    obtain ⟨r, e, r1, r2⟩ := Pick_s (d + 1) a 3 H (by omega) (by omega)
    rw [e]
    simp only [callK_s, asI_s]
    rw [if_pos (show 0 ≤ r ∧ r < 3 from ⟨r1, r2⟩)]
    obtain ⟨u, hu, hu2⟩ := partL_pick (lit := [.string (S [45, 104]), .string (S [45, 118]), .string (S [45, 120])]) (m := 3) r1 r2 rfl (by
    intro v hv
    simp only [List.mem_cons, List.not_mem_nil, or_false] at hv
    rcases hv with rfl | rfl | rfl <;> exact ⟨_, rfl, by decide⟩)
    simp only [hu, optK_s, asS_s]
    exact args_s (d + 1) H h hB hn ho hob o2 o3 [u] (by simp) (by simp; omega)

  split
  · 
    simp only [asP0, optK_s, ap, Nat.zero_add]
    rw [ld1_s h.raw]
    simp only [List.getElem?_cons_succ, List.getElem?_cons_zero, optK_s, asI_s]
    obtain ⟨r, e, r1, r2⟩ := Pick_s (d + 1) a 4 H (by omega) (by omega)
    rw [e]
    simp only [callK_s, asI_s]
    rw [if_pos (show 0 ≤ r ∧ r < 4 from ⟨r1, r2⟩)]
    obtain ⟨u, hu, hu2⟩ := partL_pick (lit := [.string (S [45, 76]), .string (S [45, 82]), .string (S [45, 85]), .string (S [45, 68])]) (m := 4) r1 r2 rfl (by
    intro v hv
    simp only [List.mem_cons, List.not_mem_nil, or_false] at hv
    rcases hv with rfl | rfl | rfl | rfl <;> exact ⟨_, rfl, by decide⟩)
    simp only [hu, optK_s, asS_s]
    exact args_s (d + 1) H h hB hn ho hob o2 o3 [u, k] (by simp) (by simp; omega)

  split
  · 
    simp only [asP0, optK_s, ap, Nat.zero_add]
    rw [ld1_s h.raw]
    simp only [List.getElem?_cons_succ, List.getElem?_cons_zero, optK_s, asI_s]
    obtain ⟨r, e, r1, r2⟩ := Pick_s (d + 1) a 9 H (by omega) (by omega)
    rw [e]
    simp only [callK_s, asI_s]
    obtain ⟨u, hu, hu2⟩ := Digits_s d r H (by omega)
    rw [hu]
    simp only [callK_s, asS_s]
    exact args_s (d + 1) H h hB hn ho hob o2 o3 [u, k] (by simp) (by simp; omega)
  split
  · 
    simp only [asP0, optK_s, ap, Nat.zero_add]
    rw [ld1_s h.raw]
    simp only [List.getElem?_cons_succ, List.getElem?_cons_zero, optK_s, asI_s]
    obtain ⟨r, e, r1, r2⟩ := Pick_s (d + 1) a 4 H (by omega) (by omega)
    rw [e]
    simp only [callK_s, asI_s]
    rw [if_pos (show 0 ≤ r ∧ r < 4 from ⟨r1, r2⟩)]
    obtain ⟨u, hu, hu2⟩ := partL_pick (lit := [.string (S [120]), .string (S [97, 32, 98]), .string (S []), .string (S [34, 113, 92])]) (m := 4) r1 r2 rfl (by
    intro v hv
    simp only [List.mem_cons, List.not_mem_nil, or_false] at hv
    rcases hv with rfl | rfl | rfl | rfl <;> exact ⟨_, rfl, by decide⟩)
    simp only [hu, optK_s, asS_s]
    exact args_s (d + 1) H h hB hn ho hob o2 o3 [u] (by simp) (by simp; omega)

  · exact tail_s (d + 1) H h hB (ws := []) (Whole.nil _ _ _) (fun k hk => by obtain ⟨_, h, _⟩ := hk; cases h) hn (by simp) (by simp) ho o2 o3

theorem arms2_s (d : Nat) (H : Heap) {pr p3 p4 B : Nat} {nm a b how : Int} {odd : Sl} {name : W} {ol : List W} (h : Raws H pr p3 p4 nm a b how odd name Sl.nil) (hB : B ≤ p3) (hn : name.length ≤ 1048576)
    (ho : Strs H odd ol) (hob : ∀ k, odd.at k → k < B) (o2 : ol.length ≤ 1048575) (o3 : ∀ w ∈ ol, w.length ≤ 1048576) (k : W) (hk : k.length ≤ 2) (x17 : ByteArray) (x18 : Bool) :
    CPost B H (law24_command_p11110101 (d + 2) (P0 pr) p3 p4 (S k) x17 x18 H) := by
  rw [law24_command_p11110101_eq]
  by_cases c0 : x18 = true
  · rw [if_pos c0]
    simp only [asP0, optK_s, ap, Nat.zero_add]
    rw [ld1_s h.raw]
    simp only [List.getElem?_cons_succ, List.getElem?_cons_zero, optK_s, asI_s]
    obtain ⟨r, e, r1, r2⟩ := Pick_s (d + 1) a 5 H (by omega) (by omega)
    rw [e]
    simp only [callK_s, asI_s]
    rw [if_pos (show 0 ≤ r ∧ r < 5 from ⟨r1, r2⟩)]
    obtain ⟨u, hu, hu2⟩ := partL_pick (lit := [.string (S [97]), .string (S [98]), .string (S [99]), .string (S [97, 45, 49]), .string (S [66])]) (m := 5) r1 r2 rfl (by
    intro v hv
    simp only [List.mem_cons, List.not_mem_nil, or_false] at hv
    rcases hv with rfl | rfl | rfl | rfl | rfl <;> exact ⟨_, rfl, by decide⟩)
    simp only [hu, optK_s, asS_s]
    exact args_s (d + 1) H h hB hn ho hob o2 o3 [u] (by simp) (by simp; omega)

  rw [if_neg c0]
  split
  · exact arms_s d H h hB hn ho hob o2 o3 k hk _ _
  split
  · exact arms_s d H h hB hn ho hob o2 o3 k hk _ _
  split
  · exact arms_s d H h hB hn ho hob o2 o3 k hk _ _
  · exact arms_s d H h hB hn ho hob o2 o3 k hk _ _

theorem command_s (d : Nat) (nm a b how : Int) (odd : Sl) (ol : List W) (H : Heap) (ho : Strs H odd ol) (hob : ∀ k, odd.at k → k < H.next) (o2 : ol.length ≤ 1048575) (o3 : ∀ w ∈ ol, w.length ≤ 1048576) :
    CPost H.next H (X (d + 3) n_law24_command [.agg #[.int .i64 nm, .int .i64 a, .int .i64 b, odd.v, .int .i64 how]] H) := by
  rw [law24_command_eq]
  have eb : ∀ K, effK (.box t_law24_Raw) [.agg #[.int .i64 nm, .int .i64 a, .int .i64 b, odd.v, .int .i64 how]] H K = K (P0 H.next) (H.new (.cells [.int .i64 nm, .int .i64 a, .int .i64 b, odd.v, .int .i64 how] t_law24_Raw false 0 false)) := fun K => by
    simp only [effK]
    rw [if_pos (by rfl)]
    rfl
  rw [eb]
  simp only [newK_s, asP0, optK_s, ap, Nat.zero_add]
  generalize hH2 : H.new (.cells [.int .i64 nm, .int .i64 a, .int .i64 b, odd.v, .int .i64 how] t_law24_Raw false 0 false) = H2
  have k2 : Keep (fun _ => False) H H2 := by subst hH2; exact Keep.new _ _
  have n2 : H2.next = H.next + 1 := by subst hH2; simp
  have g2 : H2.get H.next = some (.cells [.int .i64 nm, .int .i64 a, .int .i64 b, odd.v, .int .i64 how] t_law24_Raw false 0 false) := by subst hH2; simp
  generalize hH4 : H2.new (.cells [.string (S []), .slice none 0 0] t_cmd_Command false 0 false) = H4
  have k4 : Keep (fun _ => False) H2 H4 := by subst hH4; exact Keep.new _ _
  have n4 : H4.next = H.next + 2 := by subst hH4; simp; omega
  have g4 : H4.get H.next = _ := (k4.2 H.next (by omega) id).trans g2
  have r4 : H4.get H2.next = some (.cells [.string (S []), .slice none 0 0] t_cmd_Command false 0 false) := by subst hH4; simp
  rw [ld1_s g4]
  simp only [List.getElem?_cons_succ, List.getElem?_cons_zero, optK_s, asI_s]
  obtain ⟨r, e, r1, r2⟩ := Pick_s (d + 1) nm 20 H4 (by omega) (by omega)
  rw [e]
  simp only [callK_s, asI_s]
  rw [if_pos (show 0 ≤ r ∧ r < 20 from ⟨r1, r2⟩)]
  obtain ⟨u, hu, hu2⟩ := partL_pick (lit := [.string (S [110, 101, 119, 45, 115, 101, 115, 115, 105, 111, 110]), .string (S [107, 105, 108, 108, 45, 115, 101, 115, 115, 105, 111, 110]), .string (S [114, 101, 110, 97, 109, 101]), .string (S [110, 101, 119, 45, 119, 105, 110, 100, 111, 119]), .string (S [107, 105, 108, 108, 45, 119, 105, 110, 100, 111, 119]), .string (S [115, 101, 108, 101, 99, 116, 45, 119, 105, 110, 100, 111, 119]), .string (S [115, 112, 108, 105, 116, 45, 119, 105, 110, 100, 111, 119]), .string (S [115, 112, 108, 105, 116, 45, 119, 105, 110, 100, 111, 119]), .string (S [107, 105, 108, 108, 45, 112, 97, 110, 101]), .string (S [115, 101, 108, 101, 99, 116, 45, 112, 97, 110, 101]), .string (S [115, 119, 97, 112, 45, 112, 97, 110, 101]), .string (S [114, 101, 115, 105, 122, 101, 45, 112, 97, 110, 101]), .string (S [114, 101, 115, 105, 122, 101, 45, 112, 97, 110, 101]), .string (S [122, 111, 111, 109]), .string (S [99, 111, 112, 121]), .string (S [112, 97, 115, 116, 101]), .string (S [115, 101, 110, 100]), .string (S [115, 101, 110, 100]), .string (S [110, 111, 116, 104, 105, 110, 103]), .string (S [115, 112, 108, 105, 116, 45, 119, 105, 110, 100, 111, 119])]) (m := 20) r1 r2 rfl (by
    intro v hv
    simp only [List.mem_cons, List.not_mem_nil, or_false] at hv
    rcases hv with rfl | rfl | rfl | rfl | rfl | rfl | rfl | rfl | rfl | rfl | rfl | rfl | rfl | rfl | rfl | rfl | rfl | rfl | rfl | rfl <;> exact ⟨_, rfl, by decide⟩)
  simp only [hu, optK_s, asS_s]
  generalize hH15 : H4.new (.cells [.string (S []), .slice none 0 0] t_cmd_Command false 0 false) = H15
  have k15 : Keep (fun _ => False) H4 H15 := by subst hH15; exact Keep.new _ _
  have n15 : H15.next = H.next + 3 := by subst hH15; simp; omega
  have c15 : H15.get H4.next = some (.cells [.string (S []), .slice none 0 0] t_cmd_Command false 0 false) := by subst hH15; simp
  have g15 : H15.get H.next = _ := (k15.2 H.next (by omega) id).trans g4
  have r15 : H15.get H2.next = _ := (k15.2 H2.next (by omega) id).trans r4
  have es : H15.stN ⟨H4.next, 0, none⟩ [.string (S u), .slice none 0 0] = some (H15.put H4.next (.cells [.string (S u), .slice none 0 0] t_cmd_Command false 0 false)) := by
    simp only [Heap.stN, c15]
    rfl
  simp only [es, optK_s]
  generalize hH16 : H15.put H4.next (.cells [.string (S u), .slice none 0 0] t_cmd_Command false 0 false) = H16
  have k16 : Keep (· = H4.next) H15 H16 := by subst hH16; exact Keep.put _ _ _ rfl
  have n16 : H16.next = H.next + 3 := by subst hH16; simpa using n15
  have hr : Raws H16 H.next H2.next H4.next nm a b how odd u Sl.nil := by
    refine ⟨(k16.2 H.next (by omega) (by omega)).trans g15, ⟨_, _, (k16.2 H2.next (by omega) (by omega)).trans r15⟩, by subst hH16; simp [Sl.nil, Sl.v], by omega⟩
  have kk : Keep (fun k => H.next ≤ k) H H16 := (((k2.trans k4 fun _ _ h => h).trans k15 fun _ _ h => h).mono fun _ _ h => h.elim).trans k16 fun k _ e => by show H.next ≤ k; omega
  have ho16 : Strs H16 odd ol := ho.keep' kk fun k hk => by have := hob k hk; show ¬ H.next ≤ k; omega
  rw [ld1_s hr.raw]
  simp only [List.getElem?_cons_succ, List.getElem?_cons_zero, optK_s, asI_s]
  obtain ⟨q, e', q1, q2⟩ := Pick_s (d + 1) b 12 H16 (by omega) (by omega)
  rw [e']
  simp only [callK_s, asI_s]
  obtain ⟨k, ek, hk⟩ := Digits_s d q H16 (by omega)
  rw [ek]
  simp only [callK_s, asS_s]
  refine CPost.keep kk ?_
  split <;> exact arms2_s d H16 hr (by omega) (by omega) ho16 hob o2 o3 k hk _ _
end Go.Proofs.YtnpmlgibjhjiiaaDoor.dec

namespace Go.Proofs.YtnpmlgibjhjiiaaDoor.dec
open Go Go.Cm

attribute [local congr] optK_congr asI_congr asN_congr asB_congr asS_congr asP_congr asA_congr asSL_congr callK_congr castT_congr chk_congr
attribute [local simp] optK_s asI_s asN_s asB_s asS_s asP_s asA_s asSL_s callK_s chk_s newK_s castT_s castL_n castL_c cast0

theorem push_cmd {H H5 : Heap} {B : Nat} {x : Sl} {L : List Cmd} (hB : B ≤ H.next) (hc : Cmds H (InQ B x) x L) (hx : ∀ j, x.at j → B ≤ j) (hL : L.length ≤ 1000) (hk : Keep (fun k => H.next ≤ k) H H5) {name : W} {args : Sl} {ws : List W} (hw : Words H5 args ws) (ha : ∀ k, args.at k → H.next ≤ k) :
    ∃ l H', (∀ K, appendK t_cmd_Command 2 40 false x.v (.slice (some ⟨H5.next, 0, none⟩) 1 1) (H5.new (.cells [.string (S name), args.v] t_cmd_Command false 0 false)) K = K l.v H') ∧ Cmds H' (InQ B l) l (L ++ [(name, ws)]) ∧ (∀ j, l.at j → B ≤ j) ∧ Keep (fun k => B ≤ k) H H' := by
  obtain ⟨cs, c1, c2⟩ := hc
  have hcl := c1.len
  have hcl2 := c2.1
  have c15 : Whole H5 x cs t_cmd_Command 2 := c1.keep hk (fun k h => by have := c1.lt h; show ¬ H.next ≤ k; omega)
  obtain ⟨l, H', f1, f2, f3, _, f5, _⟩ := push_whole (bytes := 40) (new := [.string (S name), args.v]) c15 rfl (by omega) (by omega) (by omega)
  have n5 := hk.1
  have cl5 : CmdL H5 (InQ B x) cs L := c2.keep hk (fun k h => by
    obtain ⟨_, j, hj, hkj⟩ := h
    have := c1.lt hj
    show ¬ H.next ≤ k
    omega)
  have cl' : CmdL H' (InQ B x) cs L := cl5.keep f3 (fun k h h' => by
    obtain ⟨_, j, ⟨a, q1, q2⟩, hkj⟩ := h
    obtain ⟨a', q1', q2'⟩ := h'
    rw [q1] at q1'
    cases q1'
    omega)
  have hw' : Words H' args ws := Whole.keep hw f3 (fun k h h' => by have := ha k h; have := c1.lt h'; omega)
  obtain ⟨bo, _, _, g1, _, _, _⟩ := Whole.block f2 (by simp)
  have hbo : l.at bo := by rw [g1]; exact ⟨_, rfl, rfl⟩
  have hb5 := f5 bo hbo
  refine ⟨l, H', f1, ⟨_, f2, (cl'.mono (Q := InQ B l) fun k _ h => ?_).snoc hw' fun k h => ⟨by have := ha k h; omega, bo, hbo, by have := Whole.lt hw h; omega⟩⟩, fun j hj => by have := f5 j hj; omega, (hk.mono fun k _ h => by show B ≤ k; omega).trans f3 fun k _ h => hx k h⟩
  obtain ⟨h1, j, hj, hkj⟩ := h
  have := c1.lt hj
  exact ⟨h1, bo, hbo, by omega⟩

/-- an argument: a raw command -/
def RawAt (H : Heap) (B : Nat) (x : Sl) (i : Nat) : Prop := ∃ a nm q b how odd ol, x.a = some a ∧ a.block < B ∧ Cm.ldA H (ap a (i * 5)) 5 = some (.agg #[.int .i64 nm, .int .i64 q, .int .i64 b, Sl.v odd, .int .i64 how]) ∧ Strs H odd ol ∧ (∀ k, odd.at k → k < B) ∧ ol.length ≤ 1048575 ∧ ∀ w ∈ ol, w.length ≤ 1048576
def RawL (H : Heap) (B : Nat) (x : Sl) : Prop := B ≤ H.next ∧ x.n ≤ 1048576 ∧ ∀ i, i < x.n → RawAt H B x i
theorem RawL.keep {H H' : Heap} {B : Nat} {x : Sl} (h : RawL H B x) (hk : Keep (fun k => B ≤ k) H H') : RawL H' B x := by
  obtain ⟨hB, hn, h⟩ := h
  refine ⟨Nat.le_trans hB hk.1, hn, fun i hi => ?_⟩
  obtain ⟨a, nm, q, b, how, odd, ol, e1, e2, e3, e4, e5, e6⟩ := h i hi
  refine ⟨a, nm, q, b, how, odd, ol, e1, e2, ?_, e4.keep' hk fun k hk' => by have := e5 k hk'; show ¬ B ≤ k; omega, e5, e6⟩
  rw [← e3]
  unfold Cm.ldA Heap.ldN
  rw [show H'.get (ap a (i * 5)).block = H.get (ap a (i * 5)).block from hk.2 a.block (by omega) (by show ¬ B ≤ _; omega)]

/-- one more of the law's commands -/
theorem one_more (d B i : Nat) (H : Heap) (x y : Sl) (L : List Cmd) (h : RawL H B x) (hi : i < x.n) (hc : Cmds H (InQ B y) y L) (hy : ∀ j, y.at j → B ≤ j) (hL : L.length ≤ 1000) (K : Value → Heap → Res) (R : Res → Prop)
    (next : ∀ l H' c, Cmds H' (InQ B l) l (L ++ [c]) → (∀ j, l.at j → B ≤ j) → Keep (fun k => B ≤ k) H H' → c.1.length ≤ 1048576 → c.2.length ≤ 1048575 → (∀ w ∈ c.2, w.length ≤ 1048576) → R (K l.v H')) :
    R (optK x.a fun a1 =>
    if 0 ≤ (i : Int) ∧ (i : Int) < (x.n : Int) then
    optK (Cm.ldA H (ap a1 (((i : Int).toNat) * 5)) 5) fun v2 =>
    asA v2 fun c3 =>
    callK (X (d + 3) n_law24_command [.agg c3] H) fun v4 H5 =>
    asA v4 fun c6 =>
    optK (fillL [(0, 2)] [.agg c6] [.string (S []), .slice none 0 0]) fun l7 =>
    newK H5 (.cells l7 t_cmd_Command false 0 false) fun p8 H9 =>
    appendK t_cmd_Command 2 40 false y.v (.slice (some ⟨p8, 0, none⟩) 1 1) H9 K
    else none) := by
  obtain ⟨hB, hn, hr⟩ := h
  obtain ⟨a, nm, q, b, how, odd, ol, e1, e2, e3, e4, e5, e6, e7⟩ := hr i hi
  rw [e1]
  simp only [optK_s]
  rw [if_pos (by omega), Int.toNat_natCast, e3]
  simp only [optK_s, asA_s]
  obtain ⟨H5, name, args, ws, g1, g2, g3, g4, g5, g6, g7⟩ := command_s d nm q b how odd ol H e4 (fun k hk => by have := e5 k hk; omega) e6 e7
  rw [g1]
  simp only [callK_s, asA_s]
  rw [show fillL [(0, 2)] [.agg #[.string (S name), Sl.v args]] [.string (S []), .slice none 0 0] = some [.string (S name), Sl.v args] from rfl]
  simp only [optK_s, newK_s]
  obtain ⟨l, H', f1, f2, f3, f4⟩ := push_cmd (name := name) hB hc hy hL g4 g2 g3
  rw [f1]
  exact next l H' (name, ws) f2 f3 f4 g5 g6 g7

theorem Small.snoc {L : List Cmd} {c : Cmd} (h : Small L) (hl : L.length < 16) (h1 : c.1.length ≤ 1048576) (h2 : c.2.length ≤ 1048575) (h3 : ∀ w ∈ c.2, w.length ≤ 1048576) : Small (L ++ [c]) := by
  refine ⟨by simp; omega, fun x hx => ?_⟩
  rcases List.mem_append.1 hx with hx | hx
  · exact h.2 x hx
  · simp only [List.mem_singleton] at hx; subst hx; exact ⟨h1, h2, h3⟩

theorem sEq_nil (w : W) : sEq (S w) (S []) = true ↔ w = [] := by
  rw [sEqS]; cases w <;> simp

end Go.Proofs.YtnpmlgibjhjiiaaDoor.dec

namespace Go.Proofs.YtnpmlgibjhjiiaaDoor.dec
open Go Go.Cm

attribute [local congr] optK_congr asI_congr asN_congr asB_congr asS_congr asP_congr asA_congr asSL_congr callK_congr castT_congr chk_congr

theorem bare_s (d : Nat) (c : UInt8) (H : Heap) : X (d + 1) n_ref22_bare [.int .u8 (c.toNat : Int)] H = some (.bool (plainB c), H) := by
  rw [ref22_bare_eq]
  have h0 : (32 < (c.toNat : Int)) = (33 ≤ c.toNat) := by simp; omega
  have h1 : ((c.toNat : Int) < 127) = (c.toNat ≤ 126) := by simp; omega
  have h2 : ((c.toNat : Int) = 59) = (c.toNat = 59) := by simp; omega
  have h3 : ((c.toNat : Int) = 34) = (c.toNat = 34) := by simp; omega
  have h4 : ((c.toNat : Int) = 92) = (c.toNat = 92) := by simp; omega
  simp only [h0, h1, h2, h3, h4, plainB]
  by_cases g0 : 33 ≤ c.toNat <;> by_cases g1 : c.toNat ≤ 126 <;> by_cases g2 : c.toNat = 59 <;> by_cases g3 : c.toNat = 34 <;> simp [g0, g1, g2, g3]

/-- as a word is told -/
def tellW (q : Option W) : Value := match q with
  | some v => .tuple #[.string (S v), .bool true]
  | none => .tuple #[.string (S []), .bool false]

theorem escs_snoc (s : W) (c : UInt8) : escs (s ++ [c]) = escs s ++ escB c := by simp [escs]

theorem rword_loop (d : Nat) (w : W) (hw : w.length ≤ 100000000) (H : Heap) : ∀ (m i : Nat), i ≤ w.length → w.length - i < m → (w.take i).all okB = true →
    ref22_word_p111010 (d + 1) m (S w) (!w.isEmpty && (w.take i).all plainB) (S (34 :: escs (w.take i))) (i : Int) H = some (tellW (shownW w), H) := by
  intro m
  induction m with
  | zero => intro i h1 h2; omega
  | succ m ih =>
    intro i hi hm hok
    rw [ref22_word_p111010_s, slenS]
    simp only [decide_eq_true_eq]
    by_cases h : i < w.length
    · rw [if_pos (by omega), if_pos (by omega), Int.toNat_natCast]
      have hc : w[i]? = some w[i] := List.getElem?_eq_getElem h
      have hmem := List.getElem_mem h
      have htk : w.take (i + 1) = w.take i ++ [w[i]] := by rw [List.take_add_one, hc]; rfl
      have hsub : ((w.take (i + 1)).drop i) = [w[i]] := by
        rw [htk, List.drop_append_of_le_length (by simp only [List.length_take]; omega), List.drop_eq_nil_of_le (by simp only [List.length_take]; omega), List.nil_append]
      generalize w[i] = c at hc hmem htk hsub
      rw [btS hc]
      have hel := escs_len (w.take i)
      have htl : (w.take i).length ≤ i := by simp only [List.length_take]; omega
      by_cases hd : okB c = true
      · have hd' := hd
        simp only [okB, Bool.and_eq_true, decide_eq_true_eq] at hd'
        rw [if_neg (show ¬ (c.toNat : Int) < 32 by omega), if_pos (show (0 : Int) ≤ (i : Int) ∧ (i : Int) < (w.length : Int) by omega), show decide ((126 : Int) < (c.toNat : Int)) = false from decide_eq_false (by omega), ref22_word_p111010010001_eq, if_neg (by simp)]
        have hne : w.isEmpty = false := by cases w <;> simp_all
        -- behind the flag
        have go : ref22_word_p111010010011 (d + 1) m (S w) (!w.isEmpty && (w.take (i + 1)).all plainB) (S (34 :: escs (w.take i))) (i : Int) H = some (tellW (shownW w), H) := by
          have nxt : ∀ acc : W, acc = 34 :: escs (w.take i) ++ (escB c).dropLast → ref22_word_p11101001001101 (d + 1) m (S w) (!w.isEmpty && (w.take (i + 1)).all plainB) (S acc) (i : Int) H = some (tellW (shownW w), H) := by
            intro acc hacc
            have hal : acc.length ≤ 300000000 := by
              rw [hacc]
              simp only [List.length_append, List.length_cons, List.length_dropLast]
              have : (escB c).length ≤ 2 := by unfold escB; split <;> simp
              omega
            rw [ref22_word_p11101001001101_eq, slenS, slenS, w64 (by omega), show ((i : Int) + 1) = ((i + 1 : Nat) : Int) by omega, Int.toNat_natCast, Int.toNat_natCast, sSubS, hsub, slenS, sCatS]
            simp only [List.length_cons, List.length_nil]
            rw [if_pos (by omega), if_pos (by omega)]
            have e : acc ++ [c] = 34 :: escs (w.take (i + 1)) := by
              rw [hacc, htk, escs_snoc]
              unfold escB
              split <;> simp
            rw [e]
            exact ih (i + 1) (by omega) (by omega) (by rw [htk, List.all_append, hok]; simp [hd])
          rw [ref22_word_p111010010011_eq, slenS, Int.toNat_natCast, btS hc, if_pos (by omega)]
          simp only [decide_eq_true_eq]
          have esc : ref22_word_p111010010011001 (d + 1) m (S w) (!w.isEmpty && (w.take (i + 1)).all plainB) (S (34 :: escs (w.take i))) (i : Int) (decide (c.toNat = 34 ∨ c.toNat = 92)) H = some (tellW (shownW w), H) := by
            rw [ref22_word_p111010010011001_eq]
            by_cases hq : c.toNat = 34 ∨ c.toNat = 92
            · rw [if_pos (by simpa using hq), slenS, slenS, sCatS]
              simp only [List.length_cons, List.length_nil]
              rw [if_pos (by omega)]
              exact nxt _ (by rw [show escB c = [92, c] from if_pos hq]; simp)
            · rw [if_neg (by simpa using hq)]
              exact nxt _ (by rw [show escB c = [c] from if_neg hq]; simp)
          by_cases h34 : c.toNat = 34
          · rw [if_pos (show (c.toNat : Int) = 34 by omega)]
            have := esc
            rwa [show decide (c.toNat = 34 ∨ c.toNat = 92) = true from decide_eq_true (.inl h34)] at this
          · rw [if_neg (show ¬ (c.toNat : Int) = 34 by omega), if_pos (by omega)]
            have := esc
            rwa [show decide (c.toNat = 34 ∨ c.toNat = 92) = decide ((c.toNat : Int) = 92) from by
              by_cases h92 : c.toNat = 92
              · rw [decide_eq_true (show c.toNat = 34 ∨ c.toNat = 92 from .inr h92), decide_eq_true (show (c.toNat : Int) = 92 by omega)]
              · rw [decide_eq_false (show ¬ (c.toNat = 34 ∨ c.toNat = 92) by omega), decide_eq_false (show ¬ (c.toNat : Int) = 92 by omega)]] at this
        rw [htk, List.all_append] at go
        simp only [List.all_cons, List.all_nil, Bool.and_true] at go
        rw [hne] at go ⊢
        simp only [Bool.not_false, Bool.true_and] at go ⊢
        by_cases hp : (w.take i).all plainB = true
        · rw [if_pos hp, slenS, Int.toNat_natCast, btS hc, if_pos (by omega), bare_s]
          simp only [callK_s, asB_s]
          rw [hp, Bool.true_and] at go
          exact go
        · rw [if_neg hp]
          have hp' : (w.take i).all plainB = false := by simpa using hp
          rw [hp', Bool.false_and] at go
          exact go
      · have hno : shownW w = none := by
          unfold shownW
          rw [if_neg]
          intro ha
          exact hd (List.all_eq_true.1 ha c hmem)
        rw [hno]
        have hd2 : c.toNat < 32 ∨ 126 < c.toNat := by
          simp only [okB, Bool.and_eq_true, decide_eq_true_eq] at hd
          omega
        by_cases h32 : (c.toNat : Int) < 32
        · rw [if_pos h32, ref22_word_p111010010001_eq, if_pos rfl]
          rfl
        · rw [if_neg h32, if_pos (by omega), show decide ((126 : Int) < (c.toNat : Int)) = true from decide_eq_true (by omega), ref22_word_p111010010001_eq, if_pos rfl]
          rfl
    · rw [if_neg (by omega)]
      have e : w.take i = w := List.take_of_length_le (by omega)
      rw [e] at hok ⊢
      have hs : shownW w = some (if quotes w = true then 34 :: escs w ++ [34] else escs w) := by unfold shownW; rw [if_pos hok]
      rw [hs]
      have hq : quotes w = !(!w.isEmpty && w.all plainB) := by
        unfold quotes
        cases w with
        | nil => rfl
        | cons c w => simp only [List.isEmpty_cons, Bool.false_or, Bool.not_false, Bool.true_and, List.all_eq_not_any_not, Bool.not_not]
      cases hb : (!w.isEmpty && w.all plainB) with
      | true =>
        rw [hb] at hq
        rw [if_pos rfl, hq, if_neg (by simp)]
        simp only [Bool.and_eq_true, List.all_eq_true] at hb
        rw [escs_plain w hb.2]
        rfl
      | false =>
        rw [hb] at hq
        have hel := escs_len w
        rw [if_neg (by simp), hq]
        simp only [Bool.not_false, if_true, slenS, sCatS, List.length_cons, List.length_nil]
        rw [if_pos (by omega)]
        rfl

theorem word_ref (d : Nat) (w : W) (hw : w.length ≤ 100000000) (H : Heap) : X (d + 2) n_ref22_word [.string (S w)] H = some (tellW (shownW w), H) := by
  rw [ref22_word_eq]
  have := rword_loop d w hw H NN 0 (by omega) (NN_big _ (by omega)) (by simp)
  rw [List.take_zero] at this
  rw [show (!sEq (S w) (S [])) = (!w.isEmpty && ([] : W).all plainB) by rw [sEqS]; cases w <;> simp]
  exact this

theorem tail_snoc (sep : W) (r : List W) (v : W) : Lib.joinTail sep (r ++ [v]) = Lib.joinTail sep r ++ (sep ++ v) := by simp [Lib.joinTail]
theorem join_snoc (sep : W) (r : List W) (v : W) (hr : r ≠ []) : Lib.join (r ++ [v]) sep = Lib.join r sep ++ sep ++ v := by
  cases r with
  | nil => exact absurd rfl hr
  | cons x r => rw [List.cons_append, Lib.join_cons, Lib.join_cons, tail_snoc]; simp
theorem tail_len (M : Nat) (sep : W) : ∀ r : List W, (∀ v ∈ r, v.length ≤ M) → (Lib.joinTail sep r).length ≤ r.length * (M + sep.length) := by
  intro r
  induction r with
  | nil => intro _; simp [Lib.joinTail]
  | cons x r ih =>
    intro h
    have h1 := ih fun v hv => h v (by simp [hv])
    have h2 := h x (by simp)
    have e : Lib.joinTail sep (x :: r) = sep ++ x ++ Lib.joinTail sep r := by simp [Lib.joinTail]
    rw [e, List.length_append, List.length_append, List.length_cons, Nat.add_mul]
    omega

theorem rprint_words (d m0 : Nat) (x : Sl) (L : List Cmd) (P : Nat → Prop) (H : Heap) (hc : Cmds H P x L) (i : Nat) (n : W) (ws : List W) (hi : L[i]? = some (n, ws)) (hn : n ≠ []) (hws : ws.length ≤ 1048575) (hw : ∀ w ∈ ws, w.length ≤ 1048576) (hL : L.length ≤ 16)
    (base v0 : W) (hb : base.length ≤ 40000000000000) (hv0 : v0.length ≤ 2097154) : ∀ (m j : Nat) (us : List W), j ≤ ws.length → ws.length - j < m → us.length ≤ j → (∀ v ∈ us, v.length ≤ 2097154) →
      ref22_Print_p11010010011011110 (d + 2) m0 m x (S (base ++ (v0 ++ Lib.joinTail [32] us))) (i : Int) (j : Int) H = match okW n (ws.drop j) with
        | none => some (.string (S []), H)
        | some r => ref22_Print_p11010 (d + 2) m0 x (S (base ++ (v0 ++ Lib.joinTail [32] (us ++ r)))) ((i + 1 : Nat) : Int) H := by
  intro m
  obtain ⟨b, a, e1, e2, e3, e4, e5⟩ := hc.at hi
  have hlt := (List.getElem?_eq_some_iff.1 hi).1
  have han := e5.num
  induction m with
  | zero => intro j us h1 h2; omega
  | succ m ih =>
    intro j us hj hm hul hus
    rw [ref22_Print_p11010010011011110_s, e1]
    simp only [optK_s, ap, Int.toNat_natCast, Nat.zero_add]
    rw [if_pos (by omega), e4]
    simp only [optK_s, Sl.v, asSL_s, decide_eq_true_eq]
    by_cases h : j < ws.length
    · rw [if_pos (by omega), if_pos (by omega)]
      have hcj : ws[j]? = some ws[j] := List.getElem?_eq_getElem h
      have hmem := List.getElem_mem h
      have hd : ws.drop j = ws[j] :: ws.drop (j + 1) := List.drop_eq_getElem_cons h
      generalize ws[j] = w at hcj hmem hd
      obtain ⟨b', q1, q2⟩ := e5.at hcj
      rw [q1]
      simp only [optK_s, ap, Nat.zero_add, Nat.mul_one]
      rw [if_pos (by omega), q2]
      simp only [optK_s, asS_s]
      rw [word_ref d w (by have := hw w hmem; omega) H, hd, okW]
      cases hs : shownW w with
      | none =>
        simp only [tellW, callK_s, castT_s, castL_c, castL_n, cast0, asB_s, asS_s, List.getElem?_cons_zero, List.getElem?_cons_succ, optK_s]
        rw [if_pos (by rfl)]
      | some v =>
        simp only [tellW, callK_s, castT_s, castL_c, castL_n, cast0, asB_s, asS_s, List.getElem?_cons_zero, List.getElem?_cons_succ, optK_s, slenS, sCatS]
        have hvl := shownW_len hs
        have hwl := hw w hmem
        have htl := tail_len 2097154 [32] us hus
        have htm : us.length * (2097154 + [(32 : UInt8)].length) ≤ 1048576 * (2097154 + 1) := Nat.mul_le_mul (by omega) (Nat.le_refl _)
        simp only [List.length_append, List.length_cons, List.length_nil]
        rw [if_neg (by simp), if_pos (by omega), if_pos (by omega), w64 (by omega), show ((j : Int) + 1) = ((j + 1 : Nat) : Int) by omega, if_neg hn]
        have e : base ++ (v0 ++ Lib.joinTail [32] us) ++ [32] ++ v = base ++ (v0 ++ Lib.joinTail [32] (us ++ [v])) := by rw [tail_snoc]; simp
        rw [e, ih (j + 1) (us ++ [v]) (by omega) (by omega) (by simp; omega) (fun y hy => by
          rcases List.mem_append.1 hy with hy | hy
          · exact hus y hy
          · simp only [List.mem_singleton] at hy; subst hy; omega)]
        cases okW n (ws.drop (j + 1)) <;> simp
    · rw [if_neg (by omega), List.drop_eq_nil_of_le (by omega), w64 (by omega), show ((i : Int) + 1) = ((i + 1 : Nat) : Int) by omega]
      simp [okW]

theorem rprint_loop (d : Nat) (x : Sl) (L : List Cmd) (P : Nat → Prop) (H : Heap) (hc : Cmds H P x L) (hL : Small L) : ∀ (m i : Nat) (vs : List W), i ≤ L.length → L.length - i < m → vs.length = i → (∀ v ∈ vs, v.length ≤ 2200000000000) →
    ref22_Print_p11010 (d + 2) m x (S (Lib.join vs [59, 32])) (i : Int) H = some (.string (S (match cmdsV (L.drop i) with
      | some us => Lib.join (vs ++ us) [59, 32]
      | none => [])), H) := by
  intro m
  have hnum := hc.num
  have hl16 := hL.1
  induction m with
  | zero => intro i vs h1 h2; omega
  | succ m ih =>
    intro i vs hi hm hvl hvs
    rw [ref22_Print_p11010_s]
    simp only [decide_eq_true_eq]
    by_cases h : i < L.length
    · rw [if_pos (by omega)]
      have hci : L[i]? = some L[i] := List.getElem?_eq_getElem h
      have hmem := List.getElem_mem h
      have hd : L.drop i = L[i] :: L.drop (i + 1) := List.drop_eq_getElem_cons h
      generalize L[i] = c at hci hmem hd
      obtain ⟨n, ws⟩ := c
      obtain ⟨b, a, e1, e2, e3, e4, e5⟩ := hc.at hci
      obtain ⟨q1, q2, q3⟩ := hL.2 _ hmem
      simp only at q1 q2 q3
      rw [e1]
      simp only [optK_s, ap, Int.toNat_natCast, Nat.zero_add, Nat.add_zero]
      rw [if_pos (by omega), e3]
      simp only [optK_s, asS_s, sEqS]
      rw [hd]
      simp only [cmdsV]
      by_cases hn : n = []
      · subst hn
        rw [if_pos (by rfl), show okW [] ([] :: ws) = none from rfl]
      · rw [if_neg (by simpa using hn)]
        have hjl := join_len 2200000000000 [59, 32] vs hvs
        have hjm : vs.length * (2200000000000 + [(59 : UInt8), 32].length) ≤ 16 * (2200000000000 + 2) := Nat.mul_le_mul (by omega) (Nat.le_refl _)
        -- behind the separator
        have go : ∀ base : W, base.length ≤ 40000000000000 → (∀ u, base ++ u = Lib.join (vs ++ [u]) [59, 32]) → ref22_Print_p11010010011 (d + 2) m x (S base) (i : Int) H = some (.string (S (match (match okW n (n :: ws) with
            | some us => (cmdsV (L.drop (i + 1))).map (Lib.join us [32] :: ·)
            | none => none) with
            | some us => Lib.join (vs ++ us) [59, 32]
            | none => [])), H) := by
          intro base hbl hbase
          rw [ref22_Print_p11010010011_eq, e1]
          simp only [optK_s, ap, Int.toNat_natCast, Nat.zero_add, Nat.add_zero]
          rw [if_pos (by omega), e3]
          simp only [optK_s, asS_s]
          rw [word_ref d n (by omega) H, okW]
          cases hs : shownW n with
          | none =>
            simp only [tellW, callK_s, castT_s, castL_c, castL_n, cast0, asB_s, asS_s, List.getElem?_cons_zero, List.getElem?_cons_succ, optK_s]
            rw [if_pos (by rfl)]
          | some v =>
            simp only [tellW, callK_s, castT_s, castL_c, castL_n, cast0, asB_s, asS_s, List.getElem?_cons_zero, List.getElem?_cons_succ, optK_s, slenS, sCatS]
            have hv1 := shownW_len hs
            rw [if_neg (by simp), if_pos (by omega), if_neg hn]
            have hp := rprint_words d m x L P H hc i n ws hci hn q2 q3 hl16 base v hbl (by omega) NN 0 [] (by omega) (NN_big _ (by omega)) (by simp) (by simp)
            rw [show Lib.joinTail [32] [] = [] from rfl, List.append_nil, List.drop_zero, show ((0 : Nat) : Int) = 0 from rfl] at hp
            rw [hp]
            cases hr : okW n ws with
            | none => simp
            | some r =>
              simp only [List.nil_append, Option.map_some]
              have hu : v ++ Lib.joinTail [32] r = Lib.join (v :: r) [32] := (Lib.join_cons v r [32]).symm
              rw [hu, hbase]
              have hrl := okW_len 1048576 n ws r hr q3
              have hul := join_len 2097154 [32] (v :: r) (fun y hy => by
                rcases List.mem_cons.1 hy with rfl | hy
                · omega
                · exact hrl.2 y hy)
              have hum : (v :: r).length * (2097154 + [(32 : UInt8)].length) ≤ 1048576 * (2097154 + 1) := Nat.mul_le_mul (by simp only [List.length_cons]; omega) (Nat.le_refl _)
              rw [ih (i + 1) (vs ++ [Lib.join (v :: r) [32]]) (by omega) (by omega) (by simp; omega) (fun y hy => by
                rcases List.mem_append.1 hy with hy | hy
                · exact hvs y hy
                · simp only [List.mem_singleton] at hy; subst hy; omega)]
              cases cmdsV (L.drop (i + 1)) <;> simp
        by_cases h0 : 0 < i
        · rw [if_pos (by omega), slenS, slenS, sCatS]
          simp only [List.length_cons, List.length_nil]
          rw [if_pos (by omega)]
          exact go _ (by simp only [List.length_append, List.length_cons, List.length_nil]; omega) (fun u => (join_snoc [59, 32] vs u (fun e => by subst e; simp at hvl; omega)).symm)
        · rw [if_neg (by omega)]
          have hv0 : vs = [] := List.eq_nil_of_length_eq_zero (by omega)
          subst hv0
          exact go _ (by simp [Lib.join_nil]) (fun u => by simp [Lib.join_nil, Lib.join_one])
    · rw [if_neg (by omega), List.drop_eq_nil_of_le (by omega)]
      simp [cmdsV]

theorem RPrint_s (d : Nat) (L : List Cmd) (P : Nat → Prop) (x : Sl) (H : Heap) (hL : Small L) (hc : Cmds H P x L) : X (d + 3) n_ref22_Print [x.v] H = some (.string (S (printW L)), H) := by
  rw [ref22_Print_eq]
  have := rprint_loop d x L P H hc hL NN 0 [] (by omega) (NN_big _ (by have := hL.1; omega)) rfl (by simp)
  rw [Lib.join_nil, List.drop_zero, show ((0 : Nat) : Int) = 0 from rfl] at this
  rw [this]
  simp only [List.nil_append]
  rfl
end Go.Proofs.YtnpmlgibjhjiiaaDoor.dec

namespace Go.Proofs.YtnpmlgibjhjiiaaDoor.dec
open Go Go.Cm

attribute [local congr] optK_congr asI_congr asN_congr asB_congr asS_congr asP_congr asA_congr asSL_congr callK_congr castT_congr chk_congr

def nameB (c : UInt8) : Bool := decide (97 ≤ c.toNat ∧ c.toNat ≤ 122) || decide (48 ≤ c.toNat ∧ c.toNat ≤ 57) || decide (c.toNat = 45)
def isName (w : W) : Bool := w.all nameB && !w.isEmpty && decide (w.length ≤ 20)

theorem mux_loop (d : Nat) (w : W) (hw : w.length ≤ 1048576) (H : Heap) : ∀ (m i : Nat), i ≤ w.length → w.length - i < m → (w.take i).all nameB = true →
    mux_Right_p1010 d m (S w) (i : Int) H = some (.bool (isName w), H) := by
  intro m
  induction m with
  | zero => intro i h1 h2; omega
  | succ m ih =>
    intro i hi hm hok
    rw [mux_Right_p1010_s, slenS]
    simp only [decide_eq_true_eq]
    by_cases h : i < w.length
    · rw [if_pos (by omega), if_pos (by omega), Int.toNat_natCast]
      have hc : w[i]? = some w[i] := List.getElem?_eq_getElem h
      have hmem := List.getElem_mem h
      have htk : w.take (i + 1) = w.take i ++ [w[i]] := by rw [List.take_add_one, hc]; rfl
      generalize w[i] = c at hc hmem htk
      rw [btS hc]
      have yes : nameB c = true → mux_Right_p1010010011 d m (S w) (i : Int) false H = some (.bool (isName w), H) := fun hd => by
        rw [mux_Right_p1010010011_eq, if_neg (by simp), w64 (by omega), show ((i : Int) + 1) = ((i + 1 : Nat) : Int) by omega]
        exact ih (i + 1) (by omega) (by omega) (by rw [htk, List.all_append, hok]; simp [hd])
      have no : nameB c = false → mux_Right_p1010010011 d m (S w) (i : Int) true H = some (.bool (isName w), H) := fun hd => by
        have : w.all nameB = false := by
          cases ha : w.all nameB with
          | false => rfl
          | true => rw [List.all_eq_true.1 ha c hmem] at hd; cases hd
        rw [mux_Right_p1010010011_eq, if_pos rfl, isName, this]
        rfl
      have low : ¬ (97 ≤ c.toNat ∧ c.toNat ≤ 122) → ¬ (48 ≤ c.toNat ∧ c.toNat ≤ 57) → mux_Right_p1010010011 d m (S w) (i : Int) (!decide ((c.toNat : Int) = 45)) H = some (.bool (isName w), H) := fun h1 h2 => by
        by_cases h45 : c.toNat = 45
        · rw [show decide ((c.toNat : Int) = 45) = true from decide_eq_true (by omega)]
          exact yes (by simp [nameB, h45])
        · rw [show decide ((c.toNat : Int) = 45) = false from decide_eq_false (by omega)]
          exact no (by simp only [nameB, decide_eq_false h1, decide_eq_false h2, decide_eq_false h45]; rfl)
      have dig : 48 ≤ c.toNat ∧ c.toNat ≤ 57 → nameB c = true := fun hd => by simp only [nameB, decide_eq_true hd]; simp
      by_cases h97 : (c.toNat : Int) < 97
      · rw [if_pos h97]
        by_cases h48 : (c.toNat : Int) < 48
        · rw [if_pos h48]; exact low (by omega) (by omega)
        · rw [if_neg h48]
          by_cases h57 : (57 : Int) < (c.toNat : Int)
          · rw [if_pos h57]; exact low (by omega) (by omega)
          · rw [if_neg h57]; exact yes (dig (by omega))
      · rw [if_neg h97]
        by_cases h122 : (122 : Int) < (c.toNat : Int)
        · rw [if_pos h122, if_neg (show ¬ (c.toNat : Int) < 48 by omega), if_pos (show (57 : Int) < (c.toNat : Int) by omega)]
          exact low (by omega) (by omega)
        · rw [if_neg h122]
          exact yes (by simp only [nameB, decide_eq_true (show 97 ≤ c.toNat ∧ c.toNat ≤ 122 by omega)]; simp)
    · rw [if_neg (by omega), sEqS]
      rw [List.take_of_length_le (by omega)] at hok
      cases w with
      | nil => rfl
      | cons c w =>
        rw [if_pos (by simp), isName, hok]
        simp only [List.isEmpty_cons, Bool.not_false, Bool.true_and]
        have : decide (((c :: w).length : Int) ≤ 20) = decide ((c :: w).length ≤ 20) := by
          by_cases h20 : (c :: w).length ≤ 20
          · rw [decide_eq_true h20, decide_eq_true (by omega)]
          · rw [decide_eq_false h20, decide_eq_false (by omega)]
        rw [this]

theorem mux_name (d : Nat) (w : W) (hw : w.length ≤ 1048576) (H : Heap) : X (d + 1) n_mux_Right [.string (S w)] H = some (.bool (isName w), H) := by
  rw [mux_Right_eq]
  exact mux_loop d w hw H NN 0 (by omega) (NN_big _ (by omega)) (by simp)

theorem plain15 (d : Nat) (c : UInt8) (H : Heap) : X (d + 1) n_ref15_plain [.int .u8 (c.toNat : Int)] H = some (.bool (nameB c), H) := by
  rw [ref15_plain_eq]
  simp only [decide_eq_true_eq]
  have h1 : (97 ≤ (c.toNat : Int)) = (97 ≤ c.toNat) := by simp; omega
  have h2 : ((c.toNat : Int) ≤ 122) = (c.toNat ≤ 122) := by simp; omega
  have h3 : (48 ≤ (c.toNat : Int)) = (48 ≤ c.toNat) := by simp; omega
  have h4 : ((c.toNat : Int) ≤ 57) = (c.toNat ≤ 57) := by simp; omega
  have h5 : ((c.toNat : Int) = 45) = (c.toNat = 45) := by simp; omega
  simp only [h1, h2, h3, h4, h5, nameB]
  by_cases g1 : 97 ≤ c.toNat <;> by_cases g2 : c.toNat ≤ 122 <;> by_cases g3 : 48 ≤ c.toNat <;> by_cases g4 : c.toNat ≤ 57 <;> simp [g1, g2, g3, g4]

theorem isname_loop (d : Nat) (w : W) (hw : w.length ≤ 1048576) (H : Heap) : ∀ (m i : Nat), i ≤ w.length → w.length - i < m → (w.take i).all nameB = true →
    ref15_IsName_p1010 (d + 1) m (S w) (i : Int) H = some (.bool (isName w), H) := by
  intro m
  induction m with
  | zero => intro i h1 h2; omega
  | succ m ih =>
    intro i hi hm hok
    rw [ref15_IsName_p1010_s, slenS]
    simp only [decide_eq_true_eq]
    by_cases h : i < w.length
    · rw [if_pos (by omega), if_pos (by omega), Int.toNat_natCast]
      have hc : w[i]? = some w[i] := List.getElem?_eq_getElem h
      have hmem := List.getElem_mem h
      have htk : w.take (i + 1) = w.take i ++ [w[i]] := by rw [List.take_add_one, hc]; rfl
      generalize w[i] = c at hc hmem htk
      rw [btS hc, plain15]
      simp only [callK_s, asB_s]
      cases hd : nameB c with
      | true =>
        rw [if_neg (by simp), w64 (by omega), show ((i : Int) + 1) = ((i + 1 : Nat) : Int) by omega]
        exact ih (i + 1) (by omega) (by omega) (by rw [htk, List.all_append, hok]; simp [hd])
      | false =>
        have : w.all nameB = false := by
          cases ha : w.all nameB with
          | false => rfl
          | true => rw [List.all_eq_true.1 ha c hmem] at hd; cases hd
        rw [if_pos (by simp), isName, this]
        rfl
    · rw [if_neg (by omega)]
      rw [List.take_of_length_le (by omega)] at hok
      cases w with
      | nil => rfl
      | cons c w =>
        rw [if_pos (by simp only [List.length_cons]; omega), isName, hok]
        simp only [List.isEmpty_cons, Bool.not_false, Bool.true_and]
        have : decide (((c :: w).length : Int) ≤ 20) = decide ((c :: w).length ≤ 20) := by
          by_cases h20 : (c :: w).length ≤ 20
          · rw [decide_eq_true h20, decide_eq_true (by omega)]
          · rw [decide_eq_false h20, decide_eq_false (by omega)]
        rw [this]

theorem ref_name (d : Nat) (w : W) (hw : w.length ≤ 1048576) (H : Heap) : X (d + 2) n_ref15_IsName [.string (S w)] H = some (.bool (isName w), H) := by
  rw [ref15_IsName_eq]
  exact isname_loop d w hw H NN 0 (by omega) (NN_big _ (by omega)) (by simp)

theorem rnum_loop (d : Nat) (w : W) (hw : w.length ≤ 4) (H : Heap) : ∀ (m i k : Nat), i ≤ w.length → w.length - i < m → (w.take i).all digB = true → k < 10 ^ i →
    ∃ n : Int, ref22_number_p111010 d m (S w) (k : Int) (i : Int) H = some (.int .i64 n, H) ∧ decide (0 ≤ n) = w.all digB := by
  intro m
  induction m with
  | zero => intro i k h1 h2; omega
  | succ m ih =>
    intro i k hi hm hok hk
    have hp : 10 ^ i ≤ 10 ^ 4 := Nat.pow_le_pow_right (by omega) (by omega)
    rw [ref22_number_p111010_s, slenS]
    simp only [decide_eq_true_eq]
    by_cases h : i < w.length
    · rw [if_pos (by omega), if_pos (by omega), Int.toNat_natCast]
      have hc : w[i]? = some w[i] := List.getElem?_eq_getElem h
      have hmem := List.getElem_mem h
      have htk : w.take (i + 1) = w.take i ++ [w[i]] := by rw [List.take_add_one, hc]; rfl
      generalize w[i] = c at hc hmem htk
      rw [btS hc]
      by_cases hd : digB c = true
      · have hd' := digB_t.1 hd
        rw [if_neg (show ¬ (c.toNat : Int) < 48 by omega), if_pos (show (0 : Int) ≤ (i : Int) ∧ (i : Int) < (w.length : Int) by omega), show decide ((57 : Int) < (c.toNat : Int)) = false from decide_eq_false (by omega), ref22_number_p111010010001_eq, if_neg (by simp), slenS, Int.toNat_natCast, btS hc, if_pos (by omega), wrap_dig hd, w64 (n := 10 * (k : Int)) (by omega), w64 (n := (c.toNat : Int) - 48) (by omega), w64 (n := 10 * (k : Int) + ((c.toNat : Int) - 48)) (by omega), w64 (n := (i : Int) + 1) (by omega), show ((i : Int) + 1) = ((i + 1 : Nat) : Int) by omega,
          show 10 * (k : Int) + ((c.toNat : Int) - 48) = ((10 * k + (c.toNat - 48) : Nat) : Int) by omega]
        exact ih (i + 1) _ (by omega) (by omega) (by rw [htk, List.all_append, hok]; simp [hd]) (by rw [Nat.pow_succ]; omega)
      · have hno : w.all digB = false := by
          cases ha : w.all digB with
          | false => rfl
          | true => exact absurd (List.all_eq_true.1 ha c hmem) hd
        rw [hno]
        have hd2 : c.toNat < 48 ∨ 57 < c.toNat := by
          rw [digB_t] at hd; omega
        by_cases h48 : (c.toNat : Int) < 48
        · rw [if_pos h48, ref22_number_p111010010001_eq, if_pos rfl]
          exact ⟨-1, rfl, by decide⟩
        · rw [if_neg h48, if_pos (show (0 : Int) ≤ (i : Int) ∧ (i : Int) < (w.length : Int) by omega), show decide ((57 : Int) < (c.toNat : Int)) = true from decide_eq_true (by omega), ref22_number_p111010010001_eq, if_pos rfl]
          exact ⟨-1, rfl, by decide⟩
    · rw [if_neg (by omega)]
      rw [List.take_of_length_le (by omega)] at hok
      exact ⟨(k : Int), rfl, by rw [hok]; exact decide_eq_true (by omega)⟩

theorem ref_num (d : Nat) (w : W) (H : Heap) : ∃ n : Int, X (d + 1) n_ref22_number [.string (S w)] H = some (.int .i64 n, H) ∧ decide (0 ≤ n) = isNum w := by
  rw [ref22_number_eq, slenS]
  have no : ref22_number_p101 d (S w) true H = some (.int .i64 (-1), H) := by rw [ref22_number_p101_eq, if_pos rfl]
  have yes : w.length ≤ 4 → ∃ n : Int, ref22_number_p101 d (S w) false H = some (.int .i64 n, H) ∧ decide (0 ≤ n) = w.all digB := fun h2 => by
    rw [ref22_number_p101_eq, if_neg (by simp)]
    exact rnum_loop d w h2 H NN 0 0 (by omega) (NN_big _ (by omega)) (by simp) (by decide)
  simp only [decide_eq_true_eq]
  by_cases h0 : w = []
  · subst h0
    rw [if_pos (by decide), no]
    exact ⟨-1, rfl, by decide⟩
  have hne : w.isEmpty = false := by cases w <;> simp_all
  have hpos : 0 < w.length := List.length_pos_iff.2 h0
  rw [if_neg (by omega)]
  by_cases h4 : 4 < w.length
  · rw [if_pos (by omega), no, show isNum w = false by simp [isNum, show ¬ w.length ≤ 4 by omega]]
    exact ⟨-1, rfl, by decide⟩
  rw [if_neg (by omega)]
  by_cases h1 : 1 < w.length
  · rw [if_pos (by omega), if_pos (by omega)]
    obtain ⟨c, v, rfl⟩ : ∃ c v, w = c :: v := by cases w with
      | nil => exact absurd rfl h0
      | cons c v => exact ⟨c, v, rfl⟩
    rw [btS (l := c :: v) (i := 0) (c := c) rfl]
    by_cases h48 : c.toNat = 48
    · rw [show decide ((c.toNat : Int) = 48) = true from decide_eq_true (by omega), no, show isNum (c :: v) = false from by
        have e1 : decide ((c :: v).length ≤ 1) = false := decide_eq_false (by omega)
        have e2 : decide (((c :: v).headD 0).toNat = 48) = true := decide_eq_true h48
        unfold isNum
        rw [e1, e2]
        simp]
      exact ⟨-1, rfl, by decide⟩
    · rw [show decide ((c.toNat : Int) = 48) = false from decide_eq_false (by omega)]
      obtain ⟨n, e, k⟩ := yes (by omega)
      rw [e, show isNum (c :: v) = (c :: v).all digB from by
        have e1 : decide ((c :: v).length ≤ 4) = true := decide_eq_true (by omega)
        have e2 : decide (((c :: v).headD 0).toNat = 48) = false := decide_eq_false h48
        unfold isNum
        rw [e1, e2]
        simp]
      exact ⟨n, rfl, k⟩
  · rw [if_neg (by omega)]
    obtain ⟨n, e, k⟩ := yes (by omega)
    rw [e, show isNum w = w.all digB by simp [isNum, hne, show w.length ≤ 1 by omega, show w.length ≤ 4 by omega]]
    exact ⟨n, rfl, k⟩

/-! ### which commands may be -/
def m1 {α : Type} (f : W → α) (z : α) : List W → α
  | [u] => f u
  | _ => z
def m2 {α : Type} (f : W → W → α) (z : α) : List W → α
  | [u, v] => f u v
  | _ => z
def f3 (n : W) (ws : List W) (b : Bool) : Bool :=
  if b = true then m1 (fun u => isNum u) false ws
  else if (n == [115, 112, 108, 105, 116, 45, 119, 105, 110, 100, 111, 119]) = true then m1 (fun u => if (u == [45, 104]) = true then true else u == [45, 118]) false ws
  else if (n == [114, 101, 115, 105, 122, 101, 45, 112, 97, 110, 101]) = true then m2 (fun u v => if (u == [45, 76]) = true then isNum v else if (u == [45, 82]) = true then isNum v else if (u == [45, 85]) = true then isNum v else if (u == [45, 68]) = true then isNum v else false) false ws
  else if (n == [99, 111, 112, 121]) = true then m2 (fun u v => if isNum u = true then isNum v else false) false ws
  else if (n == [115, 101, 110, 100]) = true then decide (ws.length = 1) else false
def f2 (n : W) (ws : List W) (b : Bool) : Bool :=
  if b = true then m1 (fun u => isName u) false ws
  else if (n == [115, 101, 108, 101, 99, 116, 45, 119, 105, 110, 100, 111, 119]) = true then f3 n ws (n == [115, 101, 108, 101, 99, 116, 45, 119, 105, 110, 100, 111, 119])
  else if (n == [115, 101, 108, 101, 99, 116, 45, 112, 97, 110, 101]) = true then f3 n ws (n == [115, 101, 108, 101, 99, 116, 45, 112, 97, 110, 101])
  else if (n == [115, 119, 97, 112, 45, 112, 97, 110, 101]) = true then f3 n ws (n == [115, 119, 97, 112, 45, 112, 97, 110, 101])
  else f3 n ws (n == [112, 97, 115, 116, 101])
def f1 (n : W) (ws : List W) (b : Bool) : Bool :=
  if b = true then decide (ws.length = 0)
  else if (n == [110, 101, 119, 45, 115, 101, 115, 115, 105, 111, 110]) = true then f2 n ws (n == [110, 101, 119, 45, 115, 101, 115, 115, 105, 111, 110])
  else f2 n ws (n == [114, 101, 110, 97, 109, 101])
def rightW (n : W) (ws : List W) : Bool :=
  if (n == [107, 105, 108, 108, 45, 115, 101, 115, 115, 105, 111, 110]) = true then f1 n ws (n == [107, 105, 108, 108, 45, 115, 101, 115, 115, 105, 111, 110])
  else if (n == [110, 101, 119, 45, 119, 105, 110, 100, 111, 119]) = true then f1 n ws (n == [110, 101, 119, 45, 119, 105, 110, 100, 111, 119])
  else if (n == [107, 105, 108, 108, 45, 119, 105, 110, 100, 111, 119]) = true then f1 n ws (n == [107, 105, 108, 108, 45, 119, 105, 110, 100, 111, 119])
  else if (n == [107, 105, 108, 108, 45, 112, 97, 110, 101]) = true then f1 n ws (n == [107, 105, 108, 108, 45, 112, 97, 110, 101])
  else f1 n ws (n == [122, 111, 111, 109])

theorem rd0 {H : Heap} {a : Sl} {ws : List W} {u : W} (hw : Words H a ws) (h : ws[0]? = some u) (K : ByteArray → Res) : (optK a.a fun a1 => if 0 ≤ (0 : Int) ∧ (0 : Int) < (a.n : Int) then optK (Heap.ld1 H (ap a1 0)) fun v2 => asS v2 fun s3 => K s3 else none) = K (S u) := by
  obtain ⟨b, q1, q2⟩ := hw.at h
  have hn := hw.num
  have hlt := (List.getElem?_eq_some_iff.1 h).1
  rw [q1]
  simp only [optK_s, ap, Nat.zero_add]
  rw [if_pos (by omega), q2]
  rfl
theorem rd1 {H : Heap} {a : Sl} {ws : List W} {u : W} (hw : Words H a ws) (h : ws[1]? = some u) (K : ByteArray → Res) : (optK a.a fun a1 => if 0 ≤ (1 : Int) ∧ (1 : Int) < (a.n : Int) then optK (Heap.ld1 H (ap a1 1)) fun v2 => asS v2 fun s3 => K s3 else none) = K (S u) := by
  obtain ⟨b, q1, q2⟩ := hw.at h
  have hn := hw.num
  have hlt := (List.getElem?_eq_some_iff.1 h).1
  rw [q1]
  simp only [optK_s, ap, Nat.zero_add]
  rw [if_pos (by omega), q2]
  rfl

/-- an answer -/
def Ans (H : Heap) (b : Bool) (r : Res) : Prop := ∃ H', r = some (.bool b, H') ∧ Keep (fun _ => False) H H'
theorem Ans.here (H : Heap) (b : Bool) : Ans H b (some (.bool b, H)) := ⟨H, rfl, Keep.refl _⟩
theorem Ans.num (d : Nat) (H : Heap) (w : W) : Ans H (isNum w) (callK (X (d + 4) n_cmd_isNumber [.string (S w)] H) fun v4 H5 => asB v4 fun b6 => some (.bool b6, H5)) := by
  obtain ⟨H', e, k⟩ := isNumber_s d w H
  rw [e]
  exact ⟨H', rfl, k⟩
theorem Ans.rnum (d : Nat) (H : Heap) (w : W) : Ans H (isNum w) (callK (X (d + 1) n_ref22_number [.string (S w)] H) fun v8 H9 => asI .i64 v8 fun n10 => some (.bool (decide ((0 : Int) ≤ n10)), H9)) := by
  obtain ⟨n, e, k⟩ := ref_num d w H
  rw [e]
  exact ⟨H, by simp only [callK_s, asI_s]; rw [k], Keep.refl _⟩

theorem one_or (ws : List W) : (∃ u, ws = [u]) ∨ ws.length ≠ 1 := by
  match ws with
  | [] => exact .inr (by simp)
  | [u] => exact .inl ⟨u, rfl⟩
  | _ :: _ :: _ => exact .inr (by simp)
theorem two_or (ws : List W) : (∃ u v, ws = [u, v]) ∨ ws.length ≠ 2 := by
  match ws with
  | [] => exact .inr (by simp)
  | [u] => exact .inr (by simp)
  | [u, v] => exact .inl ⟨u, v, rfl⟩
  | _ :: _ :: _ :: _ => exact .inr (by simp)
theorem not_one {α : Type} {ws : List W} {f : W → α} {z : α} (h : ws.length ≠ 1) : m1 f z ws = z := by
  match ws, h with
  | [], _ => rfl
  | [u], h => exact absurd rfl h
  | _ :: _ :: _, _ => rfl
theorem not_two {α : Type} {ws : List W} {f : W → W → α} {z : α} (h : ws.length ≠ 2) : m2 f z ws = z := by
  match ws, h with
  | [], _ => rfl
  | [u], _ => rfl
  | [u, v], h => exact absurd rfl h
  | _ :: _ :: _ :: _, _ => rfl

theorem right3 (d : Nat) (n : W) (ws : List W) (a : Sl) (b : Bool) (H : Heap) (hw : Words H a ws) : Ans H (f3 n ws b) (cmd_Right_p110101011011 (d + 4) a (S n) b H) := by
  have hn := hw.num
  rw [cmd_Right_p110101011011_eq]
  unfold f3
  simp only [sEqS, decide_eq_true_eq]
  by_cases hb : b = true
  · rw [if_pos hb, if_pos hb]
    rcases one_or ws with ⟨u, rfl⟩ | h
    · rw [if_pos (show ((a.n : Nat) : Int) = 1 by rw [hn]; rfl), rd0 hw rfl]
      exact Ans.num d H u
    · rw [if_neg (show ¬ ((a.n : Nat) : Int) = 1 by omega), not_one h]
      exact Ans.here _ _
  rw [if_neg hb, if_neg hb]
  by_cases h1 : (n == [115, 112, 108, 105, 116, 45, 119, 105, 110, 100, 111, 119]) = true
  · rw [if_pos h1, if_pos h1]
    rcases one_or ws with ⟨u, rfl⟩ | h
    · rw [if_pos (show ((a.n : Nat) : Int) = 1 by rw [hn]; rfl), rd0 hw rfl, sEqS]
      simp only [m1, m2]
      by_cases g : (u == [45, 104]) = true
      · rw [if_pos g, if_pos g]; exact Ans.here _ _
      · rw [if_neg g, if_neg g, rd0 hw rfl, sEqS]; exact Ans.here _ _
    · rw [if_neg (show ¬ ((a.n : Nat) : Int) = 1 by omega), not_one h]
      exact Ans.here _ _
  rw [if_neg h1, if_neg h1]
  by_cases h2 : (n == [114, 101, 115, 105, 122, 101, 45, 112, 97, 110, 101]) = true
  · rw [if_pos h2, if_pos h2]
    rcases two_or ws with ⟨u, v, rfl⟩ | h
    · rw [if_pos (show ((a.n : Nat) : Int) = 2 by rw [hn]; rfl), rd0 hw rfl, sEqS]
      simp only [m1, m2]
      by_cases g : (u == [45, 76]) = true
      · rw [if_pos g, if_pos g, rd1 hw rfl]; exact Ans.num d H v
      rw [if_neg g, if_neg g, rd0 hw rfl, sEqS]
      by_cases g : (u == [45, 82]) = true
      · rw [if_pos g, if_pos g, rd1 hw rfl]; exact Ans.num d H v
      rw [if_neg g, if_neg g, rd0 hw rfl, sEqS]
      by_cases g : (u == [45, 85]) = true
      · rw [if_pos g, if_pos g, rd1 hw rfl]; exact Ans.num d H v
      rw [if_neg g, if_neg g, rd0 hw rfl, sEqS]
      by_cases g : (u == [45, 68]) = true
      · rw [if_pos g, if_pos g, rd1 hw rfl]; exact Ans.num d H v
      rw [if_neg g, if_neg g]
      exact Ans.here _ _
    · rw [if_neg (show ¬ ((a.n : Nat) : Int) = 2 by omega), not_two h]
      exact Ans.here _ _
  rw [if_neg h2, if_neg h2]
  by_cases h3 : (n == [99, 111, 112, 121]) = true
  · rw [if_pos h3, if_pos h3]
    rcases two_or ws with ⟨u, v, rfl⟩ | h
    · rw [if_pos (show ((a.n : Nat) : Int) = 2 by rw [hn]; rfl), rd0 hw rfl]
      obtain ⟨H', e, k⟩ := isNumber_s d u H
      rw [e]
      simp only [callK_s, asB_s, m2]
      have hw' : Words H' a [u, v] := Whole.keep hw k (fun _ _ h => h)
      by_cases g : isNum u = true
      · rw [if_pos g, if_pos g, rd1 hw' rfl]
        obtain ⟨H2, e2, k2⟩ := Ans.num d H' v
        exact ⟨H2, e2, k.trans k2 fun _ _ h => h⟩
      · rw [if_neg g, if_neg g]
        exact ⟨H', rfl, k⟩
    · rw [if_neg (show ¬ ((a.n : Nat) : Int) = 2 by omega), not_two h]
      exact Ans.here _ _
  rw [if_neg h3, if_neg h3]
  by_cases h4 : (n == [115, 101, 110, 100]) = true
  · rw [if_pos h4, if_pos h4, show decide (((a.n : Nat) : Int) = 1) = decide (ws.length = 1) from by
      rw [hn]
      by_cases g : ws.length = 1
      · rw [decide_eq_true g, decide_eq_true (by omega)]
      · rw [decide_eq_false g, decide_eq_false (by omega)]]
    exact Ans.here _ _
  · rw [if_neg h4, if_neg h4]
    exact Ans.here _ _
end Go.Proofs.YtnpmlgibjhjiiaaDoor.dec

namespace Go.Proofs.YtnpmlgibjhjiiaaDoor.dec
open Go Go.Cm

attribute [local congr] optK_congr asI_congr asN_congr asB_congr asS_congr asP_congr asA_congr asSL_congr callK_congr castT_congr chk_congr

theorem dec_len {a : Sl} {ws : List W} (h : a.n = ws.length) (k : Nat) : decide (((a.n : Nat) : Int) = (k : Int)) = decide (ws.length = k) := by
  rw [h]
  by_cases g : ws.length = k
  · rw [decide_eq_true g, decide_eq_true (by omega)]
  · rw [decide_eq_false g, decide_eq_false (by omega)]

theorem right2 (d : Nat) (n : W) (ws : List W) (hl : ∀ w ∈ ws, w.length ≤ 1048576) (a : Sl) (b : Bool) (H : Heap) (hw : Words H a ws) : Ans H (f2 n ws b) (cmd_Right_p110101011 (d + 4) a (S n) b H) := by
  have hn := hw.num
  rw [cmd_Right_p110101011_eq]
  unfold f2
  simp only [sEqS, decide_eq_true_eq]
  by_cases hb : b = true
  · rw [if_pos hb, if_pos hb]
    rcases one_or ws with ⟨u, rfl⟩ | h
    · rw [if_pos (show ((a.n : Nat) : Int) = 1 by rw [hn]; rfl), rd0 hw rfl, mux_name _ u (hl u (by simp))]
      exact Ans.here _ _
    · rw [if_neg (show ¬ ((a.n : Nat) : Int) = 1 by omega), not_one h]
      exact Ans.here _ _
  rw [if_neg hb, if_neg hb]
  split
  · exact right3 d n ws a _ H hw
  split
  · exact right3 d n ws a _ H hw
  split
  · exact right3 d n ws a _ H hw
  · exact right3 d n ws a _ H hw

theorem right1 (d : Nat) (n : W) (ws : List W) (hl : ∀ w ∈ ws, w.length ≤ 1048576) (a : Sl) (b : Bool) (H : Heap) (hw : Words H a ws) : Ans H (f1 n ws b) (cmd_Right_p110101 (d + 4) a (S n) b H) := by
  have hn := hw.num
  rw [cmd_Right_p110101_eq]
  unfold f1
  simp only [sEqS]
  by_cases hb : b = true
  · rw [if_pos hb, if_pos hb, show decide (((a.n : Nat) : Int) = 0) = decide (ws.length = 0) from dec_len hn 0]
    exact Ans.here _ _
  rw [if_neg hb, if_neg hb]
  split
  · exact right2 d n ws hl a _ H hw
  · exact right2 d n ws hl a _ H hw

theorem Right_c (d : Nat) (n : W) (ws : List W) (hl : ∀ w ∈ ws, w.length ≤ 1048576) (a : Sl) (H : Heap) (hw : Words H a ws) : Ans H (rightW n ws) (X (d + 5) n_cmd_Right [.agg #[.string (S n), a.v]] H) := by
  rw [cmd_Right_eq, box2 rfl rfl]
  have k1 : Keep (fun _ => False) H (H.new (.cells [.string (S n), a.v] t_cmd_Command false 0 false)) := Keep.new _ _
  have hw1 : Words _ a ws := Whole.keep hw k1 (fun _ _ h => h)
  have g1 : (H.new (.cells [.string (S n), a.v] t_cmd_Command false 0 false)).get H.next = some (.cells [.string (S n), a.v] t_cmd_Command false 0 false) := by simp
  generalize (H.new (.cells [.string (S n), a.v] t_cmd_Command false 0 false)) = H1 at *
  simp only [show ∀ (K : Option Addr → Res), asP (P0 H.next) K = K (some ⟨H.next, 0, none⟩) from fun _ => rfl, optK_s, ap, Nat.zero_add, ld1_s g1, List.getElem?_cons_zero, List.getElem?_cons_succ, Sl.v, asSL_s, asS_s, sEqS]
  have fin : ∀ b, Ans H (f1 n ws b) (cmd_Right_p110101 (d + 4) ⟨a.a, a.n, a.c⟩ (S n) b H1) := fun b => by
    obtain ⟨H', e, k⟩ := right1 d n ws hl a b H1 hw1
    exact ⟨H', e, k1.trans k fun _ _ h => h⟩
  unfold rightW
  split
  · exact fin _
  split
  · exact fin _
  split
  · exact fin _
  split
  · exact fin _
  · exact fin _

/-! ### the reference's -/
theorem rsl {H : Heap} {p : Nat} {n : W} {a : Sl} (hp : H.get p = some (.cells [.string (S n), a.v] t_cmd_Command false 0 false)) (K : Sl → Res) : (asP (P0 p) fun o1 => optK o1 fun a2 => optK (Heap.ld1 H (ap a2 1)) fun v3 => asSL v3 fun l4 => K l4) = K a := by
  simp only [show ∀ (K : Option Addr → Res), asP (P0 p) K = K (some ⟨p, 0, none⟩) from fun _ => rfl, optK_s, ap, Nat.zero_add, ld1_s hp, List.getElem?_cons_zero, List.getElem?_cons_succ, Sl.v, asSL_s]

theorem rright3 (d p : Nat) (n : W) (ws : List W) (a : Sl) (b : Bool) (H : Heap) (hp : H.get p = some (.cells [.string (S n), a.v] t_cmd_Command false 0 false)) (hw : Words H a ws) : Ans H (f3 n ws b) (ref22_Right_p110101011011 (d + 1) (P0 p) (a.n : Int) (S n) b H) := by
  have hn := hw.num
  rw [ref22_Right_p110101011011_eq]
  unfold f3
  simp only [sEqS, decide_eq_true_eq]
  by_cases hb : b = true
  · rw [if_pos hb, if_pos hb]
    rcases one_or ws with ⟨u, rfl⟩ | h
    · rw [if_pos (show ((a.n : Nat) : Int) = 1 by rw [hn]; rfl), rsl hp, rd0 hw rfl]
      exact Ans.rnum d H u
    · rw [if_neg (show ¬ ((a.n : Nat) : Int) = 1 by omega), not_one h]
      exact Ans.here _ _
  rw [if_neg hb, if_neg hb]
  by_cases h1 : (n == [115, 112, 108, 105, 116, 45, 119, 105, 110, 100, 111, 119]) = true
  · rw [if_pos h1, if_pos h1]
    rcases one_or ws with ⟨u, rfl⟩ | h
    · rw [if_pos (show ((a.n : Nat) : Int) = 1 by rw [hn]; rfl), rsl hp, rd0 hw rfl, sEqS]
      simp only [m1]
      by_cases g : (u == [45, 104]) = true
      · rw [if_pos g, if_pos g]; exact Ans.here _ _
      · rw [if_neg g, if_neg g, rsl hp, rd0 hw rfl, sEqS]; exact Ans.here _ _
    · rw [if_neg (show ¬ ((a.n : Nat) : Int) = 1 by omega), not_one h]
      exact Ans.here _ _
  rw [if_neg h1, if_neg h1]
  by_cases h2 : (n == [114, 101, 115, 105, 122, 101, 45, 112, 97, 110, 101]) = true
  · rw [if_pos h2, if_pos h2]
    rcases two_or ws with ⟨u, v, rfl⟩ | h
    · rw [if_pos (show ((a.n : Nat) : Int) = 2 by rw [hn]; rfl), rsl hp, rd0 hw rfl, sEqS]
      simp only [m2]
      by_cases g : (u == [45, 76]) = true
      · rw [if_pos g, if_pos g, rsl hp, rd1 hw rfl]; exact Ans.rnum d H v
      rw [if_neg g, if_neg g, rsl hp, rd0 hw rfl, sEqS]
      by_cases g : (u == [45, 82]) = true
      · rw [if_pos g, if_pos g, rsl hp, rd1 hw rfl]; exact Ans.rnum d H v
      rw [if_neg g, if_neg g, rsl hp, rd0 hw rfl, sEqS]
      by_cases g : (u == [45, 85]) = true
      · rw [if_pos g, if_pos g, rsl hp, rd1 hw rfl]; exact Ans.rnum d H v
      rw [if_neg g, if_neg g, rsl hp, rd0 hw rfl, sEqS]
      by_cases g : (u == [45, 68]) = true
      · rw [if_pos g, if_pos g, rsl hp, rd1 hw rfl]; exact Ans.rnum d H v
      rw [if_neg g, if_neg g]
      exact Ans.here _ _
    · rw [if_neg (show ¬ ((a.n : Nat) : Int) = 2 by omega), not_two h]
      exact Ans.here _ _
  rw [if_neg h2, if_neg h2]
  by_cases h3 : (n == [99, 111, 112, 121]) = true
  · rw [if_pos h3, if_pos h3]
    rcases two_or ws with ⟨u, v, rfl⟩ | h
    · rw [if_pos (show ((a.n : Nat) : Int) = 2 by rw [hn]; rfl), rsl hp, rd0 hw rfl]
      obtain ⟨k, e, hk⟩ := ref_num d u H
      rw [e]
      simp only [callK_s, asI_s, m2, decide_eq_true_eq]
      by_cases g : isNum u = true
      · rw [if_pos g, if_pos (by rw [g] at hk; exact of_decide_eq_true hk), rsl hp, rd1 hw rfl]
        exact Ans.rnum d H v
      · rw [if_neg g, if_neg (fun h => g (by rw [← hk]; exact decide_eq_true h))]
        exact Ans.here _ _
    · rw [if_neg (show ¬ ((a.n : Nat) : Int) = 2 by omega), not_two h]
      exact Ans.here _ _
  rw [if_neg h3, if_neg h3]
  by_cases h4 : (n == [115, 101, 110, 100]) = true
  · rw [if_pos h4, if_pos h4, show decide (((a.n : Nat) : Int) = 1) = decide (ws.length = 1) from dec_len hn 1]
    exact Ans.here _ _
  · rw [if_neg h4, if_neg h4]
    exact Ans.here _ _

theorem rright2 (d p : Nat) (n : W) (ws : List W) (hl : ∀ w ∈ ws, w.length ≤ 1048576) (a : Sl) (b : Bool) (H : Heap) (hp : H.get p = some (.cells [.string (S n), a.v] t_cmd_Command false 0 false)) (hw : Words H a ws) : Ans H (f2 n ws b) (ref22_Right_p110101011 (d + 2) (P0 p) (a.n : Int) (S n) b H) := by
  have hn := hw.num
  rw [ref22_Right_p110101011_eq]
  unfold f2
  simp only [sEqS, decide_eq_true_eq]
  by_cases hb : b = true
  · rw [if_pos hb, if_pos hb]
    rcases one_or ws with ⟨u, rfl⟩ | h
    · rw [if_pos (show ((a.n : Nat) : Int) = 1 by rw [hn]; rfl), rsl hp, rd0 hw rfl, ref_name _ u (hl u (by simp))]
      exact Ans.here _ _
    · rw [if_neg (show ¬ ((a.n : Nat) : Int) = 1 by omega), not_one h]
      exact Ans.here _ _
  rw [if_neg hb, if_neg hb]
  split
  · exact rright3 (d + 1) p n ws a _ H hp hw
  split
  · exact rright3 (d + 1) p n ws a _ H hp hw
  split
  · exact rright3 (d + 1) p n ws a _ H hp hw
  · exact rright3 (d + 1) p n ws a _ H hp hw

theorem rright1 (d p : Nat) (n : W) (ws : List W) (hl : ∀ w ∈ ws, w.length ≤ 1048576) (a : Sl) (b : Bool) (H : Heap) (hp : H.get p = some (.cells [.string (S n), a.v] t_cmd_Command false 0 false)) (hw : Words H a ws) : Ans H (f1 n ws b) (ref22_Right_p110101 (d + 2) (P0 p) (a.n : Int) (S n) b H) := by
  have hn := hw.num
  rw [ref22_Right_p110101_eq]
  unfold f1
  simp only [sEqS]
  by_cases hb : b = true
  · rw [if_pos hb, if_pos hb, show decide (((a.n : Nat) : Int) = 0) = decide (ws.length = 0) from dec_len hn 0]
    exact Ans.here _ _
  rw [if_neg hb, if_neg hb]
  split
  · exact rright2 d p n ws hl a _ H hp hw
  · exact rright2 d p n ws hl a _ H hp hw

theorem Right_r (d : Nat) (n : W) (ws : List W) (hl : ∀ w ∈ ws, w.length ≤ 1048576) (a : Sl) (H : Heap) (hw : Words H a ws) : Ans H (rightW n ws) (X (d + 3) n_ref22_Right [.agg #[.string (S n), a.v]] H) := by
  rw [ref22_Right_eq, box2 rfl rfl]
  have k1 : Keep (fun _ => False) H (H.new (.cells [.string (S n), a.v] t_cmd_Command false 0 false)) := Keep.new _ _
  have hw1 : Words _ a ws := Whole.keep hw k1 (fun _ _ h => h)
  have g1 : (H.new (.cells [.string (S n), a.v] t_cmd_Command false 0 false)).get H.next = some (.cells [.string (S n), a.v] t_cmd_Command false 0 false) := by simp
  generalize (H.new (.cells [.string (S n), a.v] t_cmd_Command false 0 false)) = H1 at *
  simp only [show ∀ (K : Option Addr → Res), asP (P0 H.next) K = K (some ⟨H.next, 0, none⟩) from fun _ => rfl, optK_s, ap, Nat.zero_add, ld1_s g1, List.getElem?_cons_zero, List.getElem?_cons_succ, Sl.v, asSL_s, asS_s, sEqS]
  have fin : ∀ b, Ans H (f1 n ws b) (ref22_Right_p110101 (d + 2) (P0 H.next) (a.n : Int) (S n) b H1) := fun b => by
    obtain ⟨H', e, k⟩ := rright1 d H.next n ws hl a b H1 g1 hw1
    exact ⟨H', e, k1.trans k fun _ _ h => h⟩
  unfold rightW
  split
  · exact fin _
  split
  · exact fin _
  split
  · exact fin _
  split
  · exact fin _
  · exact fin _

def needW (n : W) (ws : List W) : Int := if rightW n ws = false then 0 else if (n == [112, 97, 115, 116, 101]) = true then 2 else if (n == [115, 101, 110, 100]) = true then 2 else 4

theorem load2 {H : Heap} {p : Nat} {u v : Value} {e : TypeId} (h : H.get p = some (.cells [u, v] e false 0 false)) : readD (.load 2 true) [P0 p] H = some (.agg #[u, v]) := by
  have : H.ldN ⟨p, 0, none⟩ 2 = some [u, v] := by
    rw [ldN_s h (by simp)]
    rfl
  simp [readD, P0, this]

theorem Needs_c (d : Nat) (n : W) (ws : List W) (hl : ∀ w ∈ ws, w.length ≤ 1048576) (a : Sl) (H : Heap) (hw : Words H a ws) : ∃ H', X (d + 6) n_cmd_Needs [.agg #[.string (S n), a.v]] H = some (.int .i64 (needW n ws), H') ∧ Keep (fun _ => False) H H' := by
  rw [cmd_Needs_eq, box2 rfl rfl]
  have k1 : Keep (fun _ => False) H (H.new (.cells [.string (S n), a.v] t_cmd_Command false 0 false)) := Keep.new _ _
  have hw1 : Words _ a ws := Whole.keep hw k1 (fun _ _ h => h)
  have g1 : (H.new (.cells [.string (S n), a.v] t_cmd_Command false 0 false)).get H.next = some (.cells [.string (S n), a.v] t_cmd_Command false 0 false) := by simp
  have n1 : H.next < (H.new (.cells [.string (S n), a.v] t_cmd_Command false 0 false)).next := by simp
  generalize (H.new (.cells [.string (S n), a.v] t_cmd_Command false 0 false)) = H1 at *
  rw [load2 g1]
  simp only [optK_s, asA_s]
  obtain ⟨H2, e2, k2⟩ := Right_c d n ws hl a H1 hw1
  rw [e2]
  simp only [callK_s, asB_s]
  have k12 : Keep (fun _ => False) H H2 := k1.trans k2 fun _ _ h => h
  have g2 := (k2.2 H.next n1 id).trans g1
  unfold needW
  cases hr : rightW n ws with
  | false =>
    rw [if_pos (by rfl), if_pos rfl]
    exact ⟨H2, rfl, k12⟩
  | true =>
    rw [if_neg (by simp), if_neg (by simp)]
    simp only [show ∀ (K : Option Addr → Res), asP (P0 H.next) K = K (some ⟨H.next, 0, none⟩) from fun _ => rfl, optK_s, ap, Nat.zero_add, ld1_s g2, List.getElem?_cons_zero, asS_s, sEqS]
    by_cases h1 : (n == [112, 97, 115, 116, 101]) = true
    · rw [if_pos h1, if_pos h1, cmd_Needs_p100111_eq, if_pos rfl]
      exact ⟨H2, rfl, k12⟩
    · rw [if_neg h1, if_neg h1, cmd_Needs_p100111_eq]
      split <;> exact ⟨H2, rfl, k12⟩

theorem Needs_r (d : Nat) (n : W) (ws : List W) (hl : ∀ w ∈ ws, w.length ≤ 1048576) (a : Sl) (H : Heap) (hw : Words H a ws) : ∃ H', X (d + 4) n_ref22_Needs [.agg #[.string (S n), a.v]] H = some (.int .i64 (needW n ws), H') ∧ Keep (fun _ => False) H H' := by
  rw [ref22_Needs_eq, box2 rfl rfl]
  have k1 : Keep (fun _ => False) H (H.new (.cells [.string (S n), a.v] t_cmd_Command false 0 false)) := Keep.new _ _
  have hw1 : Words _ a ws := Whole.keep hw k1 (fun _ _ h => h)
  have g1 : (H.new (.cells [.string (S n), a.v] t_cmd_Command false 0 false)).get H.next = some (.cells [.string (S n), a.v] t_cmd_Command false 0 false) := by simp
  have n1 : H.next < (H.new (.cells [.string (S n), a.v] t_cmd_Command false 0 false)).next := by simp
  generalize (H.new (.cells [.string (S n), a.v] t_cmd_Command false 0 false)) = H1 at *
  rw [load2 g1]
  simp only [optK_s, asA_s]
  obtain ⟨H2, e2, k2⟩ := Right_r d n ws hl a H1 hw1
  rw [e2]
  simp only [callK_s, asB_s]
  have k12 : Keep (fun _ => False) H H2 := k1.trans k2 fun _ _ h => h
  have g2 := (k2.2 H.next n1 id).trans g1
  unfold needW
  cases hr : rightW n ws with
  | false =>
    rw [if_pos (by rfl), if_pos rfl]
    exact ⟨H2, rfl, k12⟩
  | true =>
    rw [if_neg (by simp), if_neg (by simp)]
    simp only [show ∀ (K : Option Addr → Res), asP (P0 H.next) K = K (some ⟨H.next, 0, none⟩) from fun _ => rfl, optK_s, ap, Nat.zero_add, ld1_s g2, List.getElem?_cons_zero, asS_s, sEqS]
    by_cases h1 : (n == [112, 97, 115, 116, 101]) = true
    · rw [if_pos h1, if_pos h1, ref22_Needs_p100111_eq, if_pos rfl]
      exact ⟨H2, rfl, k12⟩
    · rw [if_neg h1, if_neg h1, ref22_Needs_p100111_eq]
      split <;> exact ⟨H2, rfl, k12⟩
end Go.Proofs.YtnpmlgibjhjiiaaDoor.dec

namespace Go.Proofs.YtnpmlgibjhjiiaaDoor.dec
open Go Go.Cm

attribute [local congr] optK_congr asI_congr asN_congr asB_congr asS_congr asP_congr asA_congr asSL_congr callK_congr castT_congr chk_congr

theorem same_cmd (s : ByteArray) (a : Option Addr) (n c : Nat) : same (.agg #[.string s, .slice a n c]) (.agg #[.string s, .slice a n c]) = true := by simp [same, sameL, same0, sEq]

theorem ldA2 {H : Heap} {p : Nat} {u v : Value} {e : TypeId} (h : H.get p = some (.cells [u, v] e false 0 false)) : Cm.ldA H ⟨p, 0, none⟩ 2 = some (.agg #[u, v]) := by
  unfold Cm.ldA
  rw [ldN_s h (by simp)]
  rfl

theorem prints_loop (d B : Nat) (x : Sl) : ∀ (m i : Nat) (y : Sl) (L : List Cmd) (H : Heap), i ≤ x.n → x.n - i < m → L.length ≤ i → i ≤ 12 → RawL H B x → Cmds H (InQ B y) y L → (∀ j, y.at j → B ≤ j) → Small L →
    ∃ H', law24_CmdPrints_p11010 (d + 6) m x y (i : Int) H = some (.bool true, H') := by
  intro m
  induction m with
  | zero => intro i y L H h1 h2; omega
  | succ m ih =>
    intro i y L H h1 h2 hl h12 hr hc hy hs
    rw [law24_CmdPrints_p11010_s]
    simp only [decide_eq_true_eq]
    have stop : ∃ H', law24_CmdPrints_p11010001 (d + 6) m x y (i : Int) false H = some (.bool true, H') := by
      rw [law24_CmdPrints_p11010001_eq, if_neg (by simp), known_s]
      simp only [callK_s, asB_s, if_true]
      obtain ⟨H1, p1, p2⟩ := Print_s (d + 3) L _ y H hs hc
      rw [p1]
      simp only [callK_s, asS_s]
      obtain ⟨cs, c1, c2⟩ := hc
      have hc1 : Cmds H1 (InQ B y) y L := ⟨cs, c1.keep p2 fun _ _ h => h, c2.keep p2 fun _ _ h => h⟩
      rw [RPrint_s (d + 3) L _ y H1 hs hc1]
      simp only [callK_s, asS_s, sEqS, beq_self_eq_true]
      exact ⟨_, rfl⟩
    by_cases hi : i < x.n
    · rw [if_pos (by omega)]
      by_cases g8 : i < 12
      · rw [show decide ((i : Int) < 12) = true from decide_eq_true (by omega), law24_CmdPrints_p11010001_eq, if_pos rfl]
        have hr0 := hr
        obtain ⟨hB, hn, hrr⟩ := hr
        obtain ⟨a, nm, q, b, how, odd, ol, e1, e2, e3, e4, e5, e6, e7⟩ := hrr i hi
        rw [e1]
        simp only [optK_s]
        rw [if_pos (by omega), Int.toNat_natCast, e3]
        simp only [optK_s, asA_s]
        obtain ⟨H5, name, args, ws, g1, g2, g3, g4, g5, g6, g7⟩ := command_s (d + 3) nm q b how odd ol H e4 (fun k hk => by have := e5 k hk; omega) e6 e7
        rw [g1]
        simp only [callK_s, asA_s, newK_s]
        have hget : (H5.new (.cells [.string (S []), .slice none 0 0] t_cmd_Command false 0 false)).get H5.next = some (.cells [.string (S []), .slice none 0 0] t_cmd_Command false 0 false) := by simp
        rw [store2 hget rfl rfl]
        have kp : Keep (fun _ => False) H5 ((H5.new (.cells [.string (S []), .slice none 0 0] t_cmd_Command false 0 false)).put H5.next (.cells [.string (S name), args.v] t_cmd_Command false 0 false)) := ⟨by simp, fun k hk _ => by rw [Heap.get_put_ne _ _ (by omega), Heap.get_new_ne _ _ (by omega)]⟩
        have c10 : ((H5.new (.cells [.string (S []), .slice none 0 0] t_cmd_Command false 0 false)).put H5.next (.cells [.string (S name), args.v] t_cmd_Command false 0 false)).get H5.next = some (.cells [.string (S name), args.v] t_cmd_Command false 0 false) := by simp
        have n10 : H5.next < ((H5.new (.cells [.string (S []), .slice none 0 0] t_cmd_Command false 0 false)).put H5.next (.cells [.string (S name), args.v] t_cmd_Command false 0 false)).next := by simp
        generalize (H5.new (.cells [.string (S []), .slice none 0 0] t_cmd_Command false 0 false)).put H5.next (.cells [.string (S name), args.v] t_cmd_Command false 0 false) = H10 at *
        have w10 : Words H10 args ws := Whole.keep g2 kp (fun _ _ h => h)
        simp only [ldA2 c10, optK_s, asA_s]
        obtain ⟨H14, e14, k14⟩ := Right_c (d + 1) name ws g7 args H10 w10
        rw [e14]
        simp only [callK_s, asB_s]
        have c14 := (k14.2 _ n10 id).trans c10
        have n14 := Nat.lt_of_lt_of_le n10 k14.1
        have w14 : Words H14 args ws := Whole.keep w10 k14 (fun _ _ h => h)
        simp only [ldA2 c14, optK_s, asA_s]
        obtain ⟨H19, e19, k19⟩ := Right_r (d + 3) name ws g7 args H14 w14
        rw [e19]
        simp only [callK_s, asB_s]
        have c19 := (k19.2 _ n14 id).trans c14
        have n19 := Nat.lt_of_lt_of_le n14 k19.1
        have w19 : Words H19 args ws := Whole.keep w14 k19 (fun _ _ h => h)
        rw [if_neg (by simp)]
        simp only [ldA2 c19, optK_s, asA_s]
        obtain ⟨H24, e24, k24⟩ := Needs_c d name ws g7 args H19 w19
        rw [e24]
        simp only [callK_s, asI_s]
        have c24 := (k24.2 _ n19 id).trans c19
        have n24 := Nat.lt_of_lt_of_le n19 k24.1
        have w24 : Words H24 args ws := Whole.keep w19 k24 (fun _ _ h => h)
        simp only [ldA2 c24, optK_s, asA_s]
        obtain ⟨H29, e29, k29⟩ := Needs_r (d + 2) name ws g7 args H24 w24
        rw [e29]
        simp only [callK_s, asI_s]
        have c29 := (k29.2 _ n24 id).trans c24
        have n29 := Nat.lt_of_lt_of_le n24 k29.1
        have w29 : Words H29 args ws := Whole.keep w24 k29 (fun _ _ h => h)
        have hrd : rdsOk [H10, H14, H19, H24, H29] [⟨.load 2 true, [P0 H5.next], .agg #[.string (S name), args.v], 2, 3⟩, ⟨.load 2 true, [P0 H5.next], .agg #[.string (S name), args.v], 0, 1⟩] = true := by
          simp [rdsOk, rdOk_2, rdAt, load2 c10, load2 c14, load2 c19, load2 c24, Sl.v, same_cmd]
        rw [hrd]
        simp only [chk_s]
        rw [show (!decide True) = false by simp, law24_CmdPrints_p110100100101_eq, if_neg (by simp)]
        simp only [ldA2 c29, optK_s, asA_s]
        rw [show fillL [(0, 2)] [.agg #[.string (S name), Sl.v args]] [.string (S []), .slice none 0 0] = some [.string (S name), Sl.v args] from rfl]
        simp only [optK_s, newK_s]
        have kk : Keep (fun k => H.next ≤ k) H H29 := g4.trans (((((kp.trans k14 fun _ _ h => h).trans k19 fun _ _ h => h).trans k24 fun _ _ h => h).trans k29 fun _ _ h => h)) fun _ _ h => h.elim
        obtain ⟨l, H', f1, f2, f3, f4⟩ := push_cmd (name := name) hB hc hy (by omega) kk w29 g3
        rw [f1]
        simp only [Sl.v, asSL_s]
        rw [w64 (by omega), show ((i : Int) + 1) = ((i + 1 : Nat) : Int) by omega]
        exact ih (i + 1) l (L ++ [(name, ws)]) H' (by omega) (by omega) (by simp; omega) (by omega) (hr0.keep f4) f2 f3 (hs.snoc (by omega) g5 g6 g7)
      · rw [show decide ((i : Int) < 12) = false from decide_eq_false (by omega)]
        exact stop
    · rw [if_neg (by omega)]
      exact stop

theorem CmdPrints_s (d : Nat) (x : Sl) (H : Heap) (h : RawL H H.next x) : ∃ H', X (d + 7) n_law24_CmdPrints [x.v] H = some (.bool true, H') := by
  rw [law24_CmdPrints_eq]
  exact prints_loop d H.next x NN 0 Sl.nil [] H (by omega) (NN_big _ (by have := h.2.1; omega)) (by simp) (by omega) h ⟨[], Whole.nil _ _ _, CmdL.nil _ _⟩ (fun k hk => by obtain ⟨_, h, _⟩ := hk; cases h) ⟨by simp, by simp⟩
end Go.Proofs.YtnpmlgibjhjiiaaDoor.dec

namespace Go.Proofs.YtnpmlgibjhjiiaaDoor.dig
open Go Go.RowKit
theorem conv0 (W : World) (g c : Nat) (b : UInt8) (h : W.cell? ⟨g, 0, none⟩ = some (.int .u8 b.toNat)) : (convert 22 9 (Value.slice (some { block := g, off := 0 }) 1 c)).run Tryd.prog W = .ok (.string ⟨#[b]⟩) W := by
  have := run_convert_bytes_back (P := Tryd.prog) W 22 9 5 ⟨g, 0, none⟩ c [b] Tryd.underlying22 Tryd.underlying5 Tryd.underlying9 (fun j hj => by
    have : j = 0 := by simpa using hj
    subst this
    exact h)
  exact this
theorem conv1 (W : World) (n : Int) (h1 : 0 ≤ n) (h2 : n ≤ 255) : (convert 22 9 (Value.slice (some { block := W.heap.size, off := 0 }) 1 1)).run Tryd.prog (W.alloc (Obj.cells #[Value.int IntKind.u8 n] 5)) = .ok (.string ⟨#[UInt8.ofNat n.toNat]⟩) (W.alloc (Obj.cells #[Value.int IntKind.u8 n] 5)) := by
  have hn : ((UInt8.ofNat n.toNat).toNat : Int) = n := by simp; omega
  refine conv0 _ _ _ _ ?_
  rw [hn]
  go_simp
theorem below_small (n : Int) (h1 : -10 < n) (h2 : n ≤ 0) (w : World) : Calls Tryd.prog 33 #[.int .i64 n] w fun e w' => e = .returned (.string ⟨#[UInt8.ofNat (48 - n).toNat]⟩) ∧ Below w.heap.size w w' := by
  have hc := fun W => conv1 W (48 - n) (by omega) (by omega)
  go_enter Tryd.func33, Tryd.ntmps33
  go_wp2
  go_ret
  exact ⟨rfl, (Below.refl _ _).alloc (Nat.le_refl _) _⟩
theorem below_1 (w : World) : Calls Tryd.prog 33 #[.int .i64 (-1)] w fun e w' => e = .returned (.string ⟨#[49]⟩) ∧ Below w.heap.size w w' := below_small (-1) (by omega) (by omega) w
theorem conv2 {W w1 : World} (hb : Below W.heap.size W w1) {g : Nat} (hg : g < W.heap.size) {v : Value} (hv : W.cell? ⟨g, 0, none⟩ = some v) : w1.cell? ⟨g, 0, none⟩ = some v := (hb.cell hg).trans hv
theorem cell_new (W : World) (v : Value) : (W.alloc (Obj.cells #[v] 5)).cell? ⟨W.heap.size, 0, none⟩ = some v := by go_simp
theorem size_new (W : World) (o : Obj) : W.heap.size < (W.alloc o).heap.size := by simp
set_option maxHeartbeats 4000000 in
set_option maxRecDepth 100000 in
theorem below_10 (w : World) : Calls Tryd.prog 33 #[.int .i64 (-10)] w fun e w' => e = .returned (.string ⟨#[49, 48]⟩) ∧ Below w.heap.size w w' := by
  have hw1 : IntKind.i64.wrap 48 = 48 := by decide
  have hw2 : IntKind.u8.wrap 48 = 48 := by decide
  have hw3 : IntKind.i64.wrap (-1) = -1 := by decide
  have hc : ∀ (W : World), (convert 22 9 (Value.slice (some { block := W.heap.size, off := 0 }) 1 1)).run Tryd.prog (W.alloc (Obj.cells #[Value.int IntKind.u8 48] 5)) = .ok (.string ⟨#[48]⟩) (W.alloc (Obj.cells #[Value.int IntKind.u8 48] 5)) := fun W => conv1 W 48 (by omega) (by omega)
  have hc4 : (convert 22 9 (Value.slice (some { block := w.heap.size, off := 0 }) 1 1)).run Tryd.prog (w.alloc (Obj.cells #[Value.int IntKind.u8 48] 5)).drew = .ok (.string ⟨#[48]⟩) (w.alloc (Obj.cells #[Value.int IntKind.u8 48] 5)).drew := conv0 _ w.heap.size 1 48 (cell_new w _)
  have hc3 : ∀ w1, Below (w.alloc (Obj.cells #[Value.int IntKind.u8 48] 5)).drew.heap.size (w.alloc (Obj.cells #[Value.int IntKind.u8 48] 5)).drew w1 → (convert 22 9 (Value.slice (some { block := w.heap.size, off := 0 }) 1 1)).run Tryd.prog w1 = .ok (.string ⟨#[48]⟩) w1 :=
    fun w1 hb => conv0 w1 w.heap.size 1 48 (conv2 hb (size_new w _) (cell_new w _))
  go_enter Tryd.func33, Tryd.ntmps33
  go_wp2
  go_region_with (first
    | (refine (below_1 (w.alloc (Obj.cells #[Value.int IntKind.u8 48] 5)).drew).mono ?_; rintro e w1 ⟨he, hb⟩; subst he; have hcell := hc3 w1 hb; go_wp2)
    | (refine (below_1 w.drew).mono ?_; rintro e w1 ⟨he, hb⟩; subst he; go_wp2))
  all_goals go_wp2
  all_goals go_ret
  all_goals first
    | exact ⟨rfl, ((Below.refl _ w).drew.trans hb).alloc hb.size _⟩
    | exact ⟨rfl, (((Below.refl _ w).alloc (Nat.le_refl _) _).drew).trans (hb.mono (Nat.le_of_lt (size_new w _)))⟩
set_option maxHeartbeats 4000000 in
set_option maxRecDepth 100000 in
theorem below_11 (w : World) : Calls Tryd.prog 33 #[.int .i64 (-11)] w fun e w' => e = .returned (.string ⟨#[49, 49]⟩) ∧ Below w.heap.size w w' := by
  have hw1 : IntKind.i64.wrap 49 = 49 := by decide
  have hw2 : IntKind.u8.wrap 49 = 49 := by decide
  have hw3 : IntKind.i64.wrap (-1) = -1 := by decide
  have hc : ∀ (W : World), (convert 22 9 (Value.slice (some { block := W.heap.size, off := 0 }) 1 1)).run Tryd.prog (W.alloc (Obj.cells #[Value.int IntKind.u8 49] 5)) = .ok (.string ⟨#[49]⟩) (W.alloc (Obj.cells #[Value.int IntKind.u8 49] 5)) := fun W => conv1 W 49 (by omega) (by omega)
  have hc4 : (convert 22 9 (Value.slice (some { block := w.heap.size, off := 0 }) 1 1)).run Tryd.prog (w.alloc (Obj.cells #[Value.int IntKind.u8 49] 5)).drew = .ok (.string ⟨#[49]⟩) (w.alloc (Obj.cells #[Value.int IntKind.u8 49] 5)).drew := conv0 _ w.heap.size 1 49 (cell_new w _)
  have hc3 : ∀ w1, Below (w.alloc (Obj.cells #[Value.int IntKind.u8 49] 5)).drew.heap.size (w.alloc (Obj.cells #[Value.int IntKind.u8 49] 5)).drew w1 → (convert 22 9 (Value.slice (some { block := w.heap.size, off := 0 }) 1 1)).run Tryd.prog w1 = .ok (.string ⟨#[49]⟩) w1 :=
    fun w1 hb => conv0 w1 w.heap.size 1 49 (conv2 hb (size_new w _) (cell_new w _))
  go_enter Tryd.func33, Tryd.ntmps33
  go_wp2
  go_region_with (first
    | (refine (below_1 (w.alloc (Obj.cells #[Value.int IntKind.u8 49] 5)).drew).mono ?_; rintro e w1 ⟨he, hb⟩; subst he; have hcell := hc3 w1 hb; go_wp2)
    | (refine (below_1 w.drew).mono ?_; rintro e w1 ⟨he, hb⟩; subst he; go_wp2))
  all_goals go_wp2
  all_goals go_ret
  all_goals first
    | exact ⟨rfl, ((Below.refl _ w).drew.trans hb).alloc hb.size _⟩
    | exact ⟨rfl, (((Below.refl _ w).alloc (Nat.le_refl _) _).drew).trans (hb.mono (Nat.le_of_lt (size_new w _)))⟩
end Go.Proofs.YtnpmlgibjhjiiaaDoor.dig

namespace Go.Proofs.YtnpmlgibjhjiiaaDoor.frame
open Go Go.Cm Go.ChangeShapes Go.WideShapes Go.ChangeAt Go.RowKit

theorem own : ownKnob Tryd.prog.godebug = none := by kernel_rfl
theorem mixed : Tryd.prog.follows .mixedOrders = true := Tryd.checked.mixed

theorem one_le {H : Type} (d : DataW H) : 1 ≤ Rows.uptoBulk d := by
  cases d with
  | lit l => cases l <;> simp [Rows.uptoBulk]
  | _ => simp [Rows.uptoBulk]
theorem length_le {H : Type} (l : List (DataW H)) : l.length ≤ Rows.uptoBulkAll l := by
  induction l with
  | nil => simp [Rows.uptoBulkAll]
  | cons x r ih => have := one_le x; simp only [Rows.uptoBulkAll, List.length_cons]; omega

theorem all_le {H : Type} {d : DataW H} {l : List (DataW H)} (h : d ∈ l) : Rows.uptoBulk d ≤ Rows.uptoBulkAll l := by
  induction l with
  | nil => cases h
  | cons x r ih =>
    simp only [Rows.uptoBulkAll]
    rcases List.mem_cons.1 h with rfl | h
    · omega
    · have := ih h; omega

theorem known_ev : (match callD ⟨autoFn [] Tryd.prog, fun _ => none⟩ 1000 50 7 [] (heap0 0 fun _ => none) with
  | some (.bool b, _) => b
  | _ => false) = true := by kernel_rfl
theorem known : ∃ H1, callD ⟨autoFn [] Tryd.prog, fun _ => none⟩ 1000 50 7 [] (heap0 0 fun _ => none) = some (.bool true, H1) := by
  have h := known_ev
  split at h
  · rename_i b H1 e
    subst h
    exact ⟨H1, e⟩
  · cases h

theorem enters29 : ∀ args w, (callFunc 29 args).run Tryd.prog w = .ok (.enter 29 args) w := enters_of Tryd.func29 (by kernel_rfl) rfl
theorem enters33 : ∀ args w, (callFunc 33 args).run Tryd.prog w = .ok (.enter 33 args) w := enters_of Tryd.func33 (by kernel_rfl) rfl

theorem dig_below (n : Int) (s : ByteArray) (w : World) (h : dig2 n = some s) : Calls Tryd.prog 33 #[.int .i64 n] w fun e w' => e = .returned (.string s) ∧ Below w.heap.size w w' := by
  unfold dig2 at h
  split at h
  · rename_i hn
    simp only [Option.some.injEq] at h
    subst h
    by_cases g : -10 < n
    · rw [if_pos g]; exact dig.below_small n g hn.2 w
    · rw [if_neg g]
      by_cases g1 : n = -10
      · subst g1; exact dig.below_10 w
      · have : n = -11 := by omega
        subst this; exact dig.below_11 w
  · cases h

theorem prog_ok (n0 : Nat) (w : World) : ProgOK Tryd.prog (startG ([] : List GW).length n0 w) [] dec.C := by
  refine ⟨fun g h => absurd h (List.not_mem_nil), fun _ _ h => autoC_ok h, fun f p h => ?_, fun _ hc _ => draw_ok mixed (fun g h => absurd h (List.not_mem_nil)) hc⟩
  unfold dec.C at h
  simp only at h
  split at h
  · rename_i e
    subst e
    simp only [Option.some.injEq] at h
    subst h
    obtain ⟨H1, hev⟩ := known
    have hk := sure_ok (w0 := startG ([] : List GW).length n0 w) mixed hev
    intro g vs vs' H v H' μ w' hc
    by_cases e : g = 7
    · subst e
      refine hk 7 vs vs' H v H' μ w' ?_
      simpa using hc
    · exact absurd hc (by simp [e])
  · split at h
    · rename_i e
      subst e
      simp only [Option.some.injEq] at h
      subst h
      exact dig_ok enters33 fun n s w h => dig_below n s w h
    · split at h
      · rename_i e
        subst e
        simp only [Option.some.injEq] at h
        subst h
        exact join_ok enters29 Tryd.strings_Join_none Tryd.strings_Join
      · cases h

/-- a string argument's bulk -/
theorem string_le {H : Type} (s : ByteArray) : (lst s).length ≤ Rows.uptoBulk (.lit (.string s.data.toList) : DataW H) := by
  simp only [Rows.uptoBulk]
  have : lst s = s.data.toList := rfl
  rw [this]; omega

theorem slice_at {H : Type} {ws : List Win} {t e : TypeId} {x : Sl} {d : DataW H} (h : DR Tryd.prog ws t [x.v] d) (ht : Tryd.prog.underlying t = some (.slice e)) : ∀ k, x.at k → k = 0 ∨ k < ws.length := by
  obtain ⟨xa, xn, xc⟩ := x
  rintro k ⟨a, ha, rfl⟩
  simp only at ha
  subst ha
  generalize hcs : [Sl.v ⟨some a, xn, xc⟩] = cs at h
  cases h
  case bool => cases hcs
  case int => cases hcs
  case string => cases hcs
  case nil => cases hcs
  case none => cases hcs; exact .inl rfl
  case slice b y es rest hb hl hd hu =>
    cases hcs
    exact .inr (List.getElem?_eq_some_iff.1 hb).1
  all_goals simp_all

theorem strs_of {H : Type} {ws : List Win} {cs : List Value} {d : DataW H} (h : DR Tryd.prog ws 37 cs d) : ∃ (x : Sl) (l : List dec.W), cs = [x.v] ∧ dec.Strs (heapW ws) x l ∧ (∀ k, x.at k → k = 0 ∨ k < ws.length) ∧ l.length + 1 ≤ Rows.uptoBulk d + 1 ∧ ∀ w ∈ l, w.length ≤ Rows.uptoBulk d := by
  obtain ⟨x, es, rest, rfl, h1, h2, h3, h4⟩ := h.slice_inv Tryd.underlying37
  have hc : Tryd.prog.cellsOf 9 = 1 := by kernel_rfl
  rw [hc] at h4
  have each : ∀ i, i < es.length → ∃ (s : ByteArray) (b : Nat) (y : Win), x.a = some ⟨b, 0, none⟩ ∧ ws[b]? = some y ∧ i + 1 ≤ y.cells.length ∧ (y.cells.drop i).take 1 = [.string s] ∧ es[i]? = some (.lit (.string s.data.toList)) := by
    intro i hi
    obtain ⟨b, y, q1, q2, q3, q4⟩ := h4 i _ (List.getElem?_eq_getElem hi)
    obtain ⟨s, g1, g2⟩ := q4.string_inv Tryd.underlying9
    rw [Nat.mul_one] at g1 q3
    exact ⟨s, b, y, q1, q2, q3, g1, by rw [List.getElem?_eq_getElem hi, g2]⟩
  refine ⟨x, (List.range es.length).map fun i => if hi : i < es.length then lst (each i hi).choose else [], rfl, ⟨by simpa using h1, ?_⟩, ?_, ?_, ?_⟩
  · by_cases hz : es.length = 0
    · left; simp [hz]
    right
    obtain ⟨s, b, y, e1, e2, e3, e4, _⟩ := each 0 (by omega)
    have hy : ∀ i (hi : i < es.length), y.cells[i]? = some (.string (each i hi).choose) := by
      intro i hi
      obtain ⟨b', y', f1, f2, f3, f4, _⟩ := (each i hi).choose_spec
      rw [e1] at f1
      cases f1
      rw [e2] at f2
      cases f2
      have := congrArg (fun l => l[0]?) f4
      simpa using this
    have hlen : es.length ≤ y.cells.length := by
      obtain ⟨_, b', y', f1, f2, f3, _, _⟩ := each (es.length - 1) (by omega)
      rw [e1] at f1
      cases f1
      rw [e2] at f2
      cases f2
      omega
    refine ⟨b, 0, y.cells, y.elem, false, y.cells.length, true, e1, (List.getElem?_eq_some_iff.1 e2).1, heapW_get e2, by simp; omega, ?_⟩
    apply List.ext_getElem?
    intro i
    simp only [List.length_map, List.length_range, List.drop_zero, dec.strs, List.map_map]
    by_cases hi : i < es.length
    · rw [List.getElem?_take_of_lt hi, hy i hi, List.getElem?_map, List.getElem?_range hi]
      simp only [Option.map_some, Function.comp_apply, dif_pos hi]
      rfl
    · rw [List.getElem?_eq_none (by simp; omega), List.getElem?_eq_none (by simp; omega)]
  · exact slice_at h Tryd.underlying37
  · simp only [List.length_map, List.length_range]
    rcases h3 with ⟨rfl, rfl⟩ | rfl
    · simp
    · have := length_le es
      simp only [Rows.uptoBulk]; omega
  · intro w hw
    obtain ⟨i, hi, rfl⟩ := List.mem_map.1 hw
    have hi' : i < es.length := by simpa using hi
    rw [dif_pos hi']
    obtain ⟨b', y', f1, f2, f3, f4, f5⟩ := (each i hi').choose_spec
    have hm := List.mem_of_getElem? f5
    rcases h3 with ⟨rfl, rfl⟩ | rfl
    · cases hm
    · have h1 := all_le hm
      have h2 := string_le (H := H) (each i hi').choose
      simp only [Rows.uptoBulk] at h2 h1 ⊢
      omega

set_option maxRecDepth 100000 in
theorem raws_of {H : Type} {ws : List Win} {cs : List Value} {d : DataW H} (h : DR Tryd.prog ws 41 cs d) (hk : Rows.uptoBulk d ≤ 1048576) : ∃ (x : Sl), cs = [x.v] ∧ dec.RawL (heapW ws) (heapW ws).next x := by
  obtain ⟨x, es, rest, rfl, h1, h2, h3, h4⟩ := h.slice_inv Tryd.underlying41
  have hc : Tryd.prog.cellsOf 44 = 5 := by kernel_rfl
  have hc3 : Tryd.prog.cellsOf 3 = 1 := by kernel_rfl
  have hc37 : Tryd.prog.cellsOf 37 = 1 := by kernel_rfl
  rw [hc] at h4
  have hes : ∀ dd ∈ es, Rows.uptoBulk dd ≤ 1048575 := by
    intro dd hdd
    rcases h3 with ⟨rfl, rfl⟩ | rfl
    · cases hdd
    · have := all_le hdd
      simp only [Rows.uptoBulk] at hk
      omega
  have hlen : es.length ≤ 1048575 := by
    rcases h3 with ⟨rfl, rfl⟩ | rfl
    · simp
    · have := length_le es
      simp only [Rows.uptoBulk] at hk
      omega
  refine ⟨x, rfl, Nat.le_refl _, by omega, fun i hi => ?_⟩
  have hi' : i < es.length := by omega
  obtain ⟨b, y, q1, q2, q3, q4⟩ := h4 i _ (List.getElem?_eq_getElem hi')
  have hbulk := hes _ (List.getElem_mem hi')
  generalize es[i] = dd at q4 hbulk
  have hb : b < ws.length := (List.getElem?_eq_some_iff.1 q2).1
  obtain ⟨g1, ds, rfl, g2, g3⟩ := q4.struct_inv Tryd.underlying44
  rw [hc] at g1
  generalize hcs : (y.cells.drop (i * 5)).take 5 = cs at g1 g3
  match cs, g1 with
  | [c0, c1, c2, c3, c4], _ =>
    match ds, g2 with
    | [d0, d1, d2, d3, d4], _ =>
      have f0 := g3 0 _ _ rfl rfl
      have f1 := g3 1 _ _ rfl rfl
      have f2 := g3 2 _ _ rfl rfl
      have f3 := g3 3 _ _ rfl rfl
      have f4 := g3 4 _ _ rfl rfl
      simp only [hc3, hc37] at f0 f1 f2 f3 f4
      obtain ⟨n0, e0, _⟩ := f0.int_inv Tryd.underlying3
      obtain ⟨n1, e1, _⟩ := f1.int_inv Tryd.underlying3
      obtain ⟨n2, e2, _⟩ := f2.int_inv Tryd.underlying3
      obtain ⟨odd, ol, e3, o1, o2, o3, o4⟩ := strs_of f3
      obtain ⟨n4, e4, _⟩ := f4.int_inv Tryd.underlying3
      obtain rfl : c0 = .int .i64 n0 := by simpa using e0
      obtain rfl : c1 = .int .i64 n1 := by simpa using e1
      obtain rfl : c2 = .int .i64 n2 := by simpa using e2
      obtain rfl : c3 = odd.v := by simpa using e3
      obtain rfl : c4 = .int .i64 n4 := by simpa using e4
      have hb3 : Rows.uptoBulk d3 ≤ 1048575 := by
        simp only [Rows.uptoBulk, Rows.uptoBulkAll] at hbulk
        omega
      refine ⟨⟨b, 0, none⟩, n0, n1, n2, n4, odd, ol, q1, hb, ?_, o1, fun k hk => ?_, by omega, fun w hw => by have := o4 w hw; omega⟩
      · unfold Cm.ldA
        simp only [ap, Nat.zero_add]
        rw [ldN_s (heapW_get q2) (by omega), hcs]
      · show k < ws.length
        rcases o2 k hk with rfl | h
        · omega
        · exact h
end Go.Proofs.YtnpmlgibjhjiiaaDoor.frame
