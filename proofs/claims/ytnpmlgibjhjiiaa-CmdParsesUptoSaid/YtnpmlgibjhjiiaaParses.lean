/-
  CmdParses: any line is commands, or refused, as the reference says; for arguments of at most 1048576 values and letters.
-/
import Derived.Test.YtnpmlgibjhjiiaaRows
import Derived.Test.YtnpmlgibjhjiiaaLine
import Derived.ChangeMaps5
import Derived.ChangeSlices
namespace Go.Proofs.Ytnpmlgibjhjiiaa.parses
open Go Go.Cm Go.ChangeShapes Go.WideShapes Go.ChangeAt Go.RowKit

theorem own : ownKnob Try.prog.godebug = none := by kernel_rfl
theorem mixed : Try.prog.follows .mixedOrders = true := Try.checked.mixed

theorem one_le {H : Type} (d : DataW H) : 1 ≤ Rows.uptoBulk d := by
  cases d with
  | lit l => cases l <;> simp [Rows.uptoBulk]
  | _ => simp [Rows.uptoBulk]
theorem length_le {H : Type} (l : List (DataW H)) : l.length ≤ Rows.uptoBulkAll l := by
  induction l with
  | nil => simp [Rows.uptoBulkAll]
  | cons x r ih => have := one_le x; simp only [Rows.uptoBulkAll, List.length_cons]; omega
theorem slice_le {H : Type} (elems spare : List (DataW H)) : elems.length + spare.length + 1 ≤ Rows.uptoBulk (.slice elems spare) := by
  have h1 := length_le elems
  have h2 := length_le spare
  simp only [Rows.uptoBulk]
  omega

theorem known_ev : (match callD ⟨autoFn [] Try.prog, fun _ => none⟩ 1000 50 10 [] (heap0 0 fun _ => none) with
  | some (.bool b, _) => b
  | _ => false) = true := by kernel_rfl
theorem known : ∃ H1, callD ⟨autoFn [] Try.prog, fun _ => none⟩ 1000 50 10 [] (heap0 0 fun _ => none) = some (.bool true, H1) := by
  have h := known_ev
  split at h
  · rename_i b H1 e
    subst h
    exact ⟨H1, e⟩
  · cases h

theorem prog_ok (n0 : Nat) (w : World) : ProgOK Try.prog (Cm.start n0 w) [] dec.C := by
  refine ⟨fun g h => absurd h (List.not_mem_nil), fun _ _ h => autoC_ok h, fun f p h => ?_, fun _ hc _ => draw_ok mixed (fun g h => absurd h (List.not_mem_nil)) hc⟩
  unfold dec.C at h
  simp only at h
  split at h
  · rename_i e
    subst e
    simp only [Option.some.injEq] at h
    subst h
    obtain ⟨H1, hev⟩ := known
    have hk := sure_ok (w0 := Cm.start n0 w) mixed hev
    intro g vs vs' H v H' μ w' hc
    by_cases e : g = 10
    · subst e
      refine hk 10 vs vs' H v H' μ w' ?_
      simpa using hc
    · exact absurd hc (by simp [e])
  · cases h

/-- THE PLAIN LAW -/
theorem plain (s : ByteArray) (v1 : Value) (any : Bool) (ws : List Win) (l : List Int) (hl : l.length ≤ 1048576)
    (h1 : (v1 = .slice none 0 0 ∧ ws = []) ∨ ∃ (len cap : Nat) (x : Win), len ≤ cap ∧ ws = [x] ∧ x.cells = l.map (fun n => .int .i64 n) ∧ l.length = cap ∧ v1 = .slice (some ⟨0, 0, none⟩) len cap) :
    ∃ d H', callD dec.C dec.NN d 3 [.string s, v1, .bool any] (heapW ws) = some (.bool true, H') := by
  rcases h1 with ⟨rfl, rfl⟩ | ⟨len, cap, x, q1, rfl, q2, q3, rfl⟩
  · obtain ⟨H', h⟩ := dec.CmdParses_s 0 s Sl.nil [] any (heapW []) ⟨by simp, fun i n hi => absurd hi (Nat.not_lt_zero _)⟩ (by simp)
    exact ⟨4, H', h⟩
  · obtain ⟨H', h⟩ := dec.CmdParses_s 0 s ⟨some ⟨0, 0, none⟩, len, cap⟩ l any (heapW [x]) ⟨by simpa [q3] using q1, fun i n hi hn => ⟨0, 0, rfl, by
      have hg : (heapW [x]).get 0 = some (.cells x.cells x.elem false x.cells.length true) := rfl
      rw [ld1_s hg, q2, Nat.zero_add, List.getElem?_map, hn]
      rfl⟩⟩ hl
    exact ⟨4, H', h⟩

theorem contract (H : Type) (enc : TypeId × Value → H) (W : World) (base : Nat) (args : Array Value) (ds gs : List (DataW H)) (before : List MemPlace)
    (hval : ∀ (j : Nat) t v, Try.f3.params[j]? = some t → args[j]? = some v → Value.okWide Try.prog W .any base t v)
    (hW : DataW.Whole enc Try.prog Try.f3.params.toList Rows.cmdParsesSpec.vars false W args.toList ds gs before) (hk : Rows.uptoSmall H (ds ++ gs) = true) :
    Calls Try.prog 3 args W fun e W' => ∃ v, e = .returned v ∧ Rows.cmdParsesSpec.post enc Try.prog Try.f3 false true false false W args v W' := by
  have hW' := hW
  obtain ⟨p, q, hA0, hV, rfl, hfz, hnd⟩ := hW
  have hA : DataW.TrodAll enc Try.prog W 0 (fun _ => true) true Try.f3.params.toList args.toList ds p := hA0
  rw [Try.params3] at hA hval
  obtain ⟨v0, vs0, d0, ds0, p0, q0, hargs, rfl, rfl, g0, r0⟩ := trodAll_cons hA
  obtain ⟨v1, vs1, d1, ds1, p1, q1, rfl, rfl, rfl, g1, r1⟩ := trodAll_cons r0
  obtain ⟨v2, vs2, d2, ds2, p2, q2, rfl, rfl, rfl, g2, r2⟩ := trodAll_cons r1
  obtain ⟨rfl, rfl, rfl⟩ := trodAll_nil r2
  obtain rfl : args = #[v0, v1, v2] := by cases args; simp_all
  obtain ⟨rfl, rfl⟩ := trodVars_none hV
  obtain ⟨s, rfl, rfl, rfl, hsz⟩ := ChangeMaps.open_string Try.underlying9 (hval 0 9 v0 rfl rfl) g0
  obtain ⟨any, rfl, rfl, rfl⟩ := open_bool Try.underlying4 (hval 2 4 v2 rfl rfl) g2
  have hbulk : Rows.uptoBulkAll ([DataW.lit (.string s.data.toList), d1, DataW.lit (.bool any)] ++ ([] : List (DataW H))) ≤ 1048576 := of_decide_eq_true hk
  simp only [List.cons_append, List.nil_append, Rows.uptoBulkAll, Rows.uptoBulk] at hbulk
  have hb1 : Rows.uptoBulk d1 ≤ 1048576 := by omega
  have hs : s.size ≤ 1048576 := by
    have : s.data.toList.length = s.size := by simp
    omega
  -- the slice
  have hslice : ∃ (l : List Int) (ws : List Win) (c1 : Value), l.length ≤ 1048576 ∧ (∀ x ∈ ws, WinOK Try.prog W (muW Try.prog W ws) x) ∧ VR (muW Try.prog W ws) c1 v1 ∧
      ((c1 = .slice none 0 0 ∧ ws = []) ∨ ∃ (len cap : Nat) (x : Win), len ≤ cap ∧ ws = [x] ∧ x.cells = l.map (fun n => .int .i64 n) ∧ l.length = cap ∧ c1 = .slice (some ⟨0, 0, none⟩) len cap) := by
    obtain ⟨fuel, g1'⟩ := g1
    obtain ⟨a0, n0, c0, hv1⟩ := slice_form Try.underlying22 (hval 1 22 _ rfl rfl)
    subst hv1
    rcases open_ints Try.underlying22 Try.underlying3 (by kernel_rfl) g1' with ⟨hc, hx⟩ | ⟨a, len, cap, zs, hc, _, hlc, _, hzl, hx, hcell, _⟩
    · simp only [Value.cells, List.cons.injEq, and_true, Value.slice.injEq] at hc
      obtain ⟨rfl, rfl, rfl⟩ := hc
      exact ⟨[], [], _, by simp, by simp, .slN, .inl ⟨rfl, rfl⟩⟩
    · simp only [Value.cells, List.cons.injEq, and_true, Value.slice.injEq] at hc
      obtain ⟨rfl, rfl, rfl⟩ := hc
      simp only [if_true] at hzl
      obtain ⟨x, hx1, hx2, hx3⟩ := win_slice (μ := fun _ => none) (l := zs.map fun n => .int .i64 n) Try.underlying22 (hval 1 22 _ rfl rfl) (by simpa using hzl) (by
        intro i v hv
        simp only [List.getElem?_map, Option.map_eq_some_iff] at hv
        obtain ⟨n, hn, rfl⟩ := hv
        have hi := (List.getElem?_eq_some_iff.1 hn).1
        have := hcell i hi
        rw [List.getD_eq_getElem?_getD, hn] at this
        exact this) (by
        intro v hv
        simp only [List.mem_map] at hv
        obtain ⟨n, _, rfl⟩ := hv
        exact ⟨rfl, .int _ _⟩)
      refine ⟨zs, [x], _, ?_, ?_, hx3 [x] 0 rfl, .inr ⟨n0, c0, x, hlc, rfl, hx1, hzl, rfl⟩⟩
      · simp only [Prod.mk.injEq] at hx
        obtain ⟨rfl, _⟩ := hx
        have h2 := slice_le (H := H) (lits .i64 (zs.take n0)) (lits .i64 (zs.drop n0))
        simp only [lits, List.length_map, List.length_take, List.length_drop] at h2
        simp only [lits] at hb1
        omega
      · intro y hy
        simp only [List.mem_singleton] at hy
        subst hy
        obtain ⟨c, fr, q1, q2, q3⟩ := hx2
        exact ⟨c, fr, q1, q2, fun i v hv => let ⟨r1, v', r2, r3⟩ := q3 i v hv; ⟨r1, v', r2, r3.mono (fun _ _ h => by cases h)⟩⟩
  obtain ⟨l, ws, c1, hl, hws, hv1, hshape⟩ := hslice
  obtain ⟨d, H', hcall⟩ := plain s c1 any ws l hl hshape
  refine (law_calls (vs' := [.string s, v1, .bool any]) (prog_ok ws.length W) Try.func3 rfl (by kernel_rfl) hcall (RR.wins hws) ⟨.string _, hv1, .bool _, trivial⟩).mono fun e W' ⟨h1, h2, h3, h4⟩ => ?_
  exact ⟨_, h1, law_post (by kernel_rfl) hW' rfl rfl (by
    intro t ht
    rw [Try.params3] at ht
    simp only [List.mem_cons, List.not_mem_nil, or_false] at ht
    rcases ht with rfl | rfl | rfl <;> exact ⟨by kernel_rfl, of_decide_eq_true (by kernel_rfl)⟩) rfl Try.underlying4 h2 h3 h4⟩

set_option maxRecDepth 100000 in
theorem lifted (os : Os) (started : os.Started) (H : Type) (enc : TypeId × Value → H) (F : Stop.Interp) :
    ReturnsInHanded {} Try.checked os 3 .any ((Rows.OpenSpec.upto Rows.cmdParsesSpec).pre6 enc Try.prog Try.f3 Rows.cmdParsesUptoRow.domain false) (((Rows.OpenSpec.upto Rows.cmdParsesSpec).at F).post enc Try.prog Try.f3 false true false false) := by
  refine returnsInHanded_of_cond (C := Try.checked) (s := Rows.OpenSpec.upto Rows.cmdParsesSpec) (k := Rows.uptoSmall) rfl own started (by kernel_rfl) Try.func3
    (OpenSpec.witness (enc := enc) (C := Try.checked) (s := Rows.OpenSpec.upto Rows.cmdParsesSpec) (k := Rows.uptoSmall) rfl false ⟨#[], #[.string ⟨#[]⟩, .slice none 0 0, .bool false], []⟩ 8 (by kernel_rfl) (by kernel_rfl) (by kernel_rfl)
      (x := ([.lit (.string []), .nil, .lit (.bool false)], [], [])) (by kernel_rfl) rfl (by kernel_rfl)) ?_
  intro W base args ds gs before hval hW _ hk _
  exact contract H enc W base args ds gs before hval hW hk

theorem over : Rows.cmdParsesUptoRow.holds Try.pinned (Rows.OpenSpec.upto Rows.cmdParsesSpec) :=
  OpenClaim.holds_of_cond 3 Try.f3 rfl rfl rfl rfl rfl rfl rfl ⟨rfl, rfl, rfl, rfl, rfl⟩ rfl rfl rfl rfl rfl (by kernel_rfl) Try.func3 (by kernel_rfl)
    (of_decide_eq_true (by kernel_rfl)) (by unfold Func.isWrapper; first | (rw [if_pos (by decide +kernel)]; kernel_rfl) | (rw [if_neg (by decide +kernel)]; exact ⟨rfl, rfl⟩))
    (fun os started H enc _ F => lifted os started H enc F)

theorem cmdParses_holds : Rows.CmdParsesUptoSaid :=
  over
end Go.Proofs.Ytnpmlgibjhjiiaa.parses
