/-
  Package variables that lie as the program's text lays them: windows ahead of the arguments'.
  And: A world in which variables lie as data say: for the witness of a row that lists variables. A function that is known by a contract, as one step: strings.Join; numbers of one and two digits. A closed call that answers true, as one step, over code with prims. A closed call over tables that are laid: by evaluation. A function that is known by a contract, as one step: strings.IndexByte. Functions without a text, by the model's own table: what abi.NoEscape, bytealg.IndexByteString, bytealg.CountString are here. strings.Split as one step, by the contract that the kit has of it. A buffer of bytes that grows, and is read as a string at last (strings.Builder). Slices that look at a part of a block; copies; what lies in such a part. Nothing of a program is proved here.
-/
import Derived.Test.YtjmiehbiindjdaaDoorCmG
import Derived.Deep.DeepHandedRow
import Derived.Deep.DeepWitnessRowRef
import Derived.Deep.DeepLaidRun
import Derived.Below
import Derived.Lib.Join
import Derived.Lib.Bytealg
import Derived.Lib.Builder
import Derived.Laws.Externs
import Derived.Lib.Split
import Derived.Lib.SplitLaws
namespace Go.Cm
open Go

/-- where a call starts: so many variables, so many windows -/
def startG (ng n0 : Nat) (w : World) : Start := ⟨w.heap, w.os, w.output, n0, ng⟩

theorem RR.winsG {P : Program} {w : World} {ws : List Win} {ng : Nat} (hng : ng ≤ ws.length) (hg : ∀ g, g < ng → ∃ c e, ws[g]? = some ⟨g, 0, c, e⟩) (h : ∀ x ∈ ws, WinOK P w (muW P w ws) x) : RR P (startG ng ws.length w) (muW P w ws) (heapW ws) w := by
  have R := RR.wins h
  refine ⟨R.obj, R.inj, R.fresh, R.blk, R.size, hng, fun b hb => ?_, R.low, R.lown, R.base, R.still, R.io⟩
  obtain ⟨c, e, hx⟩ := hg b hb
  exact ⟨winMB P w _, by unfold muW; rw [hx]; rfl, rfl, rfl⟩

theorem law_callsG {P : Program} {ng n0 : Nat} {gl : List Nat} {C : CProg} {N d f : Nat} {w : World} (hC : ProgOK P (startG ng n0 w) gl C) {fn : Func} {body : Code} (hf : P.funcs[f]? = some fn) (hb : fn.body = some body) (hname : (fn.name == "runtime.NumGoroutine") = false)
    {vs vs' : List Value} {H H' : Heap} {μ : Mu} (h : callD C N d f vs H = some (.bool true, H')) (R : RR P (startG ng n0 w) μ H w) (hvs : VRs μ vs vs') :
    Calls P f vs'.toArray w fun e w' => e = .returned (.bool true) ∧ (∀ b, b < w.heap.size → w'.heap[b]? = w.heap[b]?) ∧ w'.os = w.os ∧ w'.output = w.output :=
  (callD_calls hC hf hb hname h R hvs).mono fun e w' ⟨v', μ', h1, h2, h3⟩ => ⟨by rw [h1, h2.bool_inv], h3.base, h3.io.1, h3.io.2⟩

/-- what is wanted of a variable: its name, type, datum -/
abbrev GW := Option (String × TypeId × DataW Unit)

theorem gwins {P : Program} {w : World} : ∀ (l : List (Option (TypeId × List Value × DataW Unit))), (∀ j, some j ∈ l → Good P w j.1 j.2.1 j.2.2) → ∀ n0 : Nat, ∃ (ws1 : List Win) (css : List (List Value)), css.length = l.length ∧ ∀ ws0 ws2 : List Win, ws0.length = n0 →
    (∀ x ∈ ws1, WinOK P w (muW P w (ws0 ++ ws1 ++ ws2)) x) ∧ (∀ (i : Nat) j c, l[i]? = some (some j) → css[i]? = some c → VRs (muW P w (ws0 ++ ws1 ++ ws2)) c j.2.1 ∧ DR P (ws0 ++ ws1 ++ ws2) j.1 c j.2.2 ∧ ∀ v ∈ c, one v = true) ∧ ∀ (i : Nat) c, l[i]? = some none → css[i]? = some c → c = []
  | [], _, n0 => ⟨[], [], rfl, fun ws0 ws2 _ => ⟨by simp, fun i j c h => by simp at h, fun i c h => by simp at h⟩⟩
  | none :: l, h, n0 => by
    obtain ⟨wb, cb, hlen, hb⟩ := gwins l (fun j hj => h j (List.mem_cons_of_mem _ hj)) n0
    refine ⟨wb, [] :: cb, by simp [hlen], fun ws0 ws2 h0 => ?_⟩
    obtain ⟨b1, b2, b3⟩ := hb ws0 ws2 h0
    refine ⟨b1, fun i j c hi hc => ?_, fun i c hi hc => ?_⟩
    · cases i with
      | zero => simp at hi
      | succ i => exact b2 i j c (by simpa using hi) (by simpa using hc)
    · cases i with
      | zero => simp at hc; exact hc
      | succ i => exact b3 i c (by simpa using hi) (by simpa using hc)
  | some a :: l, h, n0 => by
    obtain ⟨wa, ca, ha⟩ := h a List.mem_cons_self n0
    obtain ⟨wb, cb, hlen, hb⟩ := gwins l (fun j hj => h j (List.mem_cons_of_mem _ hj)) (n0 + wa.length)
    refine ⟨wa ++ wb, ca :: cb, by simp [hlen], fun ws0 ws2 h0 => ?_⟩
    have e1 : ws0 ++ (wa ++ wb) ++ ws2 = ws0 ++ wa ++ (wb ++ ws2) := by simp [List.append_assoc]
    have e2 : ws0 ++ (wa ++ wb) ++ ws2 = (ws0 ++ wa) ++ wb ++ ws2 := by simp [List.append_assoc]
    obtain ⟨a1, a2, a3, a4⟩ := ha ws0 (wb ++ ws2) h0
    obtain ⟨b1, b2, b3⟩ := hb (ws0 ++ wa) ws2 (by simp [h0])
    refine ⟨fun x hx => ?_, fun i j c hi hc => ?_, fun i c hi hc => ?_⟩
    · rcases List.mem_append.1 hx with hx | hx
      · rw [e1]; exact a1 x hx
      · rw [e2]; exact b1 x hx
    · cases i with
      | zero =>
        simp at hi hc
        subst hi hc
        rw [e1]; exact ⟨a2, a3, a4⟩
      | succ i =>
        rw [e2]
        exact b2 i j c (by simpa using hi) (by simpa using hc)
    · cases i with
      | zero => simp at hi
      | succ i => exact b3 i c (by simpa using hi) (by simpa using hc)

theorem laidVars_mem {P : Program} {w : World} : ∀ {l : List (String × DataW Unit)} {ps : List MemPlace}, DataW.LaidVars P w l ps → ∀ n d, (n, d) ∈ l → ∃ g t cs fuel p, P.globalNamed n = some g ∧ (P.globals[g]?).map (·.type) = some t ∧ w.var? P n = some cs ∧ DataW.trod (fun _ => ()) P w 0 (fun _ => true) false fuel t cs.toList = some (d, p)
  | [], _, _, n, d, hm => by cases hm
  | (n', d') :: r, ps, h, n, d, hm => by
    obtain ⟨g, t, cs, fuel, p, q, h1, h2, h3, h4, h5, _⟩ := h
    rcases List.mem_cons.1 hm with e | hm
    · cases e
      exact ⟨g, t, cs, fuel, p, h1, h2, h3, h4⟩
    · exact laidVars_mem h5 n d hm

/-- the variables' cells, and that each has its block -/
theorem globs_of {P : Program} {w : World} {laid : List (String × DataW Unit)} (hh : (laid.filter fun x => x.2.handleName?.isSome) = []) (hL : laidMetH P laid w) (hsh : w.ShapedOpen P) (gs : List GW) {dep : Nat} (hng : gs.length ≤ P.globals.size)
    (hrow : (List.range gs.length).all (fun g => (((begin P (fun _ _ => 0) default).world.heap[g]?).bind Obj.row?).isSome) = true)
    (hw : ∀ (g : Nat) n t d, gs[g]? = some (some (n, t, d)) → (n, d) ∈ laid ∧ P.globalNamed n = some g ∧ (P.globals[g]?).map (·.type) = some t ∧ plainT P dep t = true) :
    ∃ l : List (Option (TypeId × List Value × DataW Unit)), l.length = gs.length ∧ (∀ j, some j ∈ l → Good P w j.1 j.2.1 j.2.2) ∧ (∀ (g : Nat), g < gs.length → ∃ c e fr, w.heap[g]? = some (.cells c e fr) ∧ ∀ j, l[g]? = some (some j) → j.2.1 = c.toList) ∧
      ∀ (g : Nat) n t d, gs[g]? = some (some (n, t, d)) → ∃ cs, l[g]? = some (some (t, cs, d)) := by
  have hL' : laidMet P laid w := by unfold laidMetH at hL; rw [hh] at hL; exact hL
  obtain ⟨ps, hv, _, _⟩ := hL'
  have hblk : ∀ g, g < gs.length → ∃ c e fr, w.heap[g]? = some (.cells c e fr) := by
    intro g hg
    have := (List.all_eq_true.1 hrow) g (List.mem_range.2 hg)
    obtain ⟨x, hx⟩ := Option.isSome_iff_exists.1 this
    obtain ⟨cs, h1, _⟩ := hsh.1 g x.1 x.2 (by omega) hx
    exact ⟨_, _, _, h1⟩
  let cellsAt : Nat → List Value := fun g => match w.heap[g]? with
    | some (.cells c _ _) => c.toList
    | _ => []
  refine ⟨(List.range gs.length).map fun g => (gs[g]?).bind fun x => x.map fun y => (y.2.1, cellsAt g, y.2.2), by simp, fun j hj => ?_, fun g hg => ?_, fun g n t d hgs => ?_⟩
  · obtain ⟨g, hg, he⟩ := List.mem_map.1 hj
    have hg' : g < gs.length := List.mem_range.1 hg
    cases hq : gs[g]? with
    | none => rw [hq] at he; cases he
    | some x =>
      cases x with
      | none => rw [hq] at he; cases he
      | some y =>
        obtain ⟨n, t, d⟩ := y
        rw [hq] at he
        simp only [Option.bind_some, Option.map_some, Option.some.injEq] at he
        subst he
        obtain ⟨h1, h2, h3, h4⟩ := hw g n t d hq
        obtain ⟨g2, t2, cs, fuel, p, q1, q2, q3, q4⟩ := laidVars_mem hv n d h1
        rw [h2] at q1
        cases q1
        rw [h3] at q2
        cases q2
        have : cellsAt g = cs.toList := by
          unfold World.var? at q3
          rw [h2] at q3
          simp only [Option.bind_some] at q3
          show (match w.heap[g]? with
            | some (.cells c _ _) => c.toList
            | _ => []) = cs.toList
          split at q3
          · rename_i h
            cases q3
            rw [h]
          · cases q3
        simp only
        rw [this]
        exact good dep t cs.toList d p fuel h4 q4
  · obtain ⟨c, e, fr, h⟩ := hblk g hg
    refine ⟨c, e, fr, h, fun j hj => ?_⟩
    rw [List.getElem?_map, List.getElem?_range hg] at hj
    simp only [Option.map_some, Option.some.injEq] at hj
    cases hq : gs[g]? with
    | none => rw [hq] at hj; cases hj
    | some x =>
      cases x with
      | none => rw [hq] at hj; cases hj
      | some y =>
        rw [hq] at hj
        simp only [Option.bind_some, Option.map_some, Option.some.injEq] at hj
        subst hj
        show (match w.heap[g]? with
            | some (.cells c _ _) => c.toList
            | _ => []) = c.toList
        rw [h]
  · have hlt := (List.getElem?_eq_some_iff.1 hgs).1
    refine ⟨cellsAt g, ?_⟩
    rw [List.getElem?_map, List.getElem?_range hlt]
    simp only [Option.map_some, hgs, Option.bind_some]

section
variable {H : Type} {enc : TypeId × Value → H} {P : Program} {w : World}
open Go.RowKit Go.ChangeShapes Go.WideShapes
/-- A LAW WHOSE ARGUMENTS ARE PLAIN DATA, over package variables that are laid. -/
theorem law_contractG {C : CProg} {N f : Nat} {fn : Func} {body : Code} {dep : Nat} (gs : List GW) {gl : List Nat} {laid : List (String × DataW Unit)} (hC : ∀ (n0 : Nat), ProgOK P (startG gs.length n0 w) gl C) (hf : P.funcs[f]? = some fn) (hb : fn.body = some body) (hname : (fn.name == "runtime.NumGoroutine") = false)
    (hl : laidOutB P = true) {s : ChangeSpec} {apart fresh handsOn again : Bool} {args : Array Value} {ds gs' : List (DataW H)} {before : List MemPlace} {tb : TypeId}
    (hW : DataW.Whole enc P fn.params.toList s.vars apart w args.toList ds gs' before) (hv : s.vars = []) (hfn : s.fn H (ds ++ gs') = { results := [.lit (.bool true)], args := ds })
    (hpl : ∀ t ∈ fn.params.toList, plainT P dep t = true) (hpar : ∀ t ∈ fn.params.toList, P.readableRec t = true ∧ t < P.types.size) (hres : fn.resultTypes = #[tb]) (hbool : P.underlying tb = some .bool)
    {base : Nat} (hval : ∀ (j : Nat) t v, fn.params[j]? = some t → args[j]? = some v → Value.okWide P w .any base t v)
    (hh : (laid.filter fun x => x.2.handleName?.isSome) = []) (hL : laidMetH P laid w) (hsh : w.ShapedOpen P) (hng : gs.length ≤ P.globals.size)
    (hrow : (List.range gs.length).all (fun g => (((begin P (fun _ _ => 0) default).world.heap[g]?).bind Obj.row?).isSome) = true)
    (hw : ∀ (g : Nat) n t d, gs[g]? = some (some (n, t, d)) → (n, d) ∈ laid ∧ P.globalNamed n = some g ∧ (P.globals[g]?).map (·.type) = some t ∧ plainT P dep t = true)
    (hcall : ∀ (ws : List Win) (vs : List Value), (∀ (g : Nat) n t d, gs[g]? = some (some (n, t, d)) → ∃ y, ws[g]? = some y ∧ DR P ws t y.cells d) → DRs P ws fn.params.toList vs ds → ∃ d H', callD C N d f vs (heapW ws) = some (.bool true, H')) :
    Calls P f args w fun e W' => ∃ v, e = .returned v ∧ s.post enc P fn apart fresh handsOn again w args v W' := by
  have hW' := hW
  obtain ⟨p, q, hA, hV, _, _, _⟩ := hW'
  obtain ⟨l, l1, l2, l3, l4⟩ := globs_of (dep := dep) hh hL hsh gs hng hrow hw
  obtain ⟨ws1, css, hcl, hg⟩ := gwins l l2 gs.length
  obtain ⟨ws, vs, hws⟩ := good_args fn.params.toList args.toList ds p hpl hA (formed_of _ _ hpl (fun j t v h1 h2 => hval j t v (by simpa using h1) (by simpa using h2))) (gs.length + ws1.length)
  -- the variables' own windows
  have elem : ∀ g : Nat, ∃ e : TypeId, ∀ (c : Array Value) (e' : TypeId) (fr : Nat × Nat), w.heap[g]? = some (Obj.cells c e' fr) → e' = e := fun g => by
    cases hq : w.heap[g]? with
    | none => exact ⟨0, fun c e' fr h => by cases h⟩
    | some o =>
      cases o with
      | cells c e fr => exact ⟨e, fun c' e' fr' h => by cases h; rfl⟩
      | _ => exact ⟨0, fun c e' fr h => by cases h⟩
  generalize hG : (List.range gs.length).map (fun g => (⟨g, 0, (css[g]?).getD [], (elem g).choose⟩ : Win)) = G
  have hGl : G.length = gs.length := by subst hG; simp
  have hGg : ∀ g, g < gs.length → G[g]? = some ⟨g, 0, (css[g]?).getD [], (elem g).choose⟩ := fun g hg => by
    subst hG
    rw [List.getElem?_map, List.getElem?_range hg]
    rfl
  obtain ⟨b1, b2, b3⟩ := hg G ws hGl
  obtain ⟨a1, a2, a3⟩ := hws (G ++ ws1) [] (by simp [hGl])
  simp only [List.append_nil] at a1 a2 a3
  generalize hall : G ++ ws1 ++ ws = W at a1 a2 a3 b1 b2 b3
  have hWg : ∀ g, g < gs.length → W[g]? = some ⟨g, 0, (css[g]?).getD [], (elem g).choose⟩ := fun g hg => by
    subst hall
    rw [List.append_assoc, List.getElem?_append_left (by omega)]
    exact hGg g hg
  have hok : ∀ x ∈ W, WinOK P w (muW P w W) x := by
    intro x hx
    have hx' := hx
    rw [← hall] at hx'
    rcases List.mem_append.1 hx' with h | h
    rcases List.mem_append.1 h with h | h
    · rw [← hG] at h
      obtain ⟨g, h1, rfl⟩ := List.mem_map.1 h
      have hgl : g < gs.length := List.mem_range.1 h1
      obtain ⟨c, e, fr, e1, e2⟩ := l3 g hgl
      have he := (elem g).choose_spec c e fr e1
      have hcs : css[g]? = some css[g] := List.getElem?_eq_getElem (by omega)
      have hlg : l[g]? = some l[g] := List.getElem?_eq_getElem (by omega)
      refine ⟨c, fr, by rw [← he]; exact e1, ?_, ?_⟩
      · simp only [hcs, Option.getD_some]
        cases hj : l[g] with
        | none =>
          rw [hj] at hlg
          rw [b3 g _ hlg hcs]
          simp
        | some j =>
          rw [hj] at hlg
          have := (b2 g j _ hlg hcs).1.length
          rw [e2 j hlg] at this
          simp at this
          omega
      · intro i v hv
        simp only [hcs, Option.getD_some] at hv
        cases hj : l[g] with
        | none =>
          rw [hj] at hlg
          rw [b3 g _ hlg hcs] at hv
          simp at hv
        | some j =>
          rw [hj] at hlg
          obtain ⟨c1, c2, c3⟩ := b2 g j _ hlg hcs
          refine ⟨c3 v (List.mem_of_getElem? hv), ?_⟩
          obtain ⟨v', g1, g2⟩ := c1.get i v hv
          rw [e2 j hlg] at g1
          exact ⟨v', by simpa using g1, g2⟩
    · exact b1 x h
    · exact a1 x h
  have R : RR P (startG gs.length W.length w) (muW P w W) (heapW W) w := RR.winsG (by rw [← hall]; simp [hGl]) (fun g hg => ⟨_, _, hWg g hg⟩) hok
  obtain ⟨d, H', hc⟩ := hcall W vs (fun g n t dd hgs => by
    have hlt := (List.getElem?_eq_some_iff.1 hgs).1
    obtain ⟨cs, h1⟩ := l4 g n t dd hgs
    have hcs : css[g]? = some css[g] := List.getElem?_eq_getElem (by omega)
    refine ⟨_, hWg g hlt, ?_⟩
    simp only [hcs, Option.getD_some]
    exact (b2 g _ _ h1 hcs).2.1) a3
  have key := law_callsG (vs' := args.toList) (hC W.length) hf hb hname hc R a2
  rw [show args.toList.toArray = args by simp] at key
  refine key.mono fun e W' ⟨g1, g2, g3, g4⟩ => ?_
  exact ⟨_, g1, law_post hl hW hv hfn hpar hres hbool g2 g3 g4⟩
end
end Go.Cm

namespace Go.Cm
open Go

/-- cells of a datum, and the blocks that it leads to -/
def layC (P : Program) (tn : String → TypeId) : Nat → TypeId → DataW Unit → Nat → List Value × List Obj
  | 0, _, _, _ => ([], [])
  | fuel + 1, t, d, nx => match d with
    | .lit (.bool b) => ([.bool b], [])
    | .lit (.int k n) => ([.int k n], [])
    | .lit (.string s) => ([.string ⟨s.toArray⟩], [])
    | .nil => ((match P.underlying t with
      | some (.slice _) => [.slice none 0 0]
      | some (.pointer _) => [.pointer none]
      | some (.interface _) => [.nilIface]
      | some (.map _ _) => [.map none]
      | _ => [.nilFunc]), [])
    | .ptr d' => (match P.underlying t with
      | some (.pointer e) =>
        let r := layC P tn fuel e d' nx
        ([.pointer (some ⟨nx + r.2.length, 0, none⟩)], r.2 ++ [.cells r.1.toArray e (0, 0)])
      | _ => ([], []))
    | .slice es rest => (match P.underlying t with
      | some (.slice e) =>
        let r := (es ++ rest).foldl (fun acc x => let q := layC P tn fuel e x (nx + acc.2.length); (acc.1 ++ q.1, acc.2 ++ q.2)) ([], [])
        ([.slice (some ⟨nx + r.2.length, 0, none⟩) es.length (es ++ rest).length], r.2 ++ [.cells r.1.toArray e (0, 0)])
      | _ => ([], []))
    | .agg ds => (match P.underlying t with
      | some (.struct fs) => (ds.zip fs.toList).foldl (fun acc x => let q := layC P tn fuel x.2.type x.1 (nx + acc.2.length); (acc.1 ++ q.1, acc.2 ++ q.2)) ([], [])
      | some (.array _ e) => ds.foldl (fun acc x => let q := layC P tn fuel e x (nx + acc.2.length); (acc.1 ++ q.1, acc.2 ++ q.2)) ([], [])
      | _ => ([], []))
    | .iface n d' =>
      let r := layC P tn fuel (tn n) d' nx
      ([.iface (tn n) (match r.1 with
        | [v] => v
        | l => .agg l.toArray)], r.2)
    | _ => ([], [])

def layAll (P : Program) (tn : String → TypeId) : List (String × DataW Unit) → Array Obj → Nat → List Obj → Array Obj × List Obj
  | [], h, _, ex => (h, ex)
  | (n, d) :: r, h, nx, ex =>
    match P.globalNamed n with
    | some g => (match P.globals[g]? with
      | some x =>
        let q := layC P tn 20 x.type d nx
        layAll P tn r (h.modify g fun
          | .cells _ t frozen => .cells q.1.toArray t frozen
          | o => o) (nx + q.2.length) (ex ++ q.2)
      | none => layAll P tn r h nx ex)
    | none => layAll P tn r h nx ex

/-- the world -/
noncomputable def laidW (P : Program) (tn : String → TypeId) (laid : List (String × DataW Unit)) (os : Os) : World :=
  let w := World.holding P os ⟨#[], #[], []⟩
  let q := layAll P tn laid w.heap w.heap.size []
  { w with heap := q.1 ++ q.2.toArray }
end Go.Cm

namespace Go.Cm
open Go Go.RowKit

/-- the strings that lie from here on -/
def strsAt (H : Heap) (b : Nat) : Nat → Nat → Option (List ByteArray)
  | _, 0 => some []
  | o, n + 1 => match H.ld1 ⟨b, o, none⟩ with
    | some (.string s) => (strsAt H b (o + 1) n).map (s :: ·)
    | _ => none

theorem strsAt_get {H : Heap} {b : Nat} : ∀ {n o : Nat} {l : List ByteArray}, strsAt H b o n = some l → l.length = n ∧ ∀ (j : Nat) x, l[j]? = some x → H.ld1 ⟨b, o + j, none⟩ = some (.string x) := by
  intro n
  induction n with
  | zero => intro o l h; simp only [strsAt, Option.some.injEq] at h; subst h; exact ⟨rfl, fun j x h => by simp at h⟩
  | succ n ih =>
    intro o l h
    simp only [strsAt] at h
    split at h
    · rename_i s hs
      obtain ⟨r, h1, rfl⟩ := Option.map_eq_some_iff.1 h
      obtain ⟨h2, h3⟩ := ih h1
      refine ⟨by simp [h2], fun j x hx => ?_⟩
      cases j with
      | zero => simp only [List.getElem?_cons_zero, Option.some.injEq] at hx; subst hx; exact hs
      | succ j =>
        have := h3 j x (by simpa using hx)
        rw [show o + (j + 1) = o + 1 + j by omega]; exact this
    · cases h

/-- strings.Join as one step -/
def joinP (vs : List Value) (H : Heap) : Res := match vs with
  | [.slice a n _, .string sep] => if n = 0 then some (.string ⟨#[]⟩, H) else (match a with
    | some x => if x.spot = none then (match strsAt H x.block x.off n with
      | some l => if (Lib.join (l.map (·.data.toList)) sep.data.toList).length ≤ 140737488355328 ∧ n ≤ 140737488355328 then some (.string ⟨(Lib.join (l.map (·.data.toList)) sep.data.toList).toArray⟩, H) else none
      | none => none) else none
    | none => none)
  | _ => none

theorem calls_ok {P : Program} {w0 : Start} {f : Nat} (hen : ∀ args w, (callFunc f args).run P w = .ok (.enter f args) w) {vs' : Array Value} {H' : Heap} {μ : Mu} {w : World} {v : Value} (R : RR P w0 μ H' w) (hc : Calls P f vs' w fun e w' => e = .returned v ∧ Below w.heap.size w w')
    {o : Oper} {a : Act} {next : Act → World → Prop} {Q : Exit → Act → World → Prop} (hn : ∀ w', RR P w0 μ H' w' → next (a.put o.dst v) w') : o.upon P a next Q ((callFunc f vs').run P w) := by
  rw [hen, Oper.upon_enter]
  refine hc.mono ?_
  rintro e w' ⟨rfl, hb⟩
  exact hn w' (R.later hb.size hb.block ⟨hb.os, hb.output⟩)

theorem join_ok {P : Program} {w0 : Start} {f : Nat} (hen : ∀ args w, (callFunc f args).run P w = .ok (.enter f args) w)
    (h0 : ∀ (a : Option Addr) (c : Nat) (sep : ByteArray) (w : World), Calls P f #[.slice a 0 c, .string sep] w fun e w' => e = .returned (.string ⟨#[]⟩) ∧ w' = w)
    (h1 : ∀ (bk o c : Nat) (xs : List ByteArray) (sep : ByteArray) (w : World), (∀ (j : Nat) x, xs[j]? = some x → w.cell? ⟨bk, o + j, none⟩ = some (.string x)) → bk < w.heap.size → xs.length ≤ 140737488355328 → xs.length ≤ c →
      (Lib.join (xs.map (·.data.toList)) sep.data.toList).length ≤ 140737488355328 → Calls P f #[.slice (some ⟨bk, o, none⟩) xs.length c, .string sep] w fun e w' => e = .returned (.string ⟨(Lib.join (xs.map (·.data.toList)) sep.data.toList).toArray⟩) ∧ Below w.heap.size w w') :
    CallOK P w0 (fun g vs H => if g = f then joinP vs H else none) := by
  intro g vs vs' H v H' μ w h R hvs o a next Q hn
  dsimp only at h
  split at h
  case isFalse => cases h
  rename_i e
  subst e
  unfold joinP at h
  split at h
  case h_2 => cases h
  rename_i sa n c sep
  match vs', hvs with
  | [v1, v2], hvs =>
    obtain ⟨r1, r2, _⟩ := hvs
    have e2 := r2.string_inv
    subst e2
    have fin : ∀ w', RR P w0 μ H w' → next (a.put o.dst v) w' → True := fun _ _ _ => trivial
    split at h
    · rename_i hz
      subst hz
      simp only [Option.some.injEq, Prod.mk.injEq] at h
      obtain ⟨rfl, rfl⟩ := h
      have hv1 : ∃ a' c', v1 = .slice a' 0 c' := by
        cases sa with
        | none => obtain ⟨_, _, e⟩ := r1.slN_inv; exact ⟨_, _, e⟩
        | some x => obtain ⟨a', c', e, _⟩ := r1.sl_inv; exact ⟨_, _, e⟩
      obtain ⟨a', c', rfl⟩ := hv1
      refine calls_ok hen R ((h0 a' c' sep w).mono ?_) (fun w' R' => hn _ μ w' (.string _) R' (Ext.refl _ _))
      rintro e w' ⟨rfl, rfl⟩
      exact ⟨rfl, Below.refl _ _⟩
    · rename_i hz
      split at h
      case h_2 => cases h
      rename_i x
      split at h
      case isFalse => cases h
      rename_i hx
      split at h
      case h_2 => cases h
      rename_i l hl
      split at h
      case isFalse => cases h
      rename_i hlen
      simp only [Option.some.injEq, Prod.mk.injEq] at h
      obtain ⟨rfl, rfl⟩ := h
      obtain ⟨a', c', rfl, hnc, hs⟩ := r1.sl_inv
      obtain ⟨hll, hget⟩ := strsAt_get hl
      have hs0 : SR0 μ x a' n c c' := by
        rcases hs with hs | ⟨_, h2, _⟩
        · exact hs
        · exact absurd h2 hz
      obtain ⟨_, hsp, m, hm, hb, hs3⟩ := hs0
      have hoff : a'.off = x.off + m.sh ∧ c ≤ c' := by
        rcases hs3 with ⟨q1, q2⟩ | ⟨_, q1, q2, _⟩ | ⟨q1, _⟩
        · exact ⟨q1, by omega⟩
        · exact ⟨q1, q2⟩
        · exact absurd q1 hz
      have ea : a' = ⟨m.blk, x.off + m.sh, none⟩ := by
        obtain ⟨ab, ao, as⟩ := a'
        simp only at hsp hb hoff
        rw [hsp, hb, hoff.1]
      subst ea
      subst hll
      refine calls_ok hen R (h1 m.blk (x.off + m.sh) c' l sep w ?_ (R.blk _ _ hm) hlen.2 (by omega) hlen.1) (fun w' R' => hn _ μ w' (.string _) R' (Ext.refl _ _))
      intro j y hy
      have hc := hget j y hy
      obtain ⟨v', q1, q2, _⟩ := cell_ok R (a := ⟨x.block, x.off + j, none⟩) (a' := ⟨m.blk, x.off + m.sh + j, none⟩) ⟨rfl, rfl, m, hm, rfl, by simp only; omega⟩ hc
      rw [q2.string_inv] at q1
      exact q1

/-- a function from one integer to a string, as one step -/
def digP (g : Int → Option ByteArray) (vs : List Value) (H : Heap) : Res := match vs with
  | [.int .i64 n] => (match g n with
    | some s => some (.string s, H)
    | none => none)
  | _ => none

theorem dig_ok {P : Program} {w0 : Start} {f : Nat} {g : Int → Option ByteArray} (hen : ∀ args w, (callFunc f args).run P w = .ok (.enter f args) w)
    (h1 : ∀ n s w, g n = some s → Calls P f #[.int .i64 n] w fun e w' => e = .returned (.string s) ∧ Below w.heap.size w w') : CallOK P w0 (fun k vs H => if k = f then digP g vs H else none) := by
  intro k vs vs' H v H' μ w h R hvs o a next Q hn
  dsimp only at h
  split at h
  case isFalse => cases h
  rename_i e
  subst e
  unfold digP at h
  split at h
  case h_2 => cases h
  rename_i n
  split at h
  case h_2 => cases h
  rename_i s hs
  simp only [Option.some.injEq, Prod.mk.injEq] at h
  obtain ⟨rfl, rfl⟩ := h
  match vs', hvs with
  | [v1], hvs =>
    obtain ⟨r1, _⟩ := hvs
    have e1 := r1.int_inv
    subst e1
    exact calls_ok hen R (h1 n s w hs) (fun w' R' => hn _ μ w' (.string _) R' (Ext.refl _ _))

/-- numbers of one and two digits, told below zero -/
def dig2 (n : Int) : Option ByteArray := if -12 < n ∧ n ≤ 0 then some (if -10 < n then ⟨#[UInt8.ofNat (48 - n).toNat]⟩ else ⟨#[49, UInt8.ofNat (38 - n).toNat]⟩) else none
end Go.Cm

namespace Go.Cm
open Go

theorem sure_okC {P : Program} {w0 : Start} {gl : List Nat} {C : CProg} (hC : ∀ w, ProgOK P (start 0 w) gl C) {f N d : Nat} {H1 : Heap} (hev : callD C N d f [] (heap0 0 fun _ => none) = some (.bool true, H1)) : CallOK P w0 (sure f) := by
  intro g vs vs' H v H' μ w h R hvs o a next Q hn
  unfold sure at h
  split at h
  · rename_i e
    subst e
    match vs, hvs, h with
    | [], hvs, h =>
      simp only [Option.some.injEq, Prod.mk.injEq] at h
      obtain ⟨rfl, rfl⟩ := h
      match vs', hvs with
      | [], _ =>
        refine callD_ok (hC w) d g [] [] _ _ H1 _ w hev (RR.bare P w) trivial o a next Q ?_
        intro v' μ' w' hv hR hE
        rw [hv.bool_inv]
        exact hn _ μ w' (.bool true) (R.later hR.size (fun b h => hR.base b h) hR.io) (Ext.refl _ _)
    | _ :: _, _, h => cases h
  · cases h

/-- code whose only call that counts is a closed one -/
noncomputable def sureC (f : Nat) : CProg := ⟨fun _ => none, fun g => if g = f then some (sure f f) else none⟩
theorem sureC_ok {P : Program} {w0 : Start} (hm : P.follows .mixedOrders = true) {f : Nat} (h : CallOK P w0 (sure f)) : ProgOK P w0 [] (sureC f) := by
  refine ⟨fun g h => absurd h (List.not_mem_nil), fun _ _ h => (by cases h), fun g p hp => ?_, fun _ hc _ => draw_ok hm (fun g h => absurd h (List.not_mem_nil)) hc⟩
  unfold sureC at hp
  simp only at hp
  split at hp
  · rename_i e
    subst e
    simp only [Option.some.injEq] at hp
    subst hp
    intro k vs vs' H v H' μ w' hc
    by_cases e : k = g
    · subst e
      refine h k vs vs' H v H' μ w' ?_
      simpa using hc
    · exact absurd hc (by simp [e])
  · cases hp
theorem sureC_runs (f N d : Nat) (H : Heap) : callD (sureC f) N (d + 1) f [] H = some (.bool true, H) := by
  simp [callD, sureC, sure]
end Go.Cm

namespace Go.Cm
open Go

def flatL (f : DataW Unit → Option (List Value)) : List (DataW Unit) → Option (List Value)
  | [] => some []
  | d :: r => match f d, flatL f r with
    | some a, some b => some (a ++ b)
    | _, _ => none
/-- the cells of a datum that leads nowhere -/
def flatD : Nat → DataW Unit → Option (List Value)
  | 0, _ => none
  | n + 1, d => match d with
    | .lit (.bool b) => some [.bool b]
    | .lit (.int k m) => some [.int k m]
    | .lit (.string s) => some [.string ⟨s.toArray⟩]
    | .agg ds => flatL (flatD n) ds
    | _ => none

theorem flatL_eq {f : DataW Unit → Option (List Value)} : ∀ {ds : List (DataW Unit)} {ps : List (List Value)} {l : List Value}, flatL f ds = some l → ps.length = ds.length → (∀ (i : Nat) d p, ds[i]? = some d → ps[i]? = some p → ∀ q, f d = some q → p = q) → ps.flatten = l
  | [], [], l, h, _, _ => by simp only [flatL, Option.some.injEq] at h; subst h; rfl
  | [], _ :: _, _, _, h, _ => by simp at h
  | _ :: _, [], _, _, h, _ => by simp at h
  | d :: ds, p :: ps, l, h, hl, hi => by
    simp only [flatL] at h
    split at h
    · rename_i a b ha hb
      simp only [Option.some.injEq] at h
      subst h
      rw [List.flatten_cons, flatL_eq hb (by simpa using hl) (fun i d p h1 h2 => hi (i + 1) d p (by simpa using h1) (by simpa using h2)), hi 0 d p rfl rfl a ha]
    · cases h

theorem pieces (cs : List Value) (ce : Nat) : ∀ n, ((List.range n).map fun i => (cs.drop (i * ce)).take ce).flatten = cs.take (n * ce) := by
  intro n
  induction n with
  | zero => simp
  | succ n ih => rw [List.range_succ, List.map_append, List.flatten_append, ih, Nat.succ_mul, List.take_add]; simp

theorem trod_flat {P : Program} {w : World} {base : Nat} {hd : Bool} : ∀ (k : Nat) (t : TypeId) (cs : List Value) (d : DataW Unit) (ps : List MemPlace) (fuel dep : Nat), plainT P dep t = true → DataW.trod (fun _ => ()) P w base (fun _ => true) hd fuel t cs = some (d, ps) → ∀ l, flatD k d = some l → cs = l := by
  intro k
  induction k with
  | zero => intro t cs d ps fuel dep _ _ l h; cases h
  | succ k ih =>
    intro t cs d ps fuel dep hp h l hf
    obtain ⟨dep, rfl⟩ : ∃ f, dep = f + 1 := by
      cases dep with
      | zero => cases hp
      | succ f => exact ⟨f, rfl⟩
    obtain ⟨fuel, rfl⟩ : ∃ f, fuel = f + 1 := by
      cases fuel with
      | zero => cases h
      | succ f => exact ⟨f, rfl⟩
    unfold DataW.trod at h
    split at h
    case h_1 b hu =>
      simp only [Option.some.injEq, Prod.mk.injEq] at h
      obtain ⟨rfl, rfl⟩ := h
      simp only [flatD, Option.some.injEq] at hf
      exact hf
    case h_2 k' k'' n hu =>
      split at h
      · rename_i hk
        simp only [Option.some.injEq, Prod.mk.injEq] at h
        obtain ⟨rfl, rfl⟩ := h
        obtain ⟨rfl, hw⟩ := hk
        simp only [flatD, Option.some.injEq] at hf
        exact hf
      · cases h
    case h_4 s hu =>
      split at h
      · simp only [Option.some.injEq, Prod.mk.injEq] at h
        obtain ⟨rfl, rfl⟩ := h
        simp only [flatD, Option.some.injEq] at hf
        rw [← hf]
      · cases h
    case h_7 e hu =>
      simp only [Option.some.injEq, Prod.mk.injEq] at h
      obtain ⟨rfl, rfl⟩ := h
      simp [flatD] at hf
    case h_8 e a len cap hu =>
      split at h
      rotate_left
      · cases h
      simp only [if_true] at h
      obtain ⟨es, h1, h2⟩ := Option.bind_eq_some_iff.1 h
      obtain ⟨rest, h3, h4⟩ := Option.map_eq_some_iff.1 h2
      simp only [Prod.mk.injEq] at h4
      obtain ⟨rfl, rfl⟩ := h4
      simp [flatD] at hf
    case h_9 cs _ _ fs hu =>
      simp only [plainT, hu, Bool.and_eq_true, beq_iff_eq, List.all_eq_true] at hp
      split at h
      rotate_left
      · cases h
      rename_i hlen
      obtain ⟨xs, h1, h2⟩ := Option.map_eq_some_iff.1 h
      simp only [Prod.mk.injEq] at h2
      obtain ⟨rfl, rfl⟩ := h2
      obtain ⟨l1, g1⟩ := mapM_some h1
      simp only [flatD] at hf
      have hs := inRow_split cs hp.1
      rw [List.drop_zero, Nat.sub_zero, List.take_of_length_le (by omega)] at hs
      rw [← hs]
      refine flatL_eq hf (by simp [l1]) (fun i dd p hdd hpp q hq => ?_)
      rw [List.getElem?_map] at hdd hpp
      obtain ⟨x, hx, rfl⟩ := Option.map_eq_some_iff.1 hdd
      obtain ⟨fl, hfl, rfl⟩ := Option.map_eq_some_iff.1 hpp
      exact ih fl.type _ x.1 x.2 fuel dep (hp.2 fl (List.mem_of_getElem? hfl)) (g1 i fl x hfl hx) q hq
    case h_10 cs _ _ n e hu =>
      simp only [plainT, hu, Bool.and_eq_true, decide_eq_true_eq] at hp
      split at h
      rotate_left
      · cases h
      rename_i hlen
      obtain ⟨xs, h1, h2⟩ := Option.map_eq_some_iff.1 h
      simp only [Prod.mk.injEq] at h2
      obtain ⟨rfl, rfl⟩ := h2
      obtain ⟨l1, g1⟩ := mapM_some h1
      simp only [List.length_range] at l1
      simp only [flatD] at hf
      have hs := pieces cs (P.cellsOf e) n
      rw [List.take_of_length_le (by omega)] at hs
      rw [← hs]
      refine flatL_eq hf (by simp [l1]) (fun i dd p hdd hpp q hq => ?_)
      rw [List.getElem?_map] at hdd hpp
      obtain ⟨x, hx, rfl⟩ := Option.map_eq_some_iff.1 hdd
      obtain ⟨j, hj, rfl⟩ := Option.map_eq_some_iff.1 hpp
      exact ih e _ x.1 x.2 fuel dep hp.2 (g1 i j x hj hx) q hq
    all_goals first | (cases h; done) | skip
    all_goals
      rename_i hu
      simp only [plainT, hu] at hp
      cases hp

def flatV : Value → Bool
  | .bool _ | .int _ _ | .string _ => true
  | _ => false
theorem flatV_one {v : Value} (h : flatV v = true) : one v = true := by cases v <;> first | rfl | cases h
theorem flatV_vr {v : Value} (h : flatV v = true) (μ : Mu) : VR μ v v := by cases v <;> first | exact .bool _ | exact .int _ _ | exact .string _ | cases h

/-- a table's cells, off the list of the row -/
theorem win_of_laid {P : Program} {w : World} {laid : List (String × DataW Unit)} (hh : (laid.filter fun x => x.2.handleName?.isSome) = []) (hL : laidMetH P laid w) (hsh : w.ShapedOpen P) {n : String} {d : DataW Unit} {g k dep : Nat} {t e : TypeId} {l : List Value}
    (hm : (n, d) ∈ laid) (hg : P.globalNamed n = some g) (ht : (P.globals[g]?).map (·.type) = some t) (hp : plainT P dep t = true) (hf : flatD k d = some l) (hlt : g < P.globals.size)
    (hrow : (((begin P (fun _ _ => 0) default).world.heap[g]?).bind Obj.row?).map (·.2) = some e) : ∃ c fr, w.heap[g]? = some (.cells c e fr) ∧ c.toList = l := by
  have hL' : laidMet P laid w := by unfold laidMetH at hL; rw [hh] at hL; exact hL
  obtain ⟨ps, hv, _, _⟩ := hL'
  obtain ⟨x, hx, rfl⟩ := Option.map_eq_some_iff.1 hrow
  obtain ⟨cs, h1, _⟩ := hsh.1 g x.1 x.2 hlt hx
  obtain ⟨g2, t2, cs2, fuel, p, q1, q2, q3, q4⟩ := laidVars_mem hv n d hm
  rw [hg] at q1
  cases q1
  rw [ht] at q2
  cases q2
  refine ⟨_, _, h1, ?_⟩
  unfold World.var? at q3
  rw [hg] at q3
  simp only [Option.bind_some, h1, Option.some.injEq] at q3
  subst q3
  exact trod_flat k t _ d p fuel dep hp q4 l hf

/-- a closed call that answers true over tables -/
theorem closed_ok {P : Program} {w : World} {gl : List Nat} {C : CProg} {W0 : List Win} {f N d n0 ng : Nat} {H1 : Heap} (hC : ∀ w', ProgOK P (startG W0.length W0.length w') gl C)
    (hW : ∀ (g : Nat) x, W0[g]? = some x → x.blk = g ∧ x.off = 0 ∧ (∀ v ∈ x.cells, flatV v = true) ∧ ∃ c fr, w.heap[g]? = some (.cells c x.elem fr) ∧ (x.cells = [] ∨ c.toList = x.cells))
    (hev : callD C N d f [] (heapW W0) = some (.bool true, H1)) : CallOK P (startG ng n0 w) (sure f) := by
  intro g vs vs' H v H' μ w' h R hvs o a next Q hn
  unfold sure at h
  split at h
  · rename_i e
    subst e
    match vs, hvs, h with
    | [], hvs, h =>
      simp only [Option.some.injEq, Prod.mk.injEq] at h
      obtain ⟨rfl, rfl⟩ := h
      match vs', hvs with
      | [], _ =>
        have hheap : ∀ (b : Nat) (c : Array Value) (e : TypeId) (fr : Nat × Nat), w.heap[b]? = some (Obj.cells c e fr) → w'.heap[b]? = some (Obj.cells c e fr) := fun b c e fr hb => by
          rw [R.base b (Array.getElem?_eq_some_iff.1 hb).1]
          exact hb
        have R' : RR P (startG W0.length W0.length w') (muW P w' W0) (heapW W0) w' := by
          refine RR.winsG (Nat.le_refl _) (fun b hb => ?_) (fun x hx => ?_)
          · obtain ⟨h1, h2, _⟩ := hW b _ (List.getElem?_eq_getElem hb)
            refine ⟨W0[b].cells, W0[b].elem, ?_⟩
            rw [List.getElem?_eq_getElem hb]
            generalize W0[b] = x at *
            obtain ⟨x1, x2, x3, x4⟩ := x
            simp only at h1 h2
            subst h1 h2
            rfl
          · obtain ⟨b, hb⟩ := List.getElem?_of_mem hx
            obtain ⟨h1, h2, h3, c, fr, h4, h5⟩ := hW b x hb
            refine ⟨c, fr, by rw [h1]; exact hheap _ _ _ _ h4, ?_, fun i v hv => ⟨flatV_one (h3 v (List.mem_of_getElem? hv)), v, ?_, flatV_vr (h3 v (List.mem_of_getElem? hv)) _⟩⟩
            · rw [h2]
              rcases h5 with h5 | h5
              · rw [h5]; simp
              · rw [← h5]; simp
            · rcases h5 with h5 | h5
              · rw [h5] at hv; simp at hv
              · rw [h2, Nat.add_zero, ← Array.getElem?_toList, h5]; exact hv
        refine callD_ok (hC w') d g [] [] _ _ H1 _ w' hev R' trivial o a next Q ?_
        intro v' μ' w'' hv hR hE
        rw [hv.bool_inv]
        exact hn _ μ w'' (.bool true) (R.later hR.size (fun b h => hR.base b h) hR.io) (Ext.refl _ _)
    | _ :: _, _, h => cases h
  · cases h
end Go.Cm

namespace Go.Cm
open Go Go.RowKit

def idxP (g : ByteArray → Int → Int) (vs : List Value) (H : Heap) : Res := match vs with
  | [.string s, .int .u8 c] => some (.int .i64 (g s c), H)
  | _ => none

theorem idx_ok {P : Program} {w0 : Start} {f : Nat} {g : ByteArray → Int → Int} (hen : ∀ args w, (callFunc f args).run P w = .ok (.enter f args) w)
    (h1 : ∀ s c w, Calls P f #[.string s, .int .u8 c] w fun e w' => e = .returned (.int .i64 (g s c)) ∧ w' = w) : CallOK P w0 (fun k vs H => if k = f then idxP g vs H else none) := by
  intro k vs vs' H v H' μ w h R hvs o a next Q hn
  dsimp only at h
  split at h
  case isFalse => cases h
  rename_i e
  subst e
  unfold idxP at h
  split at h
  case h_2 => cases h
  rename_i s n
  simp only [Option.some.injEq, Prod.mk.injEq] at h
  obtain ⟨rfl, rfl⟩ := h
  match vs', hvs with
  | [v1, v2], hvs =>
    obtain ⟨r1, r2, _⟩ := hvs
    have e1 := r1.string_inv
    have e2 := r2.int_inv
    subst e1 e2
    exact calls_ok hen R ((h1 s n w).mono fun e w' ⟨q1, q2⟩ => ⟨q1, q2 ▸ Below.refl _ _⟩) (fun w' R' => hn _ μ w' (.int _ _) R' (Ext.refl _ _))

def idxB (s : ByteArray) (c : Int) : Int := Lib.indexByte s.data.toList c.toNat.toUInt8
end Go.Cm

namespace Go.Cm
open Go Go.RowKit

def sameP (vs : List Value) (H : Heap) : Res := match vs with
  | [x] => some (x, H)
  | _ => none
def cntB (s : ByteArray) (c : Int) : Int := (Lib.countByte s.data.toList c.toNat.toUInt8 : Nat)

/-- a prim whose call is a value at once, and leaves memory alone -/
theorem ext_ok {P : Program} {w0 : Start} {f : Nat} {p : List Value → Heap → Res}
    (h : ∀ (vs vs' : List Value) (H : Heap) (v : Value) (H' : Heap) (μ : Mu) (w : World), p vs H = some (v, H') → VRs μ vs vs' → H' = H ∧ ∃ v', (callFunc f vs'.toArray).run P w = .ok (.value v') w ∧ VR μ v v') :
    CallOK P w0 (fun k vs H => if k = f then p vs H else none) := by
  intro k vs vs' H v H' μ w hc R hvs o a next Q hn
  dsimp only at hc
  split at hc
  case isFalse => cases hc
  rename_i e
  subst e
  obtain ⟨rfl, v', h1, h2⟩ := h vs vs' H v H' μ w hc hvs
  rw [h1, Oper.upon_value]
  exact hn v' μ w h2 R (Ext.refl _ _)

theorem same_ok {P : Program} {w0 : Start} {f : Nat} {fn : Func} (hf : P.funcs[f]? = some fn) (hname : (fn.name == "runtime.NumGoroutine") = false) (hb : fn.body.isNone = true) (hn : Extern.findNext fn = none)
    (he : Extern.find fn = some Extern.AbiNoEscape.same) : CallOK P w0 (fun k vs H => if k = f then sameP vs H else none) := by
  refine ext_ok fun vs vs' H v H' μ w h hvs => ?_
  unfold sameP at h
  split at h
  · rename_i x
    simp only [Option.some.injEq, Prod.mk.injEq] at h
    obtain ⟨rfl, rfl⟩ := h
    match vs', hvs with
    | [y], hvs =>
      refine ⟨rfl, y, ?_, hvs.1⟩
      rw [run_callFunc_extern hf hname hb hn he, Lib.run_noEscape]
      rfl
  · cases h

theorem byte_ok {P : Program} {w0 : Start} {f : Nat} {fn : Func} {e : Array Value → Sem Value} {g : ByteArray → Int → Int} (hf : P.funcs[f]? = some fn) (hname : (fn.name == "runtime.NumGoroutine") = false) (hb : fn.body.isNone = true) (hn : Extern.findNext fn = none)
    (he : Extern.find fn = some e) (hr : ∀ s c w, (e #[.string s, .int .u8 c]).run P w = .ok (.int .i64 (g s c)) w) : CallOK P w0 (fun k vs H => if k = f then idxP g vs H else none) := by
  refine ext_ok fun vs vs' H v H' μ w h hvs => ?_
  unfold idxP at h
  split at h
  · rename_i s c
    simp only [Option.some.injEq, Prod.mk.injEq] at h
    obtain ⟨rfl, rfl⟩ := h
    match vs', hvs with
    | [x, y], hvs =>
      obtain ⟨r1, r2, _⟩ := hvs
      rw [r1.string_inv, r2.int_inv]
      refine ⟨rfl, .int .i64 (g s c), ?_, .int _ _⟩
      rw [run_callFunc_extern hf hname hb hn he, show ([Value.string s, .int .u8 c].toArray) = #[.string s, .int .u8 c] from rfl, hr]
      rfl
  · cases h

theorem run_idx {P : Program} (s : ByteArray) (c : Int) (w : World) : (Extern.BytealgIndexByte.indexByte #[.string s, .int .u8 c]).run P w = .ok (.int .i64 (idxB s c)) w := Lib.run_indexByteString s c w
theorem run_cnt {P : Program} (s : ByteArray) (c : Int) (w : World) : (Extern.BytealgCount.count #[.string s, .int .u8 c]).run P w = .ok (.int .i64 (cntB s c)) w := Lib.run_countString s c w
end Go.Cm

namespace Go.Cm
open Go Go.RowKit

def splitP (t : TypeId) (vs : List Value) (H : Heap) : Res := match vs with
  | [.string s, .string sep] => if s.size < 4294967281 ∧ 1 ≤ sep.size then
      some (.slice (some ⟨H.next, 0, none⟩) (Lib.countB s sep + 1) (Lib.countB s sep + 1), H.new (.cells ((Lib.splitB sep 0 (Lib.countB s sep) s).map Value.string) t false 0 false)) else none
  | _ => none

theorem cell_later {w0 W : World} {g : Nat} {v : Value} (h : w0.cell? ⟨g, 0, none⟩ = some v) (hb : ∀ b, b < w0.heap.size → W.heap[b]? = w0.heap[b]?) : W.cell? ⟨g, 0, none⟩ = some v := by
  have hlt : g < w0.heap.size := by
    rcases Nat.lt_or_ge g w0.heap.size with h' | h'
    · exact h'
    · unfold World.cell? at h
      simp [Array.getElem?_eq_none h'] at h
  unfold World.cell? at h ⊢
  simp only at h ⊢
  rw [hb g hlt]
  exact h

theorem split_ok {P : Program} {w0 : Start} {f : Nat} {t : TypeId} {g : Nat} {W : World} {m : Int} (hW : w0.heap = W.heap) (hm : W.cell? ⟨g, 0, none⟩ = some (.int .i64 m))
    (hen : ∀ args w, (callFunc f args).run P w = .ok (.enter f args) w)
    (h1 : ∀ (s sep : ByteArray) (m : Int) (w : World), s.size < 4294967281 → w.cell? ⟨g, 0, none⟩ = some (.int .i64 m) → 1 ≤ sep.size →
      Calls P f #[.string s, .string sep] w fun e w' => e = .returned (.slice (some ⟨w.heap.size, 0, none⟩) (Lib.countB s sep + 1) (Lib.countB s sep + 1)) ∧ w' = w.alloc (.cells ((Lib.splitB sep 0 (Lib.countB s sep) s).map Value.string).toArray t)) :
    CallOK P w0 (fun k vs H => if k = f then splitP t vs H else none) := by
  intro k vs vs' H v H' μ w h R hvs o a next Q hn
  dsimp only at h
  split at h
  case isFalse => cases h
  rename_i e
  subst e
  unfold splitP at h
  split at h
  case h_2 => cases h
  rename_i s sep
  split at h
  case isFalse => cases h
  rename_i hk
  simp only [Option.some.injEq, Prod.mk.injEq] at h
  obtain ⟨rfl, rfl⟩ := h
  match vs', hvs with
  | [v1, v2], hvs =>
    obtain ⟨r1, r2, _⟩ := hvs
    have e1 := r1.string_inv
    have e2 := r2.string_inv
    subst e1 e2
    have hc : w.cell? ⟨g, 0, none⟩ = some (.int .i64 m) := cell_later hm (fun b hb => by rw [R.base b (by rw [hW]; exact hb), hW])
    rw [hen, Oper.upon_enter]
    refine (h1 s sep m w hk.1 hc hk.2).mono ?_
    rintro e w' ⟨rfl, rfl⟩
    have hl : (Lib.splitB sep 0 (Lib.countB s sep) s).length = Lib.countB s sep + 1 := Lib.splitB_all sep hk.2 0 _ s rfl
    generalize hL : (Lib.splitB sep 0 (Lib.countB s sep) s).map Value.string = L at hn ⊢
    have hL2 : L.length = Lib.countB s sep + 1 := by rw [← hL]; simp [hl]
    have hor : OR P μ ⟨w.heap.size, 0, L.length, L.length, P.cellsOf t, false⟩ (.cells L t false 0 false) (.cells L.toArray t) := by
      refine ⟨rfl, ⟨rfl, Nat.zero_le _⟩, rfl, rfl, by simp, by simp, fun _ _ => ⟨rfl, rfl⟩, ?_, ?_, fun _ => ⟨Nat.le_refl _, Nat.le_refl _⟩⟩
      · intro i v hv
        rw [← hL, List.getElem?_map] at hv
        obtain ⟨x, hx, rfl⟩ := Option.map_eq_some_iff.1 hv
        refine ⟨rfl, .string x, ?_, .string x⟩
        rw [Nat.add_zero, ← hL]
        simp [hx]
      · intro j _ _ _ h
        exact Nat.not_lt_zero _ h.2
    have hnew := R.new (w' := w.alloc (.cells L.toArray t)) rfl hor rfl ⟨rfl, rfl⟩
    refine hn _ (μ.add H.next ⟨w.heap.size, 0, L.length, L.length, P.cellsOf t, false⟩) _ ?_ hnew.1 hnew.2
    exact .sl (Nat.le_refl _) (.inl ⟨rfl, rfl, ⟨w.heap.size, 0, L.length, L.length, P.cellsOf t, false⟩, by simp [Mu.add], rfl, .inl ⟨rfl, rfl⟩⟩)
end Go.Cm

namespace Go.Cm
open Go

/-- bytes as cells -/
def bc (l : List UInt8) : List Value := l.map fun b => .int .u8 b.toNat
theorem bc_len (l : List UInt8) : (bc l).length = l.length := by simp [bc]
theorem bc_append (a b : List UInt8) : bc (a ++ b) = bc a ++ bc b := by simp [bc]
theorem bytesOf_bc : ∀ l : List UInt8, bytesOf (bc l) = some l
  | [] => rfl
  | b :: l => by
    have := bytesOf_bc l
    simp only [bc, List.map_cons] at this ⊢
    simp only [bytesOf, this, Option.some.injEq, List.cons.injEq, and_true]
    simp

/-- a buffer of bytes that is no string's yet -/
def Buf (H : Heap) (s : Sl) (l : List UInt8) (e : TypeId) : Prop :=
  (s = ⟨none, 0, 0⟩ ∧ l = []) ∨ ∃ b n, s = ⟨some ⟨b, 0, none⟩, n, n⟩ ∧ l.length = n ∧ 0 < n ∧ b < H.next ∧ ∃ o, H.get b = some (.cells (bc l) e o 0 false)

theorem Buf.keep {S : Nat → Prop} {H H' : Heap} {s : Sl} {l : List UInt8} {e : TypeId} (h : Buf H s l e) (hk : Keep S H H') (hn : ∀ k, s.at k → ¬ S k) : Buf H' s l e := by
  rcases h with h | ⟨b, n, rfl, h1, h0, h2, o, h3⟩
  · exact .inl h
  · exact .inr ⟨b, n, rfl, h1, h0, Nat.lt_of_lt_of_le h2 hk.1, o, (hk.2 b h2 (hn b ⟨_, rfl, rfl⟩)).trans h3⟩
theorem Buf.len {H : Heap} {s : Sl} {l : List UInt8} {e : TypeId} (h : Buf H s l e) : s.n = l.length := by
  rcases h with ⟨rfl, rfl⟩ | ⟨b, n, rfl, h1, _⟩
  · rfl
  · exact h1.symm
theorem Buf.lt {H : Heap} {s : Sl} {l : List UInt8} {e : TypeId} (h : Buf H s l e) {k : Nat} (hk : s.at k) : k < H.next := by
  obtain ⟨a, h1, rfl⟩ := hk
  rcases h with ⟨rfl, _⟩ | ⟨b, n, rfl, _, _, h2, _⟩
  · cases h1
  · cases h1; exact h2

theorem append_buf {H : Heap} {s : Sl} {l new : List UInt8} {e : TypeId} {n : Nat} {str : Bool} {x : Value} (hs : Buf H s l e) (h1 : srcN str x = some n) (h2 : srcCells H 1 n x = some (bc new)) (h3 : new.length = n)
    (h4 : s.n + n ≤ 70368744177664) :
    ∃ s' H', (∀ K, appendK e 1 1 str s.v x H K = K s'.v H') ∧ Buf H' s' (l ++ new) e ∧ Keep s.at H H' ∧ (∀ k, s'.at k → s.at k ∨ H.next ≤ k) := by
  by_cases hn : n = 0
  · subst hn
    have : new = [] := List.eq_nil_of_length_eq_zero (by omega)
    subst this
    refine ⟨s, H, fun K => ?_, by rw [List.append_nil]; exact hs, Keep.refl _, fun k hk => .inl hk⟩
    rcases hs with ⟨rfl, rfl⟩ | ⟨b, m, rfl, hc, h0, hb, o, hg⟩ <;> simp [appendK, asSl, h1, h2, optK]
  · rcases hs with ⟨rfl, rfl⟩ | ⟨b, m, rfl, hc, h0, hb, o, hg⟩
    · refine ⟨⟨some ⟨H.next, 0, none⟩, n, n⟩, H.new (.cells (bc new) e true 0 false), fun K => ?_, .inr ⟨H.next, n, rfl, by simpa using h3, by omega, by simp, true, by simp⟩, Keep.new _ _, ?_⟩
      · simp only [appendK, asSl, h1, h2, optK]
        rw [if_neg (by omega), if_pos ⟨by simpa using h4, by omega, by omega⟩]
        simp
      · rintro k ⟨a, h, rfl⟩; cases h; exact .inr (Nat.le_refl _)
    · have hne : ¬ m + n ≤ m := by omega
      have hcl : (bc l).length = m := by rw [bc_len]; exact hc
      have ht : List.take m (bc l) = bc l := List.take_of_length_le (by omega)
      have hx : exact 1 (bc l).length 0 m o = !o := by
        unfold exact; cases o <;> simp [hcl]
      have hl : 0 + m * 1 ≤ (bc l).length := by omega
      have h4' : (m + n) * 1 ≤ 70368744177664 := by simpa using h4
      have key : ∀ H1 : Heap, H1.next = H.next → (∀ k, k < H.next → k ≠ b → H1.get k = H.get k) → Buf (H1.new (.cells (bc l ++ bc new) e true 0 false)) ⟨some ⟨H1.next, 0, none⟩, m + n, m + n⟩ (l ++ new) e ∧
          Keep (Sl.at ⟨some ⟨b, 0, none⟩, m, m⟩) H (H1.new (.cells (bc l ++ bc new) e true 0 false)) := by
        intro H1 e1 e2
        refine ⟨.inr ⟨_, _, rfl, by simp [hc, h3], by omega, by simp, true, by simp [bc_append]⟩, by simp [e1], fun k hk hs => ?_⟩
        rw [Heap.get_new_ne _ _ (by omega)]
        exact e2 k hk (fun h => hs ⟨_, rfl, h.symm⟩)
      by_cases ho : o = true
      · subst ho
        obtain ⟨k1, k2⟩ := key (H.kill b) rfl (fun k _ hk => Heap.get_kill_ne _ hk)
        refine ⟨⟨some ⟨H.next, 0, none⟩, m + n, m + n⟩, (H.kill b).new (.cells (bc l ++ bc new) e true 0 false), fun K => ?_, k1, k2, ?_⟩
        · simp only [appendK, asSl, h1, h2, optK, hg]
          rw [if_neg hne, if_pos ⟨h4', by omega, by omega⟩, if_pos hl, hx]
          simp [ht]
        · rintro k ⟨a, h, rfl⟩; cases h; exact .inr (Nat.le_refl _)
      · have ho : o = false := by simpa using ho
        subst ho
        obtain ⟨k1, k2⟩ := key H rfl (fun _ _ _ => rfl)
        refine ⟨⟨some ⟨H.next, 0, none⟩, m + n, m + n⟩, H.new (.cells (bc l ++ bc new) e true 0 false), fun K => ?_, k1, k2, ?_⟩
        · simp only [appendK, asSl, h1, h2, optK, hg]
          rw [if_neg hne, if_pos ⟨h4', by omega, by omega⟩, if_pos hl, hx]
          simp [ht]
        · rintro k ⟨a, h, rfl⟩; cases h; exact .inr (Nat.le_refl _)

/-- a strings.Builder at p that holds the bytes l in the buffer s -/
def Bld (T e : TypeId) (H : Heap) (p : Nat) (s : Sl) (l : List UInt8) : Prop :=
  p < H.next ∧ (∃ pa, H.get p = some (.cells [.pointer pa, s.v] T false 0 false) ∧ (pa = none ∨ pa = some ⟨p, 0, none⟩)) ∧ Buf H s l e ∧ ¬ s.at p

/-- what a write turns -/
def BS (p : Nat) (s : Sl) (k : Nat) : Prop := k = p ∨ s.at k

theorem Bld.keep {T e : TypeId} {S : Nat → Prop} {H H' : Heap} {p : Nat} {s : Sl} {l : List UInt8} (h : Bld T e H p s l) (hk : Keep S H H') (hp : ¬ S p) (hn : ∀ k, s.at k → ¬ S k) : Bld T e H' p s l := by
  obtain ⟨h1, ⟨pa, h2, h3⟩, h4, h5⟩ := h
  exact ⟨Nat.lt_of_lt_of_le h1 hk.1, ⟨pa, (hk.2 p h1 hp).trans h2, h3⟩, h4.keep hk hn, h5⟩

theorem Bld.new (T e : TypeId) (H : Heap) : Bld T e (H.new (.cells [.pointer none, .slice none 0 0] T false 0 false)) H.next Sl.nil [] :=
  ⟨by simp, ⟨none, by simp, .inl rfl⟩, .inl ⟨rfl, rfl⟩, Sl.at_nil⟩
theorem asSL_s' {α : Type} {s : Sl} {K : Sl → Option α} : asSL s.v K = K s := rfl
end Go.Cm

namespace Go.Cm
open Go

abbrev Keep0 := Keep fun _ => False
theorem Keep0.trans {H H' H'' : Heap} (h : Keep0 H H') (h' : Keep0 H' H'') : Keep0 H H'' := Keep.trans h h' fun _ _ h => h
theorem Keep0.to {S : Nat → Prop} {H H' : Heap} (h : Keep0 H H') : Keep S H H' := Keep.mono h fun _ _ h => h.elim
theorem Keep0.get {H H' : Heap} (h : Keep0 H H') {b : Nat} {o : CObj} (hb : b < H.next) (hg : H.get b = some o) : H'.get b = some o := (h.2 b hb id).trans hg
/-- a change of new blocks alone is none -/
theorem Keep.fresh {S : Nat → Prop} {H H1 H2 : Heap} (h : Keep0 H H1) (h' : Keep S H1 H2) (hs : ∀ k, S k → H.next ≤ k) : Keep0 H H2 :=
  ⟨Nat.le_trans h.1 h'.1, fun k hk _ => (h'.2 k (Nat.lt_of_lt_of_le hk h.1) (fun e => by have := hs k e; omega)).trans (h.2 k hk id)⟩
theorem asSL_k {α : Type} (s : Sl) (K : Sl → Option α) : asSL s.v K = K s := rfl
theorem asSL_k2 {α : Type} (a : Option Addr) (n c : Nat) (K : Sl → Option α) : asSL (.slice a n c) K = K ⟨a, n, c⟩ := rfl

/-- a slice over a part of block b: A lies ahead, cs is in it, Z lies behind -/
structure Vw (H : Heap) (s : Sl) (b : Nat) (A cs Z : List Value) (e : TypeId) (sz : Nat) : Prop where
  sa : s.a = some ⟨b, A.length, none⟩
  hn : cs.length = s.n * sz
  hc : s.n ≤ s.c
  lt : b < H.next
  get : ∃ o st, H.get b = some (.cells (A ++ (cs ++ Z)) e o 0 st)

theorem Vw.keep {S : Nat → Prop} {H H' : Heap} {s : Sl} {b : Nat} {A cs Z : List Value} {e : TypeId} {sz : Nat} (h : Vw H s b A cs Z e sz) (hk : Keep S H H') (hs : ¬ S b) : Vw H' s b A cs Z e sz := by
  obtain ⟨h1, h2, h3, h4, o, st, h5⟩ := h
  exact ⟨h1, h2, h3, Nat.lt_of_lt_of_le h4 hk.1, o, st, (hk.2 b h4 hs).trans h5⟩
theorem Vw.of {H : Heap} {s : Sl} {cs : List Value} {e : TypeId} {sz : Nat} (h : Whole H s cs e sz) (hne : s.a ≠ none) : ∃ b, Vw H s b [] cs [] e sz ∧ s.at b := by
  rcases h with ⟨rfl, _⟩ | ⟨b, n, rfl, h1, h2, o, st, h3⟩
  · exact absurd rfl hne
  · exact ⟨b, ⟨rfl, h1, Nat.le_refl _, h2, o, st, by simpa using h3⟩, _, rfl, rfl⟩
theorem Whole.vw {H : Heap} {b n : Nat} {cs : List Value} {e : TypeId} {sz : Nat} (h : Whole H ⟨some ⟨b, 0, none⟩, n, n⟩ cs e sz) : Vw H ⟨some ⟨b, 0, none⟩, n, n⟩ b [] cs [] e sz := by
  rcases h with ⟨h, _⟩ | ⟨b, n, h, h1, h2, o, st, h3⟩
  · cases h
  · cases h; exact ⟨rfl, h1, Nat.le_refl _, h2, o, st, by simpa using h3⟩

/-- a part of it -/
def subS (s : Sl) (l h sz : Nat) : Sl := ⟨s.a.map fun a => ⟨a.block, a.off + l * sz, none⟩, h - l, s.c - l⟩
theorem Vw.sub {H : Heap} {s : Sl} {b : Nat} {A cs Z : List Value} {e : TypeId} {sz : Nat} (v : Vw H s b A cs Z e sz) {l h : Nat} (h1 : l ≤ h) (h2 : h ≤ s.n) :
    Vw H (subS s l h sz) b (A ++ cs.take (l * sz)) ((cs.drop (l * sz)).take ((h - l) * sz)) (cs.drop (h * sz) ++ Z) e sz := by
  obtain ⟨a1, a2, a3, a4, o, st, a5⟩ := v
  have hm : l * sz ≤ cs.length := by rw [a2]; exact Nat.mul_le_mul_right _ (by omega)
  have hm2 : h * sz ≤ cs.length := by rw [a2]; exact Nat.mul_le_mul_right _ (by omega)
  have hlh : l * sz + (h - l) * sz = h * sz := by rw [← Nat.add_mul]; congr 1; omega
  refine ⟨?_, ?_, ?_, a4, o, st, ?_⟩
  · simp only [subS, a1, Option.map_some, List.length_append, List.length_take, Nat.min_eq_left hm]
  · simp only [subS, List.length_take, List.length_drop]; omega
  · show h - l ≤ s.c - l; omega
  · rw [a5]
    have : A ++ cs.take (l * sz) ++ ((cs.drop (l * sz)).take ((h - l) * sz) ++ (cs.drop (h * sz) ++ Z)) = A ++ (cs ++ Z) := by
      rw [List.append_assoc]
      congr 1
      rw [← List.append_assoc, ← List.append_assoc]
      congr 1
      rw [List.append_assoc]
      have e1 : (cs.drop (l * sz)).take ((h - l) * sz) ++ cs.drop (h * sz) = cs.drop (l * sz) := by
        conv => rhs; rw [← List.take_append_drop ((h - l) * sz) (cs.drop (l * sz))]
        rw [List.drop_drop, hlh]
      rw [e1, List.take_append_drop]
    rw [this]

theorem Vw.opn {H : Heap} {s : Sl} {b : Nat} {A cs Z : List Value} {e : TypeId} {sz : Nat} (v : Vw H s b A cs Z e sz) : H.opnOk b e = true := by
  obtain ⟨_, _, _, _, o, st, h⟩ := v
  simp [Heap.opnOk, h]
theorem sub_addr {a : Addr} (ha : a.spot = none) (l sz : Nat) : (if l = 0 then a else ap a (l * sz)) = ⟨a.block, a.off + l * sz, none⟩ := by
  split
  · rename_i h; subst h
    obtain ⟨b, o, s⟩ := a
    simp only at ha
    subst ha
    simp
  · rfl
section
variable {H : Heap} {s : Sl} {b : Nat} {A cs Z : List Value} {e : TypeId} {sz : Nat} (v : Vw H s b A cs Z e sz)
include v
theorem Vw.s_lh {l h : Nat} {k k' : IntKind} (h1 : l ≤ h) (h2 : h ≤ s.n) : readD (.subSl e sz true true false) [s.v, .int k (l : Int), .int k' (h : Int)] H = some (subS s l h sz).v := by
  have hc := v.hc
  have ho := v.opn
  simp only [readD, Sl.v, asSl, bnds, asN_s, v.sa]
  rw [if_pos (by omega)]
  simp only [Int.toNat_natCast, ho, Bool.or_true, chk, subS, Option.map_some, v.sa]
  rw [sub_addr rfl]
theorem Vw.s_l {l : Nat} {k : IntKind} (h1 : l ≤ s.n) : readD (.subSl e sz true false false) [s.v, .int k (l : Int)] H = some (subS s l s.n sz).v := by
  have ho := v.opn
  simp only [readD, Sl.v, asSl, bnds, asN_s, v.sa]
  rw [if_pos (by omega)]
  simp only [Int.toNat_natCast, ho, Bool.or_true, chk, subS, Option.map_some, v.sa]
  rw [sub_addr rfl]
theorem Vw.s_h {h : Nat} {k : IntKind} (h1 : h ≤ s.n) : readD (.subSl e sz false true false) [s.v, .int k (h : Int)] H = some (subS s 0 h sz).v := by
  have hc := v.hc
  have ho := v.opn
  simp only [readD, Sl.v, asSl, bnds, asN_s, v.sa]
  rw [if_pos (by omega)]
  simp only [Int.toNat_natCast, ho, Bool.or_true, chk, subS, Option.map_some, v.sa]
  simp only [if_true, Nat.zero_mul, Nat.add_zero]
theorem Vw.src {n : Nat} (hn : n ≤ s.n) : srcCells H sz n s.v = some (cs.take (n * sz)) := by
  obtain ⟨a1, a2, a3, a4, o, st, a5⟩ := v
  simp only [srcCells, Sl.v, a1]
  have hm : n * sz ≤ cs.length := by rw [a2]; exact Nat.mul_le_mul_right _ hn
  by_cases h0 : n = 0
  · subst h0; simp
  · rw [if_neg h0, ldN_s a5 (by simp only [List.length_append]; omega), List.drop_left' rfl, List.take_append_of_le_length hm]
theorem Vw.ld {i : Nat} {x : Value} (hx : cs[i]? = some x) : Heap.ld1 H ⟨b, A.length + i, none⟩ = some x := by
  obtain ⟨a1, a2, a3, a4, o, st, a5⟩ := v
  have hi := (List.getElem?_eq_some_iff.1 hx).1
  rw [ld1_s a5, List.getElem?_append_right (by omega), Nat.add_sub_cancel_left, List.getElem?_append_left hi, hx]
/-- a write into it -/
theorem Vw.stN {new : List Value} {i : Nat} (hi : i + new.length ≤ cs.length) : ∃ H', H.stN ⟨b, A.length + i, none⟩ new = some H' ∧ Vw H' s b A (cs.take i ++ (new ++ cs.drop (i + new.length))) Z e sz ∧ Keep (fun k => k = b) H H' ∧ H'.next = H.next := by
  obtain ⟨a1, a2, a3, a4, o, st, a5⟩ := v
  have hs : splice (A ++ (cs ++ Z)) (A.length + i) new = A ++ ((cs.take i ++ (new ++ cs.drop (i + new.length))) ++ Z) := by
    unfold splice
    rw [List.take_append, List.take_of_length_le (by omega), Nat.add_sub_cancel_left, List.take_append_of_le_length (by omega), Nat.add_assoc, List.drop_append, List.drop_eq_nil_of_le (by omega), Nat.add_sub_cancel_left, List.drop_append_of_le_length (by omega)]
    simp
  refine ⟨H.put b (.cells (A ++ ((cs.take i ++ (new ++ cs.drop (i + new.length))) ++ Z)) e o 0 st), ?_, ⟨a1, ?_, a3, a4, o, st, by simp⟩, Keep.put _ _ _ rfl, rfl⟩
  · simp only [Heap.stN, a5]
    rw [if_pos (by simp only [List.length_append]; omega), hs]
  · simp only [List.length_append, List.length_take, List.length_drop]; omega
theorem Vw.st1 {x : Value} {i : Nat} (hi : i < cs.length) : ∃ H', H.st1 ⟨b, A.length + i, none⟩ x = some H' ∧ Vw H' s b A (cs.set i x) Z e sz ∧ Keep (fun k => k = b) H H' ∧ H'.next = H.next := by
  obtain ⟨a1, a2, a3, a4, o, st, a5⟩ := v
  refine ⟨H.put b (.cells (A ++ (cs.set i x ++ Z)) e o 0 st), ?_, ⟨a1, by simpa using a2, a3, a4, o, st, by simp⟩, Keep.put _ _ _ rfl, rfl⟩
  rw [st1_s a5 (by simp only [List.length_append]; omega) (by omega), List.set_append_right _ _ (by omega), Nat.add_sub_cancel_left, List.set_append_left _ _ hi]
/-- a copy into it -/
theorem Vw.copy {x : Value} {m : Nat} {str : Bool} (new : List Value) (h0 : 0 < sz) (h1 : srcN str x = some m) (h2 : srcCells H sz (min m s.n) x = some new) (h3 : new.length = min m s.n * sz) :
    ∃ H', (∀ K, effK (.copy sz str) [s.v, x] H K = K (.int .i64 ((min m s.n : Nat) : Int)) H') ∧ Vw H' s b A (new ++ cs.drop new.length) Z e sz ∧ Keep (fun k => k = b) H H' ∧ H'.next = H.next := by
  have hn := v.hn
  have hle : new.length ≤ cs.length := by rw [h3, hn]; exact Nat.mul_le_mul_right _ (Nat.min_le_right _ _)
  by_cases hz : min m s.n = 0
  · have hnil : new = [] := List.eq_nil_of_length_eq_zero (by rw [h3, hz]; simp)
    subst hnil
    refine ⟨H, fun K => ?_, by simpa using v, Keep.refl _, rfl⟩
    simp only [effK, asSl, h1, optK]
    rw [if_pos hz, hz]; rfl
  · obtain ⟨H', e1, e2, e3, e4⟩ := v.stN (new := new) (i := 0) (by omega)
    refine ⟨H', fun K => ?_, by simpa using e2, e3, e4⟩
    rw [Nat.add_zero] at e1
    have hsa := v.sa
    simp only [effK, asSl, h1, optK]
    rw [if_neg hz, if_pos h0]
    have h2' := h2
    rw [h2']
    simp only [hsa, e1]
end

/-- a slice's block -/
theorem Vw.at {H : Heap} {s : Sl} {b : Nat} {A cs Z : List Value} {e : TypeId} {sz : Nat} (v : Vw H s b A cs Z e sz) : s.at b := ⟨_, v.sa, rfl⟩

/-! ### runs of parts of the same size -/
section
variable {α : Type} (f : α → List Value) (n : Nat) (hf : ∀ a, (f a).length = n)
include hf
theorem fm_len (L : List α) : (L.flatMap f).length = L.length * n := by
  induction L with
  | nil => simp
  | cons a L ih => simp only [List.flatMap_cons, List.length_append, hf, ih, List.length_cons, Nat.add_mul]; omega
theorem fm_drop (L : List α) (i : Nat) : (L.flatMap f).drop (i * n) = (L.drop i).flatMap f := by
  induction L generalizing i with
  | nil => simp
  | cons a L ih =>
    cases i with
    | zero => simp
    | succ i =>
      rw [List.flatMap_cons, List.drop_succ_cons, ← ih i, List.drop_append, hf, List.drop_eq_nil_of_le (by rw [hf, Nat.add_mul]; omega), Nat.add_mul]
      simp
theorem fm_take (L : List α) (i : Nat) : (L.flatMap f).take (i * n) = (L.take i).flatMap f := by
  induction L generalizing i with
  | nil => simp
  | cons a L ih =>
    cases i with
    | zero => simp
    | succ i =>
      rw [List.flatMap_cons, List.take_succ_cons, List.flatMap_cons, ← ih i, List.take_append, hf, List.take_of_length_le (by rw [hf, Nat.add_mul]; omega), Nat.add_mul]
      congr 2; omega
theorem fm_at {L : List α} {i : Nat} {a : α} (h : L[i]? = some a) : ((L.flatMap f).drop (i * n)).take n = f a := by
  rw [fm_drop f n hf]
  obtain ⟨hlt, e⟩ := List.getElem?_eq_some_iff.1 h
  rw [List.drop_eq_getElem_cons hlt, e, List.flatMap_cons, List.take_left' (hf a)]
end
end Go.Cm
