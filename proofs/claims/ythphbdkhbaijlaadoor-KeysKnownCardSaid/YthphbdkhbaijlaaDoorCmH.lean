/-
  Package variables that lie as the program's text lays them: windows ahead of the arguments'.
  And: A closed call that answers true, as one step, over code with prims. A world in which variables lie as data say: for the witness of a row that lists variables.
-/
import Derived.Test.YthphbdkhbaijlaaDoorCmG
import Derived.Deep.DeepHandedRow
import Derived.Deep.DeepWitnessRowRef
import Derived.Deep.DeepLaidRun
namespace Go.Cm
open Go

/-- where a call starts: so many variables, so many windows -/
def startG (ng n0 : Nat) (w : World) : Start := ⟨w.heap, w.os, w.output, n0, ng⟩

theorem RR.winsG {P : Program} {w : World} {ws : List Win} {ng : Nat} (hng : ng ≤ ws.length) (hg : ∀ g, g < ng → ∃ c e, ws[g]? = some ⟨g, 0, c, e⟩) (h : ∀ x ∈ ws, WinOK P w (muW P w ws) x) : RR P (startG ng ws.length w) (muW P w ws) (heapW ws) w := by
  have R := RR.wins h
  refine ⟨R.obj, R.inj, R.fresh, R.blk, R.size, hng, fun b hb => ?_, R.low, R.lown, R.base, R.still, R.io⟩
  obtain ⟨c, e, hx⟩ := hg b hb
  exact ⟨winMB P w _, by unfold muW; rw [hx]; rfl, rfl, rfl⟩

theorem law_callsG {P : Program} {ng n0 : Nat} {gl : List Nat} {C : CProg} {N d f : Nat} {w : World} (hC : ProgOK P (startG ng n0 w) gl C) {fn : Func} {body : Code} (hf : P.funcs[f]? = some fn) (hb : fn.body = some body) (hname : (fn.name == "runtime.NumGoroutine") = false)
    {vs vs' : List Value} {H H' : Heap} {μ : Mu} (h : callD C N d f vs H = some (.bool true, H')) (R : RR P (startG ng n0 w) μ H w) (hvs : VRs μ vs vs') :
    Calls P f vs'.toArray w fun e w' => e = .returned (.bool true) ∧ (∀ b, b < w.heap.size → w'.heap[b]? = w.heap[b]?) ∧ w'.os = w.os ∧ w'.output = w.output :=
  (callD_calls hC hf hb hname h R hvs).mono fun e w' ⟨v', μ', h1, h2, h3⟩ => ⟨by rw [h1, h2.bool_inv], h3.base, h3.io.1, h3.io.2⟩

/-- what is wanted of a variable: its name, type, datum -/
abbrev GW := Option (String × TypeId × DataW Unit)

theorem gwins {P : Program} {w : World} : ∀ (l : List (Option (TypeId × List Value × DataW Unit))), (∀ j, some j ∈ l → Good P w j.1 j.2.1 j.2.2) → ∀ n0 : Nat, ∃ (ws1 : List Win) (css : List (List Value)), css.length = l.length ∧ ∀ ws0 ws2 : List Win, ws0.length = n0 →
    (∀ x ∈ ws1, WinOK P w (muW P w (ws0 ++ ws1 ++ ws2)) x) ∧ (∀ (i : Nat) j c, l[i]? = some (some j) → css[i]? = some c → VRs (muW P w (ws0 ++ ws1 ++ ws2)) c j.2.1 ∧ DR P (ws0 ++ ws1 ++ ws2) j.1 c j.2.2 ∧ ∀ v ∈ c, one v = true) ∧ ∀ (i : Nat) c, l[i]? = some none → css[i]? = some c → c = []
  | [], _, n0 => ⟨[], [], rfl, fun ws0 ws2 _ => ⟨by simp, fun i j c h => by simp at h, fun i c h => by simp at h⟩⟩
  | none :: l, h, n0 => by
    obtain ⟨wb, cb, hlen, hb⟩ := gwins l (fun j hj => h j (List.mem_cons_of_mem _ hj)) n0
    refine ⟨wb, [] :: cb, by simp [hlen], fun ws0 ws2 h0 => ?_⟩
    obtain ⟨b1, b2, b3⟩ := hb ws0 ws2 h0
    refine ⟨b1, fun i j c hi hc => ?_, fun i c hi hc => ?_⟩
    · cases i with
      | zero => simp at hi
      | succ i => exact b2 i j c (by simpa using hi) (by simpa using hc)
    · cases i with
      | zero => simp at hc; exact hc
      | succ i => exact b3 i c (by simpa using hi) (by simpa using hc)
  | some a :: l, h, n0 => by
    obtain ⟨wa, ca, ha⟩ := h a List.mem_cons_self n0
    obtain ⟨wb, cb, hlen, hb⟩ := gwins l (fun j hj => h j (List.mem_cons_of_mem _ hj)) (n0 + wa.length)
    refine ⟨wa ++ wb, ca :: cb, by simp [hlen], fun ws0 ws2 h0 => ?_⟩
    have e1 : ws0 ++ (wa ++ wb) ++ ws2 = ws0 ++ wa ++ (wb ++ ws2) := by simp [List.append_assoc]
    have e2 : ws0 ++ (wa ++ wb) ++ ws2 = (ws0 ++ wa) ++ wb ++ ws2 := by simp [List.append_assoc]
    obtain ⟨a1, a2, a3, a4⟩ := ha ws0 (wb ++ ws2) h0
    obtain ⟨b1, b2, b3⟩ := hb (ws0 ++ wa) ws2 (by simp [h0])
    refine ⟨fun x hx => ?_, fun i j c hi hc => ?_, fun i c hi hc => ?_⟩
    · rcases List.mem_append.1 hx with hx | hx
      · rw [e1]; exact a1 x hx
      · rw [e2]; exact b1 x hx
    · cases i with
      | zero =>
        simp at hi hc
        subst hi hc
        rw [e1]; exact ⟨a2, a3, a4⟩
      | succ i =>
        rw [e2]
        exact b2 i j c (by simpa using hi) (by simpa using hc)
    · cases i with
      | zero => simp at hi
      | succ i => exact b3 i c (by simpa using hi) (by simpa using hc)

theorem laidVars_mem {P : Program} {w : World} : ∀ {l : List (String × DataW Unit)} {ps : List MemPlace}, DataW.LaidVars P w l ps → ∀ n d, (n, d) ∈ l → ∃ g t cs fuel p, P.globalNamed n = some g ∧ (P.globals[g]?).map (·.type) = some t ∧ w.var? P n = some cs ∧ DataW.trod (fun _ => ()) P w 0 (fun _ => true) false fuel t cs.toList = some (d, p)
  | [], _, _, n, d, hm => by cases hm
  | (n', d') :: r, ps, h, n, d, hm => by
    obtain ⟨g, t, cs, fuel, p, q, h1, h2, h3, h4, h5, _⟩ := h
    rcases List.mem_cons.1 hm with e | hm
    · cases e
      exact ⟨g, t, cs, fuel, p, h1, h2, h3, h4⟩
    · exact laidVars_mem h5 n d hm

/-- the variables' cells, and that each has its block -/
theorem globs_of {P : Program} {w : World} {laid : List (String × DataW Unit)} (hh : (laid.filter fun x => x.2.handleName?.isSome) = []) (hL : laidMetH P laid w) (hsh : w.ShapedOpen P) (gs : List GW) {dep : Nat} (hng : gs.length ≤ P.globals.size)
    (hrow : (List.range gs.length).all (fun g => (((begin P (fun _ _ => 0) default).world.heap[g]?).bind Obj.row?).isSome) = true)
    (hw : ∀ (g : Nat) n t d, gs[g]? = some (some (n, t, d)) → (n, d) ∈ laid ∧ P.globalNamed n = some g ∧ (P.globals[g]?).map (·.type) = some t ∧ plainT P dep t = true) :
    ∃ l : List (Option (TypeId × List Value × DataW Unit)), l.length = gs.length ∧ (∀ j, some j ∈ l → Good P w j.1 j.2.1 j.2.2) ∧ (∀ (g : Nat), g < gs.length → ∃ c e fr, w.heap[g]? = some (.cells c e fr) ∧ ∀ j, l[g]? = some (some j) → j.2.1 = c.toList) ∧
      ∀ (g : Nat) n t d, gs[g]? = some (some (n, t, d)) → ∃ cs, l[g]? = some (some (t, cs, d)) := by
  have hL' : laidMet P laid w := by unfold laidMetH at hL; rw [hh] at hL; exact hL
  obtain ⟨ps, hv, _, _⟩ := hL'
  have hblk : ∀ g, g < gs.length → ∃ c e fr, w.heap[g]? = some (.cells c e fr) := by
    intro g hg
    have := (List.all_eq_true.1 hrow) g (List.mem_range.2 hg)
    obtain ⟨x, hx⟩ := Option.isSome_iff_exists.1 this
    obtain ⟨cs, h1, _⟩ := hsh.1 g x.1 x.2 (by omega) hx
    exact ⟨_, _, _, h1⟩
  let cellsAt : Nat → List Value := fun g => match w.heap[g]? with
    | some (.cells c _ _) => c.toList
    | _ => []
  refine ⟨(List.range gs.length).map fun g => (gs[g]?).bind fun x => x.map fun y => (y.2.1, cellsAt g, y.2.2), by simp, fun j hj => ?_, fun g hg => ?_, fun g n t d hgs => ?_⟩
  · obtain ⟨g, hg, he⟩ := List.mem_map.1 hj
    have hg' : g < gs.length := List.mem_range.1 hg
    cases hq : gs[g]? with
    | none => rw [hq] at he; cases he
    | some x =>
      cases x with
      | none => rw [hq] at he; cases he
      | some y =>
        obtain ⟨n, t, d⟩ := y
        rw [hq] at he
        simp only [Option.bind_some, Option.map_some, Option.some.injEq] at he
        subst he
        obtain ⟨h1, h2, h3, h4⟩ := hw g n t d hq
        obtain ⟨g2, t2, cs, fuel, p, q1, q2, q3, q4⟩ := laidVars_mem hv n d h1
        rw [h2] at q1
        cases q1
        rw [h3] at q2
        cases q2
        have : cellsAt g = cs.toList := by
          unfold World.var? at q3
          rw [h2] at q3
          simp only [Option.bind_some] at q3
          show (match w.heap[g]? with
            | some (.cells c _ _) => c.toList
            | _ => []) = cs.toList
          split at q3
          · rename_i h
            cases q3
            rw [h]
          · cases q3
        simp only
        rw [this]
        exact good dep t cs.toList d p fuel h4 q4
  · obtain ⟨c, e, fr, h⟩ := hblk g hg
    refine ⟨c, e, fr, h, fun j hj => ?_⟩
    rw [List.getElem?_map, List.getElem?_range hg] at hj
    simp only [Option.map_some, Option.some.injEq] at hj
    cases hq : gs[g]? with
    | none => rw [hq] at hj; cases hj
    | some x =>
      cases x with
      | none => rw [hq] at hj; cases hj
      | some y =>
        rw [hq] at hj
        simp only [Option.bind_some, Option.map_some, Option.some.injEq] at hj
        subst hj
        show (match w.heap[g]? with
            | some (.cells c _ _) => c.toList
            | _ => []) = c.toList
        rw [h]
  · have hlt := (List.getElem?_eq_some_iff.1 hgs).1
    refine ⟨cellsAt g, ?_⟩
    rw [List.getElem?_map, List.getElem?_range hlt]
    simp only [Option.map_some, hgs, Option.bind_some]

section
variable {H : Type} {enc : TypeId × Value → H} {P : Program} {w : World}
open Go.RowKit Go.ChangeShapes Go.WideShapes
/-- A LAW WHOSE ARGUMENTS ARE PLAIN DATA, over package variables that are laid. -/
theorem law_contractG {C : CProg} {N f : Nat} {fn : Func} {body : Code} {dep : Nat} (gs : List GW) {gl : List Nat} {laid : List (String × DataW Unit)} (hC : ∀ (n0 : Nat), ProgOK P (startG gs.length n0 w) gl C) (hf : P.funcs[f]? = some fn) (hb : fn.body = some body) (hname : (fn.name == "runtime.NumGoroutine") = false)
    (hl : laidOutB P = true) {s : ChangeSpec} {apart fresh handsOn again : Bool} {args : Array Value} {ds gs' : List (DataW H)} {before : List MemPlace} {tb : TypeId}
    (hW : DataW.Whole enc P fn.params.toList s.vars apart w args.toList ds gs' before) (hv : s.vars = []) (hfn : s.fn H (ds ++ gs') = { results := [.lit (.bool true)], args := ds })
    (hpl : ∀ t ∈ fn.params.toList, plainT P dep t = true) (hpar : ∀ t ∈ fn.params.toList, P.readableRec t = true ∧ t < P.types.size) (hres : fn.resultTypes = #[tb]) (hbool : P.underlying tb = some .bool)
    {base : Nat} (hval : ∀ (j : Nat) t v, fn.params[j]? = some t → args[j]? = some v → Value.okWide P w .any base t v)
    (hh : (laid.filter fun x => x.2.handleName?.isSome) = []) (hL : laidMetH P laid w) (hsh : w.ShapedOpen P) (hng : gs.length ≤ P.globals.size)
    (hrow : (List.range gs.length).all (fun g => (((begin P (fun _ _ => 0) default).world.heap[g]?).bind Obj.row?).isSome) = true)
    (hw : ∀ (g : Nat) n t d, gs[g]? = some (some (n, t, d)) → (n, d) ∈ laid ∧ P.globalNamed n = some g ∧ (P.globals[g]?).map (·.type) = some t ∧ plainT P dep t = true)
    (hcall : ∀ (ws : List Win) (vs : List Value), (∀ (g : Nat) n t d, gs[g]? = some (some (n, t, d)) → ∃ y, ws[g]? = some y ∧ DR P ws t y.cells d) → DRs P ws fn.params.toList vs ds → ∃ d H', callD C N d f vs (heapW ws) = some (.bool true, H')) :
    Calls P f args w fun e W' => ∃ v, e = .returned v ∧ s.post enc P fn apart fresh handsOn again w args v W' := by
  have hW' := hW
  obtain ⟨p, q, hA, hV, _, _, _⟩ := hW'
  obtain ⟨l, l1, l2, l3, l4⟩ := globs_of (dep := dep) hh hL hsh gs hng hrow hw
  obtain ⟨ws1, css, hcl, hg⟩ := gwins l l2 gs.length
  obtain ⟨ws, vs, hws⟩ := good_args fn.params.toList args.toList ds p hpl hA (formed_of _ _ hpl (fun j t v h1 h2 => hval j t v (by simpa using h1) (by simpa using h2))) (gs.length + ws1.length)
  -- the variables' own windows
  have elem : ∀ g : Nat, ∃ e : TypeId, ∀ (c : Array Value) (e' : TypeId) (fr : Nat × Nat), w.heap[g]? = some (Obj.cells c e' fr) → e' = e := fun g => by
    cases hq : w.heap[g]? with
    | none => exact ⟨0, fun c e' fr h => by cases h⟩
    | some o =>
      cases o with
      | cells c e fr => exact ⟨e, fun c' e' fr' h => by cases h; rfl⟩
      | _ => exact ⟨0, fun c e' fr h => by cases h⟩
  generalize hG : (List.range gs.length).map (fun g => (⟨g, 0, (css[g]?).getD [], (elem g).choose⟩ : Win)) = G
  have hGl : G.length = gs.length := by subst hG; simp
  have hGg : ∀ g, g < gs.length → G[g]? = some ⟨g, 0, (css[g]?).getD [], (elem g).choose⟩ := fun g hg => by
    subst hG
    rw [List.getElem?_map, List.getElem?_range hg]
    rfl
  obtain ⟨b1, b2, b3⟩ := hg G ws hGl
  obtain ⟨a1, a2, a3⟩ := hws (G ++ ws1) [] (by simp [hGl])
  simp only [List.append_nil] at a1 a2 a3
  generalize hall : G ++ ws1 ++ ws = W at a1 a2 a3 b1 b2 b3
  have hWg : ∀ g, g < gs.length → W[g]? = some ⟨g, 0, (css[g]?).getD [], (elem g).choose⟩ := fun g hg => by
    subst hall
    rw [List.append_assoc, List.getElem?_append_left (by omega)]
    exact hGg g hg
  have hok : ∀ x ∈ W, WinOK P w (muW P w W) x := by
    intro x hx
    have hx' := hx
    rw [← hall] at hx'
    rcases List.mem_append.1 hx' with h | h
    rcases List.mem_append.1 h with h | h
    · rw [← hG] at h
      obtain ⟨g, h1, rfl⟩ := List.mem_map.1 h
      have hgl : g < gs.length := List.mem_range.1 h1
      obtain ⟨c, e, fr, e1, e2⟩ := l3 g hgl
      have he := (elem g).choose_spec c e fr e1
      have hcs : css[g]? = some css[g] := List.getElem?_eq_getElem (by omega)
      have hlg : l[g]? = some l[g] := List.getElem?_eq_getElem (by omega)
      refine ⟨c, fr, by rw [← he]; exact e1, ?_, ?_⟩
      · simp only [hcs, Option.getD_some]
        cases hj : l[g] with
        | none =>
          rw [hj] at hlg
          rw [b3 g _ hlg hcs]
          simp
        | some j =>
          rw [hj] at hlg
          have := (b2 g j _ hlg hcs).1.length
          rw [e2 j hlg] at this
          simp at this
          omega
      · intro i v hv
        simp only [hcs, Option.getD_some] at hv
        cases hj : l[g] with
        | none =>
          rw [hj] at hlg
          rw [b3 g _ hlg hcs] at hv
          simp at hv
        | some j =>
          rw [hj] at hlg
          obtain ⟨c1, c2, c3⟩ := b2 g j _ hlg hcs
          refine ⟨c3 v (List.mem_of_getElem? hv), ?_⟩
          obtain ⟨v', g1, g2⟩ := c1.get i v hv
          rw [e2 j hlg] at g1
          exact ⟨v', by simpa using g1, g2⟩
    · exact b1 x h
    · exact a1 x h
  have R : RR P (startG gs.length W.length w) (muW P w W) (heapW W) w := RR.winsG (by rw [← hall]; simp [hGl]) (fun g hg => ⟨_, _, hWg g hg⟩) hok
  obtain ⟨d, H', hc⟩ := hcall W vs (fun g n t dd hgs => by
    have hlt := (List.getElem?_eq_some_iff.1 hgs).1
    obtain ⟨cs, h1⟩ := l4 g n t dd hgs
    have hcs : css[g]? = some css[g] := List.getElem?_eq_getElem (by omega)
    refine ⟨_, hWg g hlt, ?_⟩
    simp only [hcs, Option.getD_some]
    exact (b2 g _ _ h1 hcs).2.1) a3
  have key := law_callsG (vs' := args.toList) (hC W.length) hf hb hname hc R a2
  rw [show args.toList.toArray = args by simp] at key
  refine key.mono fun e W' ⟨g1, g2, g3, g4⟩ => ?_
  exact ⟨_, g1, law_post hl hW hv hfn hpar hres hbool g2 g3 g4⟩
end
end Go.Cm

namespace Go.Cm
open Go

theorem sure_okC {P : Program} {w0 : Start} {gl : List Nat} {C : CProg} (hC : ∀ w, ProgOK P (start 0 w) gl C) {f N d : Nat} {H1 : Heap} (hev : callD C N d f [] (heap0 0 fun _ => none) = some (.bool true, H1)) : CallOK P w0 (sure f) := by
  intro g vs vs' H v H' μ w h R hvs o a next Q hn
  unfold sure at h
  split at h
  · rename_i e
    subst e
    match vs, hvs, h with
    | [], hvs, h =>
      simp only [Option.some.injEq, Prod.mk.injEq] at h
      obtain ⟨rfl, rfl⟩ := h
      match vs', hvs with
      | [], _ =>
        refine callD_ok (hC w) d g [] [] _ _ H1 _ w hev (RR.bare P w) trivial o a next Q ?_
        intro v' μ' w' hv hR hE
        rw [hv.bool_inv]
        exact hn _ μ w' (.bool true) (R.later hR.size (fun b h => hR.base b h) hR.io) (Ext.refl _ _)
    | _ :: _, _, h => cases h
  · cases h

/-- code whose only call that counts is a closed one -/
noncomputable def sureC (f : Nat) : CProg := ⟨fun _ => none, fun g => if g = f then some (sure f f) else none⟩
theorem sureC_ok {P : Program} {w0 : Start} (hm : P.follows .mixedOrders = true) {f : Nat} (h : CallOK P w0 (sure f)) : ProgOK P w0 [] (sureC f) := by
  refine ⟨fun g h => absurd h (List.not_mem_nil), fun _ _ h => (by cases h), fun g p hp => ?_, fun _ hc _ => draw_ok hm (fun g h => absurd h (List.not_mem_nil)) hc⟩
  unfold sureC at hp
  simp only at hp
  split at hp
  · rename_i e
    subst e
    simp only [Option.some.injEq] at hp
    subst hp
    intro k vs vs' H v H' μ w' hc
    by_cases e : k = g
    · subst e
      refine h k vs vs' H v H' μ w' ?_
      simpa using hc
    · exact absurd hc (by simp [e])
  · cases hp
theorem sureC_runs (f N d : Nat) (H : Heap) : callD (sureC f) N (d + 1) f [] H = some (.bool true, H) := by
  simp [callD, sureC, sure]
end Go.Cm

namespace Go.Cm
open Go

/-- cells of a datum, and the blocks that it leads to -/
def layC (P : Program) (tn : String → TypeId) : Nat → TypeId → DataW Unit → Nat → List Value × List Obj
  | 0, _, _, _ => ([], [])
  | fuel + 1, t, d, nx => match d with
    | .lit (.bool b) => ([.bool b], [])
    | .lit (.int k n) => ([.int k n], [])
    | .lit (.string s) => ([.string ⟨s.toArray⟩], [])
    | .nil => ((match P.underlying t with
      | some (.slice _) => [.slice none 0 0]
      | some (.pointer _) => [.pointer none]
      | some (.interface _) => [.nilIface]
      | some (.map _ _) => [.map none]
      | _ => [.nilFunc]), [])
    | .ptr d' => (match P.underlying t with
      | some (.pointer e) =>
        let r := layC P tn fuel e d' nx
        ([.pointer (some ⟨nx + r.2.length, 0, none⟩)], r.2 ++ [.cells r.1.toArray e (0, 0)])
      | _ => ([], []))
    | .slice es rest => (match P.underlying t with
      | some (.slice e) =>
        let r := (es ++ rest).foldl (fun acc x => let q := layC P tn fuel e x (nx + acc.2.length); (acc.1 ++ q.1, acc.2 ++ q.2)) ([], [])
        ([.slice (some ⟨nx + r.2.length, 0, none⟩) es.length (es ++ rest).length], r.2 ++ [.cells r.1.toArray e (0, 0)])
      | _ => ([], []))
    | .agg ds => (match P.underlying t with
      | some (.struct fs) => (ds.zip fs.toList).foldl (fun acc x => let q := layC P tn fuel x.2.type x.1 (nx + acc.2.length); (acc.1 ++ q.1, acc.2 ++ q.2)) ([], [])
      | some (.array _ e) => ds.foldl (fun acc x => let q := layC P tn fuel e x (nx + acc.2.length); (acc.1 ++ q.1, acc.2 ++ q.2)) ([], [])
      | _ => ([], []))
    | .iface n d' =>
      let r := layC P tn fuel (tn n) d' nx
      ([.iface (tn n) (match r.1 with
        | [v] => v
        | l => .agg l.toArray)], r.2)
    | _ => ([], [])

def layAll (P : Program) (tn : String → TypeId) : List (String × DataW Unit) → Array Obj → Nat → List Obj → Array Obj × List Obj
  | [], h, _, ex => (h, ex)
  | (n, d) :: r, h, nx, ex =>
    match P.globalNamed n with
    | some g => (match P.globals[g]? with
      | some x =>
        let q := layC P tn 20 x.type d nx
        layAll P tn r (h.modify g fun
          | .cells _ t frozen => .cells q.1.toArray t frozen
          | o => o) (nx + q.2.length) (ex ++ q.2)
      | none => layAll P tn r h nx ex)
    | none => layAll P tn r h nx ex

/-- the world -/
noncomputable def laidW (P : Program) (tn : String → TypeId) (laid : List (String × DataW Unit)) (os : Os) : World :=
  let w := World.holding P os ⟨#[], #[], []⟩
  let q := layAll P tn laid w.heap w.heap.size []
  { w with heap := q.1 ++ q.2.toArray }
end Go.Cm
