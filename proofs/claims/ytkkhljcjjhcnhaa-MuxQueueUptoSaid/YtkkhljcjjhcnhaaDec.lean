/-
  The functions' numbers, their code with cuts.
  And: What calls compute, piece by piece. What calls compute, piece by piece. What calls compute, piece by piece. What calls compute, piece by piece. What calls compute, piece by piece. What calls compute, piece by piece. What calls compute, piece by piece. What calls compute, piece by piece. What calls compute, piece by piece. What calls compute, piece by piece. What calls compute, piece by piece. What calls compute, piece by piece. What calls compute, piece by piece. What calls compute, piece by piece. What calls compute, piece by piece. What calls compute, piece by piece. What calls compute, piece by piece. What calls compute, piece by piece. What calls compute, piece by piece. What calls compute, piece by piece. What calls compute, piece by piece. What calls compute, piece by piece. What calls compute, piece by piece. What calls compute, piece by piece. What calls compute, piece by piece. What calls compute, piece by piece. What calls compute, piece by piece. What calls compute, piece by piece. What calls compute, piece by piece. What calls compute, piece by piece. What calls compute, piece by piece. What calls compute, piece by piece. What calls compute, piece by piece. What calls compute, piece by piece. What calls compute, piece by piece.
-/
import Derived.Test.YtkkhljcjjhcnhaaCmG
import Derived.Test.YtkkhljcjjhcnhaaChecked
namespace Go.Proofs.Ytkkhljcjjhcnhaa.dec
open Go Go.Cm
abbrev n_law23_MuxQueue : Nat := 3
abbrev n_mux_New : Nat := 4
abbrev n_law23_known : Nat := 5
abbrev n_mux_Mux_NewSession : Nat := 6
abbrev n_hand_Bytes : Nat := 7
abbrev n_mux_Mux_Input : Nat := 8
abbrev n_mux_Mux_Pane : Nat := 9
abbrev n_hand_Pick : Nat := 10
abbrev n_mux_Mux_Take : Nat := 11
abbrev n_grid_New : Nat := 12
abbrev n_mux_Right : Nat := 15
abbrev n_mux_Mux_fresh : Nat := 16
abbrev n_mux_Mux_window : Nat := 17
abbrev n_grid_Grid_Screen : Nat := 18
abbrev n_grid_size : Nat := 19
abbrev n_vt_New : Nat := 20
abbrev n_grid_Grid_reset : Nat := 21
abbrev n_mux_Mux_make : Nat := 23
abbrev n_mux_Mux_fit : Nat := 24
abbrev n_layout_Tree_Places : Nat := 25
abbrev n_layout_Tree_Panes : Nat := 26
abbrev n_layout_New : Nat := 30
abbrev n_grid_copied : Nat := 31
abbrev n_utf_New : Nat := 32
abbrev n_grid_sheet : Nat := 33
abbrev n_grid_Grid_Resize : Nat := 37
abbrev n_layout_node_walk : Nat := 38
abbrev n_layout_all : Nat := 39
abbrev n_layout_Tree_Places_1 : Nat := 40
abbrev n_layout_node_leaf : Nat := 41
abbrev n_layout_Tree_Panes_1 : Nat := 42
abbrev n_slices_Clone_S_api_Cell_api_Cell : Nat := 47
abbrev n_grid_line : Nat := 48
abbrev n_layout_node_parts : Nat := 50
abbrev n_slices_Repeat_S_api_Cell_api_Cell : Nat := 54
abbrev n_grid_blank : Nat := 55
abbrev n_math_bits_Mul : Nat := 57
abbrev n_math_bits_Mul64 : Nat := 59
abbrev t_int : Nat := 3
abbrev t_bool : Nat := 4
abbrev t_uint8 : Nat := 5
abbrev t_S_int : Nat := 23
abbrev t_api_Screen : Nat := 35
abbrev t_mux_Mux : Nat := 49
abbrev t_S_api_Cell : Nat := 53
abbrev t_api_Cell : Nat := 55
abbrev t_P_mux_window : Nat := 59
abbrev t_mux_session : Nat := 63
abbrev t_mux_window : Nat := 70
abbrev t_mux_pane : Nat := 72
abbrev t_grid_Grid : Nat := 82
abbrev t_S_api_Rect : Nat := 85
abbrev t_api_Rect : Nat := 90
abbrev t_vt_Parser : Nat := 101
abbrev t_layout_node : Nat := 109
abbrev t_layout_Tree : Nat := 113
abbrev t_utf_Decoder : Nat := 123
def cutsL : List (Nat × CT) := [(3, (.two .no (.two .no (.two (.two .no (.cut [(0, .sl), (1, .sl), (5, .ptr), (35, .bool)] .no)) (.two .no (.two (.two .no (.one (.lp [(0, .sl), (1, .sl), (5, .ptr), (7, .sl), (8, .int .i64)] (.two (.two .no (.cut [(0, .sl), (1, .sl), (5, .ptr), (7, .sl), (8, .int .i64), (43, .bool)] .no)) (.two (.one (.two .no (.two .no (.cut [(0, .sl), (1, .sl), (5, .ptr), (7, .sl), (8, .int .i64), (9, .sl)] (.two .no (.two .no (.two .no (.cut [(0, .sl), (1, .sl), (5, .ptr), (7, .sl), (8, .int .i64)] (.two (.two .no (.two .no (.cut [(0, .sl), (1, .sl), (5, .ptr), (7, .sl), (8, .int .i64), (85, .bool)] .no))) (.two .no (.two (.two .no (.two .no (.two .no (.two (.two .no (.cut [(0, .sl), (1, .sl), (5, .ptr), (7, .sl), (8, .int .i64), (14, .int .i64), (115, .bool)] .no)) .no)))) .no))))))))))) (.cut [(0, .sl), (1, .sl), (5, .ptr), (7, .sl), (8, .int .i64)] .no)))))) .no)))))),
  (7, (.two .no (.two .no (.two .no (.two (.two .no (.one (.lp [(0, .int .i64), (5, .sl), (6, .int .u64), (7, .int .i64)] .no))) .no))))),
  (15, (.two .no (.two (.two .no (.one (.lp [(0, .str), (3, .int .i64)] (.two .no (.two (.one (.two .no (.two .no (.cut [(0, .str), (3, .int .i64), (31, .bool)] .no)))) .no))))) .no))),
  (21, (.two .no (.two .no (.two .no (.two .no (.two (.two .no (.one (.lp [(0, .ptr), (48, .int .i64), (49, .int .i64)] (.two .no (.two .no (.two .no (.cut [(0, .ptr), (48, .int .i64), (49, .int .i64)] .no))))))) .no)))))),
  (24, (.two .no (.two .no (.one (.lp [(0, .ptr), (1, .ptr), (4, .sl), (28, .sl), (29, .int .i64), (30, .int .i64)] (.two .no (.two .no (.two (.one (.two .no (.two .no (.two (.two .no (.cut [(0, .ptr), (1, .ptr), (4, .sl), (6, .int .i64), (7, .int .i64), (8, .int .i64), (28, .sl), (29, .int .i64), (30, .int .i64), (58, .bool)] .no)) (.cut [(0, .ptr), (1, .ptr), (4, .sl), (6, .int .i64), (7, .int .i64), (8, .int .i64), (28, .sl), (29, .int .i64), (30, .int .i64)] (.two .no (.two .no (.two .no (.cut [(0, .ptr), (1, .ptr), (4, .sl), (7, .int .i64), (8, .int .i64), (9, .ptr), (28, .sl), (29, .int .i64), (30, .int .i64), (87, .bool)] .no))))))))) (.cut [(0, .ptr), (1, .ptr), (4, .sl), (28, .sl), (29, .int .i64), (30, .int .i64)] .no))))))))),
  (31, (.two .no (.two .no (.two (.two .no (.one (.lp [(3, .sl), (6, .sl), (7, .int .i64), (8, .int .i64)] .no))) .no)))),
  (33, (.two .no (.two .no (.two (.two .no (.one (.lp [(1, .int .i64), (5, .sl), (6, .int .i64), (7, .int .i64)] .no))) .no)))),
  (54, (.two .no (.two .no (.cut [(0, .sl), (1, .int .i64)] (.two .no (.two (.two .no (.cut [(0, .sl), (6, .int .u64), (26, .bool)] .no)) (.cut [(0, .sl), (6, .int .u64)] (.two .no (.two .no (.two (.one (.lp [(7, .sl), (8, .int .i64)] .no)) .no))))))))))]

/-- a pointer that is not nil -/
def nilP (o : Option Addr) (K : Addr → Res) : Res := nilK (.pointer o) fun v => asP v fun o => optK o K
theorem nilP_s (a : Addr) (K : Addr → Res) : nilP (some a) K = K a := rfl
/-- a call of a function value -/
def callvK (call : CallF) (g : Value) (vs : List Value) (H : Heap) (K : Value → Heap → Res) : Res := match g with
  | .func (.func f) first cap => callK (call f (first.toList ++ vs ++ cap.toList) H) K
  | _ => none
theorem callvK_s {call : CallF} {f : Nat} {first cap : Array Value} {vs : List Value} {H : Heap} {K : Value → Heap → Res} : callvK call (.func (.func f) first cap) vs H K = callK (call f (first.toList ++ vs ++ cap.toList) H) K := rfl
noncomputable def C : CProg := ⟨autoC (lookCT cutsL) [] Try.prog, fun f => if f = n_law23_known then some (sure n_law23_known n_law23_known) else none⟩
theorem exNN : ∃ n : Nat, n = 4000000000000 := ⟨_, rfl⟩
noncomputable def NN : Nat := Classical.choose exNN
theorem NN_eq : NN = 4000000000000 := Classical.choose_spec exNN
noncomputable def X (d : Nat) : CallF := callD C NN d
noncomputable def cd (f : Nat) (p : List Nat) : CCode := cdC (lookCT cutsL) [] Try.prog f p
noncomputable def rs (f : Nat) : List CRes := rsC [] Try.prog f
end Go.Proofs.Ytkkhljcjjhcnhaa.dec

namespace Go.Proofs.Ytkkhljcjjhcnhaa.dec
open Go Go.Cm
/-! porthole/grid.copied -/
noncomputable def grid_copied_k111 (d : Nat) : Kt := run (X d) NN (cd 31 [1, 1, 1]) (retK (rs 31)) [] (retK (rs 31))
noncomputable def grid_copied_l11010 (d : Nat) (m0 : Nat) : Kt := iter (fun k => run (X d) NN (cd 31 [1, 1, 0, 1, 0, 0]) (backK [(3, .sl), (6, .sl), (7, .int .i64), (8, .int .i64)] (opq k)) [(0, (grid_copied_k111 d))] (retK (rs 31))) m0
noncomputable def grid_copied_p11010 (d : Nat) (m0 : Nat) (x3 : Sl) (x6 : Sl) (x7 : Int) (x8 : Int) (H : Heap) : Res := opq (grid_copied_l11010 d m0) [(3, x3.v), (6, x6.v), (7, .int .i64 x7), (8, .int .i64 x8)] H
theorem grid_copied_p11010_s (d : Nat) (m0 : Nat) (x3 : Sl) (x6 : Sl) (x7 : Int) (x8 : Int) (H : Heap) : grid_copied_p11010 d (m0 + 1) x3 x6 x7 x8 H =
  if (decide (x8 < x7)) = true then
  (optK x6.a fun a1 =>
    if 0 ≤ x8 ∧ x8 < (x6.n : Int) then
    optK (Heap.ld1 H (ap a1 (((x8).toNat) * 1))) fun v2 =>
    asSL v2 fun l3 =>
    callK (X d n_slices_Clone_S_api_Cell_api_Cell [l3.v] H) fun v4 H5 =>
    asSL v4 fun l6 =>
    newK H5 (.cells [l6.v] t_S_api_Cell false 0 false) fun p7 H8 =>
    appendK t_S_api_Cell 1 24 false x3.v (.slice (some ⟨p7, 0, none⟩) 1 1) H8 fun v9 H10 =>
    asSL v9 fun l11 =>
    grid_copied_p11010 d m0 l11 x6 x7 (IntKind.wrap .i64 (x8 + 1)) H10
    else none)
  else
  (some (x3.v, H)) := (opq_app _ _ _).trans <| by kernel_rfl
theorem grid_copied_eq (d : Nat) (x0 : Sl) (H : Heap) : X (d + 1) n_grid_copied [x0.v] H =
  grid_copied_p11010 d NN Sl.nil x0 (x0.n : Int) 0 H := by kernel_rfl
end Go.Proofs.Ytkkhljcjjhcnhaa.dec

namespace Go.Proofs.Ytkkhljcjjhcnhaa.dec
open Go Go.Cm
/-! porthole/grid.line -/
theorem grid_line_eq (d : Nat) (x0 : Int) (H : Heap) : X (d + 1) n_grid_line [.int .i64 x0] H =
  callK (X d n_grid_blank [] H) fun v1 H2 =>
  asA v1 fun c3 =>
  optK (fillL [(0, 4)] [.agg c3] [.int .i32 0, .int .i64 0, .int .i64 0, .int .i64 0]) fun l4 =>
  newK H2 (.cells l4 t_api_Cell false 0 false) fun p5 H6 =>
  callK (X d n_slices_Repeat_S_api_Cell_api_Cell [.slice (some ⟨p5, 0, none⟩) 1 1, .int .i64 x0] H6) fun v7 H8 =>
  asSL v7 fun l9 =>
  some (l9.v, H8) := by kernel_rfl
end Go.Proofs.Ytkkhljcjjhcnhaa.dec

namespace Go.Proofs.Ytkkhljcjjhcnhaa.dec
open Go Go.Cm
/-! porthole/grid.sheet -/
noncomputable def grid_sheet_k111 (d : Nat) : Kt := run (X d) NN (cd 33 [1, 1, 1]) (retK (rs 33)) [] (retK (rs 33))
noncomputable def grid_sheet_l11010 (d : Nat) (m0 : Nat) : Kt := iter (fun k => run (X d) NN (cd 33 [1, 1, 0, 1, 0, 0]) (backK [(1, .int .i64), (5, .sl), (6, .int .i64), (7, .int .i64)] (opq k)) [(0, (grid_sheet_k111 d))] (retK (rs 33))) m0
noncomputable def grid_sheet_p11010 (d : Nat) (m0 : Nat) (x1 : Int) (x5 : Sl) (x6 : Int) (x7 : Int) (H : Heap) : Res := opq (grid_sheet_l11010 d m0) [(1, .int .i64 x1), (5, x5.v), (6, .int .i64 x6), (7, .int .i64 x7)] H
theorem grid_sheet_p11010_s (d : Nat) (m0 : Nat) (x1 : Int) (x5 : Sl) (x6 : Int) (x7 : Int) (H : Heap) : grid_sheet_p11010 d (m0 + 1) x1 x5 x6 x7 H =
  if (decide (x7 < x6)) = true then
  (callK (X d n_grid_line [.int .i64 x1] H) fun v1 H2 =>
    asSL v1 fun l3 =>
    newK H2 (.cells [l3.v] t_S_api_Cell false 0 false) fun p4 H5 =>
    appendK t_S_api_Cell 1 24 false x5.v (.slice (some ⟨p4, 0, none⟩) 1 1) H5 fun v6 H7 =>
    asSL v6 fun l8 =>
    grid_sheet_p11010 d m0 x1 l8 x6 (IntKind.wrap .i64 (x7 + 1)) H7)
  else
  (some (x5.v, H)) := (opq_app _ _ _).trans <| by kernel_rfl
theorem grid_sheet_eq (d : Nat) (x0 : Int) (x1 : Int) (H : Heap) : X (d + 1) n_grid_sheet [.int .i64 x0, .int .i64 x1] H =
  grid_sheet_p11010 d NN x1 Sl.nil x0 0 H := by kernel_rfl
end Go.Proofs.Ytkkhljcjjhcnhaa.dec

namespace Go.Proofs.Ytkkhljcjjhcnhaa.dec
open Go Go.Cm
/-! slices.Clone[[]porthole/api.Cell,porthole/api.Cell] -/
theorem slices_Clone_S_api_Cell_api_Cell_eq (d : Nat) (x0 : Sl) (H : Heap) : X (d + 1) n_slices_Clone_S_api_Cell_api_Cell [x0.v] H =
  if x0.a.isNone = true then
  (some (.slice none 0 0, H))
  else
  (newK H (.cells [] t_api_Cell false 0 false) fun p1 H2 =>
    appendK t_api_Cell 4 32 false (.slice (some ⟨p1, 0, none⟩) 0 0) x0.v H2 fun v3 H4 =>
    asSL v3 fun l5 =>
    some (l5.v, H4)) := by kernel_rfl
end Go.Proofs.Ytkkhljcjjhcnhaa.dec

namespace Go.Proofs.Ytkkhljcjjhcnhaa.dec
open Go Go.Cm
/-! slices.Repeat[[]porthole/api.Cell,porthole/api.Cell] -/
noncomputable def slices_Repeat_S_api_Cell_api_Cell_k11011 (d : Nat) : Kt := run (X d) NN (cd 54 [1, 1, 0, 1, 1]) (retK (rs 54)) [] (retK (rs 54))
noncomputable def slices_Repeat_S_api_Cell_api_Cell_k110110111 (d : Nat) : Kt := run (X d) NN (cd 54 [1, 1, 0, 1, 1, 0, 1, 1, 1]) (retK (rs 54)) [] (retK (rs 54))
noncomputable def slices_Repeat_S_api_Cell_api_Cell_l1101101100 (d : Nat) (m0 : Nat) : Kt := iter (fun k => run (X d) NN (cd 54 [1, 1, 0, 1, 1, 0, 1, 1, 0, 0, 0]) (backK [(7, .sl), (8, .int .i64)] (opq k)) [(0, (slices_Repeat_S_api_Cell_api_Cell_k110110111 d))] (retK (rs 54))) m0
noncomputable def slices_Repeat_S_api_Cell_api_Cell_p11 (d : Nat) (x0 : Sl) (x1 : Int) (H : Heap) : Res := opq (run (X d) NN (cd 54 [1, 1, 0]) (retK (rs 54)) [] (retK (rs 54))) [(0, x0.v), (1, .int .i64 x1)] H
noncomputable def slices_Repeat_S_api_Cell_api_Cell_p110101 (d : Nat) (x0 : Sl) (x6 : Int) (x26 : Bool) (H : Heap) : Res := opq (run (X d) NN (cd 54 [1, 1, 0, 1, 0, 1, 0]) (slices_Repeat_S_api_Cell_api_Cell_k11011 d) [] (retK (rs 54))) [(0, x0.v), (6, .int .u64 x6), (26, .bool x26)] H
noncomputable def slices_Repeat_S_api_Cell_api_Cell_p11011 (d : Nat) (x0 : Sl) (x6 : Int) (H : Heap) : Res := opq (run (X d) NN (cd 54 [1, 1, 0, 1, 1, 0]) (retK (rs 54)) [] (retK (rs 54))) [(0, x0.v), (6, .int .u64 x6)] H
noncomputable def slices_Repeat_S_api_Cell_api_Cell_p1101101100 (d : Nat) (m0 : Nat) (x7 : Sl) (x8 : Int) (H : Heap) : Res := opq (slices_Repeat_S_api_Cell_api_Cell_l1101101100 d m0) [(7, x7.v), (8, .int .i64 x8)] H
theorem slices_Repeat_S_api_Cell_api_Cell_p11_eq (d : Nat) (x0 : Sl) (x1 : Int) (H : Heap) : slices_Repeat_S_api_Cell_api_Cell_p11 d x0 x1 H =
  callK (X d n_math_bits_Mul [.int .u64 (IntKind.wrap .u64 (x0.n : Int)), .int .u64 (IntKind.wrap .u64 x1)] H) fun v1 H2 =>
  castT [.int .u64, .int .u64] v1 fun l3 =>
  castT [.int .u64, .int .u64] (.tuple ⟨l3⟩) fun l4 =>
  optK l4[0]? fun v5 =>
  asI .u64 v5 fun n6 =>
  optK l4[1]? fun v7 =>
  asI .u64 v7 fun n8 =>
  if (decide ((0 : Int) < n6)) = true then
  (slices_Repeat_S_api_Cell_api_Cell_p110101 d x0 n8 true H2)
  else
  (slices_Repeat_S_api_Cell_api_Cell_p110101 d x0 n8 (decide ((9223372036854775807 : Int) < n8)) H2) := (opq_app _ _ _).trans <| by kernel_rfl
theorem slices_Repeat_S_api_Cell_api_Cell_p110101_eq (d : Nat) (x0 : Sl) (x6 : Int) (x26 : Bool) (H : Heap) : slices_Repeat_S_api_Cell_api_Cell_p110101 d x0 x6 x26 H =
  if x26 = true then
  (none)
  else
  (slices_Repeat_S_api_Cell_api_Cell_p11011 d x0 x6 H) := (opq_app _ _ _).trans <| by kernel_rfl
theorem slices_Repeat_S_api_Cell_api_Cell_p11011_eq (d : Nat) (x0 : Sl) (x6 : Int) (H : Heap) : slices_Repeat_S_api_Cell_api_Cell_p11011 d x0 x6 H =
  effK (.mkSl t_api_Cell 4 32 [.int .i32 0, .int .i64 0, .int .i64 0, .int .i64 0]) [.int .i64 (IntKind.wrap .i64 x6), .int .i64 (IntKind.wrap .i64 x6)] H fun v1 H2 =>
  asSL v1 fun l3 =>
  effK (.copy 4 false) [l3.v, x0.v] H2 fun v4 H5 =>
  asI .i64 v4 fun n6 =>
  slices_Repeat_S_api_Cell_api_Cell_p1101101100 d NN l3 n6 H5 := (opq_app _ _ _).trans <| by kernel_rfl
theorem slices_Repeat_S_api_Cell_api_Cell_p1101101100_s (d : Nat) (m0 : Nat) (x7 : Sl) (x8 : Int) (H : Heap) : slices_Repeat_S_api_Cell_api_Cell_p1101101100 d (m0 + 1) x7 x8 H =
  if (decide (x8 < (x7.n : Int))) = true then
  (optK (readD (.subSl t_api_Cell 4 true false false) [x7.v, .int .i64 x8] H) fun v1 =>
    asSL v1 fun l2 =>
    optK (readD (.subSl t_api_Cell 4 false true false) [x7.v, .int .i64 x8] H) fun v3 =>
    asSL v3 fun l4 =>
    effK (.copy 4 false) [l2.v, l4.v] H fun v5 H6 =>
    asI .i64 v5 fun n7 =>
    slices_Repeat_S_api_Cell_api_Cell_p1101101100 d m0 x7 (IntKind.wrap .i64 (x8 + n7)) H6)
  else
  (some (x7.v, H)) := (opq_app _ _ _).trans <| by kernel_rfl
theorem slices_Repeat_S_api_Cell_api_Cell_eq (d : Nat) (x0 : Sl) (x1 : Int) (H : Heap) : X (d + 1) n_slices_Repeat_S_api_Cell_api_Cell [x0.v, .int .i64 x1] H =
  if (decide (x1 < 0)) = true then
  (none)
  else
  (slices_Repeat_S_api_Cell_api_Cell_p11 d x0 x1 H) := by kernel_rfl
end Go.Proofs.Ytkkhljcjjhcnhaa.dec

namespace Go.Proofs.Ytkkhljcjjhcnhaa.dec
open Go Go.Cm
/-! porthole/grid.blank -/
theorem grid_blank_eq (d : Nat) (H : Heap) : X (d + 1) n_grid_blank [] H =
  newK H (.cells [.int .i32 0, .int .i64 0, .int .i64 0, .int .i64 0] t_api_Cell false 0 false) fun p1 H2 =>
  optK (Heap.stN H2 ⟨p1, 0, none⟩ [.int .i32 32, .int .i64 0, .int .i64 0, .int .i64 0]) fun H3 =>
  retK [.cell 0 4 true] [(0, P0 p1)] H3 := by kernel_rfl
end Go.Proofs.Ytkkhljcjjhcnhaa.dec

namespace Go.Proofs.Ytkkhljcjjhcnhaa.dec
open Go Go.Cm
/-! math/bits.Mul -/
theorem math_bits_Mul_eq (d : Nat) (x0 : Int) (x1 : Int) (H : Heap) : X (d + 1) n_math_bits_Mul [.int .u64 x0, .int .u64 x1] H =
  callK (X d n_math_bits_Mul64 [.int .u64 x0, .int .u64 x1] H) fun v1 H2 =>
  castT [.int .u64, .int .u64] v1 fun l3 =>
  castT [.int .u64, .int .u64] (.tuple ⟨l3⟩) fun l4 =>
  optK l4[0]? fun v5 =>
  asI .u64 v5 fun n6 =>
  optK l4[1]? fun v7 =>
  asI .u64 v7 fun n8 =>
  some (.tuple #[.int .u64 n6, .int .u64 n8], H2) := by kernel_rfl
end Go.Proofs.Ytkkhljcjjhcnhaa.dec

namespace Go.Proofs.Ytkkhljcjjhcnhaa.dec
open Go Go.Cm
/-! math/bits.Mul64 -/
theorem math_bits_Mul64_eq (d : Nat) (x0 : Int) (x1 : Int) (H : Heap) : X (d + 1) n_math_bits_Mul64 [.int .u64 x0, .int .u64 x1] H =
  some (.tuple #[.int .u64 (IntKind.wrap .u64 ((IntKind.wrap .u64 ((IntKind.wrap .u64 ((Int.fdiv x0 4294967296) * (Int.fdiv x1 4294967296))) + (Int.fdiv (IntKind.wrap .u64 ((IntKind.wrap .u64 ((Int.fdiv x0 4294967296) * (bitsI .and .u64 x1 4294967295))) + (Int.fdiv (IntKind.wrap .u64 ((bitsI .and .u64 x0 4294967295) * (bitsI .and .u64 x1 4294967295))) 4294967296))) 4294967296))) + (Int.fdiv (IntKind.wrap .u64 ((bitsI .and .u64 (IntKind.wrap .u64 ((IntKind.wrap .u64 ((Int.fdiv x0 4294967296) * (bitsI .and .u64 x1 4294967295))) + (Int.fdiv (IntKind.wrap .u64 ((bitsI .and .u64 x0 4294967295) * (bitsI .and .u64 x1 4294967295))) 4294967296))) 4294967295) + (IntKind.wrap .u64 ((bitsI .and .u64 x0 4294967295) * (Int.fdiv x1 4294967296))))) 4294967296))), .int .u64 (IntKind.wrap .u64 (x0 * x1))], H) := by kernel_rfl
end Go.Proofs.Ytkkhljcjjhcnhaa.dec

namespace Go.Proofs.Ytkkhljcjjhcnhaa.dec
open Go Go.Cm
/-! porthole/grid.New -/
theorem grid_New_eq (d : Nat) (x0 : Int) (x1 : Int) (H : Heap) : X (d + 1) n_grid_New [.int .i64 x0, .int .i64 x1] H =
  callK (X d n_grid_size [.int .i64 x0, .int .i64 x1] H) fun v1 H2 =>
  asB v1 fun b3 =>
  if (!b3) = true then
  (some (.tuple #[.pointer none, .int .i64 1], H2))
  else
  (callK (X d n_vt_New [] H2) fun v4 H5 =>
    asP v4 fun o6 =>
    newK H5 (.cells [.int .i64 x0, .int .i64 x1, .slice none 0 0, .int .i64 0, .int .i64 0, .bool false, .int .i32 0, .int .i64 0, .int .i64 0, .int .i64 0, .int .i64 0, .int .i64 0, .bool false, .int .i32 0, .int .i64 0, .int .i64 0, .int .i64 0, .int .i64 0, .int .i64 0, .bool false, .bool false, .bool false, .slice none 0 0, .slice none 0 0, .int .i64 0, .int .i64 0, .bool false, .int .i32 0, .int .i64 0, .int .i64 0, .int .i64 0, .slice none 0 0, .pointer o6] t_grid_Grid false 0 false) fun p7 H8 =>
    callK (X d n_grid_Grid_reset [P0 p7] H8) fun _ H10 =>
    some (.tuple #[P0 p7, .int .i64 0], H10)) := by kernel_rfl
end Go.Proofs.Ytkkhljcjjhcnhaa.dec

namespace Go.Proofs.Ytkkhljcjjhcnhaa.dec
open Go Go.Cm
/-! porthole/grid.size -/
theorem grid_size_eq (d : Nat) (x0 : Int) (x1 : Int) (H : Heap) : X (d + 1) n_grid_size [.int .i64 x0, .int .i64 x1] H =
  if (decide ((1 : Int) ≤ x0)) = true then
  (if (decide (x0 ≤ 60)) = true then
    (if (decide ((1 : Int) ≤ x1)) = true then
      (some (.bool (decide (x1 ≤ 120)), H))
      else
      (some (.bool false, H)))
    else
    (some (.bool false, H)))
  else
  (some (.bool false, H)) := by kernel_rfl
end Go.Proofs.Ytkkhljcjjhcnhaa.dec

namespace Go.Proofs.Ytkkhljcjjhcnhaa.dec
open Go Go.Cm
/-! porthole/vt.New -/
theorem vt_New_eq (d : Nat) (H : Heap) : X (d + 1) n_vt_New [] H =
  callK (X d n_utf_New [] H) fun v1 H2 =>
  asP v1 fun o3 =>
  newK H2 (.cells [.pointer o3, .int .i64 0, .bool false, .bool false, .bool false, .bool false, .slice none 0 0] t_vt_Parser false 0 false) fun p4 H5 =>
  some (P0 p4, H5) := by kernel_rfl
end Go.Proofs.Ytkkhljcjjhcnhaa.dec

namespace Go.Proofs.Ytkkhljcjjhcnhaa.dec
open Go Go.Cm
/-! (*porthole/grid.Grid).reset -/
noncomputable def grid_Grid_reset_k11111 (d : Nat) : Kt := run (X d) NN (cd 21 [1, 1, 1, 1, 1]) (retK (rs 21)) [] (retK (rs 21))
noncomputable def grid_Grid_reset_l1111010 (d : Nat) (m0 : Nat) : Kt := iter (fun k => run (X d) NN (cd 21 [1, 1, 1, 1, 0, 1, 0, 0]) (backK [(0, .ptr), (48, .int .i64), (49, .int .i64)] (opq k)) [(0, (grid_Grid_reset_k11111 d))] (retK (rs 21))) m0
noncomputable def grid_Grid_reset_p1111010 (d : Nat) (m0 : Nat) (x0 : Nat) (x48 : Int) (x49 : Int) (H : Heap) : Res := opq (grid_Grid_reset_l1111010 d m0) [(0, P0 x0), (48, .int .i64 x48), (49, .int .i64 x49)] H
noncomputable def grid_Grid_reset_p11110100111 (d : Nat) (m0 : Nat) (x0 : Nat) (x48 : Int) (x49 : Int) (H : Heap) : Res := opq (run (X d) NN (cd 21 [1, 1, 1, 1, 0, 1, 0, 0, 1, 1, 1, 0]) (backK [(0, .ptr), (48, .int .i64), (49, .int .i64)] (opq (grid_Grid_reset_l1111010 d m0))) [(0, (grid_Grid_reset_k11111 d))] (retK (rs 21))) [(0, P0 x0), (48, .int .i64 x48), (49, .int .i64 x49)] H
theorem grid_Grid_reset_p1111010_s (d : Nat) (m0 : Nat) (x0 : Nat) (x48 : Int) (x49 : Int) (H : Heap) : grid_Grid_reset_p1111010 d (m0 + 1) x0 x48 x49 H =
  if (decide (x49 < x48)) = true then
  (optK (Heap.ld1 H ⟨x0, 22, none⟩) fun v1 =>
    asSL v1 fun l2 =>
    if (decide ((0 : Int) < x49)) = true then
    (newK H (.cells [.bool (decide (Int.tmod x49 8 = 0))] t_bool false 0 false) fun p3 H4 =>
      appendK t_bool 1 1 false l2.v (.slice (some ⟨p3, 0, none⟩) 1 1) H4 fun v5 H6 =>
      asSL v5 fun l7 =>
      optK (Heap.st1 H6 ⟨x0, 22, none⟩ l7.v) fun H8 =>
      grid_Grid_reset_p11110100111 d m0 x0 x48 x49 H8)
    else
    (newK H (.cells [.bool false] t_bool false 0 false) fun p9 H10 =>
      appendK t_bool 1 1 false l2.v (.slice (some ⟨p9, 0, none⟩) 1 1) H10 fun v11 H12 =>
      asSL v11 fun l13 =>
      optK (Heap.st1 H12 ⟨x0, 22, none⟩ l13.v) fun H14 =>
      grid_Grid_reset_p11110100111 d m0 x0 x48 x49 H14))
  else
  (optK (Heap.stN H ⟨x0, 6, none⟩ [.int .i32 0, .int .i64 0, .int .i64 0, .int .i64 0]) fun H15 =>
    optK (Heap.stN H15 ⟨x0, 13, none⟩ [.int .i32 0, .int .i64 0, .int .i64 0, .int .i64 0]) fun H16 =>
    some (.tuple #[], H16)) := (opq_app _ _ _).trans <| by kernel_rfl
theorem grid_Grid_reset_p11110100111_eq (d : Nat) (m0 : Nat) (x0 : Nat) (x48 : Int) (x49 : Int) (H : Heap) : grid_Grid_reset_p11110100111 d m0 x0 x48 x49 H =
  grid_Grid_reset_p1111010 d m0 x0 x48 (IntKind.wrap .i64 (x49 + 1)) H := (opq_app _ _ _).trans <| by kernel_rfl
theorem grid_Grid_reset_eq (d : Nat) (x0 : Nat) (H : Heap) : X (d + 1) n_grid_Grid_reset [P0 x0] H =
  optK (Heap.ld1 H ⟨x0, 0, none⟩) fun v1 =>
  asI .i64 v1 fun n2 =>
  optK (Heap.ld1 H ⟨x0, 1, none⟩) fun v3 =>
  asI .i64 v3 fun n4 =>
  optK (Heap.ld1 H ⟨x0, 31, none⟩) fun v5 =>
  asSL v5 fun l6 =>
  optK (Heap.ld1 H ⟨x0, 32, none⟩) fun v7 =>
  asP v7 fun o8 =>
  optK (Heap.stN H ⟨x0, 0, none⟩ [.int .i64 n2, .int .i64 n4, .slice none 0 0, .int .i64 0, .int .i64 0, .bool false, .int .i32 0, .int .i64 0, .int .i64 0, .int .i64 0, .int .i64 0, .int .i64 0, .bool false, .int .i32 0, .int .i64 0, .int .i64 0, .int .i64 0, .int .i64 0, .int .i64 0, .bool false, .bool false, .bool false, .slice none 0 0, .slice none 0 0, .int .i64 0, .int .i64 0, .bool false, .int .i32 0, .int .i64 0, .int .i64 0, .int .i64 0, l6.v, .pointer o8]) fun H9 =>
  optK (Heap.ld1 H9 ⟨x0, 0, none⟩) fun v10 =>
  asI .i64 v10 fun n11 =>
  optK (Heap.ld1 H9 ⟨x0, 1, none⟩) fun v12 =>
  asI .i64 v12 fun n13 =>
  callK (X d n_grid_sheet [.int .i64 n11, .int .i64 n13] H9) fun v14 H15 =>
  asSL v14 fun l16 =>
  optK (Heap.st1 H15 ⟨x0, 2, none⟩ l16.v) fun H17 =>
  optK (Heap.ld1 H17 ⟨x0, 0, none⟩) fun v18 =>
  asI .i64 v18 fun n19 =>
  optK (Heap.st1 H17 ⟨x0, 18, none⟩ (.int .i64 (IntKind.wrap .i64 (n19 - 1)))) fun H20 =>
  optK (Heap.st1 H20 ⟨x0, 19, none⟩ (.bool true)) fun H21 =>
  optK (Heap.ld1 H21 ⟨x0, 1, none⟩) fun v22 =>
  asI .i64 v22 fun n23 =>
  grid_Grid_reset_p1111010 d NN x0 n23 0 H21 := by kernel_rfl
end Go.Proofs.Ytkkhljcjjhcnhaa.dec

namespace Go.Proofs.Ytkkhljcjjhcnhaa.dec
open Go Go.Cm
/-! porthole/utf.New -/
theorem utf_New_eq (d : Nat) (H : Heap) : X (d + 1) n_utf_New [] H =
  newK H (.cells [.slice none 0 0] t_utf_Decoder false 0 false) fun p1 H2 =>
  some (P0 p1, H2) := by kernel_rfl
end Go.Proofs.Ytkkhljcjjhcnhaa.dec

namespace Go.Proofs.Ytkkhljcjjhcnhaa.dec
open Go Go.Cm
/-! (*porthole/grid.Grid).Screen -/
theorem grid_Grid_Screen_eq (d : Nat) (x0 : Nat) (H : Heap) : X (d + 1) n_grid_Grid_Screen [P0 x0] H =
  newK H (.cells [.int .i64 0, .int .i64 0, .slice none 0 0, .int .i64 0, .int .i64 0, .bool false] t_api_Screen false 0 false) fun p1 H2 =>
  optK (Heap.ld1 H2 ⟨x0, 0, none⟩) fun v3 =>
  asI .i64 v3 fun n4 =>
  optK (Heap.ld1 H2 ⟨x0, 1, none⟩) fun v5 =>
  asI .i64 v5 fun n6 =>
  optK (Heap.ld1 H2 ⟨x0, 2, none⟩) fun v7 =>
  asSL v7 fun l8 =>
  callK (X d n_grid_copied [l8.v] H2) fun v9 H10 =>
  asSL v9 fun l11 =>
  optK (Heap.ld1 H10 ⟨x0, 3, none⟩) fun v12 =>
  asI .i64 v12 fun n13 =>
  optK (Heap.ld1 H10 ⟨x0, 4, none⟩) fun v14 =>
  asI .i64 v14 fun n15 =>
  optK (Heap.ld1 H10 ⟨x0, 21, none⟩) fun v16 =>
  asB v16 fun b17 =>
  optK (Heap.stN H10 ⟨p1, 0, none⟩ [.int .i64 n4, .int .i64 n6, l11.v, .int .i64 n13, .int .i64 n15, .bool b17]) fun H18 =>
  chk (rdsOk [H2, H10, H18] [⟨.load 1 false, [.pointer (some ⟨x0, 21, none⟩)], v16, 0, 1⟩, ⟨.load 1 false, [.pointer (some ⟨x0, 4, none⟩)], v14, 0, 1⟩, ⟨.load 1 false, [.pointer (some ⟨x0, 3, none⟩)], v12, 0, 1⟩, ⟨.load 1 false, [.pointer (some ⟨x0, 1, none⟩)], v5, 0, 1⟩, ⟨.load 1 false, [P0 x0], v3, 0, 1⟩]) (
    retK [.cell 2 6 true] [(2, P0 p1)] H18) := by kernel_rfl
end Go.Proofs.Ytkkhljcjjhcnhaa.dec

namespace Go.Proofs.Ytkkhljcjjhcnhaa.dec
open Go Go.Cm
/-! (*porthole/mux.Mux).window -/
theorem mux_Mux_window_eq (d : Nat) (x0 : Nat) (x1 : ByteArray) (H : Heap) : X (d + 1) n_mux_Mux_window [P0 x0, .string x1] H =
  optK (Heap.ld1 H ⟨x0, 2, none⟩) fun v1 =>
  asM v1 fun r2 =>
  optK (readD (.lookup (.str) (.pointer none) true) [.map r2, .string x1] H) fun v3 =>
  castT [.ptr, .bool] v3 fun l4 =>
  castT [.ptr, .bool] (.tuple ⟨l4⟩) fun l5 =>
  optK l5[0]? fun v6 =>
  asP v6 fun o7 =>
  optK l5[1]? fun v8 =>
  asB v8 fun b9 =>
  if (!b9) = true then
  (some (.pointer none, H))
  else
  (nilP o7 fun a10 =>
    optK (Heap.ld1 H (ap a10 0)) fun v11 =>
    asSL v11 fun l12 =>
    nilP o7 fun a13 =>
    optK (Heap.ld1 H (ap a13 1)) fun v14 =>
    asI .i64 v14 fun n15 =>
    optK l12.a fun a16 =>
    if 0 ≤ n15 ∧ n15 < (l12.n : Int) then
    optK (Heap.ld1 H (ap a16 (((n15).toNat) * 1))) fun v17 =>
    asP v17 fun o18 =>
    some (.pointer o18, H)
    else none) := by kernel_rfl
end Go.Proofs.Ytkkhljcjjhcnhaa.dec

namespace Go.Proofs.Ytkkhljcjjhcnhaa.dec
open Go Go.Cm
/-! (*porthole/mux.Mux).Input -/
theorem mux_Mux_Input_eq (d : Nat) (x0 : Nat) (x1 : ByteArray) (x2 : Sl) (H : Heap) : X (d + 1) n_mux_Mux_Input [P0 x0, .string x1, x2.v] H =
  callK (X d n_mux_Mux_window [P0 x0, .string x1] H) fun v1 H2 =>
  asP v1 fun o3 =>
  if o3.isNone = true then
  (some (.int .i64 14, H2))
  else
  (optK (Heap.ld1 H2 ⟨x0, 3, none⟩) fun v4 =>
    asM v4 fun r5 =>
    nilP o3 fun a6 =>
    optK (Heap.ld1 H2 (ap a6 1)) fun v7 =>
    asI .i64 v7 fun n8 =>
    optK (readD (.lookup (.int .i64) (.pointer none) false) [.map r5, .int .i64 n8] H2) fun v9 =>
    asP v9 fun o10 =>
    nilP o10 fun a11 =>
    optK (Heap.ld1 H2 (ap a11 1)) fun v12 =>
    asSL v12 fun l13 =>
    if (decide (IntKind.wrap .i64 (4096 - (l13.n : Int)) < (x2.n : Int))) = true then
    (some (.int .i64 2, H2))
    else
    (nilP o10 fun a14 =>
      optK (Heap.ld1 H2 (ap a14 1)) fun v15 =>
      asSL v15 fun l16 =>
      appendK t_uint8 1 1 false l16.v x2.v H2 fun v17 H18 =>
      asSL v17 fun l19 =>
      nilP o10 fun a20 =>
      optK (Heap.st1 H18 (ap a20 1) l19.v) fun H21 =>
      some (.int .i64 0, H21))) := by kernel_rfl
end Go.Proofs.Ytkkhljcjjhcnhaa.dec

namespace Go.Proofs.Ytkkhljcjjhcnhaa.dec
open Go Go.Cm
/-! (*porthole/mux.Mux).Pane -/
theorem mux_Mux_Pane_eq (d : Nat) (x0 : Nat) (x1 : Int) (H : Heap) : X (d + 1) n_mux_Mux_Pane [P0 x0, .int .i64 x1] H =
  newK H (.cells [.int .i64 0, .int .i64 0, .slice none 0 0, .int .i64 0, .int .i64 0, .bool false] t_api_Screen false 0 false) fun p1 H2 =>
  optK (Heap.ld1 H2 ⟨x0, 3, none⟩) fun v3 =>
  asM v3 fun r4 =>
  optK (readD (.lookup (.int .i64) (.pointer none) true) [.map r4, .int .i64 x1] H2) fun v5 =>
  castT [.ptr, .bool] v5 fun l6 =>
  castT [.ptr, .bool] (.tuple ⟨l6⟩) fun l7 =>
  optK l7[0]? fun v8 =>
  asP v8 fun o9 =>
  optK l7[1]? fun v10 =>
  asB v10 fun b11 =>
  if (!b11) = true then
  (optK (Heap.stN H2 ⟨p1, 0, none⟩ [.int .i64 0, .int .i64 0, .slice none 0 0, .int .i64 0, .int .i64 0, .bool false]) fun H12 =>
    retK [.cell 4 6 true, .tmp 5, .tmp 6] [(4, P0 p1), (5, .int .i64 0), (6, .bool false)] H12)
  else
  (nilP o9 fun a14 =>
    optK (Heap.ld1 H2 (ap a14 0)) fun v15 =>
    asP v15 fun o16 =>
    callK (X d n_grid_Grid_Screen [.pointer o16] H2) fun v17 H18 =>
    asA v17 fun c19 =>
    nilP o9 fun a20 =>
    optK (Heap.ld1 H18 (ap a20 1)) fun v21 =>
    asSL v21 fun l22 =>
    effK (.store 6) [P0 p1, .agg c19] H18 fun _ H24 =>
    chk (rdsOk [H2, H18, H24] [⟨.load 1 false, [.pointer (some (ap a20 1))], v21, 0, 2⟩]) (
      retK [.cell 4 6 true, .tmp 5, .tmp 6] [(4, P0 p1), (5, .int .i64 (l22.n : Int)), (6, .bool true)] H24)) := by kernel_rfl
end Go.Proofs.Ytkkhljcjjhcnhaa.dec

namespace Go.Proofs.Ytkkhljcjjhcnhaa.dec
open Go Go.Cm
/-! (*porthole/mux.Mux).Take -/
theorem mux_Mux_Take_eq (d : Nat) (x0 : Nat) (x1 : Int) (x2 : Int) (H : Heap) : X (d + 1) n_mux_Mux_Take [P0 x0, .int .i64 x1, .int .i64 x2] H =
  optK (Heap.ld1 H ⟨x0, 3, none⟩) fun v1 =>
  asM v1 fun r2 =>
  optK (readD (.lookup (.int .i64) (.pointer none) true) [.map r2, .int .i64 x1] H) fun v3 =>
  castT [.ptr, .bool] v3 fun l4 =>
  castT [.ptr, .bool] (.tuple ⟨l4⟩) fun l5 =>
  optK l5[0]? fun v6 =>
  asP v6 fun o7 =>
  optK l5[1]? fun v8 =>
  asB v8 fun b9 =>
  if (!b9) = true then
  (some (.tuple #[.slice none 0 0, .bool false], H))
  else
  (nilP o7 fun a10 =>
    optK (Heap.ld1 H (ap a10 1)) fun v11 =>
    asSL v11 fun l12 =>
    newK H (.cells [] t_uint8 false 0 false) fun p13 H14 =>
    nilP o7 fun a15 =>
    optK (Heap.ld1 H14 (ap a15 1)) fun v16 =>
    asSL v16 fun l17 =>
    optK (readD (.subSl t_uint8 1 false true false) [l17.v, .int .i64 (if (l12.n : Int) < (if x2 < 0 then 0 else x2) then (l12.n : Int) else (if x2 < 0 then 0 else x2))] H14) fun v18 =>
    asSL v18 fun l19 =>
    appendK t_uint8 1 1 false (.slice (some ⟨p13, 0, none⟩) 0 0) l19.v H14 fun v20 H21 =>
    asSL v20 fun l22 =>
    newK H21 (.cells [] t_uint8 false 0 false) fun p23 H24 =>
    nilP o7 fun a25 =>
    optK (Heap.ld1 H24 (ap a25 1)) fun v26 =>
    asSL v26 fun l27 =>
    optK (readD (.subSl t_uint8 1 true false false) [l27.v, .int .i64 (if (l12.n : Int) < (if x2 < 0 then 0 else x2) then (l12.n : Int) else (if x2 < 0 then 0 else x2))] H24) fun v28 =>
    asSL v28 fun l29 =>
    appendK t_uint8 1 1 false (.slice (some ⟨p23, 0, none⟩) 0 0) l29.v H24 fun v30 H31 =>
    asSL v30 fun l32 =>
    nilP o7 fun a33 =>
    optK (Heap.st1 H31 (ap a33 1) l32.v) fun H34 =>
    some (.tuple #[l22.v, .bool true], H34)) := by kernel_rfl
end Go.Proofs.Ytkkhljcjjhcnhaa.dec

namespace Go.Proofs.Ytkkhljcjjhcnhaa.dec
open Go Go.Cm
/-! (*porthole/mux.Mux).fresh -/
theorem mux_Mux_fresh_eq (d : Nat) (x0 : Nat) (H : Heap) : X (d + 1) n_mux_Mux_fresh [P0 x0] H =
  optK (Heap.ld1 H ⟨x0, 4, none⟩) fun v1 =>
  asI .i64 v1 fun n2 =>
  callK (X d n_layout_New [.int .i64 n2] H) fun v3 H4 =>
  asP v3 fun o5 =>
  optK (Heap.ld1 H4 ⟨x0, 4, none⟩) fun v6 =>
  asI .i64 v6 fun n7 =>
  newK H4 (.cells [.pointer o5, .int .i64 n7, .bool false] t_mux_window false 0 false) fun p8 H9 =>
  chk (rdsOk [H, H4, H9] [⟨.load 1 false, [.pointer (some ⟨x0, 4, none⟩)], v6, 0, 1⟩]) (
    callK (X d n_mux_Mux_make [P0 x0] H9) fun _ H11 =>
    callK (X d n_mux_Mux_fit [P0 x0, P0 p8] H11) fun _ H13 =>
    some (P0 p8, H13)) := by kernel_rfl
end Go.Proofs.Ytkkhljcjjhcnhaa.dec

namespace Go.Proofs.Ytkkhljcjjhcnhaa.dec
open Go Go.Cm
/-! (*porthole/mux.Mux).make -/
theorem mux_Mux_make_eq (d : Nat) (x0 : Nat) (H : Heap) : X (d + 1) n_mux_Mux_make [P0 x0] H =
  optK (Heap.ld1 H ⟨x0, 0, none⟩) fun v1 =>
  asI .i64 v1 fun n2 =>
  optK (Heap.ld1 H ⟨x0, 1, none⟩) fun v3 =>
  asI .i64 v3 fun n4 =>
  callK (X d n_grid_New [.int .i64 n2, .int .i64 n4] H) fun v5 H6 =>
  castT [.ptr, .int .i64] v5 fun l7 =>
  castT [.ptr, .int .i64] (.tuple ⟨l7⟩) fun l8 =>
  optK l8[0]? fun v9 =>
  asP v9 fun o10 =>
  optK l8[1]? fun v11 =>
  asI .i64 v11 fun _ =>
  optK (Heap.ld1 H6 ⟨x0, 3, none⟩) fun v13 =>
  asM v13 fun r14 =>
  optK (Heap.ld1 H6 ⟨x0, 4, none⟩) fun v15 =>
  asI .i64 v15 fun n16 =>
  newK H6 (.cells [.pointer o10, .slice none 0 0] t_mux_pane false 0 false) fun p17 H18 =>
  effK (.mapE (.upd (.int .i64))) [.map r14, .int .i64 n16, P0 p17] H18 fun _ H20 =>
  chk (rdsOk [H6, H18, H20] [⟨.load 1 false, [.pointer (some ⟨x0, 4, none⟩)], v15, 0, 1⟩, ⟨.load 1 false, [.pointer (some ⟨x0, 3, none⟩)], v13, 0, 1⟩]) (
    optK (Heap.ld1 H20 ⟨x0, 4, none⟩) fun v21 =>
    asI .i64 v21 fun n22 =>
    optK (Heap.st1 H20 ⟨x0, 4, none⟩ (.int .i64 (IntKind.wrap .i64 (n22 + 1)))) fun H23 =>
    some (.tuple #[], H23)) := by kernel_rfl
end Go.Proofs.Ytkkhljcjjhcnhaa.dec

namespace Go.Proofs.Ytkkhljcjjhcnhaa.dec
open Go Go.Cm
/-! (*porthole/mux.Mux).fit -/
noncomputable def mux_Mux_fit_l110 (d : Nat) (m0 : Nat) : Kt := iter (fun k => run (X d) NN (cd 24 [1, 1, 0, 0]) (backK [(0, .ptr), (1, .ptr), (4, .sl), (28, .sl), (29, .int .i64), (30, .int .i64)] (opq k)) [(0, (retK (rs 24)))] (retK (rs 24))) m0
noncomputable def mux_Mux_fit_k1100111 (d : Nat) (m0 : Nat) : Kt := run (X d) NN (cd 24 [1, 1, 0, 0, 1, 1, 1]) (backK [(0, .ptr), (1, .ptr), (4, .sl), (28, .sl), (29, .int .i64), (30, .int .i64)] (opq (mux_Mux_fit_l110 d m0))) [(0, (retK (rs 24)))] (retK (rs 24))
noncomputable def mux_Mux_fit_k11001100111 (d : Nat) (m0 : Nat) : Kt := run (X d) NN (cd 24 [1, 1, 0, 0, 1, 1, 0, 0, 1, 1, 1]) (mux_Mux_fit_k1100111 d m0) [(1, (mux_Mux_fit_k1100111 d m0)), (0, (retK (rs 24)))] (retK (rs 24))
noncomputable def mux_Mux_fit_p110 (d : Nat) (m0 : Nat) (x0 : Nat) (x1 : Nat) (x4 : Sl) (x28 : Sl) (x29 : Int) (x30 : Int) (H : Heap) : Res := opq (mux_Mux_fit_l110 d m0) [(0, P0 x0), (1, P0 x1), (4, x4.v), (28, x28.v), (29, .int .i64 x29), (30, .int .i64 x30)] H
noncomputable def mux_Mux_fit_p110011001101 (d : Nat) (m0 : Nat) (x0 : Nat) (x1 : Nat) (x4 : Sl) (x6 : Int) (x7 : Int) (x8 : Int) (x28 : Sl) (x29 : Int) (x30 : Int) (x58 : Bool) (H : Heap) : Res := opq (run (X d) NN (cd 24 [1, 1, 0, 0, 1, 1, 0, 0, 1, 1, 0, 1, 0]) (mux_Mux_fit_k11001100111 d m0) [(1, (mux_Mux_fit_k1100111 d m0)), (0, (retK (rs 24)))] (retK (rs 24))) [(0, P0 x0), (1, P0 x1), (4, x4.v), (6, .int .i64 x6), (7, .int .i64 x7), (8, .int .i64 x8), (28, x28.v), (29, .int .i64 x29), (30, .int .i64 x30), (58, .bool x58)] H
noncomputable def mux_Mux_fit_p11001100111 (d : Nat) (m0 : Nat) (x0 : Nat) (x1 : Nat) (x4 : Sl) (x6 : Int) (x7 : Int) (x8 : Int) (x28 : Sl) (x29 : Int) (x30 : Int) (H : Heap) : Res := opq (run (X d) NN (cd 24 [1, 1, 0, 0, 1, 1, 0, 0, 1, 1, 1, 0]) (mux_Mux_fit_k1100111 d m0) [(1, (mux_Mux_fit_k1100111 d m0)), (0, (retK (rs 24)))] (retK (rs 24))) [(0, P0 x0), (1, P0 x1), (4, x4.v), (6, .int .i64 x6), (7, .int .i64 x7), (8, .int .i64 x8), (28, x28.v), (29, .int .i64 x29), (30, .int .i64 x30)] H
noncomputable def mux_Mux_fit_p110011001110111 (d : Nat) (m0 : Nat) (x0 : Nat) (x1 : Nat) (x4 : Sl) (x7 : Int) (x8 : Int) (x9 : Option Addr) (x28 : Sl) (x29 : Int) (x30 : Int) (x87 : Bool) (H : Heap) : Res := opq (run (X d) NN (cd 24 [1, 1, 0, 0, 1, 1, 0, 0, 1, 1, 1, 0, 1, 1, 1, 0]) (mux_Mux_fit_k1100111 d m0) [(1, (mux_Mux_fit_k1100111 d m0)), (0, (retK (rs 24)))] (retK (rs 24))) [(0, P0 x0), (1, P0 x1), (4, x4.v), (7, .int .i64 x7), (8, .int .i64 x8), (9, .pointer x9), (28, x28.v), (29, .int .i64 x29), (30, .int .i64 x30), (87, .bool x87)] H
noncomputable def mux_Mux_fit_p1100111 (d : Nat) (m0 : Nat) (x0 : Nat) (x1 : Nat) (x4 : Sl) (x28 : Sl) (x29 : Int) (x30 : Int) (H : Heap) : Res := opq (run (X d) NN (cd 24 [1, 1, 0, 0, 1, 1, 1, 0]) (backK [(0, .ptr), (1, .ptr), (4, .sl), (28, .sl), (29, .int .i64), (30, .int .i64)] (opq (mux_Mux_fit_l110 d m0))) [(0, (retK (rs 24)))] (retK (rs 24))) [(0, P0 x0), (1, P0 x1), (4, x4.v), (28, x28.v), (29, .int .i64 x29), (30, .int .i64 x30)] H
theorem mux_Mux_fit_p110_s (d : Nat) (m0 : Nat) (x0 : Nat) (x1 : Nat) (x4 : Sl) (x28 : Sl) (x29 : Int) (x30 : Int) (H : Heap) : mux_Mux_fit_p110 d (m0 + 1) x0 x1 x4 x28 x29 x30 H =
  if (decide (x30 < x29)) = true then
  (optK x28.a fun a1 =>
    if 0 ≤ x30 ∧ x30 < (x28.n : Int) then
    optK (Heap.ld1 H (ap a1 (((x30).toNat) * 1))) fun v2 =>
    asI .i64 v2 fun n3 =>
    optK x4.a fun a4 =>
    if 0 ≤ x30 ∧ x30 < (x4.n : Int) then
    optK (Heap.ld1 H (ap (ap a4 (((x30).toNat) * 4)) 2)) fun v5 =>
    asI .i64 v5 fun n6 =>
    optK x4.a fun a7 =>
    if 0 ≤ x30 ∧ x30 < (x4.n : Int) then
    optK (Heap.ld1 H (ap (ap a7 (((x30).toNat) * 4)) 3)) fun v8 =>
    asI .i64 v8 fun n9 =>
    optK (Heap.ld1 H ⟨x1, 2, none⟩) fun v10 =>
    asB v10 fun b11 =>
    if b11 = true then
    (optK (Heap.ld1 H ⟨x1, 1, none⟩) fun v12 =>
      asI .i64 v12 fun n13 =>
      mux_Mux_fit_p110011001101 d m0 x0 x1 x4 n3 (if n6 < 1 then 1 else n6) (if n9 < 1 then 1 else n9) x28 x29 x30 (decide (n3 = n13)) H)
    else
    (mux_Mux_fit_p110011001101 d m0 x0 x1 x4 n3 (if n6 < 1 then 1 else n6) (if n9 < 1 then 1 else n9) x28 x29 x30 false H)
    else none
    else none
    else none)
  else
  (some (.tuple #[], H)) := (opq_app _ _ _).trans <| by kernel_rfl
theorem mux_Mux_fit_p110011001101_eq (d : Nat) (m0 : Nat) (x0 : Nat) (x1 : Nat) (x4 : Sl) (x6 : Int) (x7 : Int) (x8 : Int) (x28 : Sl) (x29 : Int) (x30 : Int) (x58 : Bool) (H : Heap) : mux_Mux_fit_p110011001101 d m0 x0 x1 x4 x6 x7 x8 x28 x29 x30 x58 H =
  if x58 = true then
  (optK (Heap.ld1 H ⟨x0, 0, none⟩) fun v1 =>
    asI .i64 v1 fun n2 =>
    optK (Heap.ld1 H ⟨x0, 1, none⟩) fun v3 =>
    asI .i64 v3 fun n4 =>
    mux_Mux_fit_p11001100111 d m0 x0 x1 x4 x6 n2 n4 x28 x29 x30 H)
  else
  (mux_Mux_fit_p11001100111 d m0 x0 x1 x4 x6 x7 x8 x28 x29 x30 H) := (opq_app _ _ _).trans <| by kernel_rfl
theorem mux_Mux_fit_p11001100111_eq (d : Nat) (m0 : Nat) (x0 : Nat) (x1 : Nat) (x4 : Sl) (x6 : Int) (x7 : Int) (x8 : Int) (x28 : Sl) (x29 : Int) (x30 : Int) (H : Heap) : mux_Mux_fit_p11001100111 d m0 x0 x1 x4 x6 x7 x8 x28 x29 x30 H =
  optK (Heap.ld1 H ⟨x0, 3, none⟩) fun v1 =>
  asM v1 fun r2 =>
  optK (readD (.lookup (.int .i64) (.pointer none) false) [.map r2, .int .i64 x6] H) fun v3 =>
  asP v3 fun o4 =>
  nilP o4 fun a5 =>
  optK (Heap.ld1 H (ap a5 0)) fun v6 =>
  asP v6 fun o7 =>
  callK (X d n_grid_Grid_Screen [.pointer o7] H) fun v8 H9 =>
  asA v8 fun c10 =>
  newK H9 (.cells [.int .i64 0, .int .i64 0, .slice none 0 0, .int .i64 0, .int .i64 0, .bool false] t_api_Screen false 0 false) fun p11 H12 =>
  effK (.store 6) [P0 p11, .agg c10] H12 fun _ H14 =>
  optK (Heap.ld1 H14 ⟨p11, 0, none⟩) fun v15 =>
  asI .i64 v15 fun n16 =>
  if (!decide (n16 = x7)) = true then
  (mux_Mux_fit_p110011001110111 d m0 x0 x1 x4 x7 x8 o7 x28 x29 x30 true H14)
  else
  (optK (Heap.ld1 H14 ⟨p11, 1, none⟩) fun v17 =>
    asI .i64 v17 fun n18 =>
    mux_Mux_fit_p110011001110111 d m0 x0 x1 x4 x7 x8 o7 x28 x29 x30 (!decide (n18 = x8)) H14) := (opq_app _ _ _).trans <| by kernel_rfl
theorem mux_Mux_fit_p110011001110111_eq (d : Nat) (m0 : Nat) (x0 : Nat) (x1 : Nat) (x4 : Sl) (x7 : Int) (x8 : Int) (x9 : Option Addr) (x28 : Sl) (x29 : Int) (x30 : Int) (x87 : Bool) (H : Heap) : mux_Mux_fit_p110011001110111 d m0 x0 x1 x4 x7 x8 x9 x28 x29 x30 x87 H =
  if x87 = true then
  (callK (X d n_grid_Grid_Resize [.pointer x9, .int .i64 x7, .int .i64 x8] H) fun v1 H2 =>
    asI .i64 v1 fun _ =>
    mux_Mux_fit_p1100111 d m0 x0 x1 x4 x28 x29 x30 H2)
  else
  (mux_Mux_fit_p1100111 d m0 x0 x1 x4 x28 x29 x30 H) := (opq_app _ _ _).trans <| by kernel_rfl
theorem mux_Mux_fit_p1100111_eq (d : Nat) (m0 : Nat) (x0 : Nat) (x1 : Nat) (x4 : Sl) (x28 : Sl) (x29 : Int) (x30 : Int) (H : Heap) : mux_Mux_fit_p1100111 d m0 x0 x1 x4 x28 x29 x30 H =
  mux_Mux_fit_p110 d m0 x0 x1 x4 x28 x29 (IntKind.wrap .i64 (x30 + 1)) H := (opq_app _ _ _).trans <| by kernel_rfl
theorem mux_Mux_fit_eq (d : Nat) (x0 : Nat) (x1 : Nat) (H : Heap) : X (d + 1) n_mux_Mux_fit [P0 x0, P0 x1] H =
  optK (Heap.ld1 H ⟨x1, 0, none⟩) fun v1 =>
  asP v1 fun o2 =>
  optK (Heap.ld1 H ⟨x0, 0, none⟩) fun v3 =>
  asI .i64 v3 fun n4 =>
  optK (Heap.ld1 H ⟨x0, 1, none⟩) fun v5 =>
  asI .i64 v5 fun n6 =>
  callK (X d n_layout_Tree_Places [.pointer o2, .int .i64 n4, .int .i64 n6] H) fun v7 H8 =>
  asSL v7 fun l9 =>
  optK (Heap.ld1 H8 ⟨x1, 0, none⟩) fun v10 =>
  asP v10 fun o11 =>
  callK (X d n_layout_Tree_Panes [.pointer o11] H8) fun v12 H13 =>
  asSL v12 fun l14 =>
  mux_Mux_fit_p110 d NN x0 x1 l9 l14 (l14.n : Int) 0 H13 := by kernel_rfl
end Go.Proofs.Ytkkhljcjjhcnhaa.dec

namespace Go.Proofs.Ytkkhljcjjhcnhaa.dec
open Go Go.Cm
/-! (*porthole/layout.Tree).Places -/
theorem layout_Tree_Places_eq (d : Nat) (x0 : Nat) (x1 : Int) (x2 : Int) (H : Heap) : X (d + 1) n_layout_Tree_Places [P0 x0, .int .i64 x1, .int .i64 x2] H =
  newK H (.cells [.slice none 0 0] t_S_api_Rect false 0 false) fun p1 H2 =>
  optK (Heap.ld1 H2 ⟨x0, 0, none⟩) fun v3 =>
  asP v3 fun o4 =>
  callK (X d n_layout_all [.int .i64 x1, .int .i64 x2] H2) fun v5 H6 =>
  asA v5 fun c7 =>
  callK (X d n_layout_node_walk [.pointer o4, .agg c7, .func (.func n_layout_Tree_Places_1) #[] #[P0 p1]] H6) fun _ H9 =>
  chk (rdsOk [H2, H6, H9] [⟨.load 1 false, [P0 x0], v3, 0, 1⟩]) (
    optK (Heap.ld1 H9 ⟨p1, 0, none⟩) fun v10 =>
    asSL v10 fun l11 =>
    some (l11.v, H9)) := by kernel_rfl
end Go.Proofs.Ytkkhljcjjhcnhaa.dec

namespace Go.Proofs.Ytkkhljcjjhcnhaa.dec
open Go Go.Cm
/-! (*porthole/layout.Tree).Panes -/
theorem layout_Tree_Panes_eq (d : Nat) (x0 : Nat) (H : Heap) : X (d + 1) n_layout_Tree_Panes [P0 x0] H =
  newK H (.cells [.slice none 0 0] t_S_int false 0 false) fun p1 H2 =>
  optK (Heap.ld1 H2 ⟨x0, 0, none⟩) fun v3 =>
  asP v3 fun o4 =>
  callK (X d n_layout_node_walk [.pointer o4, .agg #[.int .i64 0, .int .i64 0, .int .i64 0, .int .i64 0], .func (.func n_layout_Tree_Panes_1) #[] #[P0 p1]] H2) fun _ H6 =>
  optK (Heap.ld1 H6 ⟨p1, 0, none⟩) fun v7 =>
  asSL v7 fun l8 =>
  some (l8.v, H6) := by kernel_rfl
end Go.Proofs.Ytkkhljcjjhcnhaa.dec

namespace Go.Proofs.Ytkkhljcjjhcnhaa.dec
open Go Go.Cm
/-! porthole/layout.New -/
theorem layout_New_eq (d : Nat) (x0 : Int) (H : Heap) : X (d + 1) n_layout_New [.int .i64 x0] H =
  newK H (.cells [.int .i64 x0, .pointer none, .pointer none, .bool false, .int .i64 0] t_layout_node false 0 false) fun p1 H2 =>
  newK H2 (.cells [P0 p1] t_layout_Tree false 0 false) fun p3 H4 =>
  some (P0 p3, H4) := by kernel_rfl
end Go.Proofs.Ytkkhljcjjhcnhaa.dec

namespace Go.Proofs.Ytkkhljcjjhcnhaa.dec
open Go Go.Cm
/-! (*porthole/layout.node).walk -/
theorem layout_node_walk_eq (d : Nat) (x0 : Nat) (x1 : Array Value) (x2 : Value) (H : Heap) : X (d + 1) n_layout_node_walk [P0 x0, .agg x1, x2] H =
  effK (.box t_api_Rect) [.agg x1] H fun v1 H2 =>
  optK (readD (.load 4 true) [v1] H2) fun v3 =>
  asA v3 fun c4 =>
  callvK (X d) x2 [P0 x0, .agg c4] H2 fun _ H6 =>
  callK (X d n_layout_node_leaf [P0 x0] H6) fun v7 H8 =>
  asB v7 fun b9 =>
  if b9 = true then
  (some (.tuple #[], H8))
  else
  (optK (readD (.load 4 true) [v1] H8) fun v10 =>
    asA v10 fun c11 =>
    callK (X d n_layout_node_parts [P0 x0, .agg c11] H8) fun v12 H13 =>
    castT [.agg, .agg] v12 fun l14 =>
    castT [.agg, .agg] (.tuple ⟨l14⟩) fun l15 =>
    optK l15[0]? fun v16 =>
    asA v16 fun c17 =>
    optK l15[1]? fun v18 =>
    asA v18 fun c19 =>
    newK H13 (.cells [.int .i64 0, .int .i64 0, .int .i64 0, .int .i64 0] t_api_Rect false 0 false) fun p20 H21 =>
    newK H21 (.cells [.int .i64 0, .int .i64 0, .int .i64 0, .int .i64 0] t_api_Rect false 0 false) fun p22 H23 =>
    effK (.store 4) [P0 p20, .agg c17] H23 fun _ H25 =>
    effK (.store 4) [P0 p22, .agg c19] H25 fun _ H27 =>
    optK (Heap.ld1 H27 ⟨x0, 1, none⟩) fun v28 =>
    asP v28 fun o29 =>
    optK (ldA H27 ⟨p20, 0, none⟩ 4) fun v30 =>
    asA v30 fun c31 =>
    callK (X d n_layout_node_walk [.pointer o29, .agg c31, x2] H27) fun _ H33 =>
    optK (Heap.ld1 H33 ⟨x0, 2, none⟩) fun v34 =>
    asP v34 fun o35 =>
    optK (ldA H33 ⟨p22, 0, none⟩ 4) fun v36 =>
    asA v36 fun c37 =>
    callK (X d n_layout_node_walk [.pointer o35, .agg c37, x2] H33) fun _ H39 =>
    some (.tuple #[], H39)) := by kernel_rfl
end Go.Proofs.Ytkkhljcjjhcnhaa.dec

namespace Go.Proofs.Ytkkhljcjjhcnhaa.dec
open Go Go.Cm
/-! porthole/layout.all -/
theorem layout_all_eq (d : Nat) (x0 : Int) (x1 : Int) (H : Heap) : X (d + 1) n_layout_all [.int .i64 x0, .int .i64 x1] H =
  newK H (.cells [.int .i64 0, .int .i64 0, .int .i64 0, .int .i64 0] t_api_Rect false 0 false) fun p1 H2 =>
  optK (Heap.stN H2 ⟨p1, 0, none⟩ [.int .i64 0, .int .i64 0, .int .i64 (if x0 < 0 then 0 else x0), .int .i64 (if x1 < 0 then 0 else x1)]) fun H3 =>
  retK [.cell 4 4 true] [(4, P0 p1)] H3 := by kernel_rfl
end Go.Proofs.Ytkkhljcjjhcnhaa.dec

namespace Go.Proofs.Ytkkhljcjjhcnhaa.dec
open Go Go.Cm
/-! (*porthole/layout.Tree).Places$1 -/
theorem layout_Tree_Places_1_eq (d : Nat) (x0 : Nat) (x1 : Array Value) (x2 : Nat) (H : Heap) : X (d + 1) n_layout_Tree_Places_1 [P0 x0, .agg x1, P0 x2] H =
  effK (.box t_api_Rect) [.agg x1] H fun v1 H2 =>
  callK (X d n_layout_node_leaf [P0 x0] H2) fun v3 H4 =>
  asB v3 fun b5 =>
  if b5 = true then
  (optK (Heap.ld1 H4 ⟨x2, 0, none⟩) fun v6 =>
    asSL v6 fun l7 =>
    optK (readD (.load 4 true) [v1] H4) fun v8 =>
    asA v8 fun c9 =>
    optK (fillL [(0, 4)] [.agg c9] [.int .i64 0, .int .i64 0, .int .i64 0, .int .i64 0]) fun l10 =>
    newK H4 (.cells l10 t_api_Rect false 0 false) fun p11 H12 =>
    appendK t_api_Rect 4 32 false l7.v (.slice (some ⟨p11, 0, none⟩) 1 1) H12 fun v13 H14 =>
    asSL v13 fun l15 =>
    optK (Heap.st1 H14 ⟨x2, 0, none⟩ l15.v) fun H16 =>
    some (.tuple #[], H16))
  else
  (some (.tuple #[], H4)) := by kernel_rfl
end Go.Proofs.Ytkkhljcjjhcnhaa.dec

namespace Go.Proofs.Ytkkhljcjjhcnhaa.dec
open Go Go.Cm
/-! (*porthole/layout.node).leaf -/
theorem layout_node_leaf_eq (d : Nat) (x0 : Nat) (H : Heap) : X (d + 1) n_layout_node_leaf [P0 x0] H =
  optK (Heap.ld1 H ⟨x0, 1, none⟩) fun v1 =>
  asP v1 fun o2 =>
  some (.bool o2.isNone, H) := by kernel_rfl
end Go.Proofs.Ytkkhljcjjhcnhaa.dec

namespace Go.Proofs.Ytkkhljcjjhcnhaa.dec
open Go Go.Cm
/-! (*porthole/layout.Tree).Panes$1 -/
theorem layout_Tree_Panes_1_eq (d : Nat) (x0 : Nat) (x1 : Array Value) (x2 : Nat) (H : Heap) : X (d + 1) n_layout_Tree_Panes_1 [P0 x0, .agg x1, P0 x2] H =
  effK (.box t_api_Rect) [.agg x1] H fun _ H2 =>
  callK (X d n_layout_node_leaf [P0 x0] H2) fun v3 H4 =>
  asB v3 fun b5 =>
  if b5 = true then
  (optK (Heap.ld1 H4 ⟨x2, 0, none⟩) fun v6 =>
    asSL v6 fun l7 =>
    optK (Heap.ld1 H4 ⟨x0, 0, none⟩) fun v8 =>
    asI .i64 v8 fun n9 =>
    newK H4 (.cells [.int .i64 n9] t_int false 0 false) fun p10 H11 =>
    appendK t_int 1 8 false l7.v (.slice (some ⟨p10, 0, none⟩) 1 1) H11 fun v12 H13 =>
    asSL v12 fun l14 =>
    optK (Heap.st1 H13 ⟨x2, 0, none⟩ l14.v) fun H15 =>
    chk (rdsOk [H4, H11, H13, H15] [⟨.load 1 false, [P0 x2], v6, 0, 1⟩]) (
      some (.tuple #[], H15)))
  else
  (some (.tuple #[], H4)) := by kernel_rfl
end Go.Proofs.Ytkkhljcjjhcnhaa.dec

namespace Go.Proofs.Ytkkhljcjjhcnhaa.dec
open Go Go.Cm
/-! porthole/mux.New -/
theorem mux_New_eq (d : Nat) (x0 : Int) (x1 : Int) (H : Heap) : X (d + 1) n_mux_New [.int .i64 x0, .int .i64 x1] H =
  callK (X d n_grid_New [.int .i64 x0, .int .i64 x1] H) fun v1 H2 =>
  castT [.ptr, .int .i64] v1 fun l3 =>
  castT [.ptr, .int .i64] (.tuple ⟨l3⟩) fun l4 =>
  optK l4[0]? fun v5 =>
  asP v5 fun _ =>
  optK l4[1]? fun v7 =>
  asI .i64 v7 fun n8 =>
  if (!decide (n8 = 0)) = true then
  (some (.tuple #[.pointer none, .int .i64 n8], H2))
  else
  (effK (.mapE .mk) [] H2 fun v9 H10 =>
    asM v9 fun r11 =>
    effK (.mapE .mk) [] H10 fun v12 H13 =>
    asM v12 fun r14 =>
    newK H13 (.cells [.int .i64 x0, .int .i64 x1, .map r11, .map r14, .int .i64 0, .slice none 0 0] t_mux_Mux false 0 false) fun p15 H16 =>
    some (.tuple #[P0 p15, .int .i64 0], H16)) := by kernel_rfl
end Go.Proofs.Ytkkhljcjjhcnhaa.dec

namespace Go.Proofs.Ytkkhljcjjhcnhaa.dec
open Go Go.Cm
/-! (*porthole/mux.Mux).NewSession -/
theorem mux_Mux_NewSession_eq (d : Nat) (x0 : Nat) (x1 : ByteArray) (H : Heap) : X (d + 1) n_mux_Mux_NewSession [P0 x0, .string x1] H =
  optK (Heap.ld1 H ⟨x0, 2, none⟩) fun v1 =>
  asM v1 fun r2 =>
  optK (readD (.lookup (.str) (.pointer none) true) [.map r2, .string x1] H) fun v3 =>
  castT [.ptr, .bool] v3 fun l4 =>
  castT [.ptr, .bool] (.tuple ⟨l4⟩) fun l5 =>
  optK l5[0]? fun v6 =>
  asP v6 fun _ =>
  optK l5[1]? fun v8 =>
  asB v8 fun b9 =>
  callK (X d n_mux_Right [.string x1] H) fun v10 H11 =>
  asB v10 fun b12 =>
  if (!b12) = true then
  (some (.int .i64 1, H11))
  else
  (if b9 = true then
    (some (.int .i64 15, H11))
    else
    (optK (Heap.ld1 H11 ⟨x0, 2, none⟩) fun v13 =>
      asM v13 fun r14 =>
      optK (readD (.lenMap) [.map r14] H11) fun v15 =>
      asI .i64 v15 fun n16 =>
      if (decide ((8 : Int) ≤ n16)) = true then
      (some (.int .i64 2, H11))
      else
      (optK (Heap.ld1 H11 ⟨x0, 2, none⟩) fun v17 =>
        asM v17 fun r18 =>
        callK (X d n_mux_Mux_fresh [P0 x0] H11) fun v19 H20 =>
        asP v19 fun o21 =>
        newK H20 (.cells [.pointer o21] t_P_mux_window false 0 false) fun p22 H23 =>
        newK H23 (.cells [.slice (some ⟨p22, 0, none⟩) 1 1, .int .i64 0] t_mux_session false 0 false) fun p24 H25 =>
        effK (.mapE (.upd (.str))) [.map r18, .string x1, P0 p24] H25 fun _ H27 =>
        chk (rdsOk [H11, H20, H23, H25, H27] [⟨.load 1 false, [.pointer (some ⟨x0, 2, none⟩)], v17, 0, 3⟩]) (
          some (.int .i64 0, H27))))) := by kernel_rfl
end Go.Proofs.Ytkkhljcjjhcnhaa.dec

namespace Go.Proofs.Ytkkhljcjjhcnhaa.dec
open Go Go.Cm
/-! porthole/mux.Right -/
noncomputable def mux_Right_k11 (d : Nat) : Kt := run (X d) NN (cd 15 [1, 1]) (retK (rs 15)) [] (retK (rs 15))
noncomputable def mux_Right_l1010 (d : Nat) (m0 : Nat) : Kt := iter (fun k => run (X d) NN (cd 15 [1, 0, 1, 0, 0]) (backK [(0, .str), (3, .int .i64)] (opq k)) [(0, (mux_Right_k11 d))] (retK (rs 15))) m0
noncomputable def mux_Right_k1010011 (d : Nat) (m0 : Nat) : Kt := run (X d) NN (cd 15 [1, 0, 1, 0, 0, 1, 1]) (backK [(0, .str), (3, .int .i64)] (opq (mux_Right_l1010 d m0))) [(0, (mux_Right_k11 d))] (retK (rs 15))
noncomputable def mux_Right_p1010 (d : Nat) (m0 : Nat) (x0 : ByteArray) (x3 : Int) (H : Heap) : Res := opq (mux_Right_l1010 d m0) [(0, .string x0), (3, .int .i64 x3)] H
noncomputable def mux_Right_p1010010011 (d : Nat) (m0 : Nat) (x0 : ByteArray) (x3 : Int) (x31 : Bool) (H : Heap) : Res := opq (run (X d) NN (cd 15 [1, 0, 1, 0, 0, 1, 0, 0, 1, 1, 0]) (mux_Right_k1010011 d m0) [(1, (mux_Right_k1010011 d m0)), (0, (mux_Right_k11 d))] (retK (rs 15))) [(0, .string x0), (3, .int .i64 x3), (31, .bool x31)] H
theorem mux_Right_p1010_s (d : Nat) (m0 : Nat) (x0 : ByteArray) (x3 : Int) (H : Heap) : mux_Right_p1010 d (m0 + 1) x0 x3 H =
  if (decide (x3 < (slen x0 : Int))) = true then
  (if 0 ≤ x3 ∧ x3 < (slen x0 : Int) then
    if (decide (bt x0 ((x3).toNat) < 97)) = true then
    (if (decide (bt x0 ((x3).toNat) < 48)) = true then
      (mux_Right_p1010010011 d m0 x0 x3 (!decide (bt x0 ((x3).toNat) = 45)) H)
      else
      (if (decide ((57 : Int) < bt x0 ((x3).toNat))) = true then
        (mux_Right_p1010010011 d m0 x0 x3 (!decide (bt x0 ((x3).toNat) = 45)) H)
        else
        (mux_Right_p1010010011 d m0 x0 x3 false H)))
    else
    (if (decide ((122 : Int) < bt x0 ((x3).toNat))) = true then
      (if (decide (bt x0 ((x3).toNat) < 48)) = true then
        (mux_Right_p1010010011 d m0 x0 x3 (!decide (bt x0 ((x3).toNat) = 45)) H)
        else
        (if (decide ((57 : Int) < bt x0 ((x3).toNat))) = true then
          (mux_Right_p1010010011 d m0 x0 x3 (!decide (bt x0 ((x3).toNat) = 45)) H)
          else
          (mux_Right_p1010010011 d m0 x0 x3 false H)))
      else
      (mux_Right_p1010010011 d m0 x0 x3 false H))
    else none)
  else
  (if (!sEq x0 (S [])) = true then
    (some (.bool (decide ((slen x0 : Int) ≤ 20)), H))
    else
    (some (.bool false, H))) := (opq_app _ _ _).trans <| by kernel_rfl
theorem mux_Right_p1010010011_eq (d : Nat) (m0 : Nat) (x0 : ByteArray) (x3 : Int) (x31 : Bool) (H : Heap) : mux_Right_p1010010011 d m0 x0 x3 x31 H =
  if x31 = true then
  (some (.bool false, H))
  else
  (mux_Right_p1010 d m0 x0 (IntKind.wrap .i64 (x3 + 1)) H) := (opq_app _ _ _).trans <| by kernel_rfl
theorem mux_Right_eq (d : Nat) (x0 : ByteArray) (H : Heap) : X (d + 1) n_mux_Right [.string x0] H =
  mux_Right_p1010 d NN x0 0 H := by kernel_rfl
end Go.Proofs.Ytkkhljcjjhcnhaa.dec

namespace Go.Proofs.Ytkkhljcjjhcnhaa.dec
open Go Go.Cm
/-! porthole/portholehand.Bytes -/
noncomputable def hand_Bytes_k1111 (d : Nat) : Kt := run (X d) NN (cd 7 [1, 1, 1, 1]) (retK (rs 7)) [] (retK (rs 7))
noncomputable def hand_Bytes_l111010 (d : Nat) (m0 : Nat) : Kt := iter (fun k => run (X d) NN (cd 7 [1, 1, 1, 0, 1, 0, 0]) (backK [(0, .int .i64), (5, .sl), (6, .int .u64), (7, .int .i64)] (opq k)) [(0, (hand_Bytes_k1111 d))] (retK (rs 7))) m0
noncomputable def hand_Bytes_p111010 (d : Nat) (m0 : Nat) (x0 : Int) (x5 : Sl) (x6 : Int) (x7 : Int) (H : Heap) : Res := opq (hand_Bytes_l111010 d m0) [(0, .int .i64 x0), (5, x5.v), (6, .int .u64 x6), (7, .int .i64 x7)] H
theorem hand_Bytes_p111010_s (d : Nat) (m0 : Nat) (x0 : Int) (x5 : Sl) (x6 : Int) (x7 : Int) (H : Heap) : hand_Bytes_p111010 d (m0 + 1) x0 x5 x6 x7 H =
  if (decide (x7 < x0)) = true then
  (optK x5.a fun a1 =>
    if 0 ≤ x7 ∧ x7 < (x5.n : Int) then
    optK (Heap.st1 H (ap a1 (((x7).toNat) * 1)) (.int .u8 (IntKind.wrap .u8 (Int.fdiv (IntKind.wrap .u64 ((IntKind.wrap .u64 (x6 * 6364136223846793005)) + 1442695040888963407)) 1099511627776)))) fun H2 =>
    hand_Bytes_p111010 d m0 x0 x5 (IntKind.wrap .u64 ((IntKind.wrap .u64 (x6 * 6364136223846793005)) + 1442695040888963407)) (IntKind.wrap .i64 (x7 + 1)) H2
    else none)
  else
  (some (x5.v, H)) := (opq_app _ _ _).trans <| by kernel_rfl
theorem hand_Bytes_eq (d : Nat) (x0 : Int) (x1 : Int) (H : Heap) : X (d + 1) n_hand_Bytes [.int .i64 x0, .int .i64 x1] H =
  effK (.mkSl t_uint8 1 1 [.int .u8 0]) [.int .i64 x0, .int .i64 x0] H fun v1 H2 =>
  asSL v1 fun l3 =>
  hand_Bytes_p111010 d NN x0 l3 (IntKind.wrap .u64 x1) 0 H2 := by kernel_rfl
end Go.Proofs.Ytkkhljcjjhcnhaa.dec

namespace Go.Proofs.Ytkkhljcjjhcnhaa.dec
open Go Go.Cm
/-! porthole/portholehand.Pick -/
theorem hand_Pick_eq (d : Nat) (x0 : Int) (x1 : Int) (H : Heap) : X (d + 1) n_hand_Pick [.int .i64 x0, .int .i64 x1] H =
  if x1 = 0 then none else
  if (decide (Int.tmod x0 x1 < 0)) = true then
  (some (.int .i64 (IntKind.wrap .i64 ((Int.tmod x0 x1) + x1)), H))
  else
  (some (.int .i64 (Int.tmod x0 x1), H)) := by kernel_rfl
end Go.Proofs.Ytkkhljcjjhcnhaa.dec

namespace Go.Proofs.Ytkkhljcjjhcnhaa.dec
open Go Go.Cm
/-! porthole/portholelaw23.MuxQueue -/
noncomputable def law23_MuxQueue_k111 (d : Nat) : Kt := run (X d) NN (cd 3 [1, 1, 1]) (retK (rs 3)) [] (retK (rs 3))
noncomputable def law23_MuxQueue_k11111 (d : Nat) : Kt := run (X d) NN (cd 3 [1, 1, 1, 1, 1]) (retK (rs 3)) [] (retK (rs 3))
noncomputable def law23_MuxQueue_l1111010 (d : Nat) (m0 : Nat) : Kt := iter (fun k => run (X d) NN (cd 3 [1, 1, 1, 1, 0, 1, 0, 0]) (backK [(0, .sl), (1, .sl), (5, .ptr), (7, .sl), (8, .int .i64)] (opq k)) [(0, (law23_MuxQueue_k11111 d))] (retK (rs 3))) m0
noncomputable def law23_MuxQueue_k111101001 (d : Nat) (m0 : Nat) : Kt := run (X d) NN (cd 3 [1, 1, 1, 1, 0, 1, 0, 0, 1]) (backK [(0, .sl), (1, .sl), (5, .ptr), (7, .sl), (8, .int .i64)] (opq (law23_MuxQueue_l1111010 d m0))) [(0, (law23_MuxQueue_k11111 d))] (retK (rs 3))
noncomputable def law23_MuxQueue_k1111010011 (d : Nat) (m0 : Nat) : Kt := run (X d) NN (cd 3 [1, 1, 1, 1, 0, 1, 0, 0, 1, 1]) (backK [(0, .sl), (1, .sl), (5, .ptr), (7, .sl), (8, .int .i64)] (opq (law23_MuxQueue_l1111010 d m0))) [(0, (law23_MuxQueue_k11111 d))] (retK (rs 3))
noncomputable def law23_MuxQueue_k1111010010011011101 (d : Nat) (m0 : Nat) : Kt := run (X d) NN (cd 3 [1, 1, 1, 1, 0, 1, 0, 0, 1, 0, 0, 1, 1, 0, 1, 1, 1, 0, 1]) (law23_MuxQueue_k1111010011 d m0) [(1, (law23_MuxQueue_k1111010011 d m0)), (0, (law23_MuxQueue_k11111 d))] (retK (rs 3))
noncomputable def law23_MuxQueue_k1111010010011011101101111 (d : Nat) (m0 : Nat) : Kt := run (X d) NN (cd 3 [1, 1, 1, 1, 0, 1, 0, 0, 1, 0, 0, 1, 1, 0, 1, 1, 1, 0, 1, 1, 0, 1, 1, 1, 1]) (law23_MuxQueue_k1111010011 d m0) [(1, (law23_MuxQueue_k1111010011 d m0)), (0, (law23_MuxQueue_k11111 d))] (retK (rs 3))
noncomputable def law23_MuxQueue_p1101 (d : Nat) (x0 : Sl) (x1 : Sl) (x5 : Option Addr) (x35 : Bool) (H : Heap) : Res := opq (run (X d) NN (cd 3 [1, 1, 0, 1, 0]) (law23_MuxQueue_k111 d) [] (retK (rs 3))) [(0, x0.v), (1, x1.v), (5, .pointer x5), (35, .bool x35)] H
noncomputable def law23_MuxQueue_p1111010 (d : Nat) (m0 : Nat) (x0 : Sl) (x1 : Sl) (x5 : Option Addr) (x7 : Sl) (x8 : Int) (H : Heap) : Res := opq (law23_MuxQueue_l1111010 d m0) [(0, x0.v), (1, x1.v), (5, .pointer x5), (7, x7.v), (8, .int .i64 x8)] H
noncomputable def law23_MuxQueue_p1111010001 (d : Nat) (m0 : Nat) (x0 : Sl) (x1 : Sl) (x5 : Option Addr) (x7 : Sl) (x8 : Int) (x43 : Bool) (H : Heap) : Res := opq (run (X d) NN (cd 3 [1, 1, 1, 1, 0, 1, 0, 0, 0, 1, 0]) (law23_MuxQueue_k111101001 d m0) [(0, (law23_MuxQueue_k11111 d))] (retK (rs 3))) [(0, x0.v), (1, x1.v), (5, .pointer x5), (7, x7.v), (8, .int .i64 x8), (43, .bool x43)] H
noncomputable def law23_MuxQueue_p1111010010011 (d : Nat) (m0 : Nat) (x0 : Sl) (x1 : Sl) (x5 : Option Addr) (x7 : Sl) (x8 : Int) (x9 : Sl) (H : Heap) : Res := opq (run (X d) NN (cd 3 [1, 1, 1, 1, 0, 1, 0, 0, 1, 0, 0, 1, 1, 0]) (law23_MuxQueue_k1111010011 d m0) [(1, (law23_MuxQueue_k1111010011 d m0)), (0, (law23_MuxQueue_k11111 d))] (retK (rs 3))) [(0, x0.v), (1, x1.v), (5, .pointer x5), (7, x7.v), (8, .int .i64 x8), (9, x9.v)] H
noncomputable def law23_MuxQueue_p11110100100110111 (d : Nat) (m0 : Nat) (x0 : Sl) (x1 : Sl) (x5 : Option Addr) (x7 : Sl) (x8 : Int) (H : Heap) : Res := opq (run (X d) NN (cd 3 [1, 1, 1, 1, 0, 1, 0, 0, 1, 0, 0, 1, 1, 0, 1, 1, 1, 0]) (law23_MuxQueue_k1111010011 d m0) [(1, (law23_MuxQueue_k1111010011 d m0)), (0, (law23_MuxQueue_k11111 d))] (retK (rs 3))) [(0, x0.v), (1, x1.v), (5, .pointer x5), (7, x7.v), (8, .int .i64 x8)] H
noncomputable def law23_MuxQueue_p111101001001101110011 (d : Nat) (m0 : Nat) (x0 : Sl) (x1 : Sl) (x5 : Option Addr) (x7 : Sl) (x8 : Int) (x85 : Bool) (H : Heap) : Res := opq (run (X d) NN (cd 3 [1, 1, 1, 1, 0, 1, 0, 0, 1, 0, 0, 1, 1, 0, 1, 1, 1, 0, 0, 1, 1, 0]) (law23_MuxQueue_k1111010010011011101 d m0) [(1, (law23_MuxQueue_k1111010011 d m0)), (0, (law23_MuxQueue_k11111 d))] (retK (rs 3))) [(0, x0.v), (1, x1.v), (5, .pointer x5), (7, x7.v), (8, .int .i64 x8), (85, .bool x85)] H
noncomputable def law23_MuxQueue_p11110100100110111011011101 (d : Nat) (m0 : Nat) (x0 : Sl) (x1 : Sl) (x5 : Option Addr) (x7 : Sl) (x8 : Int) (x14 : Int) (x115 : Bool) (H : Heap) : Res := opq (run (X d) NN (cd 3 [1, 1, 1, 1, 0, 1, 0, 0, 1, 0, 0, 1, 1, 0, 1, 1, 1, 0, 1, 1, 0, 1, 1, 1, 0, 1, 0]) (law23_MuxQueue_k1111010010011011101101111 d m0) [(1, (law23_MuxQueue_k1111010011 d m0)), (0, (law23_MuxQueue_k11111 d))] (retK (rs 3))) [(0, x0.v), (1, x1.v), (5, .pointer x5), (7, x7.v), (8, .int .i64 x8), (14, .int .i64 x14), (115, .bool x115)] H
noncomputable def law23_MuxQueue_p1111010011 (d : Nat) (m0 : Nat) (x0 : Sl) (x1 : Sl) (x5 : Option Addr) (x7 : Sl) (x8 : Int) (H : Heap) : Res := opq (run (X d) NN (cd 3 [1, 1, 1, 1, 0, 1, 0, 0, 1, 1, 0]) (backK [(0, .sl), (1, .sl), (5, .ptr), (7, .sl), (8, .int .i64)] (opq (law23_MuxQueue_l1111010 d m0))) [(0, (law23_MuxQueue_k11111 d))] (retK (rs 3))) [(0, x0.v), (1, x1.v), (5, .pointer x5), (7, x7.v), (8, .int .i64 x8)] H
theorem law23_MuxQueue_p1101_eq (d : Nat) (x0 : Sl) (x1 : Sl) (x5 : Option Addr) (x35 : Bool) (H : Heap) : law23_MuxQueue_p1101 d x0 x1 x5 x35 H =
  if x35 = true then
  (some (.bool false, H))
  else
  (law23_MuxQueue_p1111010 d NN x0 x1 x5 Sl.nil 0 H) := (opq_app _ _ _).trans <| by kernel_rfl
theorem law23_MuxQueue_p1111010_s (d : Nat) (m0 : Nat) (x0 : Sl) (x1 : Sl) (x5 : Option Addr) (x7 : Sl) (x8 : Int) (H : Heap) : law23_MuxQueue_p1111010 d (m0 + 1) x0 x1 x5 x7 x8 H =
  if (decide (x8 < (x0.n : Int))) = true then
  (law23_MuxQueue_p1111010001 d m0 x0 x1 x5 x7 x8 (decide (x8 < 40)) H)
  else
  (law23_MuxQueue_p1111010001 d m0 x0 x1 x5 x7 x8 false H) := (opq_app _ _ _).trans <| by kernel_rfl
theorem law23_MuxQueue_p1111010001_eq (d : Nat) (m0 : Nat) (x0 : Sl) (x1 : Sl) (x5 : Option Addr) (x7 : Sl) (x8 : Int) (x43 : Bool) (H : Heap) : law23_MuxQueue_p1111010001 d m0 x0 x1 x5 x7 x8 x43 H =
  if x43 = true then
  (optK x0.a fun a1 =>
    if 0 ≤ x8 ∧ x8 < (x0.n : Int) then
    optK (Heap.ld1 H (ap a1 (((x8).toNat) * 1))) fun v2 =>
    asSL v2 fun l3 =>
    if (decide (Int.tmod x8 7 = 6)) = true then
    (callK (X d n_hand_Bytes [.int .i64 1500, .int .i64 x8] H) fun v4 H5 =>
      asSL v4 fun l6 =>
      law23_MuxQueue_p1111010010011 d m0 x0 x1 x5 x7 x8 l6 H5)
    else
    (law23_MuxQueue_p1111010010011 d m0 x0 x1 x5 x7 x8 l3 H)
    else none)
  else
  (some (.bool true, H)) := (opq_app _ _ _).trans <| by kernel_rfl
theorem law23_MuxQueue_p1111010010011_eq (d : Nat) (m0 : Nat) (x0 : Sl) (x1 : Sl) (x5 : Option Addr) (x7 : Sl) (x8 : Int) (x9 : Sl) (H : Heap) : law23_MuxQueue_p1111010010011 d m0 x0 x1 x5 x7 x8 x9 H =
  callK (X d n_mux_Mux_Input [.pointer x5, .string (S [97]), x9.v] H) fun v1 H2 =>
  asI .i64 v1 fun n3 =>
  if (!((decide (n3 = 0)) == (decide (IntKind.wrap .i64 ((x7.n : Int) + (x9.n : Int)) ≤ 4096)))) = true then
  (some (.bool false, H2))
  else
  (if (decide (n3 = 0)) = true then
    (appendK t_uint8 1 1 false x7.v x9.v H2 fun v4 H5 =>
      asSL v4 fun l6 =>
      law23_MuxQueue_p11110100100110111 d m0 x0 x1 x5 l6 x8 H5)
    else
    (law23_MuxQueue_p11110100100110111 d m0 x0 x1 x5 x7 x8 H2)) := (opq_app _ _ _).trans <| by kernel_rfl
theorem law23_MuxQueue_p11110100100110111_eq (d : Nat) (m0 : Nat) (x0 : Sl) (x1 : Sl) (x5 : Option Addr) (x7 : Sl) (x8 : Int) (H : Heap) : law23_MuxQueue_p11110100100110111 d m0 x0 x1 x5 x7 x8 H =
  callK (X d n_mux_Mux_Pane [.pointer x5, .int .i64 0] H) fun v1 H2 =>
  castT [.agg, .int .i64, .bool] v1 fun l3 =>
  castT [.agg, .int .i64, .bool] (.tuple ⟨l3⟩) fun l4 =>
  optK l4[0]? fun v5 =>
  asA v5 fun c6 =>
  optK l4[1]? fun v7 =>
  asI .i64 v7 fun n8 =>
  optK l4[2]? fun v9 =>
  asB v9 fun b10 =>
  newK H2 (.cells [.int .i64 0, .int .i64 0, .slice none 0 0, .int .i64 0, .int .i64 0, .bool false] t_api_Screen false 0 false) fun p11 H12 =>
  effK (.store 6) [P0 p11, .agg c6] H12 fun _ H14 =>
  if (!b10) = true then
  (law23_MuxQueue_p111101001001101110011 d m0 x0 x1 x5 x7 x8 true H14)
  else
  (law23_MuxQueue_p111101001001101110011 d m0 x0 x1 x5 x7 x8 (!decide (n8 = (x7.n : Int))) H14) := (opq_app _ _ _).trans <| by kernel_rfl
theorem law23_MuxQueue_p111101001001101110011_eq (d : Nat) (m0 : Nat) (x0 : Sl) (x1 : Sl) (x5 : Option Addr) (x7 : Sl) (x8 : Int) (x85 : Bool) (H : Heap) : law23_MuxQueue_p111101001001101110011 d m0 x0 x1 x5 x7 x8 x85 H =
  if x85 = true then
  (some (.bool false, H))
  else
  (if (decide (x8 < (x1.n : Int))) = true then
    (optK x1.a fun a1 =>
      if 0 ≤ x8 ∧ x8 < (x1.n : Int) then
      optK (Heap.ld1 H (ap a1 (((x8).toNat) * 1))) fun v2 =>
      asI .i64 v2 fun n3 =>
      callK (X d n_hand_Pick [.int .i64 n3, .int .i64 60] H) fun v4 H5 =>
      asI .i64 v4 fun n6 =>
      callK (X d n_mux_Mux_Take [.pointer x5, .int .i64 0, .int .i64 n6] H5) fun v7 H8 =>
      castT [.sl, .bool] v7 fun l9 =>
      castT [.sl, .bool] (.tuple ⟨l9⟩) fun l10 =>
      optK l10[0]? fun v11 =>
      asSL v11 fun l12 =>
      optK l10[1]? fun v13 =>
      asB v13 fun b14 =>
      if (!b14) = true then
      (law23_MuxQueue_p11110100100110111011011101 d m0 x0 x1 x5 x7 x8 (if (x7.n : Int) < n6 then (x7.n : Int) else n6) true H8)
      else
      (optK (readD (.bytesStr) [l12.v] H8) fun v15 =>
        asS v15 fun s16 =>
        optK (readD (.subSl t_uint8 1 false true false) [x7.v, .int .i64 (if (x7.n : Int) < n6 then (x7.n : Int) else n6)] H8) fun v17 =>
        asSL v17 fun l18 =>
        optK (readD (.bytesStr) [l18.v] H8) fun v19 =>
        asS v19 fun s20 =>
        law23_MuxQueue_p11110100100110111011011101 d m0 x0 x1 x5 x7 x8 (if (x7.n : Int) < n6 then (x7.n : Int) else n6) (!sEq s16 s20) H8)
      else none)
    else
    (law23_MuxQueue_p1111010011 d m0 x0 x1 x5 x7 x8 H)) := (opq_app _ _ _).trans <| by kernel_rfl
theorem law23_MuxQueue_p11110100100110111011011101_eq (d : Nat) (m0 : Nat) (x0 : Sl) (x1 : Sl) (x5 : Option Addr) (x7 : Sl) (x8 : Int) (x14 : Int) (x115 : Bool) (H : Heap) : law23_MuxQueue_p11110100100110111011011101 d m0 x0 x1 x5 x7 x8 x14 x115 H =
  if x115 = true then
  (some (.bool false, H))
  else
  (optK (readD (.subSl t_uint8 1 true false false) [x7.v, .int .i64 x14] H) fun v1 =>
    asSL v1 fun l2 =>
    law23_MuxQueue_p1111010011 d m0 x0 x1 x5 l2 x8 H) := (opq_app _ _ _).trans <| by kernel_rfl
theorem law23_MuxQueue_p1111010011_eq (d : Nat) (m0 : Nat) (x0 : Sl) (x1 : Sl) (x5 : Option Addr) (x7 : Sl) (x8 : Int) (H : Heap) : law23_MuxQueue_p1111010011 d m0 x0 x1 x5 x7 x8 H =
  law23_MuxQueue_p1111010 d m0 x0 x1 x5 x7 (IntKind.wrap .i64 (x8 + 1)) H := (opq_app _ _ _).trans <| by kernel_rfl
theorem law23_MuxQueue_eq (d : Nat) (x0 : Sl) (x1 : Sl) (H : Heap) : X (d + 1) n_law23_MuxQueue [x0.v, x1.v] H =
  callK (X d n_mux_New [.int .i64 5, .int .i64 9] H) fun v1 H2 =>
  castT [.ptr, .int .i64] v1 fun l3 =>
  castT [.ptr, .int .i64] (.tuple ⟨l3⟩) fun l4 =>
  optK l4[0]? fun v5 =>
  asP v5 fun o6 =>
  optK l4[1]? fun v7 =>
  asI .i64 v7 fun n8 =>
  callK (X d n_law23_known [] H2) fun v9 H10 =>
  asB v9 fun b11 =>
  if (!b11) = true then
  (law23_MuxQueue_p1101 d x0 x1 o6 true H10)
  else
  (if (!decide (n8 = 0)) = true then
    (law23_MuxQueue_p1101 d x0 x1 o6 true H10)
    else
    (if o6.isNone = true then
      (law23_MuxQueue_p1101 d x0 x1 o6 true H10)
      else
      (callK (X d n_mux_Mux_NewSession [.pointer o6, .string (S [97])] H10) fun v12 H13 =>
        asI .i64 v12 fun n14 =>
        law23_MuxQueue_p1101 d x0 x1 o6 (!decide (n14 = 0)) H13))) := by kernel_rfl
end Go.Proofs.Ytkkhljcjjhcnhaa.dec
