/-
  The functions' numbers, their code with cuts.
  And: What calls compute, piece by piece. What calls compute, piece by piece. What calls compute, piece by piece. What calls compute, piece by piece. What calls compute, piece by piece. What calls compute, piece by piece. What calls compute, piece by piece. What calls compute, piece by piece. What calls compute, piece by piece. What calls compute, piece by piece. What calls compute, piece by piece. What calls compute, piece by piece. What calls compute, piece by piece. What calls compute, piece by piece. What calls compute, piece by piece. What calls compute, piece by piece. What calls compute, piece by piece. What calls compute, piece by piece. What calls compute, piece by piece. What calls compute, piece by piece. What calls compute, piece by piece.
-/
import Derived.Test.YtnpmlgibjhjiiaaCmD
import Derived.Test.YtnpmlgibjhjiiaaChecked
namespace Go.Proofs.Ytnpmlgibjhjiiaa.dec
open Go Go.Cm
abbrev n_main_main : Nat := 0
abbrev n_gosem_cut : Nat := 1
abbrev n_gosem_cut_init : Nat := 2
abbrev n_law24_CmdParses : Nat := 3
abbrev n_law24_CmdKeys : Nat := 4
abbrev n_law24_CmdBack : Nat := 5
abbrev n_law24_CmdParts : Nat := 6
abbrev n_law24_line : Nat := 7
abbrev n_cmd_Parse : Nat := 8
abbrev n_ref22_Parse : Nat := 9
abbrev n_law24_known : Nat := 10
abbrev n_law24_same : Nat := 11
abbrev n_hand_Pick : Nat := 12
abbrev n_hand_Cut : Nat := 13
abbrev n_cmd_NewKeys : Nat := 14
abbrev n_cmd_Keys_Feed : Nat := 15
abbrev n_ref22_Keys_Feed : Nat := 16
abbrev n_cmd_Bound : Nat := 17
abbrev n_ref22_Bound : Nat := 18
abbrev n_law24_command : Nat := 19
abbrev n_cmd_Print : Nat := 20
abbrev n_cmd_reader_ends : Nat := 21
abbrev n_cmd_reader_quoted : Nat := 22
abbrev n_cmd_reader_word : Nat := 23
abbrev n_ref22_flushed : Nat := 24
abbrev n_ref22_bare : Nat := 25
abbrev n_cmd_Keys_Feed_1 : Nat := 26
abbrev n_ref22_pressed : Nat := 27
abbrev n_ref22_Digits : Nat := 28
abbrev n_cmd_shown : Nat := 29
abbrev n_strings_Join : Nat := 30
abbrev n_cmd_plain : Nat := 31
abbrev n_ref22_below : Nat := 32
abbrev n_strings_Builder_Grow : Nat := 33
abbrev n_strings_Builder_WriteString : Nat := 34
abbrev n_strings_Builder_String : Nat := 35
abbrev n_strings_Builder_copyCheck : Nat := 36
abbrev n_strings_Builder_grow : Nat := 37
abbrev n_abi_NoEscape : Nat := 38
abbrev n_bytealg_MakeNoZero : Nat := 39
abbrev n_runtime_boundsError_Error : Nat := 40
abbrev n_runtime_boundsError_RuntimeError : Nat := 41
abbrev n_runtime_errorString_Error : Nat := 42
abbrev n_runtime_errorString_RuntimeError : Nat := 43
abbrev n_runtime_plainError_Error : Nat := 44
abbrev n_runtime_plainError_RuntimeError : Nat := 45
abbrev n_runtime_errorAddressString_Error : Nat := 46
abbrev n_runtime_errorAddressString_RuntimeError : Nat := 47
abbrev n_runtime_TypeAssertionError_Error : Nat := 48
abbrev n_runtime_TypeAssertionError_RuntimeError : Nat := 49
abbrev n_runtime_PanicNilError_Error : Nat := 50
abbrev n_runtime_PanicNilError_RuntimeError : Nat := 51
abbrev n_abi_Type_Align : Nat := 52
abbrev n_runtime_maps_unhashableTypeError_Error : Nat := 53
abbrev n_runtime_maps_unhashableTypeError_RuntimeError : Nat := 54
abbrev n_strings_Builder_Reset : Nat := 55
abbrev n_abi_Kind_String : Nat := 56
abbrev t_int64 : Nat := 2
abbrev t_int : Nat := 3
abbrev t_bool : Nat := 4
abbrev t_uint8 : Nat := 5
abbrev t_abi_BoundsErrorCode : Nat := 6
abbrev t_runtime_boundsError : Nat := 8
abbrev t_string : Nat := 9
abbrev t_runtime_errorString : Nat := 10
abbrev t_runtime_plainError : Nat := 11
abbrev t_uintptr : Nat := 12
abbrev t_runtime_errorAddressString : Nat := 14
abbrev t_P_runtime_TypeAssertionError : Nat := 15
abbrev t_P_runtime_PanicNilError : Nat := 16
abbrev t_P_abi_Type : Nat := 17
abbrev t_maps_unhashableTypeError : Nat := 19
abbrev t_int32 : Nat := 21
abbrev t_S_int : Nat := 22
abbrev t_S_cmd_Command : Nat := 24
abbrev t_api_Errno : Nat := 25
abbrev t_S_uint8 : Nat := 31
abbrev t_14_uint8 : Nat := 32
abbrev t_S_S_uint8 : Nat := 34
abbrev t_P_cmd_Keys : Nat := 36
abbrev t_P_ref22_Keys : Nat := 38
abbrev t_ref22_Keys : Nat := 40
abbrev t_S_cmd_Press : Nat := 41
abbrev t_cmd_Press : Nat := 44
abbrev t_S_law24_Raw : Nat := 48
abbrev t_S_string : Nat := 49
abbrev t_cmd_Command : Nat := 51
abbrev t_law24_Raw : Nat := 54
abbrev t_16_string : Nat := 58
abbrev t_P_cmd_reader : Nat := 59
abbrev t_cmd_reader : Nat := 61
abbrev t_cmd_Keys : Nat := 65
abbrev t_20_string : Nat := 67
abbrev t_5_string : Nat := 69
abbrev t_3_string : Nat := 70
abbrev t_4_string : Nat := 71
abbrev t_P_strings_Builder : Nat := 74
abbrev t_strings_Builder : Nat := 76
abbrev t_error : Nat := 79
abbrev t_P_uint8 : Nat := 83
abbrev t_unsafe_Pointer : Nat := 84
abbrev t_runtime_TypeAssertionError : Nat := 88
abbrev t_0_P_runtime_PanicNilError : Nat := 89
abbrev t_runtime_PanicNilError : Nat := 91
abbrev t_uint32 : Nat := 93
abbrev t_abi_TFlag : Nat := 94
abbrev t_abi_Kind : Nat := 95
abbrev t_abi_NameOff : Nat := 97
abbrev t_abi_TypeOff : Nat := 98
abbrev t_abi_Type : Nat := 100
def cutsL : List (Nat × CT) := [(3, (.two .no (.two .no (.cut [(0, .str)] .no)))),
  (4, (.two .no (.two (.two .no (.two (.two .no (.two (.two .no (.one (.lp [(0, .sl), (3, .sl), (9, .sl), (10, .int .i64)] (.two (.two .no (.cut [(0, .sl), (3, .sl), (9, .sl), (10, .int .i64), (32, .bool)] .no)) .no)))) .no)) .no)) (.cut [(1, .sl), (3, .sl)] (.two .no (.two .no (.two .no (.two (.two .no (.cut [(1, .sl), (11, .sl), (12, .ptr), (13, .ptr), (58, .bool)] .no)) (.two (.two .no (.one (.lp [(1, .sl), (11, .sl), (12, .ptr), (13, .ptr), (14, .int .i64)] (.two .no (.two (.one (.two .no (.two .no (.two .no (.two .no (.one (.lp [(1, .sl), (11, .sl), (12, .ptr), (13, .ptr), (14, .int .i64), (15, .sl), (16, .sl), (17, .int .i64)] (.two .no (.two (.one (.two .no (.cut [(1, .sl), (11, .sl), (12, .ptr), (13, .ptr), (14, .int .i64), (15, .sl), (16, .sl), (17, .int .i64), (113, .bool)] .no))) .no))))))))) .no))))) (.two (.two .no (.one (.lp [(1, .sl), (18, .int .i64)] (.two (.two .no (.cut [(1, .sl), (18, .int .i64), (121, .bool)] .no)) (.two (.one (.two .no (.two .no (.two .no (.cut [(1, .sl), (18, .int .i64), (147, .bool)] .no))))) .no))))) .no)))))))))),
  (5, (.two .no (.two .no (.two (.two .no (.one (.lp [(0, .sl), (3, .sl), (4, .int .i64)] (.two (.two .no (.cut [(0, .sl), (3, .sl), (4, .int .i64), (15, .bool)] .no)) .no)))) (.two .no (.two (.two .no (.cut [(3, .sl), (5, .str), (38, .bool)] .no)) .no)))))),
  (6, (.two .no (.two .no (.two (.two .no (.one (.lp [(0, .sl), (1, .sl), (2, .int .i64), (7, .sl), (8, .sl), (9, .int .i64)] (.two (.two .no (.cut [(0, .sl), (1, .sl), (2, .int .i64), (7, .sl), (8, .sl), (9, .int .i64), (24, .bool)] .no)) .no)))) (.two (.two .no (.one (.lp [(1, .sl), (2, .int .i64), (7, .sl), (8, .sl), (10, .int .i64)] (.two (.two .no (.cut [(1, .sl), (2, .int .i64), (7, .sl), (8, .sl), (10, .int .i64), (42, .bool)] .no)) .no)))) (.two .no (.two .no (.two (.two .no (.cut [(2, .int .i64), (7, .sl), (8, .sl), (11, .str), (12, .str), (74, .bool)] .no)) (.two .no (.two (.two .no (.one (.lp [(2, .int .i64), (7, .sl), (8, .sl), (11, .str), (12, .str), (13, .str), (14, .int .i64)] .no))) .no)))))))))),
  (7, (.two .no (.two .no (.two (.two .no (.one (.lp [(0, .sl), (3, .str), (4, .int .i64)] (.two (.two .no (.cut [(0, .sl), (3, .str), (4, .int .i64), (12, .bool)] .no)) .no)))) .no)))),
  (8, (.two .no (.two .no (.two .no (.two (.one (.lp [(4, .ptr)] (.two .no (.one (.two .no (.two .no (.cut [(4, .ptr), (5, .bool)] (.two .no (.cut [(4, .ptr), (74, .bool)] .no))))))))) .no))))),
  (9, (.two .no (.two .no (.two .no (.two .no (.two (.two .no (.one (.lp [(0, .str), (4, .sl), (5, .sl), (6, .int .i64)] (.two .no (.one (.two .no (.one (.two .no (.two .no (.two .no (.two .no (.two .no (.two (.two .no (.two .no (.two (.one (.lp [(0, .str), (4, .sl), (5, .sl), (6, .int .i64), (8, .str)] (.two (.two .no (.cut [(0, .str), (4, .sl), (5, .sl), (6, .int .i64), (8, .str), (47, .bool)] .no)) (.one (.two (.two .no (.two (.two .no (.two .no (.cut [(0, .str), (4, .sl), (5, .sl), (6, .int .i64), (8, .str), (69, .bool)] .no))) .no)) (.cut [(0, .str), (4, .sl), (5, .sl), (6, .int .i64), (8, .str)] (.two (.two .no (.cut [(0, .str), (4, .sl), (5, .sl), (6, .int .i64), (8, .str), (79, .bool)] .no)) .no))))))) (.two .no (.two .no (.two (.two .no (.cut [(0, .str), (4, .sl), (5, .sl), (6, .int .i64), (8, .str), (110, .bool)] .no)) .no)))))) (.two .no (.two (.two .no (.two (.one (.lp [(0, .str), (4, .sl), (5, .sl), (6, .int .i64), (9, .int .i64)] (.two (.two .no (.cut [(0, .str), (4, .sl), (5, .sl), (6, .int .i64), (9, .int .i64), (128, .bool)] .no)) .no))) (.two (.two .no (.cut [(0, .str), (4, .sl), (5, .sl), (6, .int .i64), (9, .int .i64), (146, .bool)] .no)) .no))) .no))))))))))))))) .no)))))),
  (11, (.two .no (.two .no (.two (.two .no (.one (.lp [(0, .sl), (1, .sl), (5, .int .i64)] (.two .no (.two (.one (.two (.two .no (.cut [(0, .sl), (1, .sl), (5, .int .i64), (43, .bool)] .no)) (.two .no (.one (.lp [(0, .sl), (1, .sl), (5, .int .i64), (6, .int .i64)] .no))))) .no))))) .no)))),
  (13, (.two .no (.two .no (.two (.two .no (.one (.lp [(0, .str), (1, .sl), (5, .sl), (6, .int .i64)] (.two (.two .no (.cut [(0, .str), (1, .sl), (5, .sl), (6, .int .i64), (20, .bool)] .no)) .no)))) .no)))),
  (15, (.two .no (.two .no (.two .no (.two .no (.two (.two .no (.one (.lp [(0, .ptr), (5, .any), (6, .any), (7, .any), (13, .sl), (14, .int .i64), (15, .int .i64)] (.two .no (.two .no (.two (.one (.two .no (.two .no (.two (.one (.two .no (.cut [(0, .ptr), (5, .any), (6, .any), (7, .any), (9, .int .u8), (10, .str), (11, .bool), (13, .sl), (14, .int .i64), (15, .int .i64), (24, .bool)] (.two .no (.two .no (.cut [(0, .ptr), (5, .any), (6, .any), (7, .any), (9, .int .u8), (10, .str), (11, .bool), (13, .sl), (14, .int .i64), (15, .int .i64), (37, .bool)] .no)))))) (.cut [(0, .ptr), (5, .any), (6, .any), (7, .any), (13, .sl), (14, .int .i64), (15, .int .i64)] .no))))) (.cut [(0, .ptr), (5, .any), (6, .any), (7, .any), (13, .sl), (14, .int .i64), (15, .int .i64)] .no))))))) .no)))))),
  (16, (.two .no (.two .no (.two .no (.two (.two .no (.one (.lp [(0, .ptr), (1, .sl), (5, .sl), (6, .sl), (7, .int .i64)] (.two .no (.two .no (.cut [(0, .ptr), (1, .sl), (5, .sl), (6, .sl), (7, .int .i64)] .no)))))) .no))))),
  (17, (.two .no (.two .no (.two (.two .no (.cut [(0, .int .u8), (26, .bool)] .no)) .no)))),
  (18, (.two .no (.two .no (.two (.two .no (.cut [(0, .int .u8), (26, .bool)] .no)) .no)))),
  (19, (.two .no (.two .no (.two .no (.two .no (.two (.two .no (.one (.two .no (.cut [(1, .any), (2, .any), (4, .any), (5, .str), (17, .str), (18, .bool)] (.two .no (.two .no (.cut [(1, .any), (2, .any), (4, .any), (5, .str), (17, .str), (28, .bool)] .no))))))) (.cut [(1, .any), (2, .any), (4, .any)] .no))))))),
  (20, (.two .no (.two .no (.two (.two .no (.one (.lp [(3, .sl), (11, .sl), (12, .int .i64), (13, .int .i64)] (.two .no (.two .no (.two (.one (.two .no (.two .no (.two (.two .no (.one (.lp [(3, .sl), (5, .any), (6, .sl), (11, .sl), (12, .int .i64), (13, .int .i64), (22, .sl), (23, .int .i64), (24, .int .i64)] (.two .no (.two .no (.two (.one (.two .no (.two .no (.two (.two .no (.cut [(3, .sl), (5, .any), (6, .sl), (9, .str), (11, .sl), (12, .int .i64), (13, .int .i64), (22, .sl), (23, .int .i64), (24, .int .i64), (39, .bool)] .no)) .no)))) .no)))))) .no)))) .no)))))) .no)))),
  (21, (.two .no (.cut [(0, .ptr)] .no))),
  (22, (.two .no (.two .no (.two (.two .no (.one (.lp [(0, .ptr), (3, .sl), (4, .int .i64)] (.two .no (.two (.one (.two .no (.two (.one (.two .no (.cut [(0, .ptr), (3, .sl), (4, .int .i64), (5, .int .u8), (21, .bool)] (.two .no (.two .no (.two .no (.two .no (.two (.two .no (.two (.two .no (.cut [(0, .ptr), (3, .sl), (4, .int .i64), (81, .bool)] .no)) .no)) .no)))))))) (.cut [(0, .ptr), (3, .sl), (4, .int .i64), (5, .int .u8)] .no)))) .no))))) .no)))),
  (23, (.two .no (.two .no (.two (.one (.lp [(0, .ptr), (3, .int .i64)] (.two (.two .no (.cut [(0, .ptr), (3, .int .i64), (19, .bool)] .no)) .no))) .no)))),
  (26, (.two .no (.cut [(0, .ptr)] .no))),
  (29, (.two .no (.two .no (.two .no (.two (.two .no (.one (.lp [(0, .str), (4, .bool), (5, .sl), (6, .int .i64)] (.two .no (.two (.one (.two .no (.two (.two .no (.cut [(0, .str), (4, .bool), (5, .sl), (6, .int .i64), (7, .int .u8), (24, .bool)] .no)) (.two .no (.cut [(0, .str), (4, .bool), (5, .sl), (6, .int .i64), (7, .int .u8)] (.two (.two .no (.cut [(0, .str), (4, .bool), (5, .sl), (6, .int .i64), (7, .int .u8), (36, .bool)] .no)) (.cut [(0, .str), (4, .bool), (5, .sl), (6, .int .i64), (7, .int .u8)] .no))))))) .no))))) .no)))))]

noncomputable def C : CProg := ⟨autoC (lookCT cutsL) [] Try.prog, fun f => if f = n_law24_known then some (sure n_law24_known n_law24_known) else none⟩
theorem exNN : ∃ n : Nat, n = 4000000000 := ⟨_, rfl⟩
noncomputable def NN : Nat := Classical.choose exNN
theorem NN_eq : NN = 4000000000 := Classical.choose_spec exNN
noncomputable def X (d : Nat) : CallF := callD C NN d
noncomputable def cd (f : Nat) (p : List Nat) : CCode := cdC (lookCT cutsL) [] Try.prog f p
noncomputable def rs (f : Nat) : List CRes := rsC [] Try.prog f
end Go.Proofs.Ytnpmlgibjhjiiaa.dec

namespace Go.Proofs.Ytnpmlgibjhjiiaa.dec
open Go Go.Cm
/-! porthole/portholelaw24.CmdParses -/
noncomputable def law24_CmdParses_p11 (d : Nat) (x0 : ByteArray) (H : Heap) : Res := opq (run (X d) NN (cd 3 [1, 1, 0]) (retK (rs 3)) [] (retK (rs 3))) [(0, .string x0)] H
theorem law24_CmdParses_p11_eq (d : Nat) (x0 : ByteArray) (H : Heap) : law24_CmdParses_p11 d x0 H =
  callK (X d n_cmd_Parse [.string x0] H) fun v1 H2 =>
  castT [.sl, .int .i64] v1 fun l3 =>
  castT [.sl, .int .i64] (.tuple ⟨l3⟩) fun l4 =>
  optK l4[0]? fun v5 =>
  asSL v5 fun l6 =>
  optK l4[1]? fun v7 =>
  asI .i64 v7 fun n8 =>
  callK (X d n_ref22_Parse [.string x0] H2) fun v9 H10 =>
  castT [.sl, .int .i64] v9 fun l11 =>
  castT [.sl, .int .i64] (.tuple ⟨l11⟩) fun l12 =>
  optK l12[0]? fun v13 =>
  asSL v13 fun l14 =>
  optK l12[1]? fun v15 =>
  asI .i64 v15 fun n16 =>
  callK (X d n_law24_known [] H10) fun v17 H18 =>
  asB v17 fun b19 =>
  if b19 = true then
  (callK (X d n_law24_same [l6.v, l14.v] H18) fun v20 H21 =>
    asB v20 fun b22 =>
    if b22 = true then
    (some (.bool (decide (n8 = n16)), H21))
    else
    (some (.bool false, H21)))
  else
  (some (.bool false, H18)) := (opq_app _ _ _).trans <| by kernel_rfl
theorem law24_CmdParses_eq (d : Nat) (x0 : ByteArray) (x1 : Sl) (x2 : Bool) (H : Heap) : X (d + 1) n_law24_CmdParses [.string x0, x1.v, .bool x2] H =
  if (!x2) = true then
  (callK (X d n_law24_line [x1.v] H) fun v1 H2 =>
    asS v1 fun s3 =>
    law24_CmdParses_p11 d s3 H2)
  else
  (law24_CmdParses_p11 d x0 H) := by kernel_rfl
end Go.Proofs.Ytnpmlgibjhjiiaa.dec

namespace Go.Proofs.Ytnpmlgibjhjiiaa.dec
open Go Go.Cm
/-! porthole/portholelaw24.line -/
noncomputable def law24_line_k111 (d : Nat) : Kt := run (X d) NN (cd 7 [1, 1, 1]) (retK (rs 7)) [] (retK (rs 7))
noncomputable def law24_line_l11010 (d : Nat) (m0 : Nat) : Kt := iter (fun k => run (X d) NN (cd 7 [1, 1, 0, 1, 0, 0]) (backK [(0, .sl), (3, .str), (4, .int .i64)] (opq k)) [(0, (law24_line_k111 d))] (retK (rs 7))) m0
noncomputable def law24_line_k1101001 (d : Nat) (m0 : Nat) : Kt := run (X d) NN (cd 7 [1, 1, 0, 1, 0, 0, 1]) (backK [(0, .sl), (3, .str), (4, .int .i64)] (opq (law24_line_l11010 d m0))) [(0, (law24_line_k111 d))] (retK (rs 7))
noncomputable def law24_line_p11010 (d : Nat) (m0 : Nat) (x0 : Sl) (x3 : ByteArray) (x4 : Int) (H : Heap) : Res := opq (law24_line_l11010 d m0) [(0, x0.v), (3, .string x3), (4, .int .i64 x4)] H
noncomputable def law24_line_p11010001 (d : Nat) (m0 : Nat) (x0 : Sl) (x3 : ByteArray) (x4 : Int) (x12 : Bool) (H : Heap) : Res := opq (run (X d) NN (cd 7 [1, 1, 0, 1, 0, 0, 0, 1, 0]) (law24_line_k1101001 d m0) [(0, (law24_line_k111 d))] (retK (rs 7))) [(0, x0.v), (3, .string x3), (4, .int .i64 x4), (12, .bool x12)] H
theorem law24_line_p11010_s (d : Nat) (m0 : Nat) (x0 : Sl) (x3 : ByteArray) (x4 : Int) (H : Heap) : law24_line_p11010 d (m0 + 1) x0 x3 x4 H =
  if (decide (x4 < (x0.n : Int))) = true then
  (law24_line_p11010001 d m0 x0 x3 x4 (decide (x4 < 60)) H)
  else
  (law24_line_p11010001 d m0 x0 x3 x4 false H) := (opq_app _ _ _).trans <| by kernel_rfl
theorem law24_line_p11010001_eq (d : Nat) (m0 : Nat) (x0 : Sl) (x3 : ByteArray) (x4 : Int) (x12 : Bool) (H : Heap) : law24_line_p11010001 d m0 x0 x3 x4 x12 H =
  if x12 = true then
  (optK x0.a fun a1 =>
    if 0 ≤ x4 ∧ x4 < (x0.n : Int) then
    optK (Heap.ld1 H (ap a1 (((x4).toNat) * 1))) fun v2 =>
    asI .i64 v2 fun n3 =>
    callK (X d n_hand_Pick [.int .i64 n3, .int .i64 16] H) fun v4 H5 =>
    asI .i64 v4 fun n6 =>
    if 0 ≤ n6 ∧ n6 < 16 then
    optK (partL [.string (S [97]), .string (S [122, 111, 111, 109]), .string (S [32]), .string (S [32]), .string (S [59]), .string (S [34]), .string (S [34]), .string (S [92]), .string (S [98, 32, 99]), .string (S [49]), .string (S [45, 104]), .string (S [127]), .string (S [110, 101, 119, 45, 115, 101, 115, 115, 105, 111, 110]), .string (S [9]), .string (S [195, 169]), .string (S [92, 34])] (((n6).toNat) * 1) 1 false) fun v7 =>
    asS v7 fun s8 =>
    if slen x3 + slen s8 ≤ 9223372036854775807 then
    law24_line_p11010 d m0 x0 (sCat x3 s8) (IntKind.wrap .i64 (x4 + 1)) H5
    else none
    else none
    else none)
  else
  (some (.string x3, H)) := (opq_app _ _ _).trans <| by kernel_rfl
theorem law24_line_eq (d : Nat) (x0 : Sl) (H : Heap) : X (d + 1) n_law24_line [x0.v] H =
  law24_line_p11010 d NN x0 (S []) 0 H := by kernel_rfl
end Go.Proofs.Ytnpmlgibjhjiiaa.dec

namespace Go.Proofs.Ytnpmlgibjhjiiaa.dec
open Go Go.Cm
/-! porthole/cmd.Parse -/
noncomputable def cmd_Parse_k1111 (d : Nat) : Kt := run (X d) NN (cd 8 [1, 1, 1, 1]) (retK (rs 8)) [] (retK (rs 8))
noncomputable def cmd_Parse_l11100 (d : Nat) (m0 : Nat) : Kt := iter (fun k => run (X d) NN (cd 8 [1, 1, 1, 0, 0, 0]) (backK [(4, .ptr)] (opq k)) [(0, (cmd_Parse_k1111 d))] (retK (rs 8))) m0
noncomputable def cmd_Parse_p11100 (d : Nat) (m0 : Nat) (x4 : Nat) (H : Heap) : Res := opq (cmd_Parse_l11100 d m0) [(4, P0 x4)] H
noncomputable def cmd_Parse_p1110001011 (d : Nat) (m0 : Nat) (x4 : Nat) (x5 : Bool) (H : Heap) : Res := opq (run (X d) NN (cd 8 [1, 1, 1, 0, 0, 0, 1, 0, 1, 1, 0]) (backK [(4, .ptr)] (opq (cmd_Parse_l11100 d m0))) [(1, (backK [(4, .ptr)] (opq (cmd_Parse_l11100 d m0)))), (0, (cmd_Parse_k1111 d))] (retK (rs 8))) [(4, P0 x4), (5, .bool x5)] H
noncomputable def cmd_Parse_p111000101101 (d : Nat) (m0 : Nat) (x4 : Nat) (x74 : Bool) (H : Heap) : Res := opq (run (X d) NN (cd 8 [1, 1, 1, 0, 0, 0, 1, 0, 1, 1, 0, 1, 0]) (backK [(4, .ptr)] (opq (cmd_Parse_l11100 d m0))) [(1, (backK [(4, .ptr)] (opq (cmd_Parse_l11100 d m0)))), (0, (cmd_Parse_k1111 d))] (retK (rs 8))) [(4, P0 x4), (74, .bool x74)] H
theorem cmd_Parse_p11100_s (d : Nat) (m0 : Nat) (x4 : Nat) (H : Heap) : cmd_Parse_p11100 d (m0 + 1) x4 H =
  optK (Heap.ld1 H ⟨x4, 0, none⟩) fun v1 =>
  asS v1 fun s2 =>
  if (!sEq s2 (S [])) = true then
  (optK (Heap.ld1 H ⟨x4, 0, none⟩) fun v3 =>
    asS v3 fun s4 =>
    if 0 ≤ (0 : Int) ∧ (0 : Int) < (slen s4 : Int) then
    if (decide (bt s4 0 = 32)) = true then
    (optK (Heap.ld1 H ⟨x4, 0, none⟩) fun v5 =>
      asS v5 fun s6 =>
      if 0 ≤ (1 : Int) ∧ 1 ≤ (slen s6 : Int) then
      optK (Heap.st1 H ⟨x4, 0, none⟩ (.string (sSub s6 1 (slen s6)))) fun H7 =>
      cmd_Parse_p11100 d m0 x4 H7
      else none)
    else
    (if (decide (bt s4 0 = 59)) = true then
      (optK (Heap.ld1 H ⟨x4, 0, none⟩) fun v8 =>
        asS v8 fun s9 =>
        if 0 ≤ (1 : Int) ∧ 1 ≤ (slen s9 : Int) then
        optK (Heap.st1 H ⟨x4, 0, none⟩ (.string (sSub s9 1 (slen s9)))) fun H10 =>
        callK (X d n_cmd_reader_ends [P0 x4] H10) fun v11 H12 =>
        cmd_Parse_p11100 d m0 x4 H12
        else none)
      else
      (if (decide (bt s4 0 = 34)) = true then
        (callK (X d n_cmd_reader_quoted [P0 x4] H) fun v13 H14 =>
          asB v13 fun b15 =>
          cmd_Parse_p1110001011 d m0 x4 b15 H14)
        else
        (callK (X d n_cmd_reader_word [P0 x4] H) fun v16 H17 =>
          asB v16 fun b18 =>
          cmd_Parse_p1110001011 d m0 x4 b18 H17)))
    else none)
  else
  (callK (X d n_cmd_reader_ends [P0 x4] H) fun v19 H20 =>
    optK (Heap.ld1 H20 ⟨x4, 1, none⟩) fun v21 =>
    asSL v21 fun l22 =>
    some (.tuple #[l22.v, .int .i64 0], H20)) := (opq_app _ _ _).trans <| by kernel_rfl
theorem cmd_Parse_p1110001011_eq (d : Nat) (m0 : Nat) (x4 : Nat) (x5 : Bool) (H : Heap) : cmd_Parse_p1110001011 d m0 x4 x5 H =
  if (!x5) = true then
  (cmd_Parse_p111000101101 d m0 x4 true H)
  else
  (optK (Heap.ld1 H ⟨x4, 0, none⟩) fun v1 =>
    asS v1 fun s2 =>
    if (!sEq s2 (S [])) = true then
    (optK (Heap.ld1 H ⟨x4, 0, none⟩) fun v3 =>
      asS v3 fun s4 =>
      if 0 ≤ (0 : Int) ∧ (0 : Int) < (slen s4 : Int) then
      if (!decide (bt s4 0 = 32)) = true then
      (optK (Heap.ld1 H ⟨x4, 0, none⟩) fun v5 =>
        asS v5 fun s6 =>
        if 0 ≤ (0 : Int) ∧ (0 : Int) < (slen s6 : Int) then
        cmd_Parse_p111000101101 d m0 x4 (!decide (bt s6 0 = 59)) H
        else none)
      else
      (cmd_Parse_p111000101101 d m0 x4 false H)
      else none)
    else
    (cmd_Parse_p111000101101 d m0 x4 false H)) := (opq_app _ _ _).trans <| by kernel_rfl
theorem cmd_Parse_p111000101101_eq (d : Nat) (m0 : Nat) (x4 : Nat) (x74 : Bool) (H : Heap) : cmd_Parse_p111000101101 d m0 x4 x74 H =
  if x74 = true then
  (some (.tuple #[.slice none 0 0, .int .i64 5], H))
  else
  (cmd_Parse_p11100 d m0 x4 H) := (opq_app _ _ _).trans <| by kernel_rfl
theorem cmd_Parse_eq (d : Nat) (x0 : ByteArray) (H : Heap) : X (d + 1) n_cmd_Parse [.string x0] H =
  if (decide ((400 : Int) < (slen x0 : Int))) = true then
  (some (.tuple #[.slice none 0 0, .int .i64 6], H))
  else
  (newK H (.cells [.string x0, .slice none 0 0, .slice none 0 0] t_cmd_reader false 0 false) fun p1 H2 =>
    cmd_Parse_p11100 d NN p1 H2) := by kernel_rfl
end Go.Proofs.Ytnpmlgibjhjiiaa.dec

namespace Go.Proofs.Ytnpmlgibjhjiiaa.dec
open Go Go.Cm
/-! porthole/portholeref22.Parse -/
noncomputable def ref22_Parse_k11111 (d : Nat) : Kt := run (X d) NN (cd 9 [1, 1, 1, 1, 1]) (retK (rs 9)) [] (retK (rs 9))
noncomputable def ref22_Parse_l1111010 (d : Nat) (m0 : Nat) : Kt := iter (fun k => run (X d) NN (cd 9 [1, 1, 1, 1, 0, 1, 0, 0]) (backK [(0, .str), (4, .sl), (5, .sl), (6, .int .i64)] (opq k)) [(0, (ref22_Parse_k11111 d))] (retK (rs 9))) m0
noncomputable def ref22_Parse_k111101001010111110111 (d : Nat) (m0 : Nat) : Kt := run (X d) NN (cd 9 [1, 1, 1, 1, 0, 1, 0, 0, 1, 0, 1, 0, 1, 1, 1, 1, 1, 0, 1, 1, 1]) (backK [(0, .str), (4, .sl), (5, .sl), (6, .int .i64)] (opq (ref22_Parse_l1111010 d m0))) [(2, (backK [(0, .str), (4, .sl), (5, .sl), (6, .int .i64)] (opq (ref22_Parse_l1111010 d m0)))), (1, (backK [(0, .str), (4, .sl), (5, .sl), (6, .int .i64)] (opq (ref22_Parse_l1111010 d m0)))), (0, (ref22_Parse_k11111 d))] (retK (rs 9))
noncomputable def ref22_Parse_k111101001010111110111111 (d : Nat) (m0 : Nat) : Kt := run (X d) NN (cd 9 [1, 1, 1, 1, 0, 1, 0, 0, 1, 0, 1, 0, 1, 1, 1, 1, 1, 0, 1, 1, 1, 1, 1, 1]) (backK [(0, .str), (4, .sl), (5, .sl), (6, .int .i64)] (opq (ref22_Parse_l1111010 d m0))) [(2, (backK [(0, .str), (4, .sl), (5, .sl), (6, .int .i64)] (opq (ref22_Parse_l1111010 d m0)))), (1, (backK [(0, .str), (4, .sl), (5, .sl), (6, .int .i64)] (opq (ref22_Parse_l1111010 d m0)))), (0, (ref22_Parse_k11111 d))] (retK (rs 9))
noncomputable def ref22_Parse_l1111010010101111101100 (d : Nat) (m0 : Nat) (m1 : Nat) : Kt := iter (fun k => run (X d) NN (cd 9 [1, 1, 1, 1, 0, 1, 0, 0, 1, 0, 1, 0, 1, 1, 1, 1, 1, 0, 1, 1, 0, 0, 0]) (backK [(0, .str), (4, .sl), (5, .sl), (6, .int .i64), (8, .str)] (opq k)) [(3, (ref22_Parse_k111101001010111110111 d m0)), (2, (backK [(0, .str), (4, .sl), (5, .sl), (6, .int .i64)] (opq (ref22_Parse_l1111010 d m0)))), (1, (backK [(0, .str), (4, .sl), (5, .sl), (6, .int .i64)] (opq (ref22_Parse_l1111010 d m0)))), (0, (ref22_Parse_k11111 d))] (retK (rs 9))) m1
noncomputable def ref22_Parse_k111101001010111110110001 (d : Nat) (m0 : Nat) (m1 : Nat) : Kt := run (X d) NN (cd 9 [1, 1, 1, 1, 0, 1, 0, 0, 1, 0, 1, 0, 1, 1, 1, 1, 1, 0, 1, 1, 0, 0, 0, 1]) (backK [(0, .str), (4, .sl), (5, .sl), (6, .int .i64), (8, .str)] (opq (ref22_Parse_l1111010010101111101100 d m0 m1))) [(3, (ref22_Parse_k111101001010111110111 d m0)), (2, (backK [(0, .str), (4, .sl), (5, .sl), (6, .int .i64)] (opq (ref22_Parse_l1111010 d m0)))), (1, (backK [(0, .str), (4, .sl), (5, .sl), (6, .int .i64)] (opq (ref22_Parse_l1111010 d m0)))), (0, (ref22_Parse_k11111 d))] (retK (rs 9))
noncomputable def ref22_Parse_k11110100101011111011000101 (d : Nat) (m0 : Nat) (m1 : Nat) : Kt := run (X d) NN (cd 9 [1, 1, 1, 1, 0, 1, 0, 0, 1, 0, 1, 0, 1, 1, 1, 1, 1, 0, 1, 1, 0, 0, 0, 1, 0, 1]) (backK [(0, .str), (4, .sl), (5, .sl), (6, .int .i64), (8, .str)] (opq (ref22_Parse_l1111010010101111101100 d m0 m1))) [(4, (backK [(0, .str), (4, .sl), (5, .sl), (6, .int .i64), (8, .str)] (opq (ref22_Parse_l1111010010101111101100 d m0 m1)))), (3, (ref22_Parse_k111101001010111110111 d m0)), (2, (backK [(0, .str), (4, .sl), (5, .sl), (6, .int .i64)] (opq (ref22_Parse_l1111010 d m0)))), (1, (backK [(0, .str), (4, .sl), (5, .sl), (6, .int .i64)] (opq (ref22_Parse_l1111010 d m0)))), (0, (ref22_Parse_k11111 d))] (retK (rs 9))
noncomputable def ref22_Parse_k1111010010101111101100010101 (d : Nat) (m0 : Nat) (m1 : Nat) : Kt := run (X d) NN (cd 9 [1, 1, 1, 1, 0, 1, 0, 0, 1, 0, 1, 0, 1, 1, 1, 1, 1, 0, 1, 1, 0, 0, 0, 1, 0, 1, 0, 1]) (backK [(0, .str), (4, .sl), (5, .sl), (6, .int .i64), (8, .str)] (opq (ref22_Parse_l1111010010101111101100 d m0 m1))) [(4, (backK [(0, .str), (4, .sl), (5, .sl), (6, .int .i64), (8, .str)] (opq (ref22_Parse_l1111010010101111101100 d m0 m1)))), (3, (ref22_Parse_k111101001010111110111 d m0)), (2, (backK [(0, .str), (4, .sl), (5, .sl), (6, .int .i64)] (opq (ref22_Parse_l1111010 d m0)))), (1, (backK [(0, .str), (4, .sl), (5, .sl), (6, .int .i64)] (opq (ref22_Parse_l1111010 d m0)))), (0, (ref22_Parse_k11111 d))] (retK (rs 9))
noncomputable def ref22_Parse_k1111010010101111111011 (d : Nat) (m0 : Nat) : Kt := run (X d) NN (cd 9 [1, 1, 1, 1, 0, 1, 0, 0, 1, 0, 1, 0, 1, 1, 1, 1, 1, 1, 1, 0, 1, 1]) (backK [(0, .str), (4, .sl), (5, .sl), (6, .int .i64)] (opq (ref22_Parse_l1111010 d m0))) [(2, (backK [(0, .str), (4, .sl), (5, .sl), (6, .int .i64)] (opq (ref22_Parse_l1111010 d m0)))), (1, (backK [(0, .str), (4, .sl), (5, .sl), (6, .int .i64)] (opq (ref22_Parse_l1111010 d m0)))), (0, (ref22_Parse_k11111 d))] (retK (rs 9))
noncomputable def ref22_Parse_k11110100101011111110111 (d : Nat) (m0 : Nat) : Kt := run (X d) NN (cd 9 [1, 1, 1, 1, 0, 1, 0, 0, 1, 0, 1, 0, 1, 1, 1, 1, 1, 1, 1, 0, 1, 1, 1]) (backK [(0, .str), (4, .sl), (5, .sl), (6, .int .i64)] (opq (ref22_Parse_l1111010 d m0))) [(2, (backK [(0, .str), (4, .sl), (5, .sl), (6, .int .i64)] (opq (ref22_Parse_l1111010 d m0)))), (1, (backK [(0, .str), (4, .sl), (5, .sl), (6, .int .i64)] (opq (ref22_Parse_l1111010 d m0)))), (0, (ref22_Parse_k11111 d))] (retK (rs 9))
noncomputable def ref22_Parse_l11110100101011111110100 (d : Nat) (m0 : Nat) (m1 : Nat) : Kt := iter (fun k => run (X d) NN (cd 9 [1, 1, 1, 1, 0, 1, 0, 0, 1, 0, 1, 0, 1, 1, 1, 1, 1, 1, 1, 0, 1, 0, 0, 0]) (backK [(0, .str), (4, .sl), (5, .sl), (6, .int .i64), (9, .int .i64)] (opq k)) [(5, (ref22_Parse_k1111010010101111111011 d m0)), (2, (backK [(0, .str), (4, .sl), (5, .sl), (6, .int .i64)] (opq (ref22_Parse_l1111010 d m0)))), (1, (backK [(0, .str), (4, .sl), (5, .sl), (6, .int .i64)] (opq (ref22_Parse_l1111010 d m0)))), (0, (ref22_Parse_k11111 d))] (retK (rs 9))) m1
noncomputable def ref22_Parse_k1111010010101111111010001 (d : Nat) (m0 : Nat) (m1 : Nat) : Kt := run (X d) NN (cd 9 [1, 1, 1, 1, 0, 1, 0, 0, 1, 0, 1, 0, 1, 1, 1, 1, 1, 1, 1, 0, 1, 0, 0, 0, 1]) (backK [(0, .str), (4, .sl), (5, .sl), (6, .int .i64), (9, .int .i64)] (opq (ref22_Parse_l11110100101011111110100 d m0 m1))) [(5, (ref22_Parse_k1111010010101111111011 d m0)), (2, (backK [(0, .str), (4, .sl), (5, .sl), (6, .int .i64)] (opq (ref22_Parse_l1111010 d m0)))), (1, (backK [(0, .str), (4, .sl), (5, .sl), (6, .int .i64)] (opq (ref22_Parse_l1111010 d m0)))), (0, (ref22_Parse_k11111 d))] (retK (rs 9))
noncomputable def ref22_Parse_p1111010 (d : Nat) (m0 : Nat) (x0 : ByteArray) (x4 : Sl) (x5 : Sl) (x6 : Int) (H : Heap) : Res := opq (ref22_Parse_l1111010 d m0) [(0, .string x0), (4, x4.v), (5, x5.v), (6, .int .i64 x6)] H
noncomputable def ref22_Parse_p1111010010101111101100 (d : Nat) (m0 : Nat) (m1 : Nat) (x0 : ByteArray) (x4 : Sl) (x5 : Sl) (x6 : Int) (x8 : ByteArray) (H : Heap) : Res := opq (ref22_Parse_l1111010010101111101100 d m0 m1) [(0, .string x0), (4, x4.v), (5, x5.v), (6, .int .i64 x6), (8, .string x8)] H
noncomputable def ref22_Parse_p11110100101011111110100 (d : Nat) (m0 : Nat) (m1 : Nat) (x0 : ByteArray) (x4 : Sl) (x5 : Sl) (x6 : Int) (x9 : Int) (H : Heap) : Res := opq (ref22_Parse_l11110100101011111110100 d m0 m1) [(0, .string x0), (4, x4.v), (5, x5.v), (6, .int .i64 x6), (9, .int .i64 x9)] H
noncomputable def ref22_Parse_p1111010010101111101100001 (d : Nat) (m0 : Nat) (m1 : Nat) (x0 : ByteArray) (x4 : Sl) (x5 : Sl) (x6 : Int) (x8 : ByteArray) (x47 : Bool) (H : Heap) : Res := opq (run (X d) NN (cd 9 [1, 1, 1, 1, 0, 1, 0, 0, 1, 0, 1, 0, 1, 1, 1, 1, 1, 0, 1, 1, 0, 0, 0, 0, 1, 0]) (ref22_Parse_k111101001010111110110001 d m0 m1) [(3, (ref22_Parse_k111101001010111110111 d m0)), (2, (backK [(0, .str), (4, .sl), (5, .sl), (6, .int .i64)] (opq (ref22_Parse_l1111010 d m0)))), (1, (backK [(0, .str), (4, .sl), (5, .sl), (6, .int .i64)] (opq (ref22_Parse_l1111010 d m0)))), (0, (ref22_Parse_k11111 d))] (retK (rs 9))) [(0, .string x0), (4, x4.v), (5, x5.v), (6, .int .i64 x6), (8, .string x8), (47, .bool x47)] H
noncomputable def ref22_Parse_p11110100101011111110100001 (d : Nat) (m0 : Nat) (m1 : Nat) (x0 : ByteArray) (x4 : Sl) (x5 : Sl) (x6 : Int) (x9 : Int) (x128 : Bool) (H : Heap) : Res := opq (run (X d) NN (cd 9 [1, 1, 1, 1, 0, 1, 0, 0, 1, 0, 1, 0, 1, 1, 1, 1, 1, 1, 1, 0, 1, 0, 0, 0, 0, 1, 0]) (ref22_Parse_k1111010010101111111010001 d m0 m1) [(5, (ref22_Parse_k1111010010101111111011 d m0)), (2, (backK [(0, .str), (4, .sl), (5, .sl), (6, .int .i64)] (opq (ref22_Parse_l1111010 d m0)))), (1, (backK [(0, .str), (4, .sl), (5, .sl), (6, .int .i64)] (opq (ref22_Parse_l1111010 d m0)))), (0, (ref22_Parse_k11111 d))] (retK (rs 9))) [(0, .string x0), (4, x4.v), (5, x5.v), (6, .int .i64 x6), (9, .int .i64 x9), (128, .bool x128)] H
noncomputable def ref22_Parse_p111101001010111110110001001011 (d : Nat) (m0 : Nat) (m1 : Nat) (x0 : ByteArray) (x4 : Sl) (x5 : Sl) (x6 : Int) (x8 : ByteArray) (x69 : Bool) (H : Heap) : Res := opq (run (X d) NN (cd 9 [1, 1, 1, 1, 0, 1, 0, 0, 1, 0, 1, 0, 1, 1, 1, 1, 1, 0, 1, 1, 0, 0, 0, 1, 0, 0, 1, 0, 1, 1, 0]) (ref22_Parse_k11110100101011111011000101 d m0 m1) [(4, (backK [(0, .str), (4, .sl), (5, .sl), (6, .int .i64), (8, .str)] (opq (ref22_Parse_l1111010010101111101100 d m0 m1)))), (3, (ref22_Parse_k111101001010111110111 d m0)), (2, (backK [(0, .str), (4, .sl), (5, .sl), (6, .int .i64)] (opq (ref22_Parse_l1111010 d m0)))), (1, (backK [(0, .str), (4, .sl), (5, .sl), (6, .int .i64)] (opq (ref22_Parse_l1111010 d m0)))), (0, (ref22_Parse_k11111 d))] (retK (rs 9))) [(0, .string x0), (4, x4.v), (5, x5.v), (6, .int .i64 x6), (8, .string x8), (69, .bool x69)] H
noncomputable def ref22_Parse_p11110100101011111011000101 (d : Nat) (m0 : Nat) (m1 : Nat) (x0 : ByteArray) (x4 : Sl) (x5 : Sl) (x6 : Int) (x8 : ByteArray) (H : Heap) : Res := opq (run (X d) NN (cd 9 [1, 1, 1, 1, 0, 1, 0, 0, 1, 0, 1, 0, 1, 1, 1, 1, 1, 0, 1, 1, 0, 0, 0, 1, 0, 1, 0]) (backK [(0, .str), (4, .sl), (5, .sl), (6, .int .i64), (8, .str)] (opq (ref22_Parse_l1111010010101111101100 d m0 m1))) [(4, (backK [(0, .str), (4, .sl), (5, .sl), (6, .int .i64), (8, .str)] (opq (ref22_Parse_l1111010010101111101100 d m0 m1)))), (3, (ref22_Parse_k111101001010111110111 d m0)), (2, (backK [(0, .str), (4, .sl), (5, .sl), (6, .int .i64)] (opq (ref22_Parse_l1111010 d m0)))), (1, (backK [(0, .str), (4, .sl), (5, .sl), (6, .int .i64)] (opq (ref22_Parse_l1111010 d m0)))), (0, (ref22_Parse_k11111 d))] (retK (rs 9))) [(0, .string x0), (4, x4.v), (5, x5.v), (6, .int .i64 x6), (8, .string x8)] H
noncomputable def ref22_Parse_p1111010010101111101111101 (d : Nat) (m0 : Nat) (x0 : ByteArray) (x4 : Sl) (x5 : Sl) (x6 : Int) (x8 : ByteArray) (x110 : Bool) (H : Heap) : Res := opq (run (X d) NN (cd 9 [1, 1, 1, 1, 0, 1, 0, 0, 1, 0, 1, 0, 1, 1, 1, 1, 1, 0, 1, 1, 1, 1, 1, 0, 1, 0]) (ref22_Parse_k111101001010111110111111 d m0) [(2, (backK [(0, .str), (4, .sl), (5, .sl), (6, .int .i64)] (opq (ref22_Parse_l1111010 d m0)))), (1, (backK [(0, .str), (4, .sl), (5, .sl), (6, .int .i64)] (opq (ref22_Parse_l1111010 d m0)))), (0, (ref22_Parse_k11111 d))] (retK (rs 9))) [(0, .string x0), (4, x4.v), (5, x5.v), (6, .int .i64 x6), (8, .string x8), (110, .bool x110)] H
noncomputable def ref22_Parse_p111101001010111111101101 (d : Nat) (m0 : Nat) (x0 : ByteArray) (x4 : Sl) (x5 : Sl) (x6 : Int) (x9 : Int) (x146 : Bool) (H : Heap) : Res := opq (run (X d) NN (cd 9 [1, 1, 1, 1, 0, 1, 0, 0, 1, 0, 1, 0, 1, 1, 1, 1, 1, 1, 1, 0, 1, 1, 0, 1, 0]) (ref22_Parse_k11110100101011111110111 d m0) [(2, (backK [(0, .str), (4, .sl), (5, .sl), (6, .int .i64)] (opq (ref22_Parse_l1111010 d m0)))), (1, (backK [(0, .str), (4, .sl), (5, .sl), (6, .int .i64)] (opq (ref22_Parse_l1111010 d m0)))), (0, (ref22_Parse_k11111 d))] (retK (rs 9))) [(0, .string x0), (4, x4.v), (5, x5.v), (6, .int .i64 x6), (9, .int .i64 x9), (146, .bool x146)] H
noncomputable def ref22_Parse_p11110100101011111011000101001 (d : Nat) (m0 : Nat) (m1 : Nat) (x0 : ByteArray) (x4 : Sl) (x5 : Sl) (x6 : Int) (x8 : ByteArray) (x79 : Bool) (H : Heap) : Res := opq (run (X d) NN (cd 9 [1, 1, 1, 1, 0, 1, 0, 0, 1, 0, 1, 0, 1, 1, 1, 1, 1, 0, 1, 1, 0, 0, 0, 1, 0, 1, 0, 0, 1, 0]) (ref22_Parse_k1111010010101111101100010101 d m0 m1) [(4, (backK [(0, .str), (4, .sl), (5, .sl), (6, .int .i64), (8, .str)] (opq (ref22_Parse_l1111010010101111101100 d m0 m1)))), (3, (ref22_Parse_k111101001010111110111 d m0)), (2, (backK [(0, .str), (4, .sl), (5, .sl), (6, .int .i64)] (opq (ref22_Parse_l1111010 d m0)))), (1, (backK [(0, .str), (4, .sl), (5, .sl), (6, .int .i64)] (opq (ref22_Parse_l1111010 d m0)))), (0, (ref22_Parse_k11111 d))] (retK (rs 9))) [(0, .string x0), (4, x4.v), (5, x5.v), (6, .int .i64 x6), (8, .string x8), (79, .bool x79)] H
theorem ref22_Parse_p1111010_s (d : Nat) (m0 : Nat) (x0 : ByteArray) (x4 : Sl) (x5 : Sl) (x6 : Int) (H : Heap) : ref22_Parse_p1111010 d (m0 + 1) x0 x4 x5 x6 H =
  if (decide (x6 < (slen x0 : Int))) = true then
  (if 0 ≤ x6 ∧ x6 < (slen x0 : Int) then
    if (decide (bt x0 ((x6).toNat) = 32)) = true then
    (ref22_Parse_p1111010 d m0 x0 x4 x5 (IntKind.wrap .i64 (x6 + 1)) H)
    else
    (if (decide (bt x0 ((x6).toNat) = 59)) = true then
      (callK (X d n_ref22_flushed [x4.v, x5.v] H) fun v1 H2 =>
        asSL v1 fun l3 =>
        ref22_Parse_p1111010 d m0 x0 l3 Sl.nil (IntKind.wrap .i64 (x6 + 1)) H2)
      else
      (if (decide (bt x0 ((x6).toNat) = 34)) = true then
        (ref22_Parse_p1111010010101111101100 d m0 NN x0 x4 x5 (IntKind.wrap .i64 (x6 + 1)) (S []) H)
        else
        (callK (X d n_ref22_bare [.int .u8 (bt x0 ((x6).toNat))] H) fun v4 H5 =>
          asB v4 fun b6 =>
          if b6 = true then
          (ref22_Parse_p11110100101011111110100 d m0 NN x0 x4 x5 x6 x6 H5)
          else
          (some (.tuple #[.slice none 0 0, .int .i64 5], H5)))))
    else none)
  else
  (callK (X d n_ref22_flushed [x4.v, x5.v] H) fun v7 H8 =>
    asSL v7 fun l9 =>
    some (.tuple #[l9.v, .int .i64 0], H8)) := (opq_app _ _ _).trans <| by kernel_rfl
theorem ref22_Parse_p1111010010101111101100_s (d : Nat) (m0 : Nat) (m1 : Nat) (x0 : ByteArray) (x4 : Sl) (x5 : Sl) (x6 : Int) (x8 : ByteArray) (H : Heap) : ref22_Parse_p1111010010101111101100 d m0 (m1 + 1) x0 x4 x5 x6 x8 H =
  if (decide (x6 < (slen x0 : Int))) = true then
  (if 0 ≤ x6 ∧ x6 < (slen x0 : Int) then
    ref22_Parse_p1111010010101111101100001 d m0 m1 x0 x4 x5 x6 x8 (!decide (bt x0 ((x6).toNat) = 34)) H
    else none)
  else
  (ref22_Parse_p1111010010101111101100001 d m0 m1 x0 x4 x5 x6 x8 false H) := (opq_app _ _ _).trans <| by kernel_rfl
theorem ref22_Parse_p11110100101011111110100_s (d : Nat) (m0 : Nat) (m1 : Nat) (x0 : ByteArray) (x4 : Sl) (x5 : Sl) (x6 : Int) (x9 : Int) (H : Heap) : ref22_Parse_p11110100101011111110100 d m0 (m1 + 1) x0 x4 x5 x6 x9 H =
  if (decide (x6 < (slen x0 : Int))) = true then
  (if 0 ≤ x6 ∧ x6 < (slen x0 : Int) then
    callK (X d n_ref22_bare [.int .u8 (bt x0 ((x6).toNat))] H) fun v1 H2 =>
    asB v1 fun b3 =>
    ref22_Parse_p11110100101011111110100001 d m0 m1 x0 x4 x5 x6 x9 b3 H2
    else none)
  else
  (ref22_Parse_p11110100101011111110100001 d m0 m1 x0 x4 x5 x6 x9 false H) := (opq_app _ _ _).trans <| by kernel_rfl
theorem ref22_Parse_p1111010010101111101100001_eq (d : Nat) (m0 : Nat) (m1 : Nat) (x0 : ByteArray) (x4 : Sl) (x5 : Sl) (x6 : Int) (x8 : ByteArray) (x47 : Bool) (H : Heap) : ref22_Parse_p1111010010101111101100001 d m0 m1 x0 x4 x5 x6 x8 x47 H =
  if x47 = true then
  (if 0 ≤ x6 ∧ x6 < (slen x0 : Int) then
    if (decide (bt x0 ((x6).toNat) = 92)) = true then
    (if (decide ((slen x0 : Int) ≤ IntKind.wrap .i64 (x6 + 1))) = true then
      (ref22_Parse_p111101001010111110110001001011 d m0 m1 x0 x4 x5 (IntKind.wrap .i64 (x6 + 1)) x8 true H)
      else
      (if 0 ≤ IntKind.wrap .i64 (x6 + 1) ∧ IntKind.wrap .i64 (x6 + 1) < (slen x0 : Int) then
        if (!decide (bt x0 ((IntKind.wrap .i64 (x6 + 1)).toNat) = 34)) = true then
        (if 0 ≤ IntKind.wrap .i64 (x6 + 1) ∧ IntKind.wrap .i64 (x6 + 1) < (slen x0 : Int) then
          ref22_Parse_p111101001010111110110001001011 d m0 m1 x0 x4 x5 (IntKind.wrap .i64 (x6 + 1)) x8 (!decide (bt x0 ((IntKind.wrap .i64 (x6 + 1)).toNat) = 92)) H
          else none)
        else
        (ref22_Parse_p111101001010111110110001001011 d m0 m1 x0 x4 x5 (IntKind.wrap .i64 (x6 + 1)) x8 false H)
        else none))
    else
    (ref22_Parse_p11110100101011111011000101 d m0 m1 x0 x4 x5 x6 x8 H)
    else none)
  else
  (if (decide ((slen x0 : Int) ≤ x6)) = true then
    (some (.tuple #[.slice none 0 0, .int .i64 5], H))
    else
    (if (decide (IntKind.wrap .i64 (x6 + 1) < (slen x0 : Int))) = true then
      (if 0 ≤ IntKind.wrap .i64 (x6 + 1) ∧ IntKind.wrap .i64 (x6 + 1) < (slen x0 : Int) then
        if (!decide (bt x0 ((IntKind.wrap .i64 (x6 + 1)).toNat) = 32)) = true then
        (if 0 ≤ IntKind.wrap .i64 (x6 + 1) ∧ IntKind.wrap .i64 (x6 + 1) < (slen x0 : Int) then
          ref22_Parse_p1111010010101111101111101 d m0 x0 x4 x5 (IntKind.wrap .i64 (x6 + 1)) x8 (!decide (bt x0 ((IntKind.wrap .i64 (x6 + 1)).toNat) = 59)) H
          else none)
        else
        (ref22_Parse_p1111010010101111101111101 d m0 x0 x4 x5 (IntKind.wrap .i64 (x6 + 1)) x8 false H)
        else none)
      else
      (ref22_Parse_p1111010010101111101111101 d m0 x0 x4 x5 (IntKind.wrap .i64 (x6 + 1)) x8 false H))) := (opq_app _ _ _).trans <| by kernel_rfl
theorem ref22_Parse_p11110100101011111110100001_eq (d : Nat) (m0 : Nat) (m1 : Nat) (x0 : ByteArray) (x4 : Sl) (x5 : Sl) (x6 : Int) (x9 : Int) (x128 : Bool) (H : Heap) : ref22_Parse_p11110100101011111110100001 d m0 m1 x0 x4 x5 x6 x9 x128 H =
  if x128 = true then
  (ref22_Parse_p11110100101011111110100 d m0 m1 x0 x4 x5 (IntKind.wrap .i64 (x6 + 1)) x9 H)
  else
  (if (decide (x6 < (slen x0 : Int))) = true then
    (if 0 ≤ x6 ∧ x6 < (slen x0 : Int) then
      if (!decide (bt x0 ((x6).toNat) = 32)) = true then
      (if 0 ≤ x6 ∧ x6 < (slen x0 : Int) then
        ref22_Parse_p111101001010111111101101 d m0 x0 x4 x5 x6 x9 (!decide (bt x0 ((x6).toNat) = 59)) H
        else none)
      else
      (ref22_Parse_p111101001010111111101101 d m0 x0 x4 x5 x6 x9 false H)
      else none)
    else
    (ref22_Parse_p111101001010111111101101 d m0 x0 x4 x5 x6 x9 false H)) := (opq_app _ _ _).trans <| by kernel_rfl
theorem ref22_Parse_p111101001010111110110001001011_eq (d : Nat) (m0 : Nat) (m1 : Nat) (x0 : ByteArray) (x4 : Sl) (x5 : Sl) (x6 : Int) (x8 : ByteArray) (x69 : Bool) (H : Heap) : ref22_Parse_p111101001010111110110001001011 d m0 m1 x0 x4 x5 x6 x8 x69 H =
  if x69 = true then
  (some (.tuple #[.slice none 0 0, .int .i64 5], H))
  else
  (ref22_Parse_p11110100101011111011000101 d m0 m1 x0 x4 x5 x6 x8 H) := (opq_app _ _ _).trans <| by kernel_rfl
theorem ref22_Parse_p11110100101011111011000101_eq (d : Nat) (m0 : Nat) (m1 : Nat) (x0 : ByteArray) (x4 : Sl) (x5 : Sl) (x6 : Int) (x8 : ByteArray) (H : Heap) : ref22_Parse_p11110100101011111011000101 d m0 m1 x0 x4 x5 x6 x8 H =
  if 0 ≤ x6 ∧ x6 < (slen x0 : Int) then
  if (decide (bt x0 ((x6).toNat) < 32)) = true then
  (ref22_Parse_p11110100101011111011000101001 d m0 m1 x0 x4 x5 x6 x8 true H)
  else
  (if 0 ≤ x6 ∧ x6 < (slen x0 : Int) then
    ref22_Parse_p11110100101011111011000101001 d m0 m1 x0 x4 x5 x6 x8 (decide ((126 : Int) < bt x0 ((x6).toNat))) H
    else none)
  else none := (opq_app _ _ _).trans <| by kernel_rfl
theorem ref22_Parse_p1111010010101111101111101_eq (d : Nat) (m0 : Nat) (x0 : ByteArray) (x4 : Sl) (x5 : Sl) (x6 : Int) (x8 : ByteArray) (x110 : Bool) (H : Heap) : ref22_Parse_p1111010010101111101111101 d m0 x0 x4 x5 x6 x8 x110 H =
  if x110 = true then
  (some (.tuple #[.slice none 0 0, .int .i64 5], H))
  else
  (newK H (.cells [.string x8] t_string false 0 false) fun p1 H2 =>
    appendK t_string 1 16 false x5.v (.slice (some ⟨p1, 0, none⟩) 1 1) H2 fun v3 H4 =>
    asSL v3 fun l5 =>
    ref22_Parse_p1111010 d m0 x0 x4 l5 x6 H4) := (opq_app _ _ _).trans <| by kernel_rfl
theorem ref22_Parse_p111101001010111111101101_eq (d : Nat) (m0 : Nat) (x0 : ByteArray) (x4 : Sl) (x5 : Sl) (x6 : Int) (x9 : Int) (x146 : Bool) (H : Heap) : ref22_Parse_p111101001010111111101101 d m0 x0 x4 x5 x6 x9 x146 H =
  if x146 = true then
  (some (.tuple #[.slice none 0 0, .int .i64 5], H))
  else
  (if 0 ≤ x9 ∧ x9 ≤ x6 ∧ x6 ≤ (slen x0 : Int) then
    newK H (.cells [.string (sSub x0 ((x9).toNat) ((x6).toNat))] t_string false 0 false) fun p1 H2 =>
    appendK t_string 1 16 false x5.v (.slice (some ⟨p1, 0, none⟩) 1 1) H2 fun v3 H4 =>
    asSL v3 fun l5 =>
    ref22_Parse_p1111010 d m0 x0 x4 l5 x6 H4
    else none) := (opq_app _ _ _).trans <| by kernel_rfl
theorem ref22_Parse_p11110100101011111011000101001_eq (d : Nat) (m0 : Nat) (m1 : Nat) (x0 : ByteArray) (x4 : Sl) (x5 : Sl) (x6 : Int) (x8 : ByteArray) (x79 : Bool) (H : Heap) : ref22_Parse_p11110100101011111011000101001 d m0 m1 x0 x4 x5 x6 x8 x79 H =
  if x79 = true then
  (some (.tuple #[.slice none 0 0, .int .i64 5], H))
  else
  (if 0 ≤ x6 ∧ x6 ≤ IntKind.wrap .i64 (x6 + 1) ∧ IntKind.wrap .i64 (x6 + 1) ≤ (slen x0 : Int) then
    if slen x8 + slen (sSub x0 ((x6).toNat) ((IntKind.wrap .i64 (x6 + 1)).toNat)) ≤ 9223372036854775807 then
    ref22_Parse_p1111010010101111101100 d m0 m1 x0 x4 x5 (IntKind.wrap .i64 (x6 + 1)) (sCat x8 (sSub x0 ((x6).toNat) ((IntKind.wrap .i64 (x6 + 1)).toNat))) H
    else none
    else none) := (opq_app _ _ _).trans <| by kernel_rfl
theorem ref22_Parse_eq (d : Nat) (x0 : ByteArray) (H : Heap) : X (d + 1) n_ref22_Parse [.string x0] H =
  if (decide ((400 : Int) < (slen x0 : Int))) = true then
  (some (.tuple #[.slice none 0 0, .int .i64 6], H))
  else
  (ref22_Parse_p1111010 d NN x0 Sl.nil Sl.nil 0 H) := by kernel_rfl
end Go.Proofs.Ytnpmlgibjhjiiaa.dec

namespace Go.Proofs.Ytnpmlgibjhjiiaa.dec
open Go Go.Cm
/-! porthole/portholelaw24.same -/
noncomputable def law24_same_k111 (d : Nat) : Kt := run (X d) NN (cd 11 [1, 1, 1]) (retK (rs 11)) [] (retK (rs 11))
noncomputable def law24_same_l11010 (d : Nat) (m0 : Nat) : Kt := iter (fun k => run (X d) NN (cd 11 [1, 1, 0, 1, 0, 0]) (backK [(0, .sl), (1, .sl), (5, .int .i64)] (opq k)) [(0, (law24_same_k111 d))] (retK (rs 11))) m0
noncomputable def law24_same_k11010011 (d : Nat) (m0 : Nat) : Kt := run (X d) NN (cd 11 [1, 1, 0, 1, 0, 0, 1, 1]) (backK [(0, .sl), (1, .sl), (5, .int .i64)] (opq (law24_same_l11010 d m0))) [(0, (law24_same_k111 d))] (retK (rs 11))
noncomputable def law24_same_k1101001001 (d : Nat) (m0 : Nat) : Kt := run (X d) NN (cd 11 [1, 1, 0, 1, 0, 0, 1, 0, 0, 1]) (law24_same_k11010011 d m0) [(1, (law24_same_k11010011 d m0)), (0, (law24_same_k111 d))] (retK (rs 11))
noncomputable def law24_same_l110100100110 (d : Nat) (m0 : Nat) (m1 : Nat) : Kt := iter (fun k => run (X d) NN (cd 11 [1, 1, 0, 1, 0, 0, 1, 0, 0, 1, 1, 0, 0]) (backK [(0, .sl), (1, .sl), (5, .int .i64), (6, .int .i64)] (opq k)) [(2, (law24_same_k11010011 d m0)), (1, (law24_same_k11010011 d m0)), (0, (law24_same_k111 d))] (retK (rs 11))) m1
noncomputable def law24_same_p11010 (d : Nat) (m0 : Nat) (x0 : Sl) (x1 : Sl) (x5 : Int) (H : Heap) : Res := opq (law24_same_l11010 d m0) [(0, x0.v), (1, x1.v), (5, .int .i64 x5)] H
noncomputable def law24_same_p11010010001 (d : Nat) (m0 : Nat) (x0 : Sl) (x1 : Sl) (x5 : Int) (x43 : Bool) (H : Heap) : Res := opq (run (X d) NN (cd 11 [1, 1, 0, 1, 0, 0, 1, 0, 0, 0, 1, 0]) (law24_same_k1101001001 d m0) [(1, (law24_same_k11010011 d m0)), (0, (law24_same_k111 d))] (retK (rs 11))) [(0, x0.v), (1, x1.v), (5, .int .i64 x5), (43, .bool x43)] H
noncomputable def law24_same_p110100100110 (d : Nat) (m0 : Nat) (m1 : Nat) (x0 : Sl) (x1 : Sl) (x5 : Int) (x6 : Int) (H : Heap) : Res := opq (law24_same_l110100100110 d m0 m1) [(0, x0.v), (1, x1.v), (5, .int .i64 x5), (6, .int .i64 x6)] H
theorem law24_same_p11010_s (d : Nat) (m0 : Nat) (x0 : Sl) (x1 : Sl) (x5 : Int) (H : Heap) : law24_same_p11010 d (m0 + 1) x0 x1 x5 H =
  if (decide (x5 < (x0.n : Int))) = true then
  (optK x0.a fun a1 =>
    if 0 ≤ x5 ∧ x5 < (x0.n : Int) then
    optK (Heap.ld1 H (ap (ap a1 (((x5).toNat) * 2)) 0)) fun v2 =>
    asS v2 fun s3 =>
    optK x1.a fun a4 =>
    if 0 ≤ x5 ∧ x5 < (x1.n : Int) then
    optK (Heap.ld1 H (ap (ap a4 (((x5).toNat) * 2)) 0)) fun v5 =>
    asS v5 fun s6 =>
    if (!sEq s3 s6) = true then
    (law24_same_p11010010001 d m0 x0 x1 x5 true H)
    else
    (optK x0.a fun a7 =>
      if 0 ≤ x5 ∧ x5 < (x0.n : Int) then
      optK (Heap.ld1 H (ap (ap a7 (((x5).toNat) * 2)) 1)) fun v8 =>
      asSL v8 fun l9 =>
      optK x1.a fun a10 =>
      if 0 ≤ x5 ∧ x5 < (x1.n : Int) then
      optK (Heap.ld1 H (ap (ap a10 (((x5).toNat) * 2)) 1)) fun v11 =>
      asSL v11 fun l12 =>
      law24_same_p11010010001 d m0 x0 x1 x5 (!decide ((l9.n : Int) = (l12.n : Int))) H
      else none
      else none)
    else none
    else none)
  else
  (some (.bool true, H)) := (opq_app _ _ _).trans <| by kernel_rfl
theorem law24_same_p11010010001_eq (d : Nat) (m0 : Nat) (x0 : Sl) (x1 : Sl) (x5 : Int) (x43 : Bool) (H : Heap) : law24_same_p11010010001 d m0 x0 x1 x5 x43 H =
  if x43 = true then
  (some (.bool false, H))
  else
  (law24_same_p110100100110 d m0 NN x0 x1 x5 0 H) := (opq_app _ _ _).trans <| by kernel_rfl
theorem law24_same_p110100100110_s (d : Nat) (m0 : Nat) (m1 : Nat) (x0 : Sl) (x1 : Sl) (x5 : Int) (x6 : Int) (H : Heap) : law24_same_p110100100110 d m0 (m1 + 1) x0 x1 x5 x6 H =
  optK x0.a fun a1 =>
  if 0 ≤ x5 ∧ x5 < (x0.n : Int) then
  optK (Heap.ld1 H (ap (ap a1 (((x5).toNat) * 2)) 1)) fun v2 =>
  asSL v2 fun l3 =>
  if (decide (x6 < (l3.n : Int))) = true then
  (optK x0.a fun a4 =>
    if 0 ≤ x5 ∧ x5 < (x0.n : Int) then
    optK (Heap.ld1 H (ap (ap a4 (((x5).toNat) * 2)) 1)) fun v5 =>
    asSL v5 fun l6 =>
    optK l6.a fun a7 =>
    if 0 ≤ x6 ∧ x6 < (l6.n : Int) then
    optK (Heap.ld1 H (ap a7 (((x6).toNat) * 1))) fun v8 =>
    asS v8 fun s9 =>
    optK x1.a fun a10 =>
    if 0 ≤ x5 ∧ x5 < (x1.n : Int) then
    optK (Heap.ld1 H (ap (ap a10 (((x5).toNat) * 2)) 1)) fun v11 =>
    asSL v11 fun l12 =>
    optK l12.a fun a13 =>
    if 0 ≤ x6 ∧ x6 < (l12.n : Int) then
    optK (Heap.ld1 H (ap a13 (((x6).toNat) * 1))) fun v14 =>
    asS v14 fun s15 =>
    if (!sEq s9 s15) = true then
    (some (.bool false, H))
    else
    (law24_same_p110100100110 d m0 m1 x0 x1 x5 (IntKind.wrap .i64 (x6 + 1)) H)
    else none
    else none
    else none
    else none)
  else
  (law24_same_p11010 d m0 x0 x1 (IntKind.wrap .i64 (x5 + 1)) H)
  else none := (opq_app _ _ _).trans <| by kernel_rfl
theorem law24_same_eq (d : Nat) (x0 : Sl) (x1 : Sl) (H : Heap) : X (d + 1) n_law24_same [x0.v, x1.v] H =
  if (!decide ((x0.n : Int) = (x1.n : Int))) = true then
  (some (.bool false, H))
  else
  (law24_same_p11010 d NN x0 x1 0 H) := by kernel_rfl
end Go.Proofs.Ytnpmlgibjhjiiaa.dec

namespace Go.Proofs.Ytnpmlgibjhjiiaa.dec
open Go Go.Cm
/-! porthole/portholehand.Pick -/
theorem hand_Pick_eq (d : Nat) (x0 : Int) (x1 : Int) (H : Heap) : X (d + 1) n_hand_Pick [.int .i64 x0, .int .i64 x1] H =
  if x1 = 0 then none else
  if (decide (Int.tmod x0 x1 < 0)) = true then
  (some (.int .i64 (IntKind.wrap .i64 ((Int.tmod x0 x1) + x1)), H))
  else
  (some (.int .i64 (Int.tmod x0 x1), H)) := by kernel_rfl
end Go.Proofs.Ytnpmlgibjhjiiaa.dec

namespace Go.Proofs.Ytnpmlgibjhjiiaa.dec
open Go Go.Cm
/-! (*porthole/cmd.reader).ends -/
noncomputable def cmd_reader_ends_p1 (d : Nat) (x0 : Nat) (H : Heap) : Res := opq (run (X d) NN (cd 21 [1, 0]) (retK (rs 21)) [] (retK (rs 21))) [(0, P0 x0)] H
theorem cmd_reader_ends_p1_eq (d : Nat) (x0 : Nat) (H : Heap) : cmd_reader_ends_p1 d x0 H =
  optK (Heap.st1 H ⟨x0, 2, none⟩ (.slice none 0 0)) fun H1 =>
  some (.tuple #[], H1) := (opq_app _ _ _).trans <| by kernel_rfl
theorem cmd_reader_ends_eq (d : Nat) (x0 : Nat) (H : Heap) : X (d + 1) n_cmd_reader_ends [P0 x0] H =
  optK (Heap.ld1 H ⟨x0, 2, none⟩) fun v1 =>
  asSL v1 fun l2 =>
  if (decide ((0 : Int) < (l2.n : Int))) = true then
  (optK (Heap.ld1 H ⟨x0, 1, none⟩) fun v3 =>
    asSL v3 fun l4 =>
    optK (Heap.ld1 H ⟨x0, 2, none⟩) fun v5 =>
    asSL v5 fun l6 =>
    optK l6.a fun a7 =>
    if 0 ≤ (0 : Int) ∧ (0 : Int) < (l6.n : Int) then
    optK (Heap.ld1 H (ap a7 0)) fun v8 =>
    asS v8 fun s9 =>
    newK H (.cells [] t_string false 0 false) fun p10 H11 =>
    optK (Heap.ld1 H11 ⟨x0, 2, none⟩) fun v12 =>
    asSL v12 fun l13 =>
    optK (readD (.subSl t_string 1 true false false) [l13.v, .int .i64 1] H11) fun v14 =>
    asSL v14 fun l15 =>
    appendK t_string 1 16 false (.slice (some ⟨p10, 0, none⟩) 0 0) l15.v H11 fun v16 H17 =>
    asSL v16 fun l18 =>
    newK H17 (.cells [.string s9, l18.v] t_cmd_Command false 0 false) fun p19 H20 =>
    appendK t_cmd_Command 2 40 false l4.v (.slice (some ⟨p19, 0, none⟩) 1 1) H20 fun v21 H22 =>
    asSL v21 fun l23 =>
    optK (Heap.st1 H22 ⟨x0, 1, none⟩ l23.v) fun H24 =>
    chk (rdsOk [H, H11, H17, H20, H22, H24] [⟨.subSl t_string 1 true false false, [l13.v, .int .i64 1], v14, 0, 1⟩, ⟨.load 1 false, [.pointer (some ⟨x0, 2, none⟩)], v12, 0, 1⟩, ⟨.load 1 false, [.pointer (some (ap a7 0))], v8, 0, 2⟩, ⟨.load 1 false, [.pointer (some ⟨x0, 2, none⟩)], v5, 0, 2⟩, ⟨.load 1 false, [.pointer (some ⟨x0, 1, none⟩)], v3, 0, 3⟩]) (
      cmd_reader_ends_p1 d x0 H24)
    else none)
  else
  (cmd_reader_ends_p1 d x0 H) := by kernel_rfl
end Go.Proofs.Ytnpmlgibjhjiiaa.dec

namespace Go.Proofs.Ytnpmlgibjhjiiaa.dec
open Go Go.Cm
/-! (*porthole/cmd.reader).quoted -/
noncomputable def cmd_reader_quoted_k111 (d : Nat) : Kt := run (X d) NN (cd 22 [1, 1, 1]) (retK (rs 22)) [] (retK (rs 22))
noncomputable def cmd_reader_quoted_l11010 (d : Nat) (m0 : Nat) : Kt := iter (fun k => run (X d) NN (cd 22 [1, 1, 0, 1, 0, 0]) (backK [(0, .ptr), (3, .sl), (4, .int .i64)] (opq k)) [(0, (cmd_reader_quoted_k111 d))] (retK (rs 22))) m0
noncomputable def cmd_reader_quoted_k11010011 (d : Nat) (m0 : Nat) : Kt := run (X d) NN (cd 22 [1, 1, 0, 1, 0, 0, 1, 1]) (backK [(0, .ptr), (3, .sl), (4, .int .i64)] (opq (cmd_reader_quoted_l11010 d m0))) [(0, (cmd_reader_quoted_k111 d))] (retK (rs 22))
noncomputable def cmd_reader_quoted_k11010010011 (d : Nat) (m0 : Nat) : Kt := run (X d) NN (cd 22 [1, 1, 0, 1, 0, 0, 1, 0, 0, 1, 1]) (cmd_reader_quoted_k11010011 d m0) [(1, (cmd_reader_quoted_k11010011 d m0)), (0, (cmd_reader_quoted_k111 d))] (retK (rs 22))
noncomputable def cmd_reader_quoted_k110100100100101111011 (d : Nat) (m0 : Nat) : Kt := run (X d) NN (cd 22 [1, 1, 0, 1, 0, 0, 1, 0, 0, 1, 0, 0, 1, 0, 1, 1, 1, 1, 0, 1, 1]) (cmd_reader_quoted_k11010010011 d m0) [(2, (cmd_reader_quoted_k11010010011 d m0)), (1, (cmd_reader_quoted_k11010011 d m0)), (0, (cmd_reader_quoted_k111 d))] (retK (rs 22))
noncomputable def cmd_reader_quoted_p11010 (d : Nat) (m0 : Nat) (x0 : Nat) (x3 : Sl) (x4 : Int) (H : Heap) : Res := opq (cmd_reader_quoted_l11010 d m0) [(0, P0 x0), (3, x3.v), (4, .int .i64 x4)] H
noncomputable def cmd_reader_quoted_p1101001001001 (d : Nat) (m0 : Nat) (x0 : Nat) (x3 : Sl) (x4 : Int) (x5 : Int) (x21 : Bool) (H : Heap) : Res := opq (run (X d) NN (cd 22 [1, 1, 0, 1, 0, 0, 1, 0, 0, 1, 0, 0, 1, 0]) (cmd_reader_quoted_k11010010011 d m0) [(2, (cmd_reader_quoted_k11010010011 d m0)), (1, (cmd_reader_quoted_k11010011 d m0)), (0, (cmd_reader_quoted_k111 d))] (retK (rs 22))) [(0, P0 x0), (3, x3.v), (4, .int .i64 x4), (5, .int .u8 x5), (21, .bool x21)] H
noncomputable def cmd_reader_quoted_p1101001001001011110101 (d : Nat) (m0 : Nat) (x0 : Nat) (x3 : Sl) (x4 : Int) (x81 : Bool) (H : Heap) : Res := opq (run (X d) NN (cd 22 [1, 1, 0, 1, 0, 0, 1, 0, 0, 1, 0, 0, 1, 0, 1, 1, 1, 1, 0, 1, 0, 1, 0]) (cmd_reader_quoted_k110100100100101111011 d m0) [(2, (cmd_reader_quoted_k11010010011 d m0)), (1, (cmd_reader_quoted_k11010011 d m0)), (0, (cmd_reader_quoted_k111 d))] (retK (rs 22))) [(0, P0 x0), (3, x3.v), (4, .int .i64 x4), (81, .bool x81)] H
noncomputable def cmd_reader_quoted_p11010010011 (d : Nat) (m0 : Nat) (x0 : Nat) (x3 : Sl) (x4 : Int) (x5 : Int) (H : Heap) : Res := opq (run (X d) NN (cd 22 [1, 1, 0, 1, 0, 0, 1, 0, 0, 1, 1, 0]) (cmd_reader_quoted_k11010011 d m0) [(1, (cmd_reader_quoted_k11010011 d m0)), (0, (cmd_reader_quoted_k111 d))] (retK (rs 22))) [(0, P0 x0), (3, x3.v), (4, .int .i64 x4), (5, .int .u8 x5)] H
theorem cmd_reader_quoted_p11010_s (d : Nat) (m0 : Nat) (x0 : Nat) (x3 : Sl) (x4 : Int) (H : Heap) : cmd_reader_quoted_p11010 d (m0 + 1) x0 x3 x4 H =
  optK (Heap.ld1 H ⟨x0, 0, none⟩) fun v1 =>
  asS v1 fun s2 =>
  if (decide (x4 < (slen s2 : Int))) = true then
  (optK (Heap.ld1 H ⟨x0, 0, none⟩) fun v3 =>
    asS v3 fun s4 =>
    if 0 ≤ x4 ∧ x4 < (slen s4 : Int) then
    if (decide (bt s4 ((x4).toNat) < 32)) = true then
    (cmd_reader_quoted_p1101001001001 d m0 x0 x3 x4 (bt s4 ((x4).toNat)) true H)
    else
    (cmd_reader_quoted_p1101001001001 d m0 x0 x3 x4 (bt s4 ((x4).toNat)) (decide ((126 : Int) < bt s4 ((x4).toNat))) H)
    else none)
  else
  (some (.bool false, H)) := (opq_app _ _ _).trans <| by kernel_rfl
theorem cmd_reader_quoted_p1101001001001_eq (d : Nat) (m0 : Nat) (x0 : Nat) (x3 : Sl) (x4 : Int) (x5 : Int) (x21 : Bool) (H : Heap) : cmd_reader_quoted_p1101001001001 d m0 x0 x3 x4 x5 x21 H =
  if x21 = true then
  (some (.bool false, H))
  else
  (if (decide (x5 = 34)) = true then
    (optK (Heap.ld1 H ⟨x0, 2, none⟩) fun v1 =>
      asSL v1 fun l2 =>
      optK (readD (.bytesStr) [x3.v] H) fun v3 =>
      asS v3 fun s4 =>
      newK H (.cells [.string s4] t_string false 0 false) fun p5 H6 =>
      appendK t_string 1 16 false l2.v (.slice (some ⟨p5, 0, none⟩) 1 1) H6 fun v7 H8 =>
      asSL v7 fun l9 =>
      optK (Heap.st1 H8 ⟨x0, 2, none⟩ l9.v) fun H10 =>
      chk (rdsOk [H, H6, H8, H10] [⟨.load 1 false, [.pointer (some ⟨x0, 2, none⟩)], v1, 0, 1⟩]) (
        optK (Heap.ld1 H10 ⟨x0, 0, none⟩) fun v11 =>
        asS v11 fun s12 =>
        if 0 ≤ IntKind.wrap .i64 (x4 + 1) ∧ IntKind.wrap .i64 (x4 + 1) ≤ (slen s12 : Int) then
        optK (Heap.st1 H10 ⟨x0, 0, none⟩ (.string (sSub s12 ((IntKind.wrap .i64 (x4 + 1)).toNat) (slen s12)))) fun H13 =>
        some (.bool true, H13)
        else none))
    else
    (if (decide (x5 = 92)) = true then
      (optK (Heap.ld1 H ⟨x0, 0, none⟩) fun v14 =>
        asS v14 fun s15 =>
        if (decide (IntKind.wrap .i64 (x4 + 1) = (slen s15 : Int))) = true then
        (cmd_reader_quoted_p1101001001001011110101 d m0 x0 x3 (IntKind.wrap .i64 (x4 + 1)) true H)
        else
        (optK (Heap.ld1 H ⟨x0, 0, none⟩) fun v16 =>
          asS v16 fun s17 =>
          if 0 ≤ IntKind.wrap .i64 (x4 + 1) ∧ IntKind.wrap .i64 (x4 + 1) < (slen s17 : Int) then
          if (!decide (bt s17 ((IntKind.wrap .i64 (x4 + 1)).toNat) = 34)) = true then
          (optK (Heap.ld1 H ⟨x0, 0, none⟩) fun v18 =>
            asS v18 fun s19 =>
            if 0 ≤ IntKind.wrap .i64 (x4 + 1) ∧ IntKind.wrap .i64 (x4 + 1) < (slen s19 : Int) then
            cmd_reader_quoted_p1101001001001011110101 d m0 x0 x3 (IntKind.wrap .i64 (x4 + 1)) (!decide (bt s19 ((IntKind.wrap .i64 (x4 + 1)).toNat) = 92)) H
            else none)
          else
          (cmd_reader_quoted_p1101001001001011110101 d m0 x0 x3 (IntKind.wrap .i64 (x4 + 1)) false H)
          else none))
      else
      (cmd_reader_quoted_p11010010011 d m0 x0 x3 x4 x5 H))) := (opq_app _ _ _).trans <| by kernel_rfl
theorem cmd_reader_quoted_p1101001001001011110101_eq (d : Nat) (m0 : Nat) (x0 : Nat) (x3 : Sl) (x4 : Int) (x81 : Bool) (H : Heap) : cmd_reader_quoted_p1101001001001011110101 d m0 x0 x3 x4 x81 H =
  if x81 = true then
  (some (.bool false, H))
  else
  (optK (Heap.ld1 H ⟨x0, 0, none⟩) fun v1 =>
    asS v1 fun s2 =>
    if 0 ≤ x4 ∧ x4 < (slen s2 : Int) then
    cmd_reader_quoted_p11010010011 d m0 x0 x3 x4 (bt s2 ((x4).toNat)) H
    else none) := (opq_app _ _ _).trans <| by kernel_rfl
theorem cmd_reader_quoted_p11010010011_eq (d : Nat) (m0 : Nat) (x0 : Nat) (x3 : Sl) (x4 : Int) (x5 : Int) (H : Heap) : cmd_reader_quoted_p11010010011 d m0 x0 x3 x4 x5 H =
  newK H (.cells [.int .u8 x5] t_uint8 false 0 false) fun p1 H2 =>
  appendK t_uint8 1 1 false x3.v (.slice (some ⟨p1, 0, none⟩) 1 1) H2 fun v3 H4 =>
  asSL v3 fun l5 =>
  cmd_reader_quoted_p11010 d m0 x0 l5 (IntKind.wrap .i64 (x4 + 1)) H4 := (opq_app _ _ _).trans <| by kernel_rfl
theorem cmd_reader_quoted_eq (d : Nat) (x0 : Nat) (H : Heap) : X (d + 1) n_cmd_reader_quoted [P0 x0] H =
  cmd_reader_quoted_p11010 d NN x0 Sl.nil 1 H := by kernel_rfl
end Go.Proofs.Ytnpmlgibjhjiiaa.dec

namespace Go.Proofs.Ytnpmlgibjhjiiaa.dec
open Go Go.Cm
/-! (*porthole/cmd.reader).word -/
noncomputable def cmd_reader_word_k111 (d : Nat) : Kt := run (X d) NN (cd 23 [1, 1, 1]) (retK (rs 23)) [] (retK (rs 23))
noncomputable def cmd_reader_word_l1100 (d : Nat) (m0 : Nat) : Kt := iter (fun k => run (X d) NN (cd 23 [1, 1, 0, 0, 0]) (backK [(0, .ptr), (3, .int .i64)] (opq k)) [(0, (cmd_reader_word_k111 d))] (retK (rs 23))) m0
noncomputable def cmd_reader_word_k110001 (d : Nat) (m0 : Nat) : Kt := run (X d) NN (cd 23 [1, 1, 0, 0, 0, 1]) (backK [(0, .ptr), (3, .int .i64)] (opq (cmd_reader_word_l1100 d m0))) [(0, (cmd_reader_word_k111 d))] (retK (rs 23))
noncomputable def cmd_reader_word_p1100 (d : Nat) (m0 : Nat) (x0 : Nat) (x3 : Int) (H : Heap) : Res := opq (cmd_reader_word_l1100 d m0) [(0, P0 x0), (3, .int .i64 x3)] H
noncomputable def cmd_reader_word_p1100001 (d : Nat) (m0 : Nat) (x0 : Nat) (x3 : Int) (x19 : Bool) (H : Heap) : Res := opq (run (X d) NN (cd 23 [1, 1, 0, 0, 0, 0, 1, 0]) (cmd_reader_word_k110001 d m0) [(0, (cmd_reader_word_k111 d))] (retK (rs 23))) [(0, P0 x0), (3, .int .i64 x3), (19, .bool x19)] H
theorem cmd_reader_word_p1100_s (d : Nat) (m0 : Nat) (x0 : Nat) (x3 : Int) (H : Heap) : cmd_reader_word_p1100 d (m0 + 1) x0 x3 H =
  optK (Heap.ld1 H ⟨x0, 0, none⟩) fun v1 =>
  asS v1 fun s2 =>
  if (decide (x3 < (slen s2 : Int))) = true then
  (optK (Heap.ld1 H ⟨x0, 0, none⟩) fun v3 =>
    asS v3 fun s4 =>
    if 0 ≤ x3 ∧ x3 < (slen s4 : Int) then
    callK (X d n_cmd_plain [.int .u8 (bt s4 ((x3).toNat))] H) fun v5 H6 =>
    asB v5 fun b7 =>
    cmd_reader_word_p1100001 d m0 x0 x3 b7 H6
    else none)
  else
  (cmd_reader_word_p1100001 d m0 x0 x3 false H) := (opq_app _ _ _).trans <| by kernel_rfl
theorem cmd_reader_word_p1100001_eq (d : Nat) (m0 : Nat) (x0 : Nat) (x3 : Int) (x19 : Bool) (H : Heap) : cmd_reader_word_p1100001 d m0 x0 x3 x19 H =
  if x19 = true then
  (cmd_reader_word_p1100 d m0 x0 (IntKind.wrap .i64 (x3 + 1)) H)
  else
  (optK (Heap.ld1 H ⟨x0, 2, none⟩) fun v1 =>
    asSL v1 fun l2 =>
    optK (Heap.ld1 H ⟨x0, 0, none⟩) fun v3 =>
    asS v3 fun s4 =>
    if 0 ≤ x3 ∧ x3 ≤ (slen s4 : Int) then
    newK H (.cells [.string (sSub s4 0 ((x3).toNat))] t_string false 0 false) fun p5 H6 =>
    appendK t_string 1 16 false l2.v (.slice (some ⟨p5, 0, none⟩) 1 1) H6 fun v7 H8 =>
    asSL v7 fun l9 =>
    optK (Heap.st1 H8 ⟨x0, 2, none⟩ l9.v) fun H10 =>
    chk (rdsOk [H, H6, H8, H10] [⟨.load 1 false, [.pointer (some ⟨x0, 2, none⟩)], v1, 0, 1⟩]) (
      optK (Heap.ld1 H10 ⟨x0, 0, none⟩) fun v11 =>
      asS v11 fun s12 =>
      if 0 ≤ x3 ∧ x3 ≤ (slen s12 : Int) then
      optK (Heap.st1 H10 ⟨x0, 0, none⟩ (.string (sSub s12 ((x3).toNat) (slen s12)))) fun H13 =>
      some (.bool (decide ((0 : Int) < x3)), H13)
      else none)
    else none) := (opq_app _ _ _).trans <| by kernel_rfl
theorem cmd_reader_word_eq (d : Nat) (x0 : Nat) (H : Heap) : X (d + 1) n_cmd_reader_word [P0 x0] H =
  cmd_reader_word_p1100 d NN x0 0 H := by kernel_rfl
end Go.Proofs.Ytnpmlgibjhjiiaa.dec

namespace Go.Proofs.Ytnpmlgibjhjiiaa.dec
open Go Go.Cm
/-! porthole/portholeref22.flushed -/
theorem ref22_flushed_eq (d : Nat) (x0 : Sl) (x1 : Sl) (H : Heap) : X (d + 1) n_ref22_flushed [x0.v, x1.v] H =
  if (decide ((x1.n : Int) = 0)) = true then
  (some (x0.v, H))
  else
  (optK x1.a fun a1 =>
    if 0 ≤ (0 : Int) ∧ (0 : Int) < (x1.n : Int) then
    optK (Heap.ld1 H (ap a1 0)) fun v2 =>
    asS v2 fun s3 =>
    newK H (.cells [] t_string false 0 false) fun p4 H5 =>
    optK (readD (.subSl t_string 1 true false false) [x1.v, .int .i64 1] H5) fun v6 =>
    asSL v6 fun l7 =>
    appendK t_string 1 16 false (.slice (some ⟨p4, 0, none⟩) 0 0) l7.v H5 fun v8 H9 =>
    asSL v8 fun l10 =>
    newK H9 (.cells [.string s3, l10.v] t_cmd_Command false 0 false) fun p11 H12 =>
    appendK t_cmd_Command 2 40 false x0.v (.slice (some ⟨p11, 0, none⟩) 1 1) H12 fun v13 H14 =>
    asSL v13 fun l15 =>
    chk (rdsOk [H, H5, H9, H12, H14] [⟨.subSl t_string 1 true false false, [x1.v, .int .i64 1], v6, 0, 1⟩, ⟨.load 1 false, [.pointer (some (ap a1 0))], v2, 0, 2⟩]) (
      some (l15.v, H14))
    else none) := by kernel_rfl
end Go.Proofs.Ytnpmlgibjhjiiaa.dec

namespace Go.Proofs.Ytnpmlgibjhjiiaa.dec
open Go Go.Cm
/-! porthole/portholeref22.bare -/
theorem ref22_bare_eq (d : Nat) (x0 : Int) (H : Heap) : X (d + 1) n_ref22_bare [.int .u8 x0] H =
  if (decide ((32 : Int) < x0)) = true then
  (if (decide (x0 < 127)) = true then
    (if (!decide (x0 = 59)) = true then
      (if (!decide (x0 = 34)) = true then
        (some (.bool (!decide (x0 = 92)), H))
        else
        (some (.bool false, H)))
      else
      (some (.bool false, H)))
    else
    (some (.bool false, H)))
  else
  (some (.bool false, H)) := by kernel_rfl
end Go.Proofs.Ytnpmlgibjhjiiaa.dec

namespace Go.Proofs.Ytnpmlgibjhjiiaa.dec
open Go Go.Cm
/-! porthole/cmd.plain -/
theorem cmd_plain_eq (d : Nat) (x0 : Int) (H : Heap) : X (d + 1) n_cmd_plain [.int .u8 x0] H =
  if (decide ((33 : Int) ≤ x0)) = true then
  (if (decide (x0 ≤ 126)) = true then
    (if (!decide (x0 = 59)) = true then
      (if (!decide (x0 = 34)) = true then
        (some (.bool (!decide (x0 = 92)), H))
        else
        (some (.bool false, H)))
      else
      (some (.bool false, H)))
    else
    (some (.bool false, H)))
  else
  (some (.bool false, H)) := by kernel_rfl
end Go.Proofs.Ytnpmlgibjhjiiaa.dec

namespace Go.Proofs.Ytnpmlgibjhjiiaa.dec
open Go Go.Cm
/-! porthole/portholelaw24.CmdKeys -/
noncomputable def law24_CmdKeys_k11 (d : Nat) : Kt := run (X d) NN (cd 4 [1, 1]) (retK (rs 4)) [] (retK (rs 4))
noncomputable def law24_CmdKeys_k1101111 (d : Nat) : Kt := run (X d) NN (cd 4 [1, 1, 0, 1, 1, 1, 1]) (retK (rs 4)) [] (retK (rs 4))
noncomputable def law24_CmdKeys_k11011111 (d : Nat) : Kt := run (X d) NN (cd 4 [1, 1, 0, 1, 1, 1, 1, 1]) (retK (rs 4)) [] (retK (rs 4))
noncomputable def law24_CmdKeys_k110111111 (d : Nat) : Kt := run (X d) NN (cd 4 [1, 1, 0, 1, 1, 1, 1, 1, 1]) (retK (rs 4)) [] (retK (rs 4))
noncomputable def law24_CmdKeys_l11011111010 (d : Nat) (m0 : Nat) : Kt := iter (fun k => run (X d) NN (cd 4 [1, 1, 0, 1, 1, 1, 1, 1, 0, 1, 0, 0]) (backK [(1, .sl), (18, .int .i64)] (opq k)) [(6, (law24_CmdKeys_k110111111 d))] (retK (rs 4))) m0
noncomputable def law24_CmdKeys_k1101111101001 (d : Nat) (m0 : Nat) : Kt := run (X d) NN (cd 4 [1, 1, 0, 1, 1, 1, 1, 1, 0, 1, 0, 0, 1]) (backK [(1, .sl), (18, .int .i64)] (opq (law24_CmdKeys_l11011111010 d m0))) [(6, (law24_CmdKeys_k110111111 d))] (retK (rs 4))
noncomputable def law24_CmdKeys_k11011111010011 (d : Nat) (m0 : Nat) : Kt := run (X d) NN (cd 4 [1, 1, 0, 1, 1, 1, 1, 1, 0, 1, 0, 0, 1, 1]) (backK [(1, .sl), (18, .int .i64)] (opq (law24_CmdKeys_l11011111010 d m0))) [(6, (law24_CmdKeys_k110111111 d))] (retK (rs 4))
noncomputable def law24_CmdKeys_l1101111010 (d : Nat) (m0 : Nat) : Kt := iter (fun k => run (X d) NN (cd 4 [1, 1, 0, 1, 1, 1, 1, 0, 1, 0, 0]) (backK [(1, .sl), (11, .sl), (12, .ptr), (13, .ptr), (14, .int .i64)] (opq k)) [(2, (law24_CmdKeys_k11011111 d))] (retK (rs 4))) m0
noncomputable def law24_CmdKeys_k1101111010011 (d : Nat) (m0 : Nat) : Kt := run (X d) NN (cd 4 [1, 1, 0, 1, 1, 1, 1, 0, 1, 0, 0, 1, 1]) (backK [(1, .sl), (11, .sl), (12, .ptr), (13, .ptr), (14, .int .i64)] (opq (law24_CmdKeys_l1101111010 d m0))) [(2, (law24_CmdKeys_k11011111 d))] (retK (rs 4))
noncomputable def law24_CmdKeys_l1101111010010011110 (d : Nat) (m0 : Nat) (m1 : Nat) : Kt := iter (fun k => run (X d) NN (cd 4 [1, 1, 0, 1, 1, 1, 1, 0, 1, 0, 0, 1, 0, 0, 1, 1, 1, 1, 0, 0]) (backK [(1, .sl), (11, .sl), (12, .ptr), (13, .ptr), (14, .int .i64), (15, .sl), (16, .sl), (17, .int .i64)] (opq k)) [(4, (law24_CmdKeys_k1101111010011 d m0)), (3, (law24_CmdKeys_k1101111010011 d m0)), (2, (law24_CmdKeys_k11011111 d))] (retK (rs 4))) m1
noncomputable def law24_CmdKeys_k1101111010010011110011 (d : Nat) (m0 : Nat) (m1 : Nat) : Kt := run (X d) NN (cd 4 [1, 1, 0, 1, 1, 1, 1, 0, 1, 0, 0, 1, 0, 0, 1, 1, 1, 1, 0, 0, 1, 1]) (backK [(1, .sl), (11, .sl), (12, .ptr), (13, .ptr), (14, .int .i64), (15, .sl), (16, .sl), (17, .int .i64)] (opq (law24_CmdKeys_l1101111010010011110 d m0 m1))) [(4, (law24_CmdKeys_k1101111010011 d m0)), (3, (law24_CmdKeys_k1101111010011 d m0)), (2, (law24_CmdKeys_k11011111 d))] (retK (rs 4))
noncomputable def law24_CmdKeys_k101011 (d : Nat) : Kt := run (X d) NN (cd 4 [1, 0, 1, 0, 1, 1]) (law24_CmdKeys_k11 d) [] (retK (rs 4))
noncomputable def law24_CmdKeys_l10101010 (d : Nat) (m0 : Nat) : Kt := iter (fun k => run (X d) NN (cd 4 [1, 0, 1, 0, 1, 0, 1, 0, 0]) (backK [(0, .sl), (3, .sl), (9, .sl), (10, .int .i64)] (opq k)) [(0, (law24_CmdKeys_k101011 d))] (retK (rs 4))) m0
noncomputable def law24_CmdKeys_k1010101001 (d : Nat) (m0 : Nat) : Kt := run (X d) NN (cd 4 [1, 0, 1, 0, 1, 0, 1, 0, 0, 1]) (backK [(0, .sl), (3, .sl), (9, .sl), (10, .int .i64)] (opq (law24_CmdKeys_l10101010 d m0))) [(0, (law24_CmdKeys_k101011 d))] (retK (rs 4))
noncomputable def law24_CmdKeys_p10101010 (d : Nat) (m0 : Nat) (x0 : Sl) (x3 : Sl) (x9 : Sl) (x10 : Int) (H : Heap) : Res := opq (law24_CmdKeys_l10101010 d m0) [(0, x0.v), (3, x3.v), (9, x9.v), (10, .int .i64 x10)] H
noncomputable def law24_CmdKeys_p11 (d : Nat) (x1 : Sl) (x3 : Sl) (H : Heap) : Res := opq (run (X d) NN (cd 4 [1, 1, 0]) (retK (rs 4)) [] (retK (rs 4))) [(1, x1.v), (3, x3.v)] H
noncomputable def law24_CmdKeys_p10101010001 (d : Nat) (m0 : Nat) (x0 : Sl) (x3 : Sl) (x9 : Sl) (x10 : Int) (x32 : Bool) (H : Heap) : Res := opq (run (X d) NN (cd 4 [1, 0, 1, 0, 1, 0, 1, 0, 0, 0, 1, 0]) (law24_CmdKeys_k1010101001 d m0) [(0, (law24_CmdKeys_k101011 d))] (retK (rs 4))) [(0, x0.v), (3, x3.v), (9, x9.v), (10, .int .i64 x10), (32, .bool x32)] H
noncomputable def law24_CmdKeys_p11011101 (d : Nat) (x1 : Sl) (x11 : Sl) (x12 : Option Addr) (x13 : Nat) (x58 : Bool) (H : Heap) : Res := opq (run (X d) NN (cd 4 [1, 1, 0, 1, 1, 1, 0, 1, 0]) (law24_CmdKeys_k1101111 d) [] (retK (rs 4))) [(1, x1.v), (11, x11.v), (12, .pointer x12), (13, P0 x13), (58, .bool x58)] H
noncomputable def law24_CmdKeys_p1101111010 (d : Nat) (m0 : Nat) (x1 : Sl) (x11 : Sl) (x12 : Option Addr) (x13 : Nat) (x14 : Int) (H : Heap) : Res := opq (law24_CmdKeys_l1101111010 d m0) [(1, x1.v), (11, x11.v), (12, .pointer x12), (13, P0 x13), (14, .int .i64 x14)] H
noncomputable def law24_CmdKeys_p1101111010010011110 (d : Nat) (m0 : Nat) (m1 : Nat) (x1 : Sl) (x11 : Sl) (x12 : Option Addr) (x13 : Nat) (x14 : Int) (x15 : Sl) (x16 : Sl) (x17 : Int) (H : Heap) : Res := opq (law24_CmdKeys_l1101111010010011110 d m0 m1) [(1, x1.v), (11, x11.v), (12, .pointer x12), (13, P0 x13), (14, .int .i64 x14), (15, x15.v), (16, x16.v), (17, .int .i64 x17)] H
noncomputable def law24_CmdKeys_p11011111010 (d : Nat) (m0 : Nat) (x1 : Sl) (x18 : Int) (H : Heap) : Res := opq (law24_CmdKeys_l11011111010 d m0) [(1, x1.v), (18, .int .i64 x18)] H
noncomputable def law24_CmdKeys_p110111101001001111001001 (d : Nat) (m0 : Nat) (m1 : Nat) (x1 : Sl) (x11 : Sl) (x12 : Option Addr) (x13 : Nat) (x14 : Int) (x15 : Sl) (x16 : Sl) (x17 : Int) (x113 : Bool) (H : Heap) : Res := opq (run (X d) NN (cd 4 [1, 1, 0, 1, 1, 1, 1, 0, 1, 0, 0, 1, 0, 0, 1, 1, 1, 1, 0, 0, 1, 0, 0, 1, 0]) (law24_CmdKeys_k1101111010010011110011 d m0 m1) [(5, (law24_CmdKeys_k1101111010010011110011 d m0 m1)), (4, (law24_CmdKeys_k1101111010011 d m0)), (3, (law24_CmdKeys_k1101111010011 d m0)), (2, (law24_CmdKeys_k11011111 d))] (retK (rs 4))) [(1, x1.v), (11, x11.v), (12, .pointer x12), (13, P0 x13), (14, .int .i64 x14), (15, x15.v), (16, x16.v), (17, .int .i64 x17), (113, .bool x113)] H
noncomputable def law24_CmdKeys_p11011111010001 (d : Nat) (m0 : Nat) (x1 : Sl) (x18 : Int) (x121 : Bool) (H : Heap) : Res := opq (run (X d) NN (cd 4 [1, 1, 0, 1, 1, 1, 1, 1, 0, 1, 0, 0, 0, 1, 0]) (law24_CmdKeys_k1101111101001 d m0) [(6, (law24_CmdKeys_k110111111 d))] (retK (rs 4))) [(1, x1.v), (18, .int .i64 x18), (121, .bool x121)] H
noncomputable def law24_CmdKeys_p110111110100100111 (d : Nat) (m0 : Nat) (x1 : Sl) (x18 : Int) (x147 : Bool) (H : Heap) : Res := opq (run (X d) NN (cd 4 [1, 1, 0, 1, 1, 1, 1, 1, 0, 1, 0, 0, 1, 0, 0, 1, 1, 1, 0]) (law24_CmdKeys_k11011111010011 d m0) [(7, (law24_CmdKeys_k11011111010011 d m0)), (6, (law24_CmdKeys_k110111111 d))] (retK (rs 4))) [(1, x1.v), (18, .int .i64 x18), (147, .bool x147)] H
theorem law24_CmdKeys_p10101010_s (d : Nat) (m0 : Nat) (x0 : Sl) (x3 : Sl) (x9 : Sl) (x10 : Int) (H : Heap) : law24_CmdKeys_p10101010 d (m0 + 1) x0 x3 x9 x10 H =
  if (decide (x10 < (x0.n : Int))) = true then
  (law24_CmdKeys_p10101010001 d m0 x0 x3 x9 x10 (decide (x10 < 60)) H)
  else
  (law24_CmdKeys_p10101010001 d m0 x0 x3 x9 x10 false H) := (opq_app _ _ _).trans <| by kernel_rfl
theorem law24_CmdKeys_p11_eq (d : Nat) (x1 : Sl) (x3 : Sl) (H : Heap) : law24_CmdKeys_p11 d x1 x3 H =
  optK (readD (.bytesStr) [x1.v] H) fun v1 =>
  asS v1 fun s2 =>
  callK (X d n_hand_Cut [.string s2, x3.v] H) fun v3 H4 =>
  asSL v3 fun l5 =>
  callK (X d n_cmd_NewKeys [] H4) fun v6 H7 =>
  asP v6 fun o8 =>
  newK H7 (.cells [.bool false] t_ref22_Keys false 0 false) fun p9 H10 =>
  callK (X d n_law24_known [] H10) fun v11 H12 =>
  asB v11 fun b13 =>
  if (!b13) = true then
  (law24_CmdKeys_p11011101 d x1 l5 o8 p9 true H12)
  else
  (law24_CmdKeys_p11011101 d x1 l5 o8 p9 o8.isNone H12) := (opq_app _ _ _).trans <| by kernel_rfl
theorem law24_CmdKeys_p10101010001_eq (d : Nat) (m0 : Nat) (x0 : Sl) (x3 : Sl) (x9 : Sl) (x10 : Int) (x32 : Bool) (H : Heap) : law24_CmdKeys_p10101010001 d m0 x0 x3 x9 x10 x32 H =
  if x32 = true then
  (optK x0.a fun a1 =>
    if 0 ≤ x10 ∧ x10 < (x0.n : Int) then
    optK (Heap.ld1 H (ap a1 (((x10).toNat) * 1))) fun v2 =>
    asI .i64 v2 fun n3 =>
    callK (X d n_hand_Pick [.int .i64 n3, .int .i64 14] H) fun v4 H5 =>
    asI .i64 v4 fun n6 =>
    if 0 ≤ n6 ∧ n6 < 14 then
    optK (partL [.int .u8 2, .int .u8 2, .int .u8 97, .int .u8 99, .int .u8 37, .int .u8 34, .int .u8 120, .int .u8 122, .int .u8 51, .int .u8 111, .int .u8 93, .int .u8 38, .int .u8 63, .int .u8 0] (((n6).toNat) * 1) 1 false) fun v7 =>
    asI .u8 v7 fun n8 =>
    newK H5 (.cells [.int .u8 n8] t_uint8 false 0 false) fun p9 H10 =>
    appendK t_uint8 1 1 false x9.v (.slice (some ⟨p9, 0, none⟩) 1 1) H10 fun v11 H12 =>
    asSL v11 fun l13 =>
    law24_CmdKeys_p10101010 d m0 x0 x3 l13 (IntKind.wrap .i64 (x10 + 1)) H12
    else none
    else none)
  else
  (law24_CmdKeys_p11 d x9 x3 H) := (opq_app _ _ _).trans <| by kernel_rfl
theorem law24_CmdKeys_p11011101_eq (d : Nat) (x1 : Sl) (x11 : Sl) (x12 : Option Addr) (x13 : Nat) (x58 : Bool) (H : Heap) : law24_CmdKeys_p11011101 d x1 x11 x12 x13 x58 H =
  if x58 = true then
  (some (.bool false, H))
  else
  (law24_CmdKeys_p1101111010 d NN x1 x11 x12 x13 0 H) := (opq_app _ _ _).trans <| by kernel_rfl
theorem law24_CmdKeys_p1101111010_s (d : Nat) (m0 : Nat) (x1 : Sl) (x11 : Sl) (x12 : Option Addr) (x13 : Nat) (x14 : Int) (H : Heap) : law24_CmdKeys_p1101111010 d (m0 + 1) x1 x11 x12 x13 x14 H =
  if (decide (x14 < (x11.n : Int))) = true then
  (optK x11.a fun a1 =>
    if 0 ≤ x14 ∧ x14 < (x11.n : Int) then
    optK (Heap.ld1 H (ap a1 (((x14).toNat) * 1))) fun v2 =>
    asSL v2 fun l3 =>
    callK (X d n_cmd_Keys_Feed [.pointer x12, l3.v] H) fun v4 H5 =>
    asSL v4 fun l6 =>
    optK x11.a fun a7 =>
    if 0 ≤ x14 ∧ x14 < (x11.n : Int) then
    optK (Heap.ld1 H5 (ap a7 (((x14).toNat) * 1))) fun v8 =>
    asSL v8 fun l9 =>
    callK (X d n_ref22_Keys_Feed [P0 x13, l9.v] H5) fun v10 H11 =>
    asSL v10 fun l12 =>
    if (!decide ((l6.n : Int) = (l12.n : Int))) = true then
    (some (.bool false, H11))
    else
    (law24_CmdKeys_p1101111010010011110 d m0 NN x1 x11 x12 x13 x14 l6 l12 0 H11)
    else none
    else none)
  else
  (law24_CmdKeys_p11011111010 d NN x1 0 H) := (opq_app _ _ _).trans <| by kernel_rfl
theorem law24_CmdKeys_p1101111010010011110_s (d : Nat) (m0 : Nat) (m1 : Nat) (x1 : Sl) (x11 : Sl) (x12 : Option Addr) (x13 : Nat) (x14 : Int) (x15 : Sl) (x16 : Sl) (x17 : Int) (H : Heap) : law24_CmdKeys_p1101111010010011110 d m0 (m1 + 1) x1 x11 x12 x13 x14 x15 x16 x17 H =
  if (decide (x17 < (x15.n : Int))) = true then
  (optK x15.a fun a1 =>
    if 0 ≤ x17 ∧ x17 < (x15.n : Int) then
    optK (Heap.ld1 H (ap (ap a1 (((x17).toNat) * 2)) 0)) fun v2 =>
    asSL v2 fun l3 =>
    optK (readD (.bytesStr) [l3.v] H) fun v4 =>
    asS v4 fun s5 =>
    optK x16.a fun a6 =>
    if 0 ≤ x17 ∧ x17 < (x16.n : Int) then
    optK (Heap.ld1 H (ap (ap a6 (((x17).toNat) * 2)) 0)) fun v7 =>
    asSL v7 fun l8 =>
    optK (readD (.bytesStr) [l8.v] H) fun v9 =>
    asS v9 fun s10 =>
    if (!sEq s5 s10) = true then
    (law24_CmdKeys_p110111101001001111001001 d m0 m1 x1 x11 x12 x13 x14 x15 x16 x17 true H)
    else
    (optK x15.a fun a11 =>
      if 0 ≤ x17 ∧ x17 < (x15.n : Int) then
      optK (Heap.ld1 H (ap (ap a11 (((x17).toNat) * 2)) 1)) fun v12 =>
      asS v12 fun s13 =>
      optK x16.a fun a14 =>
      if 0 ≤ x17 ∧ x17 < (x16.n : Int) then
      optK (Heap.ld1 H (ap (ap a14 (((x17).toNat) * 2)) 1)) fun v15 =>
      asS v15 fun s16 =>
      law24_CmdKeys_p110111101001001111001001 d m0 m1 x1 x11 x12 x13 x14 x15 x16 x17 (!sEq s13 s16) H
      else none
      else none)
    else none
    else none)
  else
  (law24_CmdKeys_p1101111010 d m0 x1 x11 x12 x13 (IntKind.wrap .i64 (x14 + 1)) H) := (opq_app _ _ _).trans <| by kernel_rfl
theorem law24_CmdKeys_p11011111010_s (d : Nat) (m0 : Nat) (x1 : Sl) (x18 : Int) (H : Heap) : law24_CmdKeys_p11011111010 d (m0 + 1) x1 x18 H =
  if (decide (x18 < (x1.n : Int))) = true then
  (law24_CmdKeys_p11011111010001 d m0 x1 x18 (decide (x18 < 20)) H)
  else
  (law24_CmdKeys_p11011111010001 d m0 x1 x18 false H) := (opq_app _ _ _).trans <| by kernel_rfl
theorem law24_CmdKeys_p110111101001001111001001_eq (d : Nat) (m0 : Nat) (m1 : Nat) (x1 : Sl) (x11 : Sl) (x12 : Option Addr) (x13 : Nat) (x14 : Int) (x15 : Sl) (x16 : Sl) (x17 : Int) (x113 : Bool) (H : Heap) : law24_CmdKeys_p110111101001001111001001 d m0 m1 x1 x11 x12 x13 x14 x15 x16 x17 x113 H =
  if x113 = true then
  (some (.bool false, H))
  else
  (law24_CmdKeys_p1101111010010011110 d m0 m1 x1 x11 x12 x13 x14 x15 x16 (IntKind.wrap .i64 (x17 + 1)) H) := (opq_app _ _ _).trans <| by kernel_rfl
theorem law24_CmdKeys_p11011111010001_eq (d : Nat) (m0 : Nat) (x1 : Sl) (x18 : Int) (x121 : Bool) (H : Heap) : law24_CmdKeys_p11011111010001 d m0 x1 x18 x121 H =
  if x121 = true then
  (optK x1.a fun a1 =>
    if 0 ≤ x18 ∧ x18 < (x1.n : Int) then
    optK (Heap.ld1 H (ap a1 (((x18).toNat) * 1))) fun v2 =>
    asI .u8 v2 fun n3 =>
    callK (X d n_cmd_Bound [.int .u8 n3] H) fun v4 H5 =>
    castT [.str, .bool] v4 fun l6 =>
    castT [.str, .bool] (.tuple ⟨l6⟩) fun l7 =>
    optK l7[0]? fun v8 =>
    asS v8 fun s9 =>
    optK l7[1]? fun v10 =>
    asB v10 fun b11 =>
    optK x1.a fun a12 =>
    if 0 ≤ x18 ∧ x18 < (x1.n : Int) then
    optK (Heap.ld1 H5 (ap a12 (((x18).toNat) * 1))) fun v13 =>
    asI .u8 v13 fun n14 =>
    callK (X d n_ref22_Bound [.int .u8 n14] H5) fun v15 H16 =>
    castT [.str, .bool] v15 fun l17 =>
    castT [.str, .bool] (.tuple ⟨l17⟩) fun l18 =>
    optK l18[0]? fun v19 =>
    asS v19 fun s20 =>
    optK l18[1]? fun v21 =>
    asB v21 fun b22 =>
    if (!sEq s9 s20) = true then
    (law24_CmdKeys_p110111110100100111 d m0 x1 x18 true H16)
    else
    (law24_CmdKeys_p110111110100100111 d m0 x1 x18 (!(b11 == b22)) H16)
    else none
    else none)
  else
  (some (.bool true, H)) := (opq_app _ _ _).trans <| by kernel_rfl
theorem law24_CmdKeys_p110111110100100111_eq (d : Nat) (m0 : Nat) (x1 : Sl) (x18 : Int) (x147 : Bool) (H : Heap) : law24_CmdKeys_p110111110100100111 d m0 x1 x18 x147 H =
  if x147 = true then
  (some (.bool false, H))
  else
  (law24_CmdKeys_p11011111010 d m0 x1 (IntKind.wrap .i64 (x18 + 1)) H) := (opq_app _ _ _).trans <| by kernel_rfl
theorem law24_CmdKeys_eq (d : Nat) (x0 : Sl) (x1 : Sl) (x2 : Bool) (x3 : Sl) (H : Heap) : X (d + 1) n_law24_CmdKeys [x0.v, x1.v, .bool x2, x3.v] H =
  if (!x2) = true then
  (law24_CmdKeys_p10101010 d NN x0 x3 Sl.nil 0 H)
  else
  (law24_CmdKeys_p11 d x1 x3 H) := by kernel_rfl
end Go.Proofs.Ytnpmlgibjhjiiaa.dec

namespace Go.Proofs.Ytnpmlgibjhjiiaa.dec
open Go Go.Cm
/-! porthole/portholehand.Cut -/
noncomputable def hand_Cut_k111 (d : Nat) : Kt := run (X d) NN (cd 13 [1, 1, 1]) (retK (rs 13)) [] (retK (rs 13))
noncomputable def hand_Cut_l11010 (d : Nat) (m0 : Nat) : Kt := iter (fun k => run (X d) NN (cd 13 [1, 1, 0, 1, 0, 0]) (backK [(0, .str), (1, .sl), (5, .sl), (6, .int .i64)] (opq k)) [(0, (hand_Cut_k111 d))] (retK (rs 13))) m0
noncomputable def hand_Cut_k1101001 (d : Nat) (m0 : Nat) : Kt := run (X d) NN (cd 13 [1, 1, 0, 1, 0, 0, 1]) (backK [(0, .str), (1, .sl), (5, .sl), (6, .int .i64)] (opq (hand_Cut_l11010 d m0))) [(0, (hand_Cut_k111 d))] (retK (rs 13))
noncomputable def hand_Cut_p11010 (d : Nat) (m0 : Nat) (x0 : ByteArray) (x1 : Sl) (x5 : Sl) (x6 : Int) (H : Heap) : Res := opq (hand_Cut_l11010 d m0) [(0, .string x0), (1, x1.v), (5, x5.v), (6, .int .i64 x6)] H
noncomputable def hand_Cut_p11010001 (d : Nat) (m0 : Nat) (x0 : ByteArray) (x1 : Sl) (x5 : Sl) (x6 : Int) (x20 : Bool) (H : Heap) : Res := opq (run (X d) NN (cd 13 [1, 1, 0, 1, 0, 0, 0, 1, 0]) (hand_Cut_k1101001 d m0) [(0, (hand_Cut_k111 d))] (retK (rs 13))) [(0, .string x0), (1, x1.v), (5, x5.v), (6, .int .i64 x6), (20, .bool x20)] H
theorem hand_Cut_p11010_s (d : Nat) (m0 : Nat) (x0 : ByteArray) (x1 : Sl) (x5 : Sl) (x6 : Int) (H : Heap) : hand_Cut_p11010 d (m0 + 1) x0 x1 x5 x6 H =
  if (decide (x6 < (x1.n : Int))) = true then
  (if (decide (x6 < 40)) = true then
    (hand_Cut_p11010001 d m0 x0 x1 x5 x6 (decide ((0 : Int) < (slen x0 : Int))) H)
    else
    (hand_Cut_p11010001 d m0 x0 x1 x5 x6 false H))
  else
  (hand_Cut_p11010001 d m0 x0 x1 x5 x6 false H) := (opq_app _ _ _).trans <| by kernel_rfl
theorem hand_Cut_p11010001_eq (d : Nat) (m0 : Nat) (x0 : ByteArray) (x1 : Sl) (x5 : Sl) (x6 : Int) (x20 : Bool) (H : Heap) : hand_Cut_p11010001 d m0 x0 x1 x5 x6 x20 H =
  if x20 = true then
  (optK x1.a fun a1 =>
    if 0 ≤ x6 ∧ x6 < (x1.n : Int) then
    optK (Heap.ld1 H (ap a1 (((x6).toNat) * 1))) fun v2 =>
    asI .i64 v2 fun n3 =>
    callK (X d n_hand_Pick [.int .i64 n3, .int .i64 9] H) fun v4 H5 =>
    asI .i64 v4 fun n6 =>
    if 0 ≤ (if (slen x0 : Int) < n6 then (slen x0 : Int) else n6) ∧ (if (slen x0 : Int) < n6 then (slen x0 : Int) else n6) ≤ (slen x0 : Int) then
    newK H5 (.cells ((lst (sSub x0 0 (((if (slen x0 : Int) < n6 then (slen x0 : Int) else n6)).toNat))).map fun b => .int .u8 b.toNat) t_uint8 true 0 true) fun p7 H8 =>
    newK H8 (.cells [.slice (some ⟨p7, 0, none⟩) (slen (sSub x0 0 (((if (slen x0 : Int) < n6 then (slen x0 : Int) else n6)).toNat))) (slen (sSub x0 0 (((if (slen x0 : Int) < n6 then (slen x0 : Int) else n6)).toNat)))] t_S_uint8 false 0 false) fun p9 H10 =>
    appendK t_S_uint8 1 24 false x5.v (.slice (some ⟨p9, 0, none⟩) 1 1) H10 fun v11 H12 =>
    asSL v11 fun l13 =>
    if 0 ≤ (if (slen x0 : Int) < n6 then (slen x0 : Int) else n6) ∧ (if (slen x0 : Int) < n6 then (slen x0 : Int) else n6) ≤ (slen x0 : Int) then
    hand_Cut_p11010 d m0 (sSub x0 (((if (slen x0 : Int) < n6 then (slen x0 : Int) else n6)).toNat) (slen x0)) x1 l13 (IntKind.wrap .i64 (x6 + 1)) H12
    else none
    else none
    else none)
  else
  (newK H (.cells ((lst x0).map fun b => .int .u8 b.toNat) t_uint8 true 0 true) fun p14 H15 =>
    newK H15 (.cells [.slice (some ⟨p14, 0, none⟩) (slen x0) (slen x0)] t_S_uint8 false 0 false) fun p16 H17 =>
    appendK t_S_uint8 1 24 false x5.v (.slice (some ⟨p16, 0, none⟩) 1 1) H17 fun v18 H19 =>
    asSL v18 fun l20 =>
    some (l20.v, H19)) := (opq_app _ _ _).trans <| by kernel_rfl
theorem hand_Cut_eq (d : Nat) (x0 : ByteArray) (x1 : Sl) (H : Heap) : X (d + 1) n_hand_Cut [.string x0, x1.v] H =
  hand_Cut_p11010 d NN x0 x1 Sl.nil 0 H := by kernel_rfl
end Go.Proofs.Ytnpmlgibjhjiiaa.dec

namespace Go.Proofs.Ytnpmlgibjhjiiaa.dec
open Go Go.Cm
/-! porthole/cmd.NewKeys -/
theorem cmd_NewKeys_eq (d : Nat) (H : Heap) : X (d + 1) n_cmd_NewKeys [] H =
  newK H (.cells [.bool false] t_cmd_Keys false 0 false) fun p1 H2 =>
  some (P0 p1, H2) := by kernel_rfl
end Go.Proofs.Ytnpmlgibjhjiiaa.dec

namespace Go.Proofs.Ytnpmlgibjhjiiaa.dec
open Go Go.Cm
/-! (*porthole/cmd.Keys).Feed -/
noncomputable def cmd_Keys_Feed_k11111 (d : Nat) : Kt := run (X d) NN (cd 15 [1, 1, 1, 1, 1]) (retK (rs 15)) [] (retK (rs 15))
noncomputable def cmd_Keys_Feed_l1111010 (d : Nat) (m0 : Nat) : Kt := iter (fun k => run (X d) NN (cd 15 [1, 1, 1, 1, 0, 1, 0, 0]) (backK [(0, .ptr), (5, .any), (6, .any), (7, .any), (13, .sl), (14, .int .i64), (15, .int .i64)] (opq k)) [(0, (cmd_Keys_Feed_k11111 d))] (retK (rs 15))) m0
noncomputable def cmd_Keys_Feed_k11110100111 (d : Nat) (m0 : Nat) : Kt := run (X d) NN (cd 15 [1, 1, 1, 1, 0, 1, 0, 0, 1, 1, 1]) (backK [(0, .ptr), (5, .any), (6, .any), (7, .any), (13, .sl), (14, .int .i64), (15, .int .i64)] (opq (cmd_Keys_Feed_l1111010 d m0))) [(0, (cmd_Keys_Feed_k11111 d))] (retK (rs 15))
noncomputable def cmd_Keys_Feed_k111101001100111 (d : Nat) (m0 : Nat) : Kt := run (X d) NN (cd 15 [1, 1, 1, 1, 0, 1, 0, 0, 1, 1, 0, 0, 1, 1, 1]) (cmd_Keys_Feed_k11110100111 d m0) [(1, (cmd_Keys_Feed_k11110100111 d m0)), (0, (cmd_Keys_Feed_k11111 d))] (retK (rs 15))
noncomputable def cmd_Keys_Feed_p1111010 (d : Nat) (m0 : Nat) (x0 : Nat) (x5 : Nat) (x6 : Nat) (x7 : Nat) (x7_1 : Nat) (x13 : Sl) (x14 : Int) (x15 : Int) (H : Heap) : Res := opq (cmd_Keys_Feed_l1111010 d m0) [(0, P0 x0), (5, P0 x5), (6, P0 x6), (7, .func (.func n_cmd_Keys_Feed_1) #[] #[P0 x7, P0 x7_1]), (13, x13.v), (14, .int .i64 x14), (15, .int .i64 x15)] H
noncomputable def cmd_Keys_Feed_p11110100110011001 (d : Nat) (m0 : Nat) (x0 : Nat) (x5 : Nat) (x6 : Nat) (x7 : Nat) (x7_1 : Nat) (x9 : Int) (x10 : ByteArray) (x11 : Bool) (x13 : Sl) (x14 : Int) (x15 : Int) (x24 : Bool) (H : Heap) : Res := opq (run (X d) NN (cd 15 [1, 1, 1, 1, 0, 1, 0, 0, 1, 1, 0, 0, 1, 1, 0, 0, 1, 0]) (cmd_Keys_Feed_k111101001100111 d m0) [(2, (cmd_Keys_Feed_k111101001100111 d m0)), (1, (cmd_Keys_Feed_k11110100111 d m0)), (0, (cmd_Keys_Feed_k11111 d))] (retK (rs 15))) [(0, P0 x0), (5, P0 x5), (6, P0 x6), (7, .func (.func n_cmd_Keys_Feed_1) #[] #[P0 x7, P0 x7_1]), (9, .int .u8 x9), (10, .string x10), (11, .bool x11), (13, x13.v), (14, .int .i64 x14), (15, .int .i64 x15), (24, .bool x24)] H
noncomputable def cmd_Keys_Feed_p11110100111 (d : Nat) (m0 : Nat) (x0 : Nat) (x5 : Nat) (x6 : Nat) (x7 : Nat) (x7_1 : Nat) (x13 : Sl) (x14 : Int) (x15 : Int) (H : Heap) : Res := opq (run (X d) NN (cd 15 [1, 1, 1, 1, 0, 1, 0, 0, 1, 1, 1, 0]) (backK [(0, .ptr), (5, .any), (6, .any), (7, .any), (13, .sl), (14, .int .i64), (15, .int .i64)] (opq (cmd_Keys_Feed_l1111010 d m0))) [(0, (cmd_Keys_Feed_k11111 d))] (retK (rs 15))) [(0, P0 x0), (5, P0 x5), (6, P0 x6), (7, .func (.func n_cmd_Keys_Feed_1) #[] #[P0 x7, P0 x7_1]), (13, x13.v), (14, .int .i64 x14), (15, .int .i64 x15)] H
noncomputable def cmd_Keys_Feed_p11110100110011001011 (d : Nat) (m0 : Nat) (x0 : Nat) (x5 : Nat) (x6 : Nat) (x7 : Nat) (x7_1 : Nat) (x9 : Int) (x10 : ByteArray) (x11 : Bool) (x13 : Sl) (x14 : Int) (x15 : Int) (x37 : Bool) (H : Heap) : Res := opq (run (X d) NN (cd 15 [1, 1, 1, 1, 0, 1, 0, 0, 1, 1, 0, 0, 1, 1, 0, 0, 1, 0, 1, 1, 0]) (cmd_Keys_Feed_k111101001100111 d m0) [(2, (cmd_Keys_Feed_k111101001100111 d m0)), (1, (cmd_Keys_Feed_k11110100111 d m0)), (0, (cmd_Keys_Feed_k11111 d))] (retK (rs 15))) [(0, P0 x0), (5, P0 x5), (6, P0 x6), (7, .func (.func n_cmd_Keys_Feed_1) #[] #[P0 x7, P0 x7_1]), (9, .int .u8 x9), (10, .string x10), (11, .bool x11), (13, x13.v), (14, .int .i64 x14), (15, .int .i64 x15), (37, .bool x37)] H
noncomputable def cmd_Keys_Feed_p111101001100111 (d : Nat) (m0 : Nat) (x0 : Nat) (x5 : Nat) (x6 : Nat) (x7 : Nat) (x7_1 : Nat) (x13 : Sl) (x14 : Int) (x15 : Int) (H : Heap) : Res := opq (run (X d) NN (cd 15 [1, 1, 1, 1, 0, 1, 0, 0, 1, 1, 0, 0, 1, 1, 1, 0]) (cmd_Keys_Feed_k11110100111 d m0) [(1, (cmd_Keys_Feed_k11110100111 d m0)), (0, (cmd_Keys_Feed_k11111 d))] (retK (rs 15))) [(0, P0 x0), (5, P0 x5), (6, P0 x6), (7, .func (.func n_cmd_Keys_Feed_1) #[] #[P0 x7, P0 x7_1]), (13, x13.v), (14, .int .i64 x14), (15, .int .i64 x15)] H
theorem cmd_Keys_Feed_p1111010_s (d : Nat) (m0 : Nat) (x0 : Nat) (x5 : Nat) (x6 : Nat) (x7 : Nat) (x7_1 : Nat) (x13 : Sl) (x14 : Int) (x15 : Int) (H : Heap) : cmd_Keys_Feed_p1111010 d (m0 + 1) x0 x5 x6 x7 x7_1 x13 x14 x15 H =
  if (decide (x15 < x14)) = true then
  (optK x13.a fun a1 =>
    if 0 ≤ x15 ∧ x15 < (x13.n : Int) then
    optK (Heap.ld1 H (ap a1 (((x15).toNat) * 1))) fun v2 =>
    asI .u8 v2 fun n3 =>
    callK (X d n_cmd_Bound [.int .u8 n3] H) fun v4 H5 =>
    castT [.str, .bool] v4 fun l6 =>
    castT [.str, .bool] (.tuple ⟨l6⟩) fun l7 =>
    optK l7[0]? fun v8 =>
    asS v8 fun s9 =>
    optK l7[1]? fun v10 =>
    asB v10 fun b11 =>
    optK (Heap.ld1 H5 ⟨x0, 0, none⟩) fun v12 =>
    asB v12 fun b13 =>
    if (!b13) = true then
    (cmd_Keys_Feed_p11110100110011001 d m0 x0 x5 x6 x7 x7_1 n3 s9 b11 x13 x14 x15 (decide (n3 = 2)) H5)
    else
    (cmd_Keys_Feed_p11110100110011001 d m0 x0 x5 x6 x7 x7_1 n3 s9 b11 x13 x14 x15 false H5)
    else none)
  else
  (callK (X d n_cmd_Keys_Feed_1 [P0 x7, P0 x7_1] H) fun v14 H15 =>
    optK (Heap.ld1 H15 ⟨x5, 0, none⟩) fun v16 =>
    asSL v16 fun l17 =>
    some (l17.v, H15)) := (opq_app _ _ _).trans <| by kernel_rfl
theorem cmd_Keys_Feed_p11110100110011001_eq (d : Nat) (m0 : Nat) (x0 : Nat) (x5 : Nat) (x6 : Nat) (x7 : Nat) (x7_1 : Nat) (x9 : Int) (x10 : ByteArray) (x11 : Bool) (x13 : Sl) (x14 : Int) (x15 : Int) (x24 : Bool) (H : Heap) : cmd_Keys_Feed_p11110100110011001 d m0 x0 x5 x6 x7 x7_1 x9 x10 x11 x13 x14 x15 x24 H =
  if x24 = true then
  (optK (Heap.st1 H ⟨x0, 0, none⟩ (.bool true)) fun H1 =>
    cmd_Keys_Feed_p11110100111 d m0 x0 x5 x6 x7 x7_1 x13 x14 x15 H1)
  else
  (optK (Heap.ld1 H ⟨x0, 0, none⟩) fun v2 =>
    asB v2 fun b3 =>
    if (!b3) = true then
    (cmd_Keys_Feed_p11110100110011001011 d m0 x0 x5 x6 x7 x7_1 x9 x10 x11 x13 x14 x15 true H)
    else
    (cmd_Keys_Feed_p11110100110011001011 d m0 x0 x5 x6 x7 x7_1 x9 x10 x11 x13 x14 x15 (decide (x9 = 2)) H)) := (opq_app _ _ _).trans <| by kernel_rfl
theorem cmd_Keys_Feed_p11110100111_eq (d : Nat) (m0 : Nat) (x0 : Nat) (x5 : Nat) (x6 : Nat) (x7 : Nat) (x7_1 : Nat) (x13 : Sl) (x14 : Int) (x15 : Int) (H : Heap) : cmd_Keys_Feed_p11110100111 d m0 x0 x5 x6 x7 x7_1 x13 x14 x15 H =
  cmd_Keys_Feed_p1111010 d m0 x0 x5 x6 x7 x7_1 x13 x14 (IntKind.wrap .i64 (x15 + 1)) H := (opq_app _ _ _).trans <| by kernel_rfl
theorem cmd_Keys_Feed_p11110100110011001011_eq (d : Nat) (m0 : Nat) (x0 : Nat) (x5 : Nat) (x6 : Nat) (x7 : Nat) (x7_1 : Nat) (x9 : Int) (x10 : ByteArray) (x11 : Bool) (x13 : Sl) (x14 : Int) (x15 : Int) (x37 : Bool) (H : Heap) : cmd_Keys_Feed_p11110100110011001011 d m0 x0 x5 x6 x7 x7_1 x9 x10 x11 x13 x14 x15 x37 H =
  if x37 = true then
  (optK (Heap.ld1 H ⟨x6, 0, none⟩) fun v1 =>
    asSL v1 fun l2 =>
    newK H (.cells [.int .u8 x9] t_uint8 false 0 false) fun p3 H4 =>
    appendK t_uint8 1 1 false l2.v (.slice (some ⟨p3, 0, none⟩) 1 1) H4 fun v5 H6 =>
    asSL v5 fun l7 =>
    optK (Heap.st1 H6 ⟨x6, 0, none⟩ l7.v) fun H8 =>
    cmd_Keys_Feed_p111101001100111 d m0 x0 x5 x6 x7 x7_1 x13 x14 x15 H8)
  else
  (if x11 = true then
    (callK (X d n_cmd_Keys_Feed_1 [P0 x7, P0 x7_1] H) fun v9 H10 =>
      optK (Heap.ld1 H10 ⟨x5, 0, none⟩) fun v11 =>
      asSL v11 fun l12 =>
      newK H10 (.cells [.slice none 0 0, .string x10] t_cmd_Press false 0 false) fun p13 H14 =>
      appendK t_cmd_Press 2 40 false l12.v (.slice (some ⟨p13, 0, none⟩) 1 1) H14 fun v15 H16 =>
      asSL v15 fun l17 =>
      optK (Heap.st1 H16 ⟨x5, 0, none⟩ l17.v) fun H18 =>
      cmd_Keys_Feed_p111101001100111 d m0 x0 x5 x6 x7 x7_1 x13 x14 x15 H18)
    else
    (cmd_Keys_Feed_p111101001100111 d m0 x0 x5 x6 x7 x7_1 x13 x14 x15 H)) := (opq_app _ _ _).trans <| by kernel_rfl
theorem cmd_Keys_Feed_p111101001100111_eq (d : Nat) (m0 : Nat) (x0 : Nat) (x5 : Nat) (x6 : Nat) (x7 : Nat) (x7_1 : Nat) (x13 : Sl) (x14 : Int) (x15 : Int) (H : Heap) : cmd_Keys_Feed_p111101001100111 d m0 x0 x5 x6 x7 x7_1 x13 x14 x15 H =
  optK (Heap.st1 H ⟨x0, 0, none⟩ (.bool false)) fun H1 =>
  cmd_Keys_Feed_p11110100111 d m0 x0 x5 x6 x7 x7_1 x13 x14 x15 H1 := (opq_app _ _ _).trans <| by kernel_rfl
theorem cmd_Keys_Feed_eq (d : Nat) (x0 : Nat) (x1 : Sl) (H : Heap) : X (d + 1) n_cmd_Keys_Feed [P0 x0, x1.v] H =
  newK H (.cells [.slice none 0 0] t_S_cmd_Press false 0 false) fun p1 H2 =>
  newK H2 (.cells [.slice none 0 0] t_S_uint8 false 0 false) fun p3 H4 =>
  cmd_Keys_Feed_p1111010 d NN x0 p1 p3 p3 p1 x1 (x1.n : Int) 0 H4 := by kernel_rfl
end Go.Proofs.Ytnpmlgibjhjiiaa.dec

namespace Go.Proofs.Ytnpmlgibjhjiiaa.dec
open Go Go.Cm
/-! (*porthole/portholeref22.Keys).Feed -/
noncomputable def ref22_Keys_Feed_k1111 (d : Nat) : Kt := run (X d) NN (cd 16 [1, 1, 1, 1]) (retK (rs 16)) [] (retK (rs 16))
noncomputable def ref22_Keys_Feed_l111010 (d : Nat) (m0 : Nat) : Kt := iter (fun k => run (X d) NN (cd 16 [1, 1, 1, 0, 1, 0, 0]) (backK [(0, .ptr), (1, .sl), (5, .sl), (6, .sl), (7, .int .i64)] (opq k)) [(0, (ref22_Keys_Feed_k1111 d))] (retK (rs 16))) m0
noncomputable def ref22_Keys_Feed_p111010 (d : Nat) (m0 : Nat) (x0 : Nat) (x1 : Sl) (x5 : Sl) (x6 : Sl) (x7 : Int) (H : Heap) : Res := opq (ref22_Keys_Feed_l111010 d m0) [(0, P0 x0), (1, x1.v), (5, x5.v), (6, x6.v), (7, .int .i64 x7)] H
noncomputable def ref22_Keys_Feed_p111010011 (d : Nat) (m0 : Nat) (x0 : Nat) (x1 : Sl) (x5 : Sl) (x6 : Sl) (x7 : Int) (H : Heap) : Res := opq (run (X d) NN (cd 16 [1, 1, 1, 0, 1, 0, 0, 1, 1, 0]) (backK [(0, .ptr), (1, .sl), (5, .sl), (6, .sl), (7, .int .i64)] (opq (ref22_Keys_Feed_l111010 d m0))) [(0, (ref22_Keys_Feed_k1111 d))] (retK (rs 16))) [(0, P0 x0), (1, x1.v), (5, x5.v), (6, x6.v), (7, .int .i64 x7)] H
theorem ref22_Keys_Feed_p111010_s (d : Nat) (m0 : Nat) (x0 : Nat) (x1 : Sl) (x5 : Sl) (x6 : Sl) (x7 : Int) (H : Heap) : ref22_Keys_Feed_p111010 d (m0 + 1) x0 x1 x5 x6 x7 H =
  if (decide (x7 < (x1.n : Int))) = true then
  (optK (Heap.ld1 H ⟨x0, 0, none⟩) fun v1 =>
    asB v1 fun b2 =>
    if (!b2) = true then
    (optK x1.a fun a3 =>
      if 0 ≤ x7 ∧ x7 < (x1.n : Int) then
      optK (Heap.ld1 H (ap a3 (((x7).toNat) * 1))) fun v4 =>
      asI .u8 v4 fun n5 =>
      if (decide (n5 = 2)) = true then
      (optK (Heap.st1 H ⟨x0, 0, none⟩ (.bool true)) fun H6 =>
        ref22_Keys_Feed_p111010011 d m0 x0 x1 x5 x6 x7 H6)
      else
      (optK x1.a fun a7 =>
        if 0 ≤ x7 ∧ x7 < (x1.n : Int) then
        optK (Heap.ld1 H (ap a7 (((x7).toNat) * 1))) fun v8 =>
        asI .u8 v8 fun n9 =>
        newK H (.cells [.int .u8 n9] t_uint8 false 0 false) fun p10 H11 =>
        appendK t_uint8 1 1 false x6.v (.slice (some ⟨p10, 0, none⟩) 1 1) H11 fun v12 H13 =>
        asSL v12 fun l14 =>
        ref22_Keys_Feed_p111010011 d m0 x0 x1 x5 l14 x7 H13
        else none)
      else none)
    else
    (optK (Heap.st1 H ⟨x0, 0, none⟩ (.bool false)) fun H15 =>
      optK x1.a fun a16 =>
      if 0 ≤ x7 ∧ x7 < (x1.n : Int) then
      optK (Heap.ld1 H15 (ap a16 (((x7).toNat) * 1))) fun v17 =>
      asI .u8 v17 fun n18 =>
      if (decide (n18 = 2)) = true then
      (newK H15 (.cells [.int .u8 2] t_uint8 false 0 false) fun p19 H20 =>
        appendK t_uint8 1 1 false x6.v (.slice (some ⟨p19, 0, none⟩) 1 1) H20 fun v21 H22 =>
        asSL v21 fun l23 =>
        ref22_Keys_Feed_p111010011 d m0 x0 x1 x5 l23 x7 H22)
      else
      (optK x1.a fun a24 =>
        if 0 ≤ x7 ∧ x7 < (x1.n : Int) then
        optK (Heap.ld1 H15 (ap a24 (((x7).toNat) * 1))) fun v25 =>
        asI .u8 v25 fun n26 =>
        callK (X d n_ref22_Bound [.int .u8 n26] H15) fun v27 H28 =>
        castT [.str, .bool] v27 fun l29 =>
        castT [.str, .bool] (.tuple ⟨l29⟩) fun l30 =>
        optK l30[0]? fun v31 =>
        asS v31 fun s32 =>
        optK l30[1]? fun v33 =>
        asB v33 fun b34 =>
        if b34 = true then
        (callK (X d n_ref22_pressed [x5.v, x6.v] H28) fun v35 H36 =>
          asSL v35 fun l37 =>
          newK H36 (.cells [.slice none 0 0, .string s32] t_cmd_Press false 0 false) fun p38 H39 =>
          appendK t_cmd_Press 2 40 false l37.v (.slice (some ⟨p38, 0, none⟩) 1 1) H39 fun v40 H41 =>
          asSL v40 fun l42 =>
          ref22_Keys_Feed_p111010011 d m0 x0 x1 l42 Sl.nil x7 H41)
        else
        (ref22_Keys_Feed_p111010011 d m0 x0 x1 x5 x6 x7 H28)
        else none)
      else none))
  else
  (callK (X d n_ref22_pressed [x5.v, x6.v] H) fun v43 H44 =>
    asSL v43 fun l45 =>
    some (l45.v, H44)) := (opq_app _ _ _).trans <| by kernel_rfl
theorem ref22_Keys_Feed_p111010011_eq (d : Nat) (m0 : Nat) (x0 : Nat) (x1 : Sl) (x5 : Sl) (x6 : Sl) (x7 : Int) (H : Heap) : ref22_Keys_Feed_p111010011 d m0 x0 x1 x5 x6 x7 H =
  ref22_Keys_Feed_p111010 d m0 x0 x1 x5 x6 (IntKind.wrap .i64 (x7 + 1)) H := (opq_app _ _ _).trans <| by kernel_rfl
theorem ref22_Keys_Feed_eq (d : Nat) (x0 : Nat) (x1 : Sl) (H : Heap) : X (d + 1) n_ref22_Keys_Feed [P0 x0, x1.v] H =
  ref22_Keys_Feed_p111010 d NN x0 x1 Sl.nil Sl.nil 0 H := by kernel_rfl
end Go.Proofs.Ytnpmlgibjhjiiaa.dec

namespace Go.Proofs.Ytnpmlgibjhjiiaa.dec
open Go Go.Cm
/-! porthole/cmd.Bound -/
noncomputable def cmd_Bound_k111 (d : Nat) : Kt := run (X d) NN (cd 17 [1, 1, 1]) (retK (rs 17)) [] (retK (rs 17))
noncomputable def cmd_Bound_p1101 (d : Nat) (x0 : Int) (x26 : Bool) (H : Heap) : Res := opq (run (X d) NN (cd 17 [1, 1, 0, 1, 0]) (cmd_Bound_k111 d) [] (retK (rs 17))) [(0, .int .u8 x0), (26, .bool x26)] H
theorem cmd_Bound_p1101_eq (d : Nat) (x0 : Int) (x26 : Bool) (H : Heap) : cmd_Bound_p1101 d x0 x26 H =
  if x26 = true then
  (if slen (S [115, 101, 108, 101, 99, 116, 45, 112, 97, 110, 101, 32]) + slen (Utf8.encode (IntKind.wrap .i32 x0)) ≤ 9223372036854775807 then
    some (.tuple #[.string (sCat (S [115, 101, 108, 101, 99, 116, 45, 112, 97, 110, 101, 32]) (Utf8.encode (IntKind.wrap .i32 x0))), .bool true], H)
    else none)
  else
  (some (.tuple #[.string (S []), .bool false], H)) := (opq_app _ _ _).trans <| by kernel_rfl
theorem cmd_Bound_eq (d : Nat) (x0 : Int) (H : Heap) : X (d + 1) n_cmd_Bound [.int .u8 x0] H =
  if (decide (x0 = 99)) = true then
  (some (.tuple #[.string (S [110, 101, 119, 45, 119, 105, 110, 100, 111, 119]), .bool true], H))
  else
  (if (decide (x0 = 38)) = true then
    (some (.tuple #[.string (S [107, 105, 108, 108, 45, 119, 105, 110, 100, 111, 119]), .bool true], H))
    else
    (if (decide (x0 = 37)) = true then
      (some (.tuple #[.string (S [115, 112, 108, 105, 116, 45, 119, 105, 110, 100, 111, 119, 32, 45, 104]), .bool true], H))
      else
      (if (decide (x0 = 34)) = true then
        (some (.tuple #[.string (S [115, 112, 108, 105, 116, 45, 119, 105, 110, 100, 111, 119, 32, 45, 118]), .bool true], H))
        else
        (if (decide (x0 = 120)) = true then
          (some (.tuple #[.string (S [107, 105, 108, 108, 45, 112, 97, 110, 101]), .bool true], H))
          else
          (if (decide (x0 = 122)) = true then
            (some (.tuple #[.string (S [122, 111, 111, 109]), .bool true], H))
            else
            (if (decide (x0 = 111)) = true then
              (some (.tuple #[.string (S [115, 101, 108, 101, 99, 116, 45, 112, 97, 110, 101, 32, 48]), .bool true], H))
              else
              (if (decide (x0 = 93)) = true then
                (some (.tuple #[.string (S [112, 97, 115, 116, 101, 32, 48]), .bool true], H))
                else
                (if (decide ((48 : Int) ≤ x0)) = true then
                  (cmd_Bound_p1101 d x0 (decide (x0 ≤ 57)) H)
                  else
                  (cmd_Bound_p1101 d x0 false H))))))))) := by kernel_rfl
end Go.Proofs.Ytnpmlgibjhjiiaa.dec

namespace Go.Proofs.Ytnpmlgibjhjiiaa.dec
open Go Go.Cm
/-! porthole/portholeref22.Bound -/
noncomputable def ref22_Bound_k111 (d : Nat) : Kt := run (X d) NN (cd 18 [1, 1, 1]) (retK (rs 18)) [] (retK (rs 18))
noncomputable def ref22_Bound_p1101 (d : Nat) (x0 : Int) (x26 : Bool) (H : Heap) : Res := opq (run (X d) NN (cd 18 [1, 1, 0, 1, 0]) (ref22_Bound_k111 d) [] (retK (rs 18))) [(0, .int .u8 x0), (26, .bool x26)] H
theorem ref22_Bound_p1101_eq (d : Nat) (x0 : Int) (x26 : Bool) (H : Heap) : ref22_Bound_p1101 d x0 x26 H =
  if x26 = true then
  (newK H (.cells [.int .u8 x0] t_uint8 false 0 false) fun p1 H2 =>
    optK (readD (.bytesStr) [.slice (some ⟨p1, 0, none⟩) 1 1] H2) fun v3 =>
    asS v3 fun s4 =>
    if slen (S [115, 101, 108, 101, 99, 116, 45, 112, 97, 110, 101, 32]) + slen s4 ≤ 9223372036854775807 then
    some (.tuple #[.string (sCat (S [115, 101, 108, 101, 99, 116, 45, 112, 97, 110, 101, 32]) s4), .bool true], H2)
    else none)
  else
  (some (.tuple #[.string (S []), .bool false], H)) := (opq_app _ _ _).trans <| by kernel_rfl
theorem ref22_Bound_eq (d : Nat) (x0 : Int) (H : Heap) : X (d + 1) n_ref22_Bound [.int .u8 x0] H =
  if (decide (x0 = 99)) = true then
  (some (.tuple #[.string (S [110, 101, 119, 45, 119, 105, 110, 100, 111, 119]), .bool true], H))
  else
  (if (decide (x0 = 38)) = true then
    (some (.tuple #[.string (S [107, 105, 108, 108, 45, 119, 105, 110, 100, 111, 119]), .bool true], H))
    else
    (if (decide (x0 = 37)) = true then
      (some (.tuple #[.string (S [115, 112, 108, 105, 116, 45, 119, 105, 110, 100, 111, 119, 32, 45, 104]), .bool true], H))
      else
      (if (decide (x0 = 34)) = true then
        (some (.tuple #[.string (S [115, 112, 108, 105, 116, 45, 119, 105, 110, 100, 111, 119, 32, 45, 118]), .bool true], H))
        else
        (if (decide (x0 = 120)) = true then
          (some (.tuple #[.string (S [107, 105, 108, 108, 45, 112, 97, 110, 101]), .bool true], H))
          else
          (if (decide (x0 = 122)) = true then
            (some (.tuple #[.string (S [122, 111, 111, 109]), .bool true], H))
            else
            (if (decide (x0 = 111)) = true then
              (some (.tuple #[.string (S [115, 101, 108, 101, 99, 116, 45, 112, 97, 110, 101, 32, 48]), .bool true], H))
              else
              (if (decide (x0 = 93)) = true then
                (some (.tuple #[.string (S [112, 97, 115, 116, 101, 32, 48]), .bool true], H))
                else
                (if (decide ((48 : Int) ≤ x0)) = true then
                  (ref22_Bound_p1101 d x0 (decide (x0 ≤ 57)) H)
                  else
                  (ref22_Bound_p1101 d x0 false H))))))))) := by kernel_rfl
end Go.Proofs.Ytnpmlgibjhjiiaa.dec

namespace Go.Proofs.Ytnpmlgibjhjiiaa.dec
open Go Go.Cm
/-! (*porthole/cmd.Keys).Feed$1 -/
noncomputable def cmd_Keys_Feed_1_p1 (d : Nat) (x0 : Nat) (H : Heap) : Res := opq (run (X d) NN (cd 26 [1, 0]) (retK (rs 26)) [] (retK (rs 26))) [(0, P0 x0)] H
theorem cmd_Keys_Feed_1_p1_eq (d : Nat) (x0 : Nat) (H : Heap) : cmd_Keys_Feed_1_p1 d x0 H =
  optK (Heap.st1 H ⟨x0, 0, none⟩ (.slice none 0 0)) fun H1 =>
  some (.tuple #[], H1) := (opq_app _ _ _).trans <| by kernel_rfl
theorem cmd_Keys_Feed_1_eq (d : Nat) (x0 : Nat) (x1 : Nat) (H : Heap) : X (d + 1) n_cmd_Keys_Feed_1 [P0 x0, P0 x1] H =
  optK (Heap.ld1 H ⟨x0, 0, none⟩) fun v1 =>
  asSL v1 fun l2 =>
  if (decide ((0 : Int) < (l2.n : Int))) = true then
  (optK (Heap.ld1 H ⟨x1, 0, none⟩) fun v3 =>
    asSL v3 fun l4 =>
    optK (Heap.ld1 H ⟨x0, 0, none⟩) fun v5 =>
    asSL v5 fun l6 =>
    newK H (.cells [l6.v, .string (S [])] t_cmd_Press false 0 false) fun p7 H8 =>
    appendK t_cmd_Press 2 40 false l4.v (.slice (some ⟨p7, 0, none⟩) 1 1) H8 fun v9 H10 =>
    asSL v9 fun l11 =>
    optK (Heap.st1 H10 ⟨x1, 0, none⟩ l11.v) fun H12 =>
    cmd_Keys_Feed_1_p1 d x0 H12)
  else
  (cmd_Keys_Feed_1_p1 d x0 H) := by kernel_rfl
end Go.Proofs.Ytnpmlgibjhjiiaa.dec

namespace Go.Proofs.Ytnpmlgibjhjiiaa.dec
open Go Go.Cm
/-! porthole/portholeref22.pressed -/
theorem ref22_pressed_eq (d : Nat) (x0 : Sl) (x1 : Sl) (H : Heap) : X (d + 1) n_ref22_pressed [x0.v, x1.v] H =
  if (decide ((x1.n : Int) = 0)) = true then
  (some (x0.v, H))
  else
  (newK H (.cells [x1.v, .string (S [])] t_cmd_Press false 0 false) fun p1 H2 =>
    appendK t_cmd_Press 2 40 false x0.v (.slice (some ⟨p1, 0, none⟩) 1 1) H2 fun v3 H4 =>
    asSL v3 fun l5 =>
    some (l5.v, H4)) := by kernel_rfl
end Go.Proofs.Ytnpmlgibjhjiiaa.dec
