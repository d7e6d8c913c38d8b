/-
  The functions' numbers, their code with cuts.
  And: What calls compute, piece by piece. What calls compute, piece by piece. What calls compute, piece by piece. What calls compute, piece by piece. What calls compute, piece by piece. What calls compute, piece by piece. What calls compute, piece by piece. What calls compute, piece by piece. What calls compute, piece by piece. What calls compute, piece by piece. What calls compute, piece by piece. What calls compute, piece by piece. What calls compute, piece by piece. What calls compute, piece by piece. What calls compute, piece by piece. What calls compute, piece by piece. What calls compute, piece by piece. What calls compute, piece by piece.
-/
import Derived.Test.YtnpmlgibjhjiiaaCmG
import Derived.Test.YtnpmlgibjhjiiaaChecked
namespace Go.Proofs.Ytnpmlgibjhjiiaa.dec
open Go Go.Cm
abbrev n_main_main : Nat := 0
abbrev n_gosem_cut : Nat := 1
abbrev n_gosem_cut_init : Nat := 2
abbrev n_law24_CmdParses : Nat := 3
abbrev n_law24_CmdKeys : Nat := 4
abbrev n_law24_CmdBack : Nat := 5
abbrev n_law24_CmdParts : Nat := 6
abbrev n_law24_line : Nat := 7
abbrev n_cmd_Parse : Nat := 8
abbrev n_ref22_Parse : Nat := 9
abbrev n_law24_known : Nat := 10
abbrev n_law24_same : Nat := 11
abbrev n_hand_Pick : Nat := 12
abbrev n_hand_Cut : Nat := 13
abbrev n_cmd_NewKeys : Nat := 14
abbrev n_cmd_Keys_Feed : Nat := 15
abbrev n_ref22_Keys_Feed : Nat := 16
abbrev n_cmd_Bound : Nat := 17
abbrev n_ref22_Bound : Nat := 18
abbrev n_law24_command : Nat := 19
abbrev n_cmd_Print : Nat := 20
abbrev n_cmd_reader_ends : Nat := 21
abbrev n_cmd_reader_quoted : Nat := 22
abbrev n_cmd_reader_word : Nat := 23
abbrev n_ref22_flushed : Nat := 24
abbrev n_ref22_bare : Nat := 25
abbrev n_cmd_Keys_Feed_1 : Nat := 26
abbrev n_ref22_pressed : Nat := 27
abbrev n_ref22_Digits : Nat := 28
abbrev n_cmd_shown : Nat := 29
abbrev n_strings_Join : Nat := 30
abbrev n_cmd_plain : Nat := 31
abbrev n_ref22_below : Nat := 32
abbrev n_strings_Builder_Grow : Nat := 33
abbrev n_strings_Builder_WriteString : Nat := 34
abbrev n_strings_Builder_String : Nat := 35
abbrev n_strings_Builder_copyCheck : Nat := 36
abbrev n_strings_Builder_grow : Nat := 37
abbrev n_abi_NoEscape : Nat := 38
abbrev n_bytealg_MakeNoZero : Nat := 39
abbrev n_runtime_boundsError_Error : Nat := 40
abbrev n_runtime_boundsError_RuntimeError : Nat := 41
abbrev n_runtime_errorString_Error : Nat := 42
abbrev n_runtime_errorString_RuntimeError : Nat := 43
abbrev n_runtime_plainError_Error : Nat := 44
abbrev n_runtime_plainError_RuntimeError : Nat := 45
abbrev n_runtime_errorAddressString_Error : Nat := 46
abbrev n_runtime_errorAddressString_RuntimeError : Nat := 47
abbrev n_runtime_TypeAssertionError_Error : Nat := 48
abbrev n_runtime_TypeAssertionError_RuntimeError : Nat := 49
abbrev n_runtime_PanicNilError_Error : Nat := 50
abbrev n_runtime_PanicNilError_RuntimeError : Nat := 51
abbrev n_abi_Type_Align : Nat := 52
abbrev n_runtime_maps_unhashableTypeError_Error : Nat := 53
abbrev n_runtime_maps_unhashableTypeError_RuntimeError : Nat := 54
abbrev n_strings_Builder_Reset : Nat := 55
abbrev n_abi_Kind_String : Nat := 56
abbrev t_int64 : Nat := 2
abbrev t_int : Nat := 3
abbrev t_bool : Nat := 4
abbrev t_uint8 : Nat := 5
abbrev t_abi_BoundsErrorCode : Nat := 6
abbrev t_runtime_boundsError : Nat := 8
abbrev t_string : Nat := 9
abbrev t_runtime_errorString : Nat := 10
abbrev t_runtime_plainError : Nat := 11
abbrev t_uintptr : Nat := 12
abbrev t_runtime_errorAddressString : Nat := 14
abbrev t_P_runtime_TypeAssertionError : Nat := 15
abbrev t_P_runtime_PanicNilError : Nat := 16
abbrev t_P_abi_Type : Nat := 17
abbrev t_maps_unhashableTypeError : Nat := 19
abbrev t_int32 : Nat := 21
abbrev t_S_int : Nat := 22
abbrev t_S_cmd_Command : Nat := 24
abbrev t_api_Errno : Nat := 25
abbrev t_S_uint8 : Nat := 31
abbrev t_14_uint8 : Nat := 32
abbrev t_S_S_uint8 : Nat := 34
abbrev t_P_cmd_Keys : Nat := 36
abbrev t_P_ref22_Keys : Nat := 38
abbrev t_ref22_Keys : Nat := 40
abbrev t_S_cmd_Press : Nat := 41
abbrev t_cmd_Press : Nat := 44
abbrev t_S_law24_Raw : Nat := 48
abbrev t_S_string : Nat := 49
abbrev t_cmd_Command : Nat := 51
abbrev t_law24_Raw : Nat := 54
abbrev t_16_string : Nat := 58
abbrev t_P_cmd_reader : Nat := 59
abbrev t_cmd_reader : Nat := 61
abbrev t_cmd_Keys : Nat := 65
abbrev t_20_string : Nat := 67
abbrev t_5_string : Nat := 69
abbrev t_3_string : Nat := 70
abbrev t_4_string : Nat := 71
abbrev t_P_strings_Builder : Nat := 74
abbrev t_strings_Builder : Nat := 76
abbrev t_error : Nat := 79
abbrev t_P_uint8 : Nat := 83
abbrev t_unsafe_Pointer : Nat := 84
abbrev t_runtime_TypeAssertionError : Nat := 88
abbrev t_0_P_runtime_PanicNilError : Nat := 89
abbrev t_runtime_PanicNilError : Nat := 91
abbrev t_uint32 : Nat := 93
abbrev t_abi_TFlag : Nat := 94
abbrev t_abi_Kind : Nat := 95
abbrev t_abi_NameOff : Nat := 97
abbrev t_abi_TypeOff : Nat := 98
abbrev t_abi_Type : Nat := 100
def cutsL : List (Nat × CT) := [(3, (.two .no (.two .no (.cut [(0, .str)] .no)))),
  (4, (.two .no (.two (.two .no (.two (.two .no (.two (.two .no (.one (.lp [(0, .sl), (3, .sl), (9, .sl), (10, .int .i64)] (.two (.two .no (.cut [(0, .sl), (3, .sl), (9, .sl), (10, .int .i64), (32, .bool)] .no)) .no)))) .no)) .no)) (.cut [(1, .sl), (3, .sl)] (.two .no (.two .no (.two .no (.two (.two .no (.cut [(1, .sl), (11, .sl), (12, .ptr), (13, .ptr), (58, .bool)] .no)) (.two (.two .no (.one (.lp [(1, .sl), (11, .sl), (12, .ptr), (13, .ptr), (14, .int .i64)] (.two .no (.two (.one (.two .no (.two .no (.two .no (.two .no (.one (.lp [(1, .sl), (11, .sl), (12, .ptr), (13, .ptr), (14, .int .i64), (15, .sl), (16, .sl), (17, .int .i64)] (.two .no (.two (.one (.two .no (.cut [(1, .sl), (11, .sl), (12, .ptr), (13, .ptr), (14, .int .i64), (15, .sl), (16, .sl), (17, .int .i64), (113, .bool)] .no))) .no))))))))) .no))))) (.two (.two .no (.one (.lp [(1, .sl), (18, .int .i64)] (.two (.two .no (.cut [(1, .sl), (18, .int .i64), (121, .bool)] .no)) (.two (.one (.two .no (.two .no (.two .no (.cut [(1, .sl), (18, .int .i64), (147, .bool)] .no))))) .no))))) .no)))))))))),
  (5, (.two .no (.two .no (.two (.two .no (.one (.lp [(0, .sl), (3, .sl), (4, .int .i64)] (.two (.two .no (.cut [(0, .sl), (3, .sl), (4, .int .i64), (15, .bool)] .no)) .no)))) (.two .no (.two (.two .no (.cut [(3, .sl), (5, .str), (38, .bool)] .no)) .no)))))),
  (6, (.two .no (.two .no (.two (.two .no (.one (.lp [(0, .sl), (1, .sl), (2, .int .i64), (7, .sl), (8, .sl), (9, .int .i64)] (.two (.two .no (.cut [(0, .sl), (1, .sl), (2, .int .i64), (7, .sl), (8, .sl), (9, .int .i64), (24, .bool)] .no)) .no)))) (.two (.two .no (.one (.lp [(1, .sl), (2, .int .i64), (7, .sl), (8, .sl), (10, .int .i64)] (.two (.two .no (.cut [(1, .sl), (2, .int .i64), (7, .sl), (8, .sl), (10, .int .i64), (42, .bool)] .no)) .no)))) (.two .no (.two .no (.two (.two .no (.cut [(2, .int .i64), (7, .sl), (8, .sl), (11, .str), (12, .str), (74, .bool)] .no)) (.two .no (.two (.two .no (.one (.lp [(2, .int .i64), (7, .sl), (8, .sl), (11, .str), (12, .str), (13, .str), (14, .int .i64)] .no))) .no)))))))))),
  (7, (.two .no (.two .no (.two (.two .no (.one (.lp [(0, .sl), (3, .str), (4, .int .i64)] (.two (.two .no (.cut [(0, .sl), (3, .str), (4, .int .i64), (12, .bool)] .no)) .no)))) .no)))),
  (8, (.two .no (.two .no (.two .no (.two (.one (.lp [(4, .ptr)] (.two .no (.one (.two .no (.two .no (.cut [(4, .ptr), (5, .bool)] (.two .no (.cut [(4, .ptr), (74, .bool)] .no))))))))) .no))))),
  (9, (.two .no (.two .no (.two .no (.two .no (.two (.two .no (.one (.lp [(0, .str), (4, .sl), (5, .sl), (6, .int .i64)] (.two .no (.one (.two .no (.one (.two .no (.two .no (.two .no (.two .no (.two .no (.two (.two .no (.two .no (.two (.one (.lp [(0, .str), (4, .sl), (5, .sl), (6, .int .i64), (8, .str)] (.two (.two .no (.cut [(0, .str), (4, .sl), (5, .sl), (6, .int .i64), (8, .str), (47, .bool)] .no)) (.one (.two (.two .no (.two (.two .no (.two .no (.cut [(0, .str), (4, .sl), (5, .sl), (6, .int .i64), (8, .str), (69, .bool)] .no))) .no)) (.cut [(0, .str), (4, .sl), (5, .sl), (6, .int .i64), (8, .str)] (.two (.two .no (.cut [(0, .str), (4, .sl), (5, .sl), (6, .int .i64), (8, .str), (79, .bool)] .no)) .no))))))) (.two .no (.two .no (.two (.two .no (.cut [(0, .str), (4, .sl), (5, .sl), (6, .int .i64), (8, .str), (110, .bool)] .no)) .no)))))) (.two .no (.two (.two .no (.two (.one (.lp [(0, .str), (4, .sl), (5, .sl), (6, .int .i64), (9, .int .i64)] (.two (.two .no (.cut [(0, .str), (4, .sl), (5, .sl), (6, .int .i64), (9, .int .i64), (128, .bool)] .no)) .no))) (.two (.two .no (.cut [(0, .str), (4, .sl), (5, .sl), (6, .int .i64), (9, .int .i64), (146, .bool)] .no)) .no))) .no))))))))))))))) .no)))))),
  (11, (.two .no (.two .no (.two (.two .no (.one (.lp [(0, .sl), (1, .sl), (5, .int .i64)] (.two .no (.two (.one (.two (.two .no (.cut [(0, .sl), (1, .sl), (5, .int .i64), (43, .bool)] .no)) (.two .no (.one (.lp [(0, .sl), (1, .sl), (5, .int .i64), (6, .int .i64)] .no))))) .no))))) .no)))),
  (13, (.two .no (.two .no (.two (.two .no (.one (.lp [(0, .str), (1, .sl), (5, .sl), (6, .int .i64)] (.two (.two .no (.cut [(0, .str), (1, .sl), (5, .sl), (6, .int .i64), (20, .bool)] .no)) .no)))) .no)))),
  (15, (.two .no (.two .no (.two .no (.two .no (.two (.two .no (.one (.lp [(0, .ptr), (5, .any), (6, .any), (7, .any), (13, .sl), (14, .int .i64), (15, .int .i64)] (.two .no (.two .no (.two (.one (.two .no (.two .no (.two (.one (.two .no (.cut [(0, .ptr), (5, .any), (6, .any), (7, .any), (9, .int .u8), (10, .str), (11, .bool), (13, .sl), (14, .int .i64), (15, .int .i64), (24, .bool)] (.two .no (.two .no (.cut [(0, .ptr), (5, .any), (6, .any), (7, .any), (9, .int .u8), (10, .str), (11, .bool), (13, .sl), (14, .int .i64), (15, .int .i64), (37, .bool)] .no)))))) (.cut [(0, .ptr), (5, .any), (6, .any), (7, .any), (13, .sl), (14, .int .i64), (15, .int .i64)] .no))))) (.cut [(0, .ptr), (5, .any), (6, .any), (7, .any), (13, .sl), (14, .int .i64), (15, .int .i64)] .no))))))) .no)))))),
  (16, (.two .no (.two .no (.two .no (.two (.two .no (.one (.lp [(0, .ptr), (1, .sl), (5, .sl), (6, .sl), (7, .int .i64)] (.two .no (.two .no (.cut [(0, .ptr), (1, .sl), (5, .sl), (6, .sl), (7, .int .i64)] .no)))))) .no))))),
  (17, (.two .no (.two .no (.two (.two .no (.cut [(0, .int .u8), (26, .bool)] .no)) .no)))),
  (18, (.two .no (.two .no (.two (.two .no (.cut [(0, .int .u8), (26, .bool)] .no)) .no)))),
  (19, (.two .no (.two .no (.two .no (.two .no (.two (.two .no (.one (.two .no (.cut [(1, .any), (2, .any), (4, .any), (5, .str), (17, .str), (18, .bool)] (.two .no (.two .no (.cut [(1, .any), (2, .any), (4, .any), (5, .str), (17, .str), (28, .bool)] .no))))))) (.cut [(1, .any), (2, .any), (4, .any)] .no))))))),
  (20, (.two .no (.two .no (.two (.two .no (.one (.lp [(3, .sl), (11, .sl), (12, .int .i64), (13, .int .i64)] (.two .no (.two .no (.two (.one (.two .no (.two .no (.two (.two .no (.one (.lp [(3, .sl), (5, .any), (6, .sl), (11, .sl), (12, .int .i64), (13, .int .i64), (22, .sl), (23, .int .i64), (24, .int .i64)] (.two .no (.two .no (.two (.one (.two .no (.two .no (.two (.two .no (.cut [(3, .sl), (5, .any), (6, .sl), (9, .str), (11, .sl), (12, .int .i64), (13, .int .i64), (22, .sl), (23, .int .i64), (24, .int .i64), (39, .bool)] .no)) .no)))) .no)))))) .no)))) .no)))))) .no)))),
  (21, (.two .no (.cut [(0, .ptr)] .no))),
  (22, (.two .no (.two .no (.two (.two .no (.one (.lp [(0, .ptr), (3, .sl), (4, .int .i64)] (.two .no (.two (.one (.two .no (.two (.one (.two .no (.cut [(0, .ptr), (3, .sl), (4, .int .i64), (5, .int .u8), (21, .bool)] (.two .no (.two .no (.two .no (.two .no (.two (.two .no (.two (.two .no (.cut [(0, .ptr), (3, .sl), (4, .int .i64), (81, .bool)] .no)) .no)) .no)))))))) (.cut [(0, .ptr), (3, .sl), (4, .int .i64), (5, .int .u8)] .no)))) .no))))) .no)))),
  (23, (.two .no (.two .no (.two (.one (.lp [(0, .ptr), (3, .int .i64)] (.two (.two .no (.cut [(0, .ptr), (3, .int .i64), (19, .bool)] .no)) .no))) .no)))),
  (26, (.two .no (.cut [(0, .ptr)] .no))),
  (29, (.two .no (.two .no (.two .no (.two (.two .no (.one (.lp [(0, .str), (4, .bool), (5, .sl), (6, .int .i64)] (.two .no (.two (.one (.two .no (.two (.two .no (.cut [(0, .str), (4, .bool), (5, .sl), (6, .int .i64), (7, .int .u8), (24, .bool)] .no)) (.two .no (.cut [(0, .str), (4, .bool), (5, .sl), (6, .int .i64), (7, .int .u8)] (.two (.two .no (.cut [(0, .str), (4, .bool), (5, .sl), (6, .int .i64), (7, .int .u8), (36, .bool)] .no)) (.cut [(0, .str), (4, .bool), (5, .sl), (6, .int .i64), (7, .int .u8)] .no))))))) .no))))) .no)))))]

noncomputable def C : CProg := ⟨autoC (lookCT cutsL) [] Try.prog, fun f => if f = n_law24_known then some (sure n_law24_known n_law24_known) else if f = n_ref22_below then some (digP dig2) else if f = n_strings_Join then some joinP else none⟩
theorem exNN : ∃ n : Nat, n = 4000000000 := ⟨_, rfl⟩
noncomputable def NN : Nat := Classical.choose exNN
theorem NN_eq : NN = 4000000000 := Classical.choose_spec exNN
noncomputable def X (d : Nat) : CallF := callD C NN d
noncomputable def cd (f : Nat) (p : List Nat) : CCode := cdC (lookCT cutsL) [] Try.prog f p
noncomputable def rs (f : Nat) : List CRes := rsC [] Try.prog f
end Go.Proofs.Ytnpmlgibjhjiiaa.dec

namespace Go.Proofs.Ytnpmlgibjhjiiaa.dec
open Go Go.Cm
/-! porthole/portholelaw24.CmdParses -/
noncomputable def law24_CmdParses_p11 (d : Nat) (x0 : ByteArray) (H : Heap) : Res := opq (run (X d) NN (cd 3 [1, 1, 0]) (retK (rs 3)) [] (retK (rs 3))) [(0, .string x0)] H
theorem law24_CmdParses_p11_eq (d : Nat) (x0 : ByteArray) (H : Heap) : law24_CmdParses_p11 d x0 H =
  callK (X d n_cmd_Parse [.string x0] H) fun v1 H2 =>
  castT [.sl, .int .i64] v1 fun l3 =>
  castT [.sl, .int .i64] (.tuple ⟨l3⟩) fun l4 =>
  optK l4[0]? fun v5 =>
  asSL v5 fun l6 =>
  optK l4[1]? fun v7 =>
  asI .i64 v7 fun n8 =>
  callK (X d n_ref22_Parse [.string x0] H2) fun v9 H10 =>
  castT [.sl, .int .i64] v9 fun l11 =>
  castT [.sl, .int .i64] (.tuple ⟨l11⟩) fun l12 =>
  optK l12[0]? fun v13 =>
  asSL v13 fun l14 =>
  optK l12[1]? fun v15 =>
  asI .i64 v15 fun n16 =>
  callK (X d n_law24_known [] H10) fun v17 H18 =>
  asB v17 fun b19 =>
  if b19 = true then
  (callK (X d n_law24_same [l6.v, l14.v] H18) fun v20 H21 =>
    asB v20 fun b22 =>
    if b22 = true then
    (some (.bool (decide (n8 = n16)), H21))
    else
    (some (.bool false, H21)))
  else
  (some (.bool false, H18)) := (opq_app _ _ _).trans <| by kernel_rfl
theorem law24_CmdParses_eq (d : Nat) (x0 : ByteArray) (x1 : Sl) (x2 : Bool) (H : Heap) : X (d + 1) n_law24_CmdParses [.string x0, x1.v, .bool x2] H =
  if (!x2) = true then
  (callK (X d n_law24_line [x1.v] H) fun v1 H2 =>
    asS v1 fun s3 =>
    law24_CmdParses_p11 d s3 H2)
  else
  (law24_CmdParses_p11 d x0 H) := by kernel_rfl
end Go.Proofs.Ytnpmlgibjhjiiaa.dec

namespace Go.Proofs.Ytnpmlgibjhjiiaa.dec
open Go Go.Cm
/-! porthole/portholelaw24.line -/
noncomputable def law24_line_k111 (d : Nat) : Kt := run (X d) NN (cd 7 [1, 1, 1]) (retK (rs 7)) [] (retK (rs 7))
noncomputable def law24_line_l11010 (d : Nat) (m0 : Nat) : Kt := iter (fun k => run (X d) NN (cd 7 [1, 1, 0, 1, 0, 0]) (backK [(0, .sl), (3, .str), (4, .int .i64)] (opq k)) [(0, (law24_line_k111 d))] (retK (rs 7))) m0
noncomputable def law24_line_k1101001 (d : Nat) (m0 : Nat) : Kt := run (X d) NN (cd 7 [1, 1, 0, 1, 0, 0, 1]) (backK [(0, .sl), (3, .str), (4, .int .i64)] (opq (law24_line_l11010 d m0))) [(0, (law24_line_k111 d))] (retK (rs 7))
noncomputable def law24_line_p11010 (d : Nat) (m0 : Nat) (x0 : Sl) (x3 : ByteArray) (x4 : Int) (H : Heap) : Res := opq (law24_line_l11010 d m0) [(0, x0.v), (3, .string x3), (4, .int .i64 x4)] H
noncomputable def law24_line_p11010001 (d : Nat) (m0 : Nat) (x0 : Sl) (x3 : ByteArray) (x4 : Int) (x12 : Bool) (H : Heap) : Res := opq (run (X d) NN (cd 7 [1, 1, 0, 1, 0, 0, 0, 1, 0]) (law24_line_k1101001 d m0) [(0, (law24_line_k111 d))] (retK (rs 7))) [(0, x0.v), (3, .string x3), (4, .int .i64 x4), (12, .bool x12)] H
theorem law24_line_p11010_s (d : Nat) (m0 : Nat) (x0 : Sl) (x3 : ByteArray) (x4 : Int) (H : Heap) : law24_line_p11010 d (m0 + 1) x0 x3 x4 H =
  if (decide (x4 < (x0.n : Int))) = true then
  (law24_line_p11010001 d m0 x0 x3 x4 (decide (x4 < 60)) H)
  else
  (law24_line_p11010001 d m0 x0 x3 x4 false H) := (opq_app _ _ _).trans <| by kernel_rfl
theorem law24_line_p11010001_eq (d : Nat) (m0 : Nat) (x0 : Sl) (x3 : ByteArray) (x4 : Int) (x12 : Bool) (H : Heap) : law24_line_p11010001 d m0 x0 x3 x4 x12 H =
  if x12 = true then
  (optK x0.a fun a1 =>
    if 0 ≤ x4 ∧ x4 < (x0.n : Int) then
    optK (Heap.ld1 H (ap a1 (((x4).toNat) * 1))) fun v2 =>
    asI .i64 v2 fun n3 =>
    callK (X d n_hand_Pick [.int .i64 n3, .int .i64 16] H) fun v4 H5 =>
    asI .i64 v4 fun n6 =>
    if 0 ≤ n6 ∧ n6 < 16 then
    optK (partL [.string (S [97]), .string (S [122, 111, 111, 109]), .string (S [32]), .string (S [32]), .string (S [59]), .string (S [34]), .string (S [34]), .string (S [92]), .string (S [98, 32, 99]), .string (S [49]), .string (S [45, 104]), .string (S [127]), .string (S [110, 101, 119, 45, 115, 101, 115, 115, 105, 111, 110]), .string (S [9]), .string (S [195, 169]), .string (S [92, 34])] (((n6).toNat) * 1) 1 false) fun v7 =>
    asS v7 fun s8 =>
    if slen x3 + slen s8 ≤ 9223372036854775807 then
    law24_line_p11010 d m0 x0 (sCat x3 s8) (IntKind.wrap .i64 (x4 + 1)) H5
    else none
    else none
    else none)
  else
  (some (.string x3, H)) := (opq_app _ _ _).trans <| by kernel_rfl
theorem law24_line_eq (d : Nat) (x0 : Sl) (H : Heap) : X (d + 1) n_law24_line [x0.v] H =
  law24_line_p11010 d NN x0 (S []) 0 H := by kernel_rfl
end Go.Proofs.Ytnpmlgibjhjiiaa.dec

namespace Go.Proofs.Ytnpmlgibjhjiiaa.dec
open Go Go.Cm
/-! porthole/cmd.Parse -/
noncomputable def cmd_Parse_k1111 (d : Nat) : Kt := run (X d) NN (cd 8 [1, 1, 1, 1]) (retK (rs 8)) [] (retK (rs 8))
noncomputable def cmd_Parse_l11100 (d : Nat) (m0 : Nat) : Kt := iter (fun k => run (X d) NN (cd 8 [1, 1, 1, 0, 0, 0]) (backK [(4, .ptr)] (opq k)) [(0, (cmd_Parse_k1111 d))] (retK (rs 8))) m0
noncomputable def cmd_Parse_p11100 (d : Nat) (m0 : Nat) (x4 : Nat) (H : Heap) : Res := opq (cmd_Parse_l11100 d m0) [(4, P0 x4)] H
noncomputable def cmd_Parse_p1110001011 (d : Nat) (m0 : Nat) (x4 : Nat) (x5 : Bool) (H : Heap) : Res := opq (run (X d) NN (cd 8 [1, 1, 1, 0, 0, 0, 1, 0, 1, 1, 0]) (backK [(4, .ptr)] (opq (cmd_Parse_l11100 d m0))) [(1, (backK [(4, .ptr)] (opq (cmd_Parse_l11100 d m0)))), (0, (cmd_Parse_k1111 d))] (retK (rs 8))) [(4, P0 x4), (5, .bool x5)] H
noncomputable def cmd_Parse_p111000101101 (d : Nat) (m0 : Nat) (x4 : Nat) (x74 : Bool) (H : Heap) : Res := opq (run (X d) NN (cd 8 [1, 1, 1, 0, 0, 0, 1, 0, 1, 1, 0, 1, 0]) (backK [(4, .ptr)] (opq (cmd_Parse_l11100 d m0))) [(1, (backK [(4, .ptr)] (opq (cmd_Parse_l11100 d m0)))), (0, (cmd_Parse_k1111 d))] (retK (rs 8))) [(4, P0 x4), (74, .bool x74)] H
theorem cmd_Parse_p11100_s (d : Nat) (m0 : Nat) (x4 : Nat) (H : Heap) : cmd_Parse_p11100 d (m0 + 1) x4 H =
  optK (Heap.ld1 H ⟨x4, 0, none⟩) fun v1 =>
  asS v1 fun s2 =>
  if (!sEq s2 (S [])) = true then
  (optK (Heap.ld1 H ⟨x4, 0, none⟩) fun v3 =>
    asS v3 fun s4 =>
    if 0 ≤ (0 : Int) ∧ (0 : Int) < (slen s4 : Int) then
    if (decide (bt s4 0 = 32)) = true then
    (optK (Heap.ld1 H ⟨x4, 0, none⟩) fun v5 =>
      asS v5 fun s6 =>
      if 0 ≤ (1 : Int) ∧ 1 ≤ (slen s6 : Int) then
      optK (Heap.st1 H ⟨x4, 0, none⟩ (.string (sSub s6 1 (slen s6)))) fun H7 =>
      cmd_Parse_p11100 d m0 x4 H7
      else none)
    else
    (if (decide (bt s4 0 = 59)) = true then
      (optK (Heap.ld1 H ⟨x4, 0, none⟩) fun v8 =>
        asS v8 fun s9 =>
        if 0 ≤ (1 : Int) ∧ 1 ≤ (slen s9 : Int) then
        optK (Heap.st1 H ⟨x4, 0, none⟩ (.string (sSub s9 1 (slen s9)))) fun H10 =>
        callK (X d n_cmd_reader_ends [P0 x4] H10) fun _ H12 =>
        cmd_Parse_p11100 d m0 x4 H12
        else none)
      else
      (if (decide (bt s4 0 = 34)) = true then
        (callK (X d n_cmd_reader_quoted [P0 x4] H) fun v13 H14 =>
          asB v13 fun b15 =>
          cmd_Parse_p1110001011 d m0 x4 b15 H14)
        else
        (callK (X d n_cmd_reader_word [P0 x4] H) fun v16 H17 =>
          asB v16 fun b18 =>
          cmd_Parse_p1110001011 d m0 x4 b18 H17)))
    else none)
  else
  (callK (X d n_cmd_reader_ends [P0 x4] H) fun _ H20 =>
    optK (Heap.ld1 H20 ⟨x4, 1, none⟩) fun v21 =>
    asSL v21 fun l22 =>
    some (.tuple #[l22.v, .int .i64 0], H20)) := (opq_app _ _ _).trans <| by kernel_rfl
theorem cmd_Parse_p1110001011_eq (d : Nat) (m0 : Nat) (x4 : Nat) (x5 : Bool) (H : Heap) : cmd_Parse_p1110001011 d m0 x4 x5 H =
  if (!x5) = true then
  (cmd_Parse_p111000101101 d m0 x4 true H)
  else
  (optK (Heap.ld1 H ⟨x4, 0, none⟩) fun v1 =>
    asS v1 fun s2 =>
    if (!sEq s2 (S [])) = true then
    (optK (Heap.ld1 H ⟨x4, 0, none⟩) fun v3 =>
      asS v3 fun s4 =>
      if 0 ≤ (0 : Int) ∧ (0 : Int) < (slen s4 : Int) then
      if (!decide (bt s4 0 = 32)) = true then
      (optK (Heap.ld1 H ⟨x4, 0, none⟩) fun v5 =>
        asS v5 fun s6 =>
        if 0 ≤ (0 : Int) ∧ (0 : Int) < (slen s6 : Int) then
        cmd_Parse_p111000101101 d m0 x4 (!decide (bt s6 0 = 59)) H
        else none)
      else
      (cmd_Parse_p111000101101 d m0 x4 false H)
      else none)
    else
    (cmd_Parse_p111000101101 d m0 x4 false H)) := (opq_app _ _ _).trans <| by kernel_rfl
theorem cmd_Parse_p111000101101_eq (d : Nat) (m0 : Nat) (x4 : Nat) (x74 : Bool) (H : Heap) : cmd_Parse_p111000101101 d m0 x4 x74 H =
  if x74 = true then
  (some (.tuple #[.slice none 0 0, .int .i64 5], H))
  else
  (cmd_Parse_p11100 d m0 x4 H) := (opq_app _ _ _).trans <| by kernel_rfl
theorem cmd_Parse_eq (d : Nat) (x0 : ByteArray) (H : Heap) : X (d + 1) n_cmd_Parse [.string x0] H =
  if (decide ((400 : Int) < (slen x0 : Int))) = true then
  (some (.tuple #[.slice none 0 0, .int .i64 6], H))
  else
  (newK H (.cells [.string x0, .slice none 0 0, .slice none 0 0] t_cmd_reader false 0 false) fun p1 H2 =>
    cmd_Parse_p11100 d NN p1 H2) := by kernel_rfl
end Go.Proofs.Ytnpmlgibjhjiiaa.dec

namespace Go.Proofs.Ytnpmlgibjhjiiaa.dec
open Go Go.Cm
/-! porthole/portholeref22.Parse -/
noncomputable def ref22_Parse_k11111 (d : Nat) : Kt := run (X d) NN (cd 9 [1, 1, 1, 1, 1]) (retK (rs 9)) [] (retK (rs 9))
noncomputable def ref22_Parse_l1111010 (d : Nat) (m0 : Nat) : Kt := iter (fun k => run (X d) NN (cd 9 [1, 1, 1, 1, 0, 1, 0, 0]) (backK [(0, .str), (4, .sl), (5, .sl), (6, .int .i64)] (opq k)) [(0, (ref22_Parse_k11111 d))] (retK (rs 9))) m0
noncomputable def ref22_Parse_k111101001010111110111 (d : Nat) (m0 : Nat) : Kt := run (X d) NN (cd 9 [1, 1, 1, 1, 0, 1, 0, 0, 1, 0, 1, 0, 1, 1, 1, 1, 1, 0, 1, 1, 1]) (backK [(0, .str), (4, .sl), (5, .sl), (6, .int .i64)] (opq (ref22_Parse_l1111010 d m0))) [(2, (backK [(0, .str), (4, .sl), (5, .sl), (6, .int .i64)] (opq (ref22_Parse_l1111010 d m0)))), (1, (backK [(0, .str), (4, .sl), (5, .sl), (6, .int .i64)] (opq (ref22_Parse_l1111010 d m0)))), (0, (ref22_Parse_k11111 d))] (retK (rs 9))
noncomputable def ref22_Parse_k111101001010111110111111 (d : Nat) (m0 : Nat) : Kt := run (X d) NN (cd 9 [1, 1, 1, 1, 0, 1, 0, 0, 1, 0, 1, 0, 1, 1, 1, 1, 1, 0, 1, 1, 1, 1, 1, 1]) (backK [(0, .str), (4, .sl), (5, .sl), (6, .int .i64)] (opq (ref22_Parse_l1111010 d m0))) [(2, (backK [(0, .str), (4, .sl), (5, .sl), (6, .int .i64)] (opq (ref22_Parse_l1111010 d m0)))), (1, (backK [(0, .str), (4, .sl), (5, .sl), (6, .int .i64)] (opq (ref22_Parse_l1111010 d m0)))), (0, (ref22_Parse_k11111 d))] (retK (rs 9))
noncomputable def ref22_Parse_l1111010010101111101100 (d : Nat) (m0 : Nat) (m1 : Nat) : Kt := iter (fun k => run (X d) NN (cd 9 [1, 1, 1, 1, 0, 1, 0, 0, 1, 0, 1, 0, 1, 1, 1, 1, 1, 0, 1, 1, 0, 0, 0]) (backK [(0, .str), (4, .sl), (5, .sl), (6, .int .i64), (8, .str)] (opq k)) [(3, (ref22_Parse_k111101001010111110111 d m0)), (2, (backK [(0, .str), (4, .sl), (5, .sl), (6, .int .i64)] (opq (ref22_Parse_l1111010 d m0)))), (1, (backK [(0, .str), (4, .sl), (5, .sl), (6, .int .i64)] (opq (ref22_Parse_l1111010 d m0)))), (0, (ref22_Parse_k11111 d))] (retK (rs 9))) m1
noncomputable def ref22_Parse_k111101001010111110110001 (d : Nat) (m0 : Nat) (m1 : Nat) : Kt := run (X d) NN (cd 9 [1, 1, 1, 1, 0, 1, 0, 0, 1, 0, 1, 0, 1, 1, 1, 1, 1, 0, 1, 1, 0, 0, 0, 1]) (backK [(0, .str), (4, .sl), (5, .sl), (6, .int .i64), (8, .str)] (opq (ref22_Parse_l1111010010101111101100 d m0 m1))) [(3, (ref22_Parse_k111101001010111110111 d m0)), (2, (backK [(0, .str), (4, .sl), (5, .sl), (6, .int .i64)] (opq (ref22_Parse_l1111010 d m0)))), (1, (backK [(0, .str), (4, .sl), (5, .sl), (6, .int .i64)] (opq (ref22_Parse_l1111010 d m0)))), (0, (ref22_Parse_k11111 d))] (retK (rs 9))
noncomputable def ref22_Parse_k11110100101011111011000101 (d : Nat) (m0 : Nat) (m1 : Nat) : Kt := run (X d) NN (cd 9 [1, 1, 1, 1, 0, 1, 0, 0, 1, 0, 1, 0, 1, 1, 1, 1, 1, 0, 1, 1, 0, 0, 0, 1, 0, 1]) (backK [(0, .str), (4, .sl), (5, .sl), (6, .int .i64), (8, .str)] (opq (ref22_Parse_l1111010010101111101100 d m0 m1))) [(4, (backK [(0, .str), (4, .sl), (5, .sl), (6, .int .i64), (8, .str)] (opq (ref22_Parse_l1111010010101111101100 d m0 m1)))), (3, (ref22_Parse_k111101001010111110111 d m0)), (2, (backK [(0, .str), (4, .sl), (5, .sl), (6, .int .i64)] (opq (ref22_Parse_l1111010 d m0)))), (1, (backK [(0, .str), (4, .sl), (5, .sl), (6, .int .i64)] (opq (ref22_Parse_l1111010 d m0)))), (0, (ref22_Parse_k11111 d))] (retK (rs 9))
noncomputable def ref22_Parse_k1111010010101111101100010101 (d : Nat) (m0 : Nat) (m1 : Nat) : Kt := run (X d) NN (cd 9 [1, 1, 1, 1, 0, 1, 0, 0, 1, 0, 1, 0, 1, 1, 1, 1, 1, 0, 1, 1, 0, 0, 0, 1, 0, 1, 0, 1]) (backK [(0, .str), (4, .sl), (5, .sl), (6, .int .i64), (8, .str)] (opq (ref22_Parse_l1111010010101111101100 d m0 m1))) [(4, (backK [(0, .str), (4, .sl), (5, .sl), (6, .int .i64), (8, .str)] (opq (ref22_Parse_l1111010010101111101100 d m0 m1)))), (3, (ref22_Parse_k111101001010111110111 d m0)), (2, (backK [(0, .str), (4, .sl), (5, .sl), (6, .int .i64)] (opq (ref22_Parse_l1111010 d m0)))), (1, (backK [(0, .str), (4, .sl), (5, .sl), (6, .int .i64)] (opq (ref22_Parse_l1111010 d m0)))), (0, (ref22_Parse_k11111 d))] (retK (rs 9))
noncomputable def ref22_Parse_k1111010010101111111011 (d : Nat) (m0 : Nat) : Kt := run (X d) NN (cd 9 [1, 1, 1, 1, 0, 1, 0, 0, 1, 0, 1, 0, 1, 1, 1, 1, 1, 1, 1, 0, 1, 1]) (backK [(0, .str), (4, .sl), (5, .sl), (6, .int .i64)] (opq (ref22_Parse_l1111010 d m0))) [(2, (backK [(0, .str), (4, .sl), (5, .sl), (6, .int .i64)] (opq (ref22_Parse_l1111010 d m0)))), (1, (backK [(0, .str), (4, .sl), (5, .sl), (6, .int .i64)] (opq (ref22_Parse_l1111010 d m0)))), (0, (ref22_Parse_k11111 d))] (retK (rs 9))
noncomputable def ref22_Parse_k11110100101011111110111 (d : Nat) (m0 : Nat) : Kt := run (X d) NN (cd 9 [1, 1, 1, 1, 0, 1, 0, 0, 1, 0, 1, 0, 1, 1, 1, 1, 1, 1, 1, 0, 1, 1, 1]) (backK [(0, .str), (4, .sl), (5, .sl), (6, .int .i64)] (opq (ref22_Parse_l1111010 d m0))) [(2, (backK [(0, .str), (4, .sl), (5, .sl), (6, .int .i64)] (opq (ref22_Parse_l1111010 d m0)))), (1, (backK [(0, .str), (4, .sl), (5, .sl), (6, .int .i64)] (opq (ref22_Parse_l1111010 d m0)))), (0, (ref22_Parse_k11111 d))] (retK (rs 9))
noncomputable def ref22_Parse_l11110100101011111110100 (d : Nat) (m0 : Nat) (m1 : Nat) : Kt := iter (fun k => run (X d) NN (cd 9 [1, 1, 1, 1, 0, 1, 0, 0, 1, 0, 1, 0, 1, 1, 1, 1, 1, 1, 1, 0, 1, 0, 0, 0]) (backK [(0, .str), (4, .sl), (5, .sl), (6, .int .i64), (9, .int .i64)] (opq k)) [(5, (ref22_Parse_k1111010010101111111011 d m0)), (2, (backK [(0, .str), (4, .sl), (5, .sl), (6, .int .i64)] (opq (ref22_Parse_l1111010 d m0)))), (1, (backK [(0, .str), (4, .sl), (5, .sl), (6, .int .i64)] (opq (ref22_Parse_l1111010 d m0)))), (0, (ref22_Parse_k11111 d))] (retK (rs 9))) m1
noncomputable def ref22_Parse_k1111010010101111111010001 (d : Nat) (m0 : Nat) (m1 : Nat) : Kt := run (X d) NN (cd 9 [1, 1, 1, 1, 0, 1, 0, 0, 1, 0, 1, 0, 1, 1, 1, 1, 1, 1, 1, 0, 1, 0, 0, 0, 1]) (backK [(0, .str), (4, .sl), (5, .sl), (6, .int .i64), (9, .int .i64)] (opq (ref22_Parse_l11110100101011111110100 d m0 m1))) [(5, (ref22_Parse_k1111010010101111111011 d m0)), (2, (backK [(0, .str), (4, .sl), (5, .sl), (6, .int .i64)] (opq (ref22_Parse_l1111010 d m0)))), (1, (backK [(0, .str), (4, .sl), (5, .sl), (6, .int .i64)] (opq (ref22_Parse_l1111010 d m0)))), (0, (ref22_Parse_k11111 d))] (retK (rs 9))
noncomputable def ref22_Parse_p1111010 (d : Nat) (m0 : Nat) (x0 : ByteArray) (x4 : Sl) (x5 : Sl) (x6 : Int) (H : Heap) : Res := opq (ref22_Parse_l1111010 d m0) [(0, .string x0), (4, x4.v), (5, x5.v), (6, .int .i64 x6)] H
noncomputable def ref22_Parse_p1111010010101111101100 (d : Nat) (m0 : Nat) (m1 : Nat) (x0 : ByteArray) (x4 : Sl) (x5 : Sl) (x6 : Int) (x8 : ByteArray) (H : Heap) : Res := opq (ref22_Parse_l1111010010101111101100 d m0 m1) [(0, .string x0), (4, x4.v), (5, x5.v), (6, .int .i64 x6), (8, .string x8)] H
noncomputable def ref22_Parse_p11110100101011111110100 (d : Nat) (m0 : Nat) (m1 : Nat) (x0 : ByteArray) (x4 : Sl) (x5 : Sl) (x6 : Int) (x9 : Int) (H : Heap) : Res := opq (ref22_Parse_l11110100101011111110100 d m0 m1) [(0, .string x0), (4, x4.v), (5, x5.v), (6, .int .i64 x6), (9, .int .i64 x9)] H
noncomputable def ref22_Parse_p1111010010101111101100001 (d : Nat) (m0 : Nat) (m1 : Nat) (x0 : ByteArray) (x4 : Sl) (x5 : Sl) (x6 : Int) (x8 : ByteArray) (x47 : Bool) (H : Heap) : Res := opq (run (X d) NN (cd 9 [1, 1, 1, 1, 0, 1, 0, 0, 1, 0, 1, 0, 1, 1, 1, 1, 1, 0, 1, 1, 0, 0, 0, 0, 1, 0]) (ref22_Parse_k111101001010111110110001 d m0 m1) [(3, (ref22_Parse_k111101001010111110111 d m0)), (2, (backK [(0, .str), (4, .sl), (5, .sl), (6, .int .i64)] (opq (ref22_Parse_l1111010 d m0)))), (1, (backK [(0, .str), (4, .sl), (5, .sl), (6, .int .i64)] (opq (ref22_Parse_l1111010 d m0)))), (0, (ref22_Parse_k11111 d))] (retK (rs 9))) [(0, .string x0), (4, x4.v), (5, x5.v), (6, .int .i64 x6), (8, .string x8), (47, .bool x47)] H
noncomputable def ref22_Parse_p11110100101011111110100001 (d : Nat) (m0 : Nat) (m1 : Nat) (x0 : ByteArray) (x4 : Sl) (x5 : Sl) (x6 : Int) (x9 : Int) (x128 : Bool) (H : Heap) : Res := opq (run (X d) NN (cd 9 [1, 1, 1, 1, 0, 1, 0, 0, 1, 0, 1, 0, 1, 1, 1, 1, 1, 1, 1, 0, 1, 0, 0, 0, 0, 1, 0]) (ref22_Parse_k1111010010101111111010001 d m0 m1) [(5, (ref22_Parse_k1111010010101111111011 d m0)), (2, (backK [(0, .str), (4, .sl), (5, .sl), (6, .int .i64)] (opq (ref22_Parse_l1111010 d m0)))), (1, (backK [(0, .str), (4, .sl), (5, .sl), (6, .int .i64)] (opq (ref22_Parse_l1111010 d m0)))), (0, (ref22_Parse_k11111 d))] (retK (rs 9))) [(0, .string x0), (4, x4.v), (5, x5.v), (6, .int .i64 x6), (9, .int .i64 x9), (128, .bool x128)] H
noncomputable def ref22_Parse_p111101001010111110110001001011 (d : Nat) (m0 : Nat) (m1 : Nat) (x0 : ByteArray) (x4 : Sl) (x5 : Sl) (x6 : Int) (x8 : ByteArray) (x69 : Bool) (H : Heap) : Res := opq (run (X d) NN (cd 9 [1, 1, 1, 1, 0, 1, 0, 0, 1, 0, 1, 0, 1, 1, 1, 1, 1, 0, 1, 1, 0, 0, 0, 1, 0, 0, 1, 0, 1, 1, 0]) (ref22_Parse_k11110100101011111011000101 d m0 m1) [(4, (backK [(0, .str), (4, .sl), (5, .sl), (6, .int .i64), (8, .str)] (opq (ref22_Parse_l1111010010101111101100 d m0 m1)))), (3, (ref22_Parse_k111101001010111110111 d m0)), (2, (backK [(0, .str), (4, .sl), (5, .sl), (6, .int .i64)] (opq (ref22_Parse_l1111010 d m0)))), (1, (backK [(0, .str), (4, .sl), (5, .sl), (6, .int .i64)] (opq (ref22_Parse_l1111010 d m0)))), (0, (ref22_Parse_k11111 d))] (retK (rs 9))) [(0, .string x0), (4, x4.v), (5, x5.v), (6, .int .i64 x6), (8, .string x8), (69, .bool x69)] H
noncomputable def ref22_Parse_p11110100101011111011000101 (d : Nat) (m0 : Nat) (m1 : Nat) (x0 : ByteArray) (x4 : Sl) (x5 : Sl) (x6 : Int) (x8 : ByteArray) (H : Heap) : Res := opq (run (X d) NN (cd 9 [1, 1, 1, 1, 0, 1, 0, 0, 1, 0, 1, 0, 1, 1, 1, 1, 1, 0, 1, 1, 0, 0, 0, 1, 0, 1, 0]) (backK [(0, .str), (4, .sl), (5, .sl), (6, .int .i64), (8, .str)] (opq (ref22_Parse_l1111010010101111101100 d m0 m1))) [(4, (backK [(0, .str), (4, .sl), (5, .sl), (6, .int .i64), (8, .str)] (opq (ref22_Parse_l1111010010101111101100 d m0 m1)))), (3, (ref22_Parse_k111101001010111110111 d m0)), (2, (backK [(0, .str), (4, .sl), (5, .sl), (6, .int .i64)] (opq (ref22_Parse_l1111010 d m0)))), (1, (backK [(0, .str), (4, .sl), (5, .sl), (6, .int .i64)] (opq (ref22_Parse_l1111010 d m0)))), (0, (ref22_Parse_k11111 d))] (retK (rs 9))) [(0, .string x0), (4, x4.v), (5, x5.v), (6, .int .i64 x6), (8, .string x8)] H
noncomputable def ref22_Parse_p1111010010101111101111101 (d : Nat) (m0 : Nat) (x0 : ByteArray) (x4 : Sl) (x5 : Sl) (x6 : Int) (x8 : ByteArray) (x110 : Bool) (H : Heap) : Res := opq (run (X d) NN (cd 9 [1, 1, 1, 1, 0, 1, 0, 0, 1, 0, 1, 0, 1, 1, 1, 1, 1, 0, 1, 1, 1, 1, 1, 0, 1, 0]) (ref22_Parse_k111101001010111110111111 d m0) [(2, (backK [(0, .str), (4, .sl), (5, .sl), (6, .int .i64)] (opq (ref22_Parse_l1111010 d m0)))), (1, (backK [(0, .str), (4, .sl), (5, .sl), (6, .int .i64)] (opq (ref22_Parse_l1111010 d m0)))), (0, (ref22_Parse_k11111 d))] (retK (rs 9))) [(0, .string x0), (4, x4.v), (5, x5.v), (6, .int .i64 x6), (8, .string x8), (110, .bool x110)] H
noncomputable def ref22_Parse_p111101001010111111101101 (d : Nat) (m0 : Nat) (x0 : ByteArray) (x4 : Sl) (x5 : Sl) (x6 : Int) (x9 : Int) (x146 : Bool) (H : Heap) : Res := opq (run (X d) NN (cd 9 [1, 1, 1, 1, 0, 1, 0, 0, 1, 0, 1, 0, 1, 1, 1, 1, 1, 1, 1, 0, 1, 1, 0, 1, 0]) (ref22_Parse_k11110100101011111110111 d m0) [(2, (backK [(0, .str), (4, .sl), (5, .sl), (6, .int .i64)] (opq (ref22_Parse_l1111010 d m0)))), (1, (backK [(0, .str), (4, .sl), (5, .sl), (6, .int .i64)] (opq (ref22_Parse_l1111010 d m0)))), (0, (ref22_Parse_k11111 d))] (retK (rs 9))) [(0, .string x0), (4, x4.v), (5, x5.v), (6, .int .i64 x6), (9, .int .i64 x9), (146, .bool x146)] H
noncomputable def ref22_Parse_p11110100101011111011000101001 (d : Nat) (m0 : Nat) (m1 : Nat) (x0 : ByteArray) (x4 : Sl) (x5 : Sl) (x6 : Int) (x8 : ByteArray) (x79 : Bool) (H : Heap) : Res := opq (run (X d) NN (cd 9 [1, 1, 1, 1, 0, 1, 0, 0, 1, 0, 1, 0, 1, 1, 1, 1, 1, 0, 1, 1, 0, 0, 0, 1, 0, 1, 0, 0, 1, 0]) (ref22_Parse_k1111010010101111101100010101 d m0 m1) [(4, (backK [(0, .str), (4, .sl), (5, .sl), (6, .int .i64), (8, .str)] (opq (ref22_Parse_l1111010010101111101100 d m0 m1)))), (3, (ref22_Parse_k111101001010111110111 d m0)), (2, (backK [(0, .str), (4, .sl), (5, .sl), (6, .int .i64)] (opq (ref22_Parse_l1111010 d m0)))), (1, (backK [(0, .str), (4, .sl), (5, .sl), (6, .int .i64)] (opq (ref22_Parse_l1111010 d m0)))), (0, (ref22_Parse_k11111 d))] (retK (rs 9))) [(0, .string x0), (4, x4.v), (5, x5.v), (6, .int .i64 x6), (8, .string x8), (79, .bool x79)] H
theorem ref22_Parse_p1111010_s (d : Nat) (m0 : Nat) (x0 : ByteArray) (x4 : Sl) (x5 : Sl) (x6 : Int) (H : Heap) : ref22_Parse_p1111010 d (m0 + 1) x0 x4 x5 x6 H =
  if (decide (x6 < (slen x0 : Int))) = true then
  (if 0 ≤ x6 ∧ x6 < (slen x0 : Int) then
    if (decide (bt x0 ((x6).toNat) = 32)) = true then
    (ref22_Parse_p1111010 d m0 x0 x4 x5 (IntKind.wrap .i64 (x6 + 1)) H)
    else
    (if (decide (bt x0 ((x6).toNat) = 59)) = true then
      (callK (X d n_ref22_flushed [x4.v, x5.v] H) fun v1 H2 =>
        asSL v1 fun l3 =>
        ref22_Parse_p1111010 d m0 x0 l3 Sl.nil (IntKind.wrap .i64 (x6 + 1)) H2)
      else
      (if (decide (bt x0 ((x6).toNat) = 34)) = true then
        (ref22_Parse_p1111010010101111101100 d m0 NN x0 x4 x5 (IntKind.wrap .i64 (x6 + 1)) (S []) H)
        else
        (callK (X d n_ref22_bare [.int .u8 (bt x0 ((x6).toNat))] H) fun v4 H5 =>
          asB v4 fun b6 =>
          if b6 = true then
          (ref22_Parse_p11110100101011111110100 d m0 NN x0 x4 x5 x6 x6 H5)
          else
          (some (.tuple #[.slice none 0 0, .int .i64 5], H5)))))
    else none)
  else
  (callK (X d n_ref22_flushed [x4.v, x5.v] H) fun v7 H8 =>
    asSL v7 fun l9 =>
    some (.tuple #[l9.v, .int .i64 0], H8)) := (opq_app _ _ _).trans <| by kernel_rfl
theorem ref22_Parse_p1111010010101111101100_s (d : Nat) (m0 : Nat) (m1 : Nat) (x0 : ByteArray) (x4 : Sl) (x5 : Sl) (x6 : Int) (x8 : ByteArray) (H : Heap) : ref22_Parse_p1111010010101111101100 d m0 (m1 + 1) x0 x4 x5 x6 x8 H =
  if (decide (x6 < (slen x0 : Int))) = true then
  (if 0 ≤ x6 ∧ x6 < (slen x0 : Int) then
    ref22_Parse_p1111010010101111101100001 d m0 m1 x0 x4 x5 x6 x8 (!decide (bt x0 ((x6).toNat) = 34)) H
    else none)
  else
  (ref22_Parse_p1111010010101111101100001 d m0 m1 x0 x4 x5 x6 x8 false H) := (opq_app _ _ _).trans <| by kernel_rfl
theorem ref22_Parse_p11110100101011111110100_s (d : Nat) (m0 : Nat) (m1 : Nat) (x0 : ByteArray) (x4 : Sl) (x5 : Sl) (x6 : Int) (x9 : Int) (H : Heap) : ref22_Parse_p11110100101011111110100 d m0 (m1 + 1) x0 x4 x5 x6 x9 H =
  if (decide (x6 < (slen x0 : Int))) = true then
  (if 0 ≤ x6 ∧ x6 < (slen x0 : Int) then
    callK (X d n_ref22_bare [.int .u8 (bt x0 ((x6).toNat))] H) fun v1 H2 =>
    asB v1 fun b3 =>
    ref22_Parse_p11110100101011111110100001 d m0 m1 x0 x4 x5 x6 x9 b3 H2
    else none)
  else
  (ref22_Parse_p11110100101011111110100001 d m0 m1 x0 x4 x5 x6 x9 false H) := (opq_app _ _ _).trans <| by kernel_rfl
theorem ref22_Parse_p1111010010101111101100001_eq (d : Nat) (m0 : Nat) (m1 : Nat) (x0 : ByteArray) (x4 : Sl) (x5 : Sl) (x6 : Int) (x8 : ByteArray) (x47 : Bool) (H : Heap) : ref22_Parse_p1111010010101111101100001 d m0 m1 x0 x4 x5 x6 x8 x47 H =
  if x47 = true then
  (if 0 ≤ x6 ∧ x6 < (slen x0 : Int) then
    if (decide (bt x0 ((x6).toNat) = 92)) = true then
    (if (decide ((slen x0 : Int) ≤ IntKind.wrap .i64 (x6 + 1))) = true then
      (ref22_Parse_p111101001010111110110001001011 d m0 m1 x0 x4 x5 (IntKind.wrap .i64 (x6 + 1)) x8 true H)
      else
      (if 0 ≤ IntKind.wrap .i64 (x6 + 1) ∧ IntKind.wrap .i64 (x6 + 1) < (slen x0 : Int) then
        if (!decide (bt x0 ((IntKind.wrap .i64 (x6 + 1)).toNat) = 34)) = true then
        (if 0 ≤ IntKind.wrap .i64 (x6 + 1) ∧ IntKind.wrap .i64 (x6 + 1) < (slen x0 : Int) then
          ref22_Parse_p111101001010111110110001001011 d m0 m1 x0 x4 x5 (IntKind.wrap .i64 (x6 + 1)) x8 (!decide (bt x0 ((IntKind.wrap .i64 (x6 + 1)).toNat) = 92)) H
          else none)
        else
        (ref22_Parse_p111101001010111110110001001011 d m0 m1 x0 x4 x5 (IntKind.wrap .i64 (x6 + 1)) x8 false H)
        else none))
    else
    (ref22_Parse_p11110100101011111011000101 d m0 m1 x0 x4 x5 x6 x8 H)
    else none)
  else
  (if (decide ((slen x0 : Int) ≤ x6)) = true then
    (some (.tuple #[.slice none 0 0, .int .i64 5], H))
    else
    (if (decide (IntKind.wrap .i64 (x6 + 1) < (slen x0 : Int))) = true then
      (if 0 ≤ IntKind.wrap .i64 (x6 + 1) ∧ IntKind.wrap .i64 (x6 + 1) < (slen x0 : Int) then
        if (!decide (bt x0 ((IntKind.wrap .i64 (x6 + 1)).toNat) = 32)) = true then
        (if 0 ≤ IntKind.wrap .i64 (x6 + 1) ∧ IntKind.wrap .i64 (x6 + 1) < (slen x0 : Int) then
          ref22_Parse_p1111010010101111101111101 d m0 x0 x4 x5 (IntKind.wrap .i64 (x6 + 1)) x8 (!decide (bt x0 ((IntKind.wrap .i64 (x6 + 1)).toNat) = 59)) H
          else none)
        else
        (ref22_Parse_p1111010010101111101111101 d m0 x0 x4 x5 (IntKind.wrap .i64 (x6 + 1)) x8 false H)
        else none)
      else
      (ref22_Parse_p1111010010101111101111101 d m0 x0 x4 x5 (IntKind.wrap .i64 (x6 + 1)) x8 false H))) := (opq_app _ _ _).trans <| by kernel_rfl
theorem ref22_Parse_p11110100101011111110100001_eq (d : Nat) (m0 : Nat) (m1 : Nat) (x0 : ByteArray) (x4 : Sl) (x5 : Sl) (x6 : Int) (x9 : Int) (x128 : Bool) (H : Heap) : ref22_Parse_p11110100101011111110100001 d m0 m1 x0 x4 x5 x6 x9 x128 H =
  if x128 = true then
  (ref22_Parse_p11110100101011111110100 d m0 m1 x0 x4 x5 (IntKind.wrap .i64 (x6 + 1)) x9 H)
  else
  (if (decide (x6 < (slen x0 : Int))) = true then
    (if 0 ≤ x6 ∧ x6 < (slen x0 : Int) then
      if (!decide (bt x0 ((x6).toNat) = 32)) = true then
      (if 0 ≤ x6 ∧ x6 < (slen x0 : Int) then
        ref22_Parse_p111101001010111111101101 d m0 x0 x4 x5 x6 x9 (!decide (bt x0 ((x6).toNat) = 59)) H
        else none)
      else
      (ref22_Parse_p111101001010111111101101 d m0 x0 x4 x5 x6 x9 false H)
      else none)
    else
    (ref22_Parse_p111101001010111111101101 d m0 x0 x4 x5 x6 x9 false H)) := (opq_app _ _ _).trans <| by kernel_rfl
theorem ref22_Parse_p111101001010111110110001001011_eq (d : Nat) (m0 : Nat) (m1 : Nat) (x0 : ByteArray) (x4 : Sl) (x5 : Sl) (x6 : Int) (x8 : ByteArray) (x69 : Bool) (H : Heap) : ref22_Parse_p111101001010111110110001001011 d m0 m1 x0 x4 x5 x6 x8 x69 H =
  if x69 = true then
  (some (.tuple #[.slice none 0 0, .int .i64 5], H))
  else
  (ref22_Parse_p11110100101011111011000101 d m0 m1 x0 x4 x5 x6 x8 H) := (opq_app _ _ _).trans <| by kernel_rfl
theorem ref22_Parse_p11110100101011111011000101_eq (d : Nat) (m0 : Nat) (m1 : Nat) (x0 : ByteArray) (x4 : Sl) (x5 : Sl) (x6 : Int) (x8 : ByteArray) (H : Heap) : ref22_Parse_p11110100101011111011000101 d m0 m1 x0 x4 x5 x6 x8 H =
  if 0 ≤ x6 ∧ x6 < (slen x0 : Int) then
  if (decide (bt x0 ((x6).toNat) < 32)) = true then
  (ref22_Parse_p11110100101011111011000101001 d m0 m1 x0 x4 x5 x6 x8 true H)
  else
  (if 0 ≤ x6 ∧ x6 < (slen x0 : Int) then
    ref22_Parse_p11110100101011111011000101001 d m0 m1 x0 x4 x5 x6 x8 (decide ((126 : Int) < bt x0 ((x6).toNat))) H
    else none)
  else none := (opq_app _ _ _).trans <| by kernel_rfl
theorem ref22_Parse_p1111010010101111101111101_eq (d : Nat) (m0 : Nat) (x0 : ByteArray) (x4 : Sl) (x5 : Sl) (x6 : Int) (x8 : ByteArray) (x110 : Bool) (H : Heap) : ref22_Parse_p1111010010101111101111101 d m0 x0 x4 x5 x6 x8 x110 H =
  if x110 = true then
  (some (.tuple #[.slice none 0 0, .int .i64 5], H))
  else
  (newK H (.cells [.string x8] t_string false 0 false) fun p1 H2 =>
    appendK t_string 1 16 false x5.v (.slice (some ⟨p1, 0, none⟩) 1 1) H2 fun v3 H4 =>
    asSL v3 fun l5 =>
    ref22_Parse_p1111010 d m0 x0 x4 l5 x6 H4) := (opq_app _ _ _).trans <| by kernel_rfl
theorem ref22_Parse_p111101001010111111101101_eq (d : Nat) (m0 : Nat) (x0 : ByteArray) (x4 : Sl) (x5 : Sl) (x6 : Int) (x9 : Int) (x146 : Bool) (H : Heap) : ref22_Parse_p111101001010111111101101 d m0 x0 x4 x5 x6 x9 x146 H =
  if x146 = true then
  (some (.tuple #[.slice none 0 0, .int .i64 5], H))
  else
  (if 0 ≤ x9 ∧ x9 ≤ x6 ∧ x6 ≤ (slen x0 : Int) then
    newK H (.cells [.string (sSub x0 ((x9).toNat) ((x6).toNat))] t_string false 0 false) fun p1 H2 =>
    appendK t_string 1 16 false x5.v (.slice (some ⟨p1, 0, none⟩) 1 1) H2 fun v3 H4 =>
    asSL v3 fun l5 =>
    ref22_Parse_p1111010 d m0 x0 x4 l5 x6 H4
    else none) := (opq_app _ _ _).trans <| by kernel_rfl
theorem ref22_Parse_p11110100101011111011000101001_eq (d : Nat) (m0 : Nat) (m1 : Nat) (x0 : ByteArray) (x4 : Sl) (x5 : Sl) (x6 : Int) (x8 : ByteArray) (x79 : Bool) (H : Heap) : ref22_Parse_p11110100101011111011000101001 d m0 m1 x0 x4 x5 x6 x8 x79 H =
  if x79 = true then
  (some (.tuple #[.slice none 0 0, .int .i64 5], H))
  else
  (if 0 ≤ x6 ∧ x6 ≤ IntKind.wrap .i64 (x6 + 1) ∧ IntKind.wrap .i64 (x6 + 1) ≤ (slen x0 : Int) then
    if slen x8 + slen (sSub x0 ((x6).toNat) ((IntKind.wrap .i64 (x6 + 1)).toNat)) ≤ 9223372036854775807 then
    ref22_Parse_p1111010010101111101100 d m0 m1 x0 x4 x5 (IntKind.wrap .i64 (x6 + 1)) (sCat x8 (sSub x0 ((x6).toNat) ((IntKind.wrap .i64 (x6 + 1)).toNat))) H
    else none
    else none) := (opq_app _ _ _).trans <| by kernel_rfl
theorem ref22_Parse_eq (d : Nat) (x0 : ByteArray) (H : Heap) : X (d + 1) n_ref22_Parse [.string x0] H =
  if (decide ((400 : Int) < (slen x0 : Int))) = true then
  (some (.tuple #[.slice none 0 0, .int .i64 6], H))
  else
  (ref22_Parse_p1111010 d NN x0 Sl.nil Sl.nil 0 H) := by kernel_rfl
end Go.Proofs.Ytnpmlgibjhjiiaa.dec

namespace Go.Proofs.Ytnpmlgibjhjiiaa.dec
open Go Go.Cm
/-! porthole/portholelaw24.same -/
noncomputable def law24_same_k111 (d : Nat) : Kt := run (X d) NN (cd 11 [1, 1, 1]) (retK (rs 11)) [] (retK (rs 11))
noncomputable def law24_same_l11010 (d : Nat) (m0 : Nat) : Kt := iter (fun k => run (X d) NN (cd 11 [1, 1, 0, 1, 0, 0]) (backK [(0, .sl), (1, .sl), (5, .int .i64)] (opq k)) [(0, (law24_same_k111 d))] (retK (rs 11))) m0
noncomputable def law24_same_k11010011 (d : Nat) (m0 : Nat) : Kt := run (X d) NN (cd 11 [1, 1, 0, 1, 0, 0, 1, 1]) (backK [(0, .sl), (1, .sl), (5, .int .i64)] (opq (law24_same_l11010 d m0))) [(0, (law24_same_k111 d))] (retK (rs 11))
noncomputable def law24_same_k1101001001 (d : Nat) (m0 : Nat) : Kt := run (X d) NN (cd 11 [1, 1, 0, 1, 0, 0, 1, 0, 0, 1]) (law24_same_k11010011 d m0) [(1, (law24_same_k11010011 d m0)), (0, (law24_same_k111 d))] (retK (rs 11))
noncomputable def law24_same_l110100100110 (d : Nat) (m0 : Nat) (m1 : Nat) : Kt := iter (fun k => run (X d) NN (cd 11 [1, 1, 0, 1, 0, 0, 1, 0, 0, 1, 1, 0, 0]) (backK [(0, .sl), (1, .sl), (5, .int .i64), (6, .int .i64)] (opq k)) [(2, (law24_same_k11010011 d m0)), (1, (law24_same_k11010011 d m0)), (0, (law24_same_k111 d))] (retK (rs 11))) m1
noncomputable def law24_same_p11010 (d : Nat) (m0 : Nat) (x0 : Sl) (x1 : Sl) (x5 : Int) (H : Heap) : Res := opq (law24_same_l11010 d m0) [(0, x0.v), (1, x1.v), (5, .int .i64 x5)] H
noncomputable def law24_same_p11010010001 (d : Nat) (m0 : Nat) (x0 : Sl) (x1 : Sl) (x5 : Int) (x43 : Bool) (H : Heap) : Res := opq (run (X d) NN (cd 11 [1, 1, 0, 1, 0, 0, 1, 0, 0, 0, 1, 0]) (law24_same_k1101001001 d m0) [(1, (law24_same_k11010011 d m0)), (0, (law24_same_k111 d))] (retK (rs 11))) [(0, x0.v), (1, x1.v), (5, .int .i64 x5), (43, .bool x43)] H
noncomputable def law24_same_p110100100110 (d : Nat) (m0 : Nat) (m1 : Nat) (x0 : Sl) (x1 : Sl) (x5 : Int) (x6 : Int) (H : Heap) : Res := opq (law24_same_l110100100110 d m0 m1) [(0, x0.v), (1, x1.v), (5, .int .i64 x5), (6, .int .i64 x6)] H
theorem law24_same_p11010_s (d : Nat) (m0 : Nat) (x0 : Sl) (x1 : Sl) (x5 : Int) (H : Heap) : law24_same_p11010 d (m0 + 1) x0 x1 x5 H =
  if (decide (x5 < (x0.n : Int))) = true then
  (optK x0.a fun a1 =>
    if 0 ≤ x5 ∧ x5 < (x0.n : Int) then
    optK (Heap.ld1 H (ap (ap a1 (((x5).toNat) * 2)) 0)) fun v2 =>
    asS v2 fun s3 =>
    optK x1.a fun a4 =>
    if 0 ≤ x5 ∧ x5 < (x1.n : Int) then
    optK (Heap.ld1 H (ap (ap a4 (((x5).toNat) * 2)) 0)) fun v5 =>
    asS v5 fun s6 =>
    if (!sEq s3 s6) = true then
    (law24_same_p11010010001 d m0 x0 x1 x5 true H)
    else
    (optK x0.a fun a7 =>
      if 0 ≤ x5 ∧ x5 < (x0.n : Int) then
      optK (Heap.ld1 H (ap (ap a7 (((x5).toNat) * 2)) 1)) fun v8 =>
      asSL v8 fun l9 =>
      optK x1.a fun a10 =>
      if 0 ≤ x5 ∧ x5 < (x1.n : Int) then
      optK (Heap.ld1 H (ap (ap a10 (((x5).toNat) * 2)) 1)) fun v11 =>
      asSL v11 fun l12 =>
      law24_same_p11010010001 d m0 x0 x1 x5 (!decide ((l9.n : Int) = (l12.n : Int))) H
      else none
      else none)
    else none
    else none)
  else
  (some (.bool true, H)) := (opq_app _ _ _).trans <| by kernel_rfl
theorem law24_same_p11010010001_eq (d : Nat) (m0 : Nat) (x0 : Sl) (x1 : Sl) (x5 : Int) (x43 : Bool) (H : Heap) : law24_same_p11010010001 d m0 x0 x1 x5 x43 H =
  if x43 = true then
  (some (.bool false, H))
  else
  (law24_same_p110100100110 d m0 NN x0 x1 x5 0 H) := (opq_app _ _ _).trans <| by kernel_rfl
theorem law24_same_p110100100110_s (d : Nat) (m0 : Nat) (m1 : Nat) (x0 : Sl) (x1 : Sl) (x5 : Int) (x6 : Int) (H : Heap) : law24_same_p110100100110 d m0 (m1 + 1) x0 x1 x5 x6 H =
  optK x0.a fun a1 =>
  if 0 ≤ x5 ∧ x5 < (x0.n : Int) then
  optK (Heap.ld1 H (ap (ap a1 (((x5).toNat) * 2)) 1)) fun v2 =>
  asSL v2 fun l3 =>
  if (decide (x6 < (l3.n : Int))) = true then
  (optK x0.a fun a4 =>
    if 0 ≤ x5 ∧ x5 < (x0.n : Int) then
    optK (Heap.ld1 H (ap (ap a4 (((x5).toNat) * 2)) 1)) fun v5 =>
    asSL v5 fun l6 =>
    optK l6.a fun a7 =>
    if 0 ≤ x6 ∧ x6 < (l6.n : Int) then
    optK (Heap.ld1 H (ap a7 (((x6).toNat) * 1))) fun v8 =>
    asS v8 fun s9 =>
    optK x1.a fun a10 =>
    if 0 ≤ x5 ∧ x5 < (x1.n : Int) then
    optK (Heap.ld1 H (ap (ap a10 (((x5).toNat) * 2)) 1)) fun v11 =>
    asSL v11 fun l12 =>
    optK l12.a fun a13 =>
    if 0 ≤ x6 ∧ x6 < (l12.n : Int) then
    optK (Heap.ld1 H (ap a13 (((x6).toNat) * 1))) fun v14 =>
    asS v14 fun s15 =>
    if (!sEq s9 s15) = true then
    (some (.bool false, H))
    else
    (law24_same_p110100100110 d m0 m1 x0 x1 x5 (IntKind.wrap .i64 (x6 + 1)) H)
    else none
    else none
    else none
    else none)
  else
  (law24_same_p11010 d m0 x0 x1 (IntKind.wrap .i64 (x5 + 1)) H)
  else none := (opq_app _ _ _).trans <| by kernel_rfl
theorem law24_same_eq (d : Nat) (x0 : Sl) (x1 : Sl) (H : Heap) : X (d + 1) n_law24_same [x0.v, x1.v] H =
  if (!decide ((x0.n : Int) = (x1.n : Int))) = true then
  (some (.bool false, H))
  else
  (law24_same_p11010 d NN x0 x1 0 H) := by kernel_rfl
end Go.Proofs.Ytnpmlgibjhjiiaa.dec

namespace Go.Proofs.Ytnpmlgibjhjiiaa.dec
open Go Go.Cm
/-! porthole/portholehand.Pick -/
theorem hand_Pick_eq (d : Nat) (x0 : Int) (x1 : Int) (H : Heap) : X (d + 1) n_hand_Pick [.int .i64 x0, .int .i64 x1] H =
  if x1 = 0 then none else
  if (decide (Int.tmod x0 x1 < 0)) = true then
  (some (.int .i64 (IntKind.wrap .i64 ((Int.tmod x0 x1) + x1)), H))
  else
  (some (.int .i64 (Int.tmod x0 x1), H)) := by kernel_rfl
end Go.Proofs.Ytnpmlgibjhjiiaa.dec

namespace Go.Proofs.Ytnpmlgibjhjiiaa.dec
open Go Go.Cm
/-! (*porthole/cmd.reader).ends -/
noncomputable def cmd_reader_ends_p1 (d : Nat) (x0 : Nat) (H : Heap) : Res := opq (run (X d) NN (cd 21 [1, 0]) (retK (rs 21)) [] (retK (rs 21))) [(0, P0 x0)] H
theorem cmd_reader_ends_p1_eq (d : Nat) (x0 : Nat) (H : Heap) : cmd_reader_ends_p1 d x0 H =
  optK (Heap.st1 H ⟨x0, 2, none⟩ (.slice none 0 0)) fun H1 =>
  some (.tuple #[], H1) := (opq_app _ _ _).trans <| by kernel_rfl
theorem cmd_reader_ends_eq (d : Nat) (x0 : Nat) (H : Heap) : X (d + 1) n_cmd_reader_ends [P0 x0] H =
  optK (Heap.ld1 H ⟨x0, 2, none⟩) fun v1 =>
  asSL v1 fun l2 =>
  if (decide ((0 : Int) < (l2.n : Int))) = true then
  (optK (Heap.ld1 H ⟨x0, 1, none⟩) fun v3 =>
    asSL v3 fun l4 =>
    optK (Heap.ld1 H ⟨x0, 2, none⟩) fun v5 =>
    asSL v5 fun l6 =>
    optK l6.a fun a7 =>
    if 0 ≤ (0 : Int) ∧ (0 : Int) < (l6.n : Int) then
    optK (Heap.ld1 H (ap a7 0)) fun v8 =>
    asS v8 fun s9 =>
    newK H (.cells [] t_string false 0 false) fun p10 H11 =>
    optK (Heap.ld1 H11 ⟨x0, 2, none⟩) fun v12 =>
    asSL v12 fun l13 =>
    optK (readD (.subSl t_string 1 true false false) [l13.v, .int .i64 1] H11) fun v14 =>
    asSL v14 fun l15 =>
    appendK t_string 1 16 false (.slice (some ⟨p10, 0, none⟩) 0 0) l15.v H11 fun v16 H17 =>
    asSL v16 fun l18 =>
    newK H17 (.cells [.string s9, l18.v] t_cmd_Command false 0 false) fun p19 H20 =>
    appendK t_cmd_Command 2 40 false l4.v (.slice (some ⟨p19, 0, none⟩) 1 1) H20 fun v21 H22 =>
    asSL v21 fun l23 =>
    optK (Heap.st1 H22 ⟨x0, 1, none⟩ l23.v) fun H24 =>
    chk (rdsOk [H, H11, H17, H20, H22, H24] [⟨.subSl t_string 1 true false false, [l13.v, .int .i64 1], v14, 0, 1⟩, ⟨.load 1 false, [.pointer (some ⟨x0, 2, none⟩)], v12, 0, 1⟩, ⟨.load 1 false, [.pointer (some (ap a7 0))], v8, 0, 2⟩, ⟨.load 1 false, [.pointer (some ⟨x0, 2, none⟩)], v5, 0, 2⟩, ⟨.load 1 false, [.pointer (some ⟨x0, 1, none⟩)], v3, 0, 3⟩]) (
      cmd_reader_ends_p1 d x0 H24)
    else none)
  else
  (cmd_reader_ends_p1 d x0 H) := by kernel_rfl
end Go.Proofs.Ytnpmlgibjhjiiaa.dec

namespace Go.Proofs.Ytnpmlgibjhjiiaa.dec
open Go Go.Cm
/-! (*porthole/cmd.reader).quoted -/
noncomputable def cmd_reader_quoted_k111 (d : Nat) : Kt := run (X d) NN (cd 22 [1, 1, 1]) (retK (rs 22)) [] (retK (rs 22))
noncomputable def cmd_reader_quoted_l11010 (d : Nat) (m0 : Nat) : Kt := iter (fun k => run (X d) NN (cd 22 [1, 1, 0, 1, 0, 0]) (backK [(0, .ptr), (3, .sl), (4, .int .i64)] (opq k)) [(0, (cmd_reader_quoted_k111 d))] (retK (rs 22))) m0
noncomputable def cmd_reader_quoted_k11010011 (d : Nat) (m0 : Nat) : Kt := run (X d) NN (cd 22 [1, 1, 0, 1, 0, 0, 1, 1]) (backK [(0, .ptr), (3, .sl), (4, .int .i64)] (opq (cmd_reader_quoted_l11010 d m0))) [(0, (cmd_reader_quoted_k111 d))] (retK (rs 22))
noncomputable def cmd_reader_quoted_k11010010011 (d : Nat) (m0 : Nat) : Kt := run (X d) NN (cd 22 [1, 1, 0, 1, 0, 0, 1, 0, 0, 1, 1]) (cmd_reader_quoted_k11010011 d m0) [(1, (cmd_reader_quoted_k11010011 d m0)), (0, (cmd_reader_quoted_k111 d))] (retK (rs 22))
noncomputable def cmd_reader_quoted_k110100100100101111011 (d : Nat) (m0 : Nat) : Kt := run (X d) NN (cd 22 [1, 1, 0, 1, 0, 0, 1, 0, 0, 1, 0, 0, 1, 0, 1, 1, 1, 1, 0, 1, 1]) (cmd_reader_quoted_k11010010011 d m0) [(2, (cmd_reader_quoted_k11010010011 d m0)), (1, (cmd_reader_quoted_k11010011 d m0)), (0, (cmd_reader_quoted_k111 d))] (retK (rs 22))
noncomputable def cmd_reader_quoted_p11010 (d : Nat) (m0 : Nat) (x0 : Nat) (x3 : Sl) (x4 : Int) (H : Heap) : Res := opq (cmd_reader_quoted_l11010 d m0) [(0, P0 x0), (3, x3.v), (4, .int .i64 x4)] H
noncomputable def cmd_reader_quoted_p1101001001001 (d : Nat) (m0 : Nat) (x0 : Nat) (x3 : Sl) (x4 : Int) (x5 : Int) (x21 : Bool) (H : Heap) : Res := opq (run (X d) NN (cd 22 [1, 1, 0, 1, 0, 0, 1, 0, 0, 1, 0, 0, 1, 0]) (cmd_reader_quoted_k11010010011 d m0) [(2, (cmd_reader_quoted_k11010010011 d m0)), (1, (cmd_reader_quoted_k11010011 d m0)), (0, (cmd_reader_quoted_k111 d))] (retK (rs 22))) [(0, P0 x0), (3, x3.v), (4, .int .i64 x4), (5, .int .u8 x5), (21, .bool x21)] H
noncomputable def cmd_reader_quoted_p1101001001001011110101 (d : Nat) (m0 : Nat) (x0 : Nat) (x3 : Sl) (x4 : Int) (x81 : Bool) (H : Heap) : Res := opq (run (X d) NN (cd 22 [1, 1, 0, 1, 0, 0, 1, 0, 0, 1, 0, 0, 1, 0, 1, 1, 1, 1, 0, 1, 0, 1, 0]) (cmd_reader_quoted_k110100100100101111011 d m0) [(2, (cmd_reader_quoted_k11010010011 d m0)), (1, (cmd_reader_quoted_k11010011 d m0)), (0, (cmd_reader_quoted_k111 d))] (retK (rs 22))) [(0, P0 x0), (3, x3.v), (4, .int .i64 x4), (81, .bool x81)] H
noncomputable def cmd_reader_quoted_p11010010011 (d : Nat) (m0 : Nat) (x0 : Nat) (x3 : Sl) (x4 : Int) (x5 : Int) (H : Heap) : Res := opq (run (X d) NN (cd 22 [1, 1, 0, 1, 0, 0, 1, 0, 0, 1, 1, 0]) (cmd_reader_quoted_k11010011 d m0) [(1, (cmd_reader_quoted_k11010011 d m0)), (0, (cmd_reader_quoted_k111 d))] (retK (rs 22))) [(0, P0 x0), (3, x3.v), (4, .int .i64 x4), (5, .int .u8 x5)] H
theorem cmd_reader_quoted_p11010_s (d : Nat) (m0 : Nat) (x0 : Nat) (x3 : Sl) (x4 : Int) (H : Heap) : cmd_reader_quoted_p11010 d (m0 + 1) x0 x3 x4 H =
  optK (Heap.ld1 H ⟨x0, 0, none⟩) fun v1 =>
  asS v1 fun s2 =>
  if (decide (x4 < (slen s2 : Int))) = true then
  (optK (Heap.ld1 H ⟨x0, 0, none⟩) fun v3 =>
    asS v3 fun s4 =>
    if 0 ≤ x4 ∧ x4 < (slen s4 : Int) then
    if (decide (bt s4 ((x4).toNat) < 32)) = true then
    (cmd_reader_quoted_p1101001001001 d m0 x0 x3 x4 (bt s4 ((x4).toNat)) true H)
    else
    (cmd_reader_quoted_p1101001001001 d m0 x0 x3 x4 (bt s4 ((x4).toNat)) (decide ((126 : Int) < bt s4 ((x4).toNat))) H)
    else none)
  else
  (some (.bool false, H)) := (opq_app _ _ _).trans <| by kernel_rfl
theorem cmd_reader_quoted_p1101001001001_eq (d : Nat) (m0 : Nat) (x0 : Nat) (x3 : Sl) (x4 : Int) (x5 : Int) (x21 : Bool) (H : Heap) : cmd_reader_quoted_p1101001001001 d m0 x0 x3 x4 x5 x21 H =
  if x21 = true then
  (some (.bool false, H))
  else
  (if (decide (x5 = 34)) = true then
    (optK (Heap.ld1 H ⟨x0, 2, none⟩) fun v1 =>
      asSL v1 fun l2 =>
      optK (readD (.bytesStr) [x3.v] H) fun v3 =>
      asS v3 fun s4 =>
      newK H (.cells [.string s4] t_string false 0 false) fun p5 H6 =>
      appendK t_string 1 16 false l2.v (.slice (some ⟨p5, 0, none⟩) 1 1) H6 fun v7 H8 =>
      asSL v7 fun l9 =>
      optK (Heap.st1 H8 ⟨x0, 2, none⟩ l9.v) fun H10 =>
      chk (rdsOk [H, H6, H8, H10] [⟨.load 1 false, [.pointer (some ⟨x0, 2, none⟩)], v1, 0, 1⟩]) (
        optK (Heap.ld1 H10 ⟨x0, 0, none⟩) fun v11 =>
        asS v11 fun s12 =>
        if 0 ≤ IntKind.wrap .i64 (x4 + 1) ∧ IntKind.wrap .i64 (x4 + 1) ≤ (slen s12 : Int) then
        optK (Heap.st1 H10 ⟨x0, 0, none⟩ (.string (sSub s12 ((IntKind.wrap .i64 (x4 + 1)).toNat) (slen s12)))) fun H13 =>
        some (.bool true, H13)
        else none))
    else
    (if (decide (x5 = 92)) = true then
      (optK (Heap.ld1 H ⟨x0, 0, none⟩) fun v14 =>
        asS v14 fun s15 =>
        if (decide (IntKind.wrap .i64 (x4 + 1) = (slen s15 : Int))) = true then
        (cmd_reader_quoted_p1101001001001011110101 d m0 x0 x3 (IntKind.wrap .i64 (x4 + 1)) true H)
        else
        (optK (Heap.ld1 H ⟨x0, 0, none⟩) fun v16 =>
          asS v16 fun s17 =>
          if 0 ≤ IntKind.wrap .i64 (x4 + 1) ∧ IntKind.wrap .i64 (x4 + 1) < (slen s17 : Int) then
          if (!decide (bt s17 ((IntKind.wrap .i64 (x4 + 1)).toNat) = 34)) = true then
          (optK (Heap.ld1 H ⟨x0, 0, none⟩) fun v18 =>
            asS v18 fun s19 =>
            if 0 ≤ IntKind.wrap .i64 (x4 + 1) ∧ IntKind.wrap .i64 (x4 + 1) < (slen s19 : Int) then
            cmd_reader_quoted_p1101001001001011110101 d m0 x0 x3 (IntKind.wrap .i64 (x4 + 1)) (!decide (bt s19 ((IntKind.wrap .i64 (x4 + 1)).toNat) = 92)) H
            else none)
          else
          (cmd_reader_quoted_p1101001001001011110101 d m0 x0 x3 (IntKind.wrap .i64 (x4 + 1)) false H)
          else none))
      else
      (cmd_reader_quoted_p11010010011 d m0 x0 x3 x4 x5 H))) := (opq_app _ _ _).trans <| by kernel_rfl
theorem cmd_reader_quoted_p1101001001001011110101_eq (d : Nat) (m0 : Nat) (x0 : Nat) (x3 : Sl) (x4 : Int) (x81 : Bool) (H : Heap) : cmd_reader_quoted_p1101001001001011110101 d m0 x0 x3 x4 x81 H =
  if x81 = true then
  (some (.bool false, H))
  else
  (optK (Heap.ld1 H ⟨x0, 0, none⟩) fun v1 =>
    asS v1 fun s2 =>
    if 0 ≤ x4 ∧ x4 < (slen s2 : Int) then
    cmd_reader_quoted_p11010010011 d m0 x0 x3 x4 (bt s2 ((x4).toNat)) H
    else none) := (opq_app _ _ _).trans <| by kernel_rfl
theorem cmd_reader_quoted_p11010010011_eq (d : Nat) (m0 : Nat) (x0 : Nat) (x3 : Sl) (x4 : Int) (x5 : Int) (H : Heap) : cmd_reader_quoted_p11010010011 d m0 x0 x3 x4 x5 H =
  newK H (.cells [.int .u8 x5] t_uint8 false 0 false) fun p1 H2 =>
  appendK t_uint8 1 1 false x3.v (.slice (some ⟨p1, 0, none⟩) 1 1) H2 fun v3 H4 =>
  asSL v3 fun l5 =>
  cmd_reader_quoted_p11010 d m0 x0 l5 (IntKind.wrap .i64 (x4 + 1)) H4 := (opq_app _ _ _).trans <| by kernel_rfl
theorem cmd_reader_quoted_eq (d : Nat) (x0 : Nat) (H : Heap) : X (d + 1) n_cmd_reader_quoted [P0 x0] H =
  cmd_reader_quoted_p11010 d NN x0 Sl.nil 1 H := by kernel_rfl
end Go.Proofs.Ytnpmlgibjhjiiaa.dec

namespace Go.Proofs.Ytnpmlgibjhjiiaa.dec
open Go Go.Cm
/-! (*porthole/cmd.reader).word -/
noncomputable def cmd_reader_word_k111 (d : Nat) : Kt := run (X d) NN (cd 23 [1, 1, 1]) (retK (rs 23)) [] (retK (rs 23))
noncomputable def cmd_reader_word_l1100 (d : Nat) (m0 : Nat) : Kt := iter (fun k => run (X d) NN (cd 23 [1, 1, 0, 0, 0]) (backK [(0, .ptr), (3, .int .i64)] (opq k)) [(0, (cmd_reader_word_k111 d))] (retK (rs 23))) m0
noncomputable def cmd_reader_word_k110001 (d : Nat) (m0 : Nat) : Kt := run (X d) NN (cd 23 [1, 1, 0, 0, 0, 1]) (backK [(0, .ptr), (3, .int .i64)] (opq (cmd_reader_word_l1100 d m0))) [(0, (cmd_reader_word_k111 d))] (retK (rs 23))
noncomputable def cmd_reader_word_p1100 (d : Nat) (m0 : Nat) (x0 : Nat) (x3 : Int) (H : Heap) : Res := opq (cmd_reader_word_l1100 d m0) [(0, P0 x0), (3, .int .i64 x3)] H
noncomputable def cmd_reader_word_p1100001 (d : Nat) (m0 : Nat) (x0 : Nat) (x3 : Int) (x19 : Bool) (H : Heap) : Res := opq (run (X d) NN (cd 23 [1, 1, 0, 0, 0, 0, 1, 0]) (cmd_reader_word_k110001 d m0) [(0, (cmd_reader_word_k111 d))] (retK (rs 23))) [(0, P0 x0), (3, .int .i64 x3), (19, .bool x19)] H
theorem cmd_reader_word_p1100_s (d : Nat) (m0 : Nat) (x0 : Nat) (x3 : Int) (H : Heap) : cmd_reader_word_p1100 d (m0 + 1) x0 x3 H =
  optK (Heap.ld1 H ⟨x0, 0, none⟩) fun v1 =>
  asS v1 fun s2 =>
  if (decide (x3 < (slen s2 : Int))) = true then
  (optK (Heap.ld1 H ⟨x0, 0, none⟩) fun v3 =>
    asS v3 fun s4 =>
    if 0 ≤ x3 ∧ x3 < (slen s4 : Int) then
    callK (X d n_cmd_plain [.int .u8 (bt s4 ((x3).toNat))] H) fun v5 H6 =>
    asB v5 fun b7 =>
    cmd_reader_word_p1100001 d m0 x0 x3 b7 H6
    else none)
  else
  (cmd_reader_word_p1100001 d m0 x0 x3 false H) := (opq_app _ _ _).trans <| by kernel_rfl
theorem cmd_reader_word_p1100001_eq (d : Nat) (m0 : Nat) (x0 : Nat) (x3 : Int) (x19 : Bool) (H : Heap) : cmd_reader_word_p1100001 d m0 x0 x3 x19 H =
  if x19 = true then
  (cmd_reader_word_p1100 d m0 x0 (IntKind.wrap .i64 (x3 + 1)) H)
  else
  (optK (Heap.ld1 H ⟨x0, 2, none⟩) fun v1 =>
    asSL v1 fun l2 =>
    optK (Heap.ld1 H ⟨x0, 0, none⟩) fun v3 =>
    asS v3 fun s4 =>
    if 0 ≤ x3 ∧ x3 ≤ (slen s4 : Int) then
    newK H (.cells [.string (sSub s4 0 ((x3).toNat))] t_string false 0 false) fun p5 H6 =>
    appendK t_string 1 16 false l2.v (.slice (some ⟨p5, 0, none⟩) 1 1) H6 fun v7 H8 =>
    asSL v7 fun l9 =>
    optK (Heap.st1 H8 ⟨x0, 2, none⟩ l9.v) fun H10 =>
    chk (rdsOk [H, H6, H8, H10] [⟨.load 1 false, [.pointer (some ⟨x0, 2, none⟩)], v1, 0, 1⟩]) (
      optK (Heap.ld1 H10 ⟨x0, 0, none⟩) fun v11 =>
      asS v11 fun s12 =>
      if 0 ≤ x3 ∧ x3 ≤ (slen s12 : Int) then
      optK (Heap.st1 H10 ⟨x0, 0, none⟩ (.string (sSub s12 ((x3).toNat) (slen s12)))) fun H13 =>
      some (.bool (decide ((0 : Int) < x3)), H13)
      else none)
    else none) := (opq_app _ _ _).trans <| by kernel_rfl
theorem cmd_reader_word_eq (d : Nat) (x0 : Nat) (H : Heap) : X (d + 1) n_cmd_reader_word [P0 x0] H =
  cmd_reader_word_p1100 d NN x0 0 H := by kernel_rfl
end Go.Proofs.Ytnpmlgibjhjiiaa.dec

namespace Go.Proofs.Ytnpmlgibjhjiiaa.dec
open Go Go.Cm
/-! porthole/portholeref22.flushed -/
theorem ref22_flushed_eq (d : Nat) (x0 : Sl) (x1 : Sl) (H : Heap) : X (d + 1) n_ref22_flushed [x0.v, x1.v] H =
  if (decide ((x1.n : Int) = 0)) = true then
  (some (x0.v, H))
  else
  (optK x1.a fun a1 =>
    if 0 ≤ (0 : Int) ∧ (0 : Int) < (x1.n : Int) then
    optK (Heap.ld1 H (ap a1 0)) fun v2 =>
    asS v2 fun s3 =>
    newK H (.cells [] t_string false 0 false) fun p4 H5 =>
    optK (readD (.subSl t_string 1 true false false) [x1.v, .int .i64 1] H5) fun v6 =>
    asSL v6 fun l7 =>
    appendK t_string 1 16 false (.slice (some ⟨p4, 0, none⟩) 0 0) l7.v H5 fun v8 H9 =>
    asSL v8 fun l10 =>
    newK H9 (.cells [.string s3, l10.v] t_cmd_Command false 0 false) fun p11 H12 =>
    appendK t_cmd_Command 2 40 false x0.v (.slice (some ⟨p11, 0, none⟩) 1 1) H12 fun v13 H14 =>
    asSL v13 fun l15 =>
    chk (rdsOk [H, H5, H9, H12, H14] [⟨.subSl t_string 1 true false false, [x1.v, .int .i64 1], v6, 0, 1⟩, ⟨.load 1 false, [.pointer (some (ap a1 0))], v2, 0, 2⟩]) (
      some (l15.v, H14))
    else none) := by kernel_rfl
end Go.Proofs.Ytnpmlgibjhjiiaa.dec

namespace Go.Proofs.Ytnpmlgibjhjiiaa.dec
open Go Go.Cm
/-! porthole/portholeref22.bare -/
theorem ref22_bare_eq (d : Nat) (x0 : Int) (H : Heap) : X (d + 1) n_ref22_bare [.int .u8 x0] H =
  if (decide ((32 : Int) < x0)) = true then
  (if (decide (x0 < 127)) = true then
    (if (!decide (x0 = 59)) = true then
      (if (!decide (x0 = 34)) = true then
        (some (.bool (!decide (x0 = 92)), H))
        else
        (some (.bool false, H)))
      else
      (some (.bool false, H)))
    else
    (some (.bool false, H)))
  else
  (some (.bool false, H)) := by kernel_rfl
end Go.Proofs.Ytnpmlgibjhjiiaa.dec

namespace Go.Proofs.Ytnpmlgibjhjiiaa.dec
open Go Go.Cm
/-! porthole/cmd.plain -/
theorem cmd_plain_eq (d : Nat) (x0 : Int) (H : Heap) : X (d + 1) n_cmd_plain [.int .u8 x0] H =
  if (decide ((33 : Int) ≤ x0)) = true then
  (if (decide (x0 ≤ 126)) = true then
    (if (!decide (x0 = 59)) = true then
      (if (!decide (x0 = 34)) = true then
        (some (.bool (!decide (x0 = 92)), H))
        else
        (some (.bool false, H)))
      else
      (some (.bool false, H)))
    else
    (some (.bool false, H)))
  else
  (some (.bool false, H)) := by kernel_rfl
end Go.Proofs.Ytnpmlgibjhjiiaa.dec

namespace Go.Proofs.Ytnpmlgibjhjiiaa.dec
open Go Go.Cm
/-! porthole/cmd.shown -/
noncomputable def cmd_shown_k1111 (d : Nat) : Kt := run (X d) NN (cd 29 [1, 1, 1, 1]) (retK (rs 29)) [] (retK (rs 29))
noncomputable def cmd_shown_l111010 (d : Nat) (m0 : Nat) : Kt := iter (fun k => run (X d) NN (cd 29 [1, 1, 1, 0, 1, 0, 0]) (backK [(0, .str), (4, .bool), (5, .sl), (6, .int .i64)] (opq k)) [(0, (cmd_shown_k1111 d))] (retK (rs 29))) m0
noncomputable def cmd_shown_k111010011 (d : Nat) (m0 : Nat) : Kt := run (X d) NN (cd 29 [1, 1, 1, 0, 1, 0, 0, 1, 1]) (backK [(0, .str), (4, .bool), (5, .sl), (6, .int .i64)] (opq (cmd_shown_l111010 d m0))) [(0, (cmd_shown_k1111 d))] (retK (rs 29))
noncomputable def cmd_shown_k111010010011 (d : Nat) (m0 : Nat) : Kt := run (X d) NN (cd 29 [1, 1, 1, 0, 1, 0, 0, 1, 0, 0, 1, 1]) (cmd_shown_k111010011 d m0) [(1, (cmd_shown_k111010011 d m0)), (0, (cmd_shown_k1111 d))] (retK (rs 29))
noncomputable def cmd_shown_k111010010011101 (d : Nat) (m0 : Nat) : Kt := run (X d) NN (cd 29 [1, 1, 1, 0, 1, 0, 0, 1, 0, 0, 1, 1, 1, 0, 1]) (cmd_shown_k111010011 d m0) [(1, (cmd_shown_k111010011 d m0)), (0, (cmd_shown_k1111 d))] (retK (rs 29))
noncomputable def cmd_shown_p111010 (d : Nat) (m0 : Nat) (x0 : ByteArray) (x4 : Bool) (x5 : Sl) (x6 : Int) (H : Heap) : Res := opq (cmd_shown_l111010 d m0) [(0, .string x0), (4, .bool x4), (5, x5.v), (6, .int .i64 x6)] H
noncomputable def cmd_shown_p1110100100101 (d : Nat) (m0 : Nat) (x0 : ByteArray) (x4 : Bool) (x5 : Sl) (x6 : Int) (x7 : Int) (x24 : Bool) (H : Heap) : Res := opq (run (X d) NN (cd 29 [1, 1, 1, 0, 1, 0, 0, 1, 0, 0, 1, 0, 1, 0]) (cmd_shown_k111010010011 d m0) [(1, (cmd_shown_k111010011 d m0)), (0, (cmd_shown_k1111 d))] (retK (rs 29))) [(0, .string x0), (4, .bool x4), (5, x5.v), (6, .int .i64 x6), (7, .int .u8 x7), (24, .bool x24)] H
noncomputable def cmd_shown_p1110100100111 (d : Nat) (m0 : Nat) (x0 : ByteArray) (x4 : Bool) (x5 : Sl) (x6 : Int) (x7 : Int) (H : Heap) : Res := opq (run (X d) NN (cd 29 [1, 1, 1, 0, 1, 0, 0, 1, 0, 0, 1, 1, 1, 0]) (cmd_shown_k111010011 d m0) [(1, (cmd_shown_k111010011 d m0)), (0, (cmd_shown_k1111 d))] (retK (rs 29))) [(0, .string x0), (4, .bool x4), (5, x5.v), (6, .int .i64 x6), (7, .int .u8 x7)] H
noncomputable def cmd_shown_p1110100100111001 (d : Nat) (m0 : Nat) (x0 : ByteArray) (x4 : Bool) (x5 : Sl) (x6 : Int) (x7 : Int) (x36 : Bool) (H : Heap) : Res := opq (run (X d) NN (cd 29 [1, 1, 1, 0, 1, 0, 0, 1, 0, 0, 1, 1, 1, 0, 0, 1, 0]) (cmd_shown_k111010010011101 d m0) [(1, (cmd_shown_k111010011 d m0)), (0, (cmd_shown_k1111 d))] (retK (rs 29))) [(0, .string x0), (4, .bool x4), (5, x5.v), (6, .int .i64 x6), (7, .int .u8 x7), (36, .bool x36)] H
noncomputable def cmd_shown_p111010010011101 (d : Nat) (m0 : Nat) (x0 : ByteArray) (x4 : Bool) (x5 : Sl) (x6 : Int) (x7 : Int) (H : Heap) : Res := opq (run (X d) NN (cd 29 [1, 1, 1, 0, 1, 0, 0, 1, 0, 0, 1, 1, 1, 0, 1, 0]) (cmd_shown_k111010011 d m0) [(1, (cmd_shown_k111010011 d m0)), (0, (cmd_shown_k1111 d))] (retK (rs 29))) [(0, .string x0), (4, .bool x4), (5, x5.v), (6, .int .i64 x6), (7, .int .u8 x7)] H
theorem cmd_shown_p111010_s (d : Nat) (m0 : Nat) (x0 : ByteArray) (x4 : Bool) (x5 : Sl) (x6 : Int) (H : Heap) : cmd_shown_p111010 d (m0 + 1) x0 x4 x5 x6 H =
  if (decide (x6 < (slen x0 : Int))) = true then
  (if 0 ≤ x6 ∧ x6 < (slen x0 : Int) then
    if (decide (bt x0 ((x6).toNat) < 32)) = true then
    (cmd_shown_p1110100100101 d m0 x0 x4 x5 x6 (bt x0 ((x6).toNat)) true H)
    else
    (cmd_shown_p1110100100101 d m0 x0 x4 x5 x6 (bt x0 ((x6).toNat)) (decide ((126 : Int) < bt x0 ((x6).toNat))) H)
    else none)
  else
  (if x4 = true then
    (optK (readD (.bytesStr) [x5.v] H) fun v1 =>
      asS v1 fun s2 =>
      if slen (S [34]) + slen s2 ≤ 9223372036854775807 then
      if slen (sCat (S [34]) s2) + slen (S [34]) ≤ 9223372036854775807 then
      some (.tuple #[.string (sCat (sCat (S [34]) s2) (S [34])), .bool true], H)
      else none
      else none)
    else
    (optK (readD (.bytesStr) [x5.v] H) fun v3 =>
      asS v3 fun s4 =>
      some (.tuple #[.string s4, .bool true], H))) := (opq_app _ _ _).trans <| by kernel_rfl
theorem cmd_shown_p1110100100101_eq (d : Nat) (m0 : Nat) (x0 : ByteArray) (x4 : Bool) (x5 : Sl) (x6 : Int) (x7 : Int) (x24 : Bool) (H : Heap) : cmd_shown_p1110100100101 d m0 x0 x4 x5 x6 x7 x24 H =
  if x24 = true then
  (some (.tuple #[.string (S []), .bool false], H))
  else
  (if x4 = true then
    (cmd_shown_p1110100100111 d m0 x0 true x5 x6 x7 H)
    else
    (callK (X d n_cmd_plain [.int .u8 x7] H) fun v1 H2 =>
      asB v1 fun b3 =>
      cmd_shown_p1110100100111 d m0 x0 (!b3) x5 x6 x7 H2)) := (opq_app _ _ _).trans <| by kernel_rfl
theorem cmd_shown_p1110100100111_eq (d : Nat) (m0 : Nat) (x0 : ByteArray) (x4 : Bool) (x5 : Sl) (x6 : Int) (x7 : Int) (H : Heap) : cmd_shown_p1110100100111 d m0 x0 x4 x5 x6 x7 H =
  if (decide (x7 = 34)) = true then
  (cmd_shown_p1110100100111001 d m0 x0 x4 x5 x6 x7 true H)
  else
  (cmd_shown_p1110100100111001 d m0 x0 x4 x5 x6 x7 (decide (x7 = 92)) H) := (opq_app _ _ _).trans <| by kernel_rfl
theorem cmd_shown_p1110100100111001_eq (d : Nat) (m0 : Nat) (x0 : ByteArray) (x4 : Bool) (x5 : Sl) (x6 : Int) (x7 : Int) (x36 : Bool) (H : Heap) : cmd_shown_p1110100100111001 d m0 x0 x4 x5 x6 x7 x36 H =
  if x36 = true then
  (newK H (.cells [.int .u8 92] t_uint8 false 0 false) fun p1 H2 =>
    appendK t_uint8 1 1 false x5.v (.slice (some ⟨p1, 0, none⟩) 1 1) H2 fun v3 H4 =>
    asSL v3 fun l5 =>
    cmd_shown_p111010010011101 d m0 x0 x4 l5 x6 x7 H4)
  else
  (cmd_shown_p111010010011101 d m0 x0 x4 x5 x6 x7 H) := (opq_app _ _ _).trans <| by kernel_rfl
theorem cmd_shown_p111010010011101_eq (d : Nat) (m0 : Nat) (x0 : ByteArray) (x4 : Bool) (x5 : Sl) (x6 : Int) (x7 : Int) (H : Heap) : cmd_shown_p111010010011101 d m0 x0 x4 x5 x6 x7 H =
  newK H (.cells [.int .u8 x7] t_uint8 false 0 false) fun p1 H2 =>
  appendK t_uint8 1 1 false x5.v (.slice (some ⟨p1, 0, none⟩) 1 1) H2 fun v3 H4 =>
  asSL v3 fun l5 =>
  cmd_shown_p111010 d m0 x0 x4 l5 (IntKind.wrap .i64 (x6 + 1)) H4 := (opq_app _ _ _).trans <| by kernel_rfl
theorem cmd_shown_eq (d : Nat) (x0 : ByteArray) (H : Heap) : X (d + 1) n_cmd_shown [.string x0] H =
  cmd_shown_p111010 d NN x0 (sEq x0 (S [])) Sl.nil 0 H := by kernel_rfl
end Go.Proofs.Ytnpmlgibjhjiiaa.dec

namespace Go.Proofs.Ytnpmlgibjhjiiaa.dec
open Go Go.Cm
/-! porthole/cmd.Print -/
noncomputable def cmd_Print_k111 (d : Nat) : Kt := run (X d) NN (cd 20 [1, 1, 1]) (retK (rs 20)) [] (retK (rs 20))
noncomputable def cmd_Print_l11010 (d : Nat) (m0 : Nat) : Kt := iter (fun k => run (X d) NN (cd 20 [1, 1, 0, 1, 0, 0]) (backK [(3, .sl), (11, .sl), (12, .int .i64), (13, .int .i64)] (opq k)) [(0, (cmd_Print_k111 d))] (retK (rs 20))) m0
noncomputable def cmd_Print_k110100111 (d : Nat) (m0 : Nat) : Kt := run (X d) NN (cd 20 [1, 1, 0, 1, 0, 0, 1, 1, 1]) (backK [(3, .sl), (11, .sl), (12, .int .i64), (13, .int .i64)] (opq (cmd_Print_l11010 d m0))) [(0, (cmd_Print_k111 d))] (retK (rs 20))
noncomputable def cmd_Print_k1101001100111 (d : Nat) (m0 : Nat) : Kt := run (X d) NN (cd 20 [1, 1, 0, 1, 0, 0, 1, 1, 0, 0, 1, 1, 1]) (cmd_Print_k110100111 d m0) [(1, (cmd_Print_k110100111 d m0)), (0, (cmd_Print_k111 d))] (retK (rs 20))
noncomputable def cmd_Print_l110100110011010 (d : Nat) (m0 : Nat) (m1 : Nat) : Kt := iter (fun k => run (X d) NN (cd 20 [1, 1, 0, 1, 0, 0, 1, 1, 0, 0, 1, 1, 0, 1, 0, 0]) (backK [(3, .sl), (5, .any), (6, .sl), (11, .sl), (12, .int .i64), (13, .int .i64), (22, .sl), (23, .int .i64), (24, .int .i64)] (opq k)) [(2, (cmd_Print_k1101001100111 d m0)), (1, (cmd_Print_k110100111 d m0)), (0, (cmd_Print_k111 d))] (retK (rs 20))) m1
noncomputable def cmd_Print_k1101001100110100111 (d : Nat) (m0 : Nat) (m1 : Nat) : Kt := run (X d) NN (cd 20 [1, 1, 0, 1, 0, 0, 1, 1, 0, 0, 1, 1, 0, 1, 0, 0, 1, 1, 1]) (backK [(3, .sl), (5, .any), (6, .sl), (11, .sl), (12, .int .i64), (13, .int .i64), (22, .sl), (23, .int .i64), (24, .int .i64)] (opq (cmd_Print_l110100110011010 d m0 m1))) [(2, (cmd_Print_k1101001100111 d m0)), (1, (cmd_Print_k110100111 d m0)), (0, (cmd_Print_k111 d))] (retK (rs 20))
noncomputable def cmd_Print_k11010011001101001100111 (d : Nat) (m0 : Nat) (m1 : Nat) : Kt := run (X d) NN (cd 20 [1, 1, 0, 1, 0, 0, 1, 1, 0, 0, 1, 1, 0, 1, 0, 0, 1, 1, 0, 0, 1, 1, 1]) (cmd_Print_k1101001100110100111 d m0 m1) [(3, (cmd_Print_k1101001100110100111 d m0 m1)), (2, (cmd_Print_k1101001100111 d m0)), (1, (cmd_Print_k110100111 d m0)), (0, (cmd_Print_k111 d))] (retK (rs 20))
noncomputable def cmd_Print_p11010 (d : Nat) (m0 : Nat) (x3 : Sl) (x11 : Sl) (x12 : Int) (x13 : Int) (H : Heap) : Res := opq (cmd_Print_l11010 d m0) [(3, x3.v), (11, x11.v), (12, .int .i64 x12), (13, .int .i64 x13)] H
noncomputable def cmd_Print_p110100110011010 (d : Nat) (m0 : Nat) (m1 : Nat) (x3 : Sl) (x5 : Nat) (x6 : Sl) (x11 : Sl) (x12 : Int) (x13 : Int) (x22 : Sl) (x23 : Int) (x24 : Int) (H : Heap) : Res := opq (cmd_Print_l110100110011010 d m0 m1) [(3, x3.v), (5, P0 x5), (6, x6.v), (11, x11.v), (12, .int .i64 x12), (13, .int .i64 x13), (22, x22.v), (23, .int .i64 x23), (24, .int .i64 x24)] H
noncomputable def cmd_Print_p110100110011010011001101 (d : Nat) (m0 : Nat) (m1 : Nat) (x3 : Sl) (x5 : Nat) (x6 : Sl) (x9 : ByteArray) (x11 : Sl) (x12 : Int) (x13 : Int) (x22 : Sl) (x23 : Int) (x24 : Int) (x39 : Bool) (H : Heap) : Res := opq (run (X d) NN (cd 20 [1, 1, 0, 1, 0, 0, 1, 1, 0, 0, 1, 1, 0, 1, 0, 0, 1, 1, 0, 0, 1, 1, 0, 1, 0]) (cmd_Print_k11010011001101001100111 d m0 m1) [(3, (cmd_Print_k1101001100110100111 d m0 m1)), (2, (cmd_Print_k1101001100111 d m0)), (1, (cmd_Print_k110100111 d m0)), (0, (cmd_Print_k111 d))] (retK (rs 20))) [(3, x3.v), (5, P0 x5), (6, x6.v), (9, .string x9), (11, x11.v), (12, .int .i64 x12), (13, .int .i64 x13), (22, x22.v), (23, .int .i64 x23), (24, .int .i64 x24), (39, .bool x39)] H
theorem cmd_Print_p11010_s (d : Nat) (m0 : Nat) (x3 : Sl) (x11 : Sl) (x12 : Int) (x13 : Int) (H : Heap) : cmd_Print_p11010 d (m0 + 1) x3 x11 x12 x13 H =
  if (decide (x13 < x12)) = true then
  (optK x11.a fun a1 =>
    if 0 ≤ x13 ∧ x13 < (x11.n : Int) then
    optK (ldA H (ap a1 (((x13).toNat) * 2)) 2) fun v2 =>
    asA v2 fun c3 =>
    newK H (.cells [.string (S []), .slice none 0 0] t_cmd_Command false 0 false) fun p4 H5 =>
    effK (.store 2) [P0 p4, .agg c3] H5 fun _ H7 =>
    optK (Heap.ld1 H7 ⟨p4, 0, none⟩) fun v8 =>
    asS v8 fun s9 =>
    newK H7 (.cells [.string s9] t_string false 0 false) fun p10 H11 =>
    optK (Heap.ld1 H11 ⟨p4, 1, none⟩) fun v12 =>
    asSL v12 fun l13 =>
    appendK t_string 1 16 false (.slice (some ⟨p10, 0, none⟩) 1 1) l13.v H11 fun v14 H15 =>
    asSL v14 fun l16 =>
    cmd_Print_p110100110011010 d m0 NN x3 p4 Sl.nil x11 x12 x13 l16 (l16.n : Int) 0 H15
    else none)
  else
  (callK (X d n_strings_Join [x3.v, .string (S [59, 32])] H) fun v17 H18 =>
    asS v17 fun s19 =>
    some (.string s19, H18)) := (opq_app _ _ _).trans <| by kernel_rfl
theorem cmd_Print_p110100110011010_s (d : Nat) (m0 : Nat) (m1 : Nat) (x3 : Sl) (x5 : Nat) (x6 : Sl) (x11 : Sl) (x12 : Int) (x13 : Int) (x22 : Sl) (x23 : Int) (x24 : Int) (H : Heap) : cmd_Print_p110100110011010 d m0 (m1 + 1) x3 x5 x6 x11 x12 x13 x22 x23 x24 H =
  if (decide (x24 < x23)) = true then
  (optK x22.a fun a1 =>
    if 0 ≤ x24 ∧ x24 < (x22.n : Int) then
    optK (Heap.ld1 H (ap a1 (((x24).toNat) * 1))) fun v2 =>
    asS v2 fun s3 =>
    callK (X d n_cmd_shown [.string s3] H) fun v4 H5 =>
    castT [.str, .bool] v4 fun l6 =>
    castT [.str, .bool] (.tuple ⟨l6⟩) fun l7 =>
    optK l7[0]? fun v8 =>
    asS v8 fun s9 =>
    optK l7[1]? fun v10 =>
    asB v10 fun b11 =>
    if (!b11) = true then
    (cmd_Print_p110100110011010011001101 d m0 m1 x3 x5 x6 s9 x11 x12 x13 x22 x23 x24 true H5)
    else
    (optK (Heap.ld1 H5 ⟨x5, 0, none⟩) fun v12 =>
      asS v12 fun s13 =>
      cmd_Print_p110100110011010011001101 d m0 m1 x3 x5 x6 s9 x11 x12 x13 x22 x23 x24 (sEq s13 (S [])) H5)
    else none)
  else
  (callK (X d n_strings_Join [x6.v, .string (S [32])] H) fun v14 H15 =>
    asS v14 fun s16 =>
    newK H15 (.cells [.string s16] t_string false 0 false) fun p17 H18 =>
    appendK t_string 1 16 false x3.v (.slice (some ⟨p17, 0, none⟩) 1 1) H18 fun v19 H20 =>
    asSL v19 fun l21 =>
    cmd_Print_p11010 d m0 l21 x11 x12 (IntKind.wrap .i64 (x13 + 1)) H20) := (opq_app _ _ _).trans <| by kernel_rfl
theorem cmd_Print_p110100110011010011001101_eq (d : Nat) (m0 : Nat) (m1 : Nat) (x3 : Sl) (x5 : Nat) (x6 : Sl) (x9 : ByteArray) (x11 : Sl) (x12 : Int) (x13 : Int) (x22 : Sl) (x23 : Int) (x24 : Int) (x39 : Bool) (H : Heap) : cmd_Print_p110100110011010011001101 d m0 m1 x3 x5 x6 x9 x11 x12 x13 x22 x23 x24 x39 H =
  if x39 = true then
  (some (.string (S []), H))
  else
  (newK H (.cells [.string x9] t_string false 0 false) fun p1 H2 =>
    appendK t_string 1 16 false x6.v (.slice (some ⟨p1, 0, none⟩) 1 1) H2 fun v3 H4 =>
    asSL v3 fun l5 =>
    cmd_Print_p110100110011010 d m0 m1 x3 x5 l5 x11 x12 x13 x22 x23 (IntKind.wrap .i64 (x24 + 1)) H4) := (opq_app _ _ _).trans <| by kernel_rfl
theorem cmd_Print_eq (d : Nat) (x0 : Sl) (H : Heap) : X (d + 1) n_cmd_Print [x0.v] H =
  cmd_Print_p11010 d NN Sl.nil x0 (x0.n : Int) 0 H := by kernel_rfl
end Go.Proofs.Ytnpmlgibjhjiiaa.dec

namespace Go.Proofs.Ytnpmlgibjhjiiaa.dec
open Go Go.Cm
/-! porthole/portholelaw24.command -/
noncomputable def law24_command_k11111 (d : Nat) : Kt := run (X d) NN (cd 19 [1, 1, 1, 1, 1]) (retK (rs 19)) [] (retK (rs 19))
noncomputable def law24_command_p11110101 (d : Nat) (x1 : Value) (x2 : Nat) (x4 : Nat) (x5 : ByteArray) (x17 : ByteArray) (x18 : Bool) (H : Heap) : Res := opq (run (X d) NN (cd 19 [1, 1, 1, 1, 0, 1, 0, 1, 0]) (law24_command_k11111 d) [(0, (law24_command_k11111 d))] (retK (rs 19))) [(1, x1), (2, P0 x2), (4, P0 x4), (5, .string x5), (17, .string x17), (18, .bool x18)] H
noncomputable def law24_command_p11111 (d : Nat) (x1 : Value) (x2 : Nat) (x4 : Nat) (H : Heap) : Res := opq (run (X d) NN (cd 19 [1, 1, 1, 1, 1, 0]) (retK (rs 19)) [] (retK (rs 19))) [(1, x1), (2, P0 x2), (4, P0 x4)] H
noncomputable def law24_command_p11110101011 (d : Nat) (x1 : Value) (x2 : Nat) (x4 : Nat) (x5 : ByteArray) (x17 : ByteArray) (x28 : Bool) (H : Heap) : Res := opq (run (X d) NN (cd 19 [1, 1, 1, 1, 0, 1, 0, 1, 0, 1, 1, 0]) (law24_command_k11111 d) [(0, (law24_command_k11111 d))] (retK (rs 19))) [(1, x1), (2, P0 x2), (4, P0 x4), (5, .string x5), (17, .string x17), (28, .bool x28)] H
theorem law24_command_p11110101_eq (d : Nat) (x1 : Value) (x2 : Nat) (x4 : Nat) (x5 : ByteArray) (x17 : ByteArray) (x18 : Bool) (H : Heap) : law24_command_p11110101 d x1 x2 x4 x5 x17 x18 H =
  if x18 = true then
  (asP x1 fun o1 =>
    optK o1 fun a2 =>
    optK (Heap.ld1 H (ap a2 1)) fun v3 =>
    asI .i64 v3 fun n4 =>
    callK (X d n_hand_Pick [.int .i64 n4, .int .i64 5] H) fun v5 H6 =>
    asI .i64 v5 fun n7 =>
    if 0 ≤ n7 ∧ n7 < 5 then
    optK (partL [.string (S [97]), .string (S [98]), .string (S [99]), .string (S [97, 45, 49]), .string (S [66])] (((n7).toNat) * 1) 1 false) fun v8 =>
    asS v8 fun s9 =>
    newK H6 (.cells [.string s9] t_string false 0 false) fun p10 H11 =>
    optK (Heap.st1 H11 ⟨x4, 1, none⟩ (.slice (some ⟨p10, 0, none⟩) 1 1)) fun H12 =>
    law24_command_p11111 d x1 x2 x4 H12
    else none)
  else
  (if (sEq x17 (S [115, 101, 108, 101, 99, 116, 45, 119, 105, 110, 100, 111, 119])) = true then
    (law24_command_p11110101011 d x1 x2 x4 x5 x17 (sEq x17 (S [115, 101, 108, 101, 99, 116, 45, 119, 105, 110, 100, 111, 119])) H)
    else
    (if (sEq x17 (S [115, 101, 108, 101, 99, 116, 45, 112, 97, 110, 101])) = true then
      (law24_command_p11110101011 d x1 x2 x4 x5 x17 (sEq x17 (S [115, 101, 108, 101, 99, 116, 45, 112, 97, 110, 101])) H)
      else
      (if (sEq x17 (S [115, 119, 97, 112, 45, 112, 97, 110, 101])) = true then
        (law24_command_p11110101011 d x1 x2 x4 x5 x17 (sEq x17 (S [115, 119, 97, 112, 45, 112, 97, 110, 101])) H)
        else
        (law24_command_p11110101011 d x1 x2 x4 x5 x17 (sEq x17 (S [112, 97, 115, 116, 101])) H)))) := (opq_app _ _ _).trans <| by kernel_rfl
theorem law24_command_p11111_eq (d : Nat) (x1 : Value) (x2 : Nat) (x4 : Nat) (H : Heap) : law24_command_p11111 d x1 x2 x4 H =
  asP x1 fun o1 =>
  optK o1 fun a2 =>
  optK (Heap.ld1 H (ap a2 4)) fun v3 =>
  asI .i64 v3 fun n4 =>
  callK (X d n_hand_Pick [.int .i64 n4, .int .i64 20] H) fun v5 H6 =>
  asI .i64 v5 fun n7 =>
  if (decide (n7 = 0)) = true then
  (newK H6 (.cells [] t_string false 0 false) fun p8 H9 =>
    asP x1 fun o10 =>
    optK o10 fun a11 =>
    optK (Heap.ld1 H9 (ap a11 3)) fun v12 =>
    asSL v12 fun l13 =>
    appendK t_string 1 16 false (.slice (some ⟨p8, 0, none⟩) 0 0) l13.v H9 fun v14 H15 =>
    asSL v14 fun l16 =>
    optK (Heap.st1 H15 ⟨x4, 1, none⟩ l16.v) fun H17 =>
    optK (ldA H17 ⟨x4, 0, none⟩ 2) fun v18 =>
    asA v18 fun c19 =>
    effK (.store 2) [P0 x2, .agg c19] H17 fun _ H21 =>
    retK [.cell 2 2 true] [(2, P0 x2)] H21)
  else
  (if (decide (n7 = 1)) = true then
    (newK H6 (.cells [] t_string false 0 false) fun p23 H24 =>
      optK (Heap.ld1 H24 ⟨x4, 1, none⟩) fun v25 =>
      asSL v25 fun l26 =>
      appendK t_string 1 16 false (.slice (some ⟨p23, 0, none⟩) 0 0) l26.v H24 fun v27 H28 =>
      asSL v27 fun l29 =>
      newK H28 (.cells [.string (S [109, 111, 114, 101])] t_string false 0 false) fun p30 H31 =>
      appendK t_string 1 16 false l29.v (.slice (some ⟨p30, 0, none⟩) 1 1) H31 fun v32 H33 =>
      asSL v32 fun l34 =>
      optK (Heap.st1 H33 ⟨x4, 1, none⟩ l34.v) fun H35 =>
      optK (ldA H35 ⟨x4, 0, none⟩ 2) fun v36 =>
      asA v36 fun c37 =>
      effK (.store 2) [P0 x2, .agg c37] H35 fun _ H39 =>
      retK [.cell 2 2 true] [(2, P0 x2)] H39)
    else
    (if (decide (n7 = 2)) = true then
      (asP x1 fun o41 =>
        optK o41 fun a42 =>
        optK (Heap.ld1 H6 (ap a42 3)) fun v43 =>
        asSL v43 fun l44 =>
        if (decide ((0 : Int) < (l44.n : Int))) = true then
        (asP x1 fun o45 =>
          optK o45 fun a46 =>
          optK (Heap.ld1 H6 (ap a46 3)) fun v47 =>
          asSL v47 fun l48 =>
          optK l48.a fun a49 =>
          if 0 ≤ (0 : Int) ∧ (0 : Int) < (l48.n : Int) then
          optK (Heap.ld1 H6 (ap a49 0)) fun v50 =>
          asS v50 fun s51 =>
          optK (Heap.st1 H6 ⟨x4, 0, none⟩ (.string s51)) fun H52 =>
          optK (ldA H52 ⟨x4, 0, none⟩ 2) fun v53 =>
          asA v53 fun c54 =>
          effK (.store 2) [P0 x2, .agg c54] H52 fun _ H56 =>
          retK [.cell 2 2 true] [(2, P0 x2)] H56
          else none)
        else
        (optK (ldA H6 ⟨x4, 0, none⟩ 2) fun v58 =>
          asA v58 fun c59 =>
          effK (.store 2) [P0 x2, .agg c59] H6 fun _ H61 =>
          retK [.cell 2 2 true] [(2, P0 x2)] H61))
      else
      (optK (ldA H6 ⟨x4, 0, none⟩ 2) fun v63 =>
        asA v63 fun c64 =>
        effK (.store 2) [P0 x2, .agg c64] H6 fun _ H66 =>
        retK [.cell 2 2 true] [(2, P0 x2)] H66))) := (opq_app _ _ _).trans <| by kernel_rfl
theorem law24_command_p11110101011_eq (d : Nat) (x1 : Value) (x2 : Nat) (x4 : Nat) (x5 : ByteArray) (x17 : ByteArray) (x28 : Bool) (H : Heap) : law24_command_p11110101011 d x1 x2 x4 x5 x17 x28 H =
  if x28 = true then
  (newK H (.cells [.string x5] t_string false 0 false) fun p1 H2 =>
    optK (Heap.st1 H2 ⟨x4, 1, none⟩ (.slice (some ⟨p1, 0, none⟩) 1 1)) fun H3 =>
    law24_command_p11111 d x1 x2 x4 H3)
  else
  (if (sEq x17 (S [115, 112, 108, 105, 116, 45, 119, 105, 110, 100, 111, 119])) = true then
    (asP x1 fun o4 =>
      optK o4 fun a5 =>
      optK (Heap.ld1 H (ap a5 1)) fun v6 =>
      asI .i64 v6 fun n7 =>
      callK (X d n_hand_Pick [.int .i64 n7, .int .i64 3] H) fun v8 H9 =>
      asI .i64 v8 fun n10 =>
      if 0 ≤ n10 ∧ n10 < 3 then
      optK (partL [.string (S [45, 104]), .string (S [45, 118]), .string (S [45, 120])] (((n10).toNat) * 1) 1 false) fun v11 =>
      asS v11 fun s12 =>
      newK H9 (.cells [.string s12] t_string false 0 false) fun p13 H14 =>
      optK (Heap.st1 H14 ⟨x4, 1, none⟩ (.slice (some ⟨p13, 0, none⟩) 1 1)) fun H15 =>
      law24_command_p11111 d x1 x2 x4 H15
      else none)
    else
    (if (sEq x17 (S [114, 101, 115, 105, 122, 101, 45, 112, 97, 110, 101])) = true then
      (asP x1 fun o16 =>
        optK o16 fun a17 =>
        optK (Heap.ld1 H (ap a17 1)) fun v18 =>
        asI .i64 v18 fun n19 =>
        callK (X d n_hand_Pick [.int .i64 n19, .int .i64 4] H) fun v20 H21 =>
        asI .i64 v20 fun n22 =>
        if 0 ≤ n22 ∧ n22 < 4 then
        optK (partL [.string (S [45, 76]), .string (S [45, 82]), .string (S [45, 85]), .string (S [45, 68])] (((n22).toNat) * 1) 1 false) fun v23 =>
        asS v23 fun s24 =>
        newK H21 (.cells [.string s24, .string x5] t_string false 0 false) fun p25 H26 =>
        optK (Heap.st1 H26 ⟨x4, 1, none⟩ (.slice (some ⟨p25, 0, none⟩) 2 2)) fun H27 =>
        law24_command_p11111 d x1 x2 x4 H27
        else none)
      else
      (if (sEq x17 (S [99, 111, 112, 121])) = true then
        (asP x1 fun o28 =>
          optK o28 fun a29 =>
          optK (Heap.ld1 H (ap a29 1)) fun v30 =>
          asI .i64 v30 fun n31 =>
          callK (X d n_hand_Pick [.int .i64 n31, .int .i64 9] H) fun v32 H33 =>
          asI .i64 v32 fun n34 =>
          callK (X d n_ref22_Digits [.int .i64 n34] H33) fun v35 H36 =>
          asS v35 fun s37 =>
          newK H36 (.cells [.string s37, .string x5] t_string false 0 false) fun p38 H39 =>
          optK (Heap.st1 H39 ⟨x4, 1, none⟩ (.slice (some ⟨p38, 0, none⟩) 2 2)) fun H40 =>
          law24_command_p11111 d x1 x2 x4 H40)
        else
        (if (sEq x17 (S [115, 101, 110, 100])) = true then
          (asP x1 fun o41 =>
            optK o41 fun a42 =>
            optK (Heap.ld1 H (ap a42 1)) fun v43 =>
            asI .i64 v43 fun n44 =>
            callK (X d n_hand_Pick [.int .i64 n44, .int .i64 4] H) fun v45 H46 =>
            asI .i64 v45 fun n47 =>
            if 0 ≤ n47 ∧ n47 < 4 then
            optK (partL [.string (S [120]), .string (S [97, 32, 98]), .string (S []), .string (S [34, 113, 92])] (((n47).toNat) * 1) 1 false) fun v48 =>
            asS v48 fun s49 =>
            newK H46 (.cells [.string s49] t_string false 0 false) fun p50 H51 =>
            optK (Heap.st1 H51 ⟨x4, 1, none⟩ (.slice (some ⟨p50, 0, none⟩) 1 1)) fun H52 =>
            law24_command_p11111 d x1 x2 x4 H52
            else none)
          else
          (law24_command_p11111 d x1 x2 x4 H))))) := (opq_app _ _ _).trans <| by kernel_rfl
theorem law24_command_eq (d : Nat) (x0 : Array Value) (H : Heap) : X (d + 1) n_law24_command [.agg x0] H =
  effK (.box t_law24_Raw) [.agg x0] H fun v1 H2 =>
  newK H2 (.cells [.string (S []), .slice none 0 0] t_cmd_Command false 0 false) fun p3 H4 =>
  asP v1 fun o5 =>
  optK o5 fun a6 =>
  optK (Heap.ld1 H4 (ap a6 0)) fun v7 =>
  asI .i64 v7 fun n8 =>
  callK (X d n_hand_Pick [.int .i64 n8, .int .i64 20] H4) fun v9 H10 =>
  asI .i64 v9 fun n11 =>
  if 0 ≤ n11 ∧ n11 < 20 then
  optK (partL [.string (S [110, 101, 119, 45, 115, 101, 115, 115, 105, 111, 110]), .string (S [107, 105, 108, 108, 45, 115, 101, 115, 115, 105, 111, 110]), .string (S [114, 101, 110, 97, 109, 101]), .string (S [110, 101, 119, 45, 119, 105, 110, 100, 111, 119]), .string (S [107, 105, 108, 108, 45, 119, 105, 110, 100, 111, 119]), .string (S [115, 101, 108, 101, 99, 116, 45, 119, 105, 110, 100, 111, 119]), .string (S [115, 112, 108, 105, 116, 45, 119, 105, 110, 100, 111, 119]), .string (S [115, 112, 108, 105, 116, 45, 119, 105, 110, 100, 111, 119]), .string (S [107, 105, 108, 108, 45, 112, 97, 110, 101]), .string (S [115, 101, 108, 101, 99, 116, 45, 112, 97, 110, 101]), .string (S [115, 119, 97, 112, 45, 112, 97, 110, 101]), .string (S [114, 101, 115, 105, 122, 101, 45, 112, 97, 110, 101]), .string (S [114, 101, 115, 105, 122, 101, 45, 112, 97, 110, 101]), .string (S [122, 111, 111, 109]), .string (S [99, 111, 112, 121]), .string (S [112, 97, 115, 116, 101]), .string (S [115, 101, 110, 100]), .string (S [115, 101, 110, 100]), .string (S [110, 111, 116, 104, 105, 110, 103]), .string (S [115, 112, 108, 105, 116, 45, 119, 105, 110, 100, 111, 119])] (((n11).toNat) * 1) 1 false) fun v12 =>
  asS v12 fun s13 =>
  newK H10 (.cells [.string (S []), .slice none 0 0] t_cmd_Command false 0 false) fun p14 H15 =>
  optK (Heap.stN H15 ⟨p14, 0, none⟩ [.string s13, .slice none 0 0]) fun H16 =>
  asP v1 fun o17 =>
  optK o17 fun a18 =>
  optK (Heap.ld1 H16 (ap a18 2)) fun v19 =>
  asI .i64 v19 fun n20 =>
  callK (X d n_hand_Pick [.int .i64 n20, .int .i64 12] H16) fun v21 H22 =>
  asI .i64 v21 fun n23 =>
  callK (X d n_ref22_Digits [.int .i64 n23] H22) fun v24 H25 =>
  asS v24 fun s26 =>
  if (sEq s13 (S [110, 101, 119, 45, 115, 101, 115, 115, 105, 111, 110])) = true then
  (law24_command_p11110101 d v1 p3 p14 s26 s13 (sEq s13 (S [110, 101, 119, 45, 115, 101, 115, 115, 105, 111, 110])) H25)
  else
  (law24_command_p11110101 d v1 p3 p14 s26 s13 (sEq s13 (S [114, 101, 110, 97, 109, 101])) H25)
  else none := by kernel_rfl
end Go.Proofs.Ytnpmlgibjhjiiaa.dec

namespace Go.Proofs.Ytnpmlgibjhjiiaa.dec
open Go Go.Cm
/-! porthole/portholeref22.Digits -/
theorem ref22_Digits_eq (d : Nat) (x0 : Int) (H : Heap) : X (d + 1) n_ref22_Digits [.int .i64 x0] H =
  if (decide (x0 < 0)) = true then
  (callK (X d n_ref22_below [.int .i64 x0] H) fun v1 H2 =>
    asS v1 fun s3 =>
    if slen (S [45]) + slen s3 ≤ 9223372036854775807 then
    some (.string (sCat (S [45]) s3), H2)
    else none)
  else
  (callK (X d n_ref22_below [.int .i64 (IntKind.wrap .i64 (0 - x0))] H) fun v4 H5 =>
    asS v4 fun s6 =>
    some (.string s6, H5)) := by kernel_rfl
end Go.Proofs.Ytnpmlgibjhjiiaa.dec

namespace Go.Proofs.Ytnpmlgibjhjiiaa.dec
open Go Go.Cm
/-! porthole/portholelaw24.CmdBack -/
noncomputable def law24_CmdBack_k111 (d : Nat) : Kt := run (X d) NN (cd 5 [1, 1, 1]) (retK (rs 5)) [] (retK (rs 5))
noncomputable def law24_CmdBack_k11111 (d : Nat) : Kt := run (X d) NN (cd 5 [1, 1, 1, 1, 1]) (retK (rs 5)) [] (retK (rs 5))
noncomputable def law24_CmdBack_l11010 (d : Nat) (m0 : Nat) : Kt := iter (fun k => run (X d) NN (cd 5 [1, 1, 0, 1, 0, 0]) (backK [(0, .sl), (3, .sl), (4, .int .i64)] (opq k)) [(0, (law24_CmdBack_k111 d))] (retK (rs 5))) m0
noncomputable def law24_CmdBack_k1101001 (d : Nat) (m0 : Nat) : Kt := run (X d) NN (cd 5 [1, 1, 0, 1, 0, 0, 1]) (backK [(0, .sl), (3, .sl), (4, .int .i64)] (opq (law24_CmdBack_l11010 d m0))) [(0, (law24_CmdBack_k111 d))] (retK (rs 5))
noncomputable def law24_CmdBack_p11010 (d : Nat) (m0 : Nat) (x0 : Sl) (x3 : Sl) (x4 : Int) (H : Heap) : Res := opq (law24_CmdBack_l11010 d m0) [(0, x0.v), (3, x3.v), (4, .int .i64 x4)] H
noncomputable def law24_CmdBack_p11010001 (d : Nat) (m0 : Nat) (x0 : Sl) (x3 : Sl) (x4 : Int) (x15 : Bool) (H : Heap) : Res := opq (run (X d) NN (cd 5 [1, 1, 0, 1, 0, 0, 0, 1, 0]) (law24_CmdBack_k1101001 d m0) [(0, (law24_CmdBack_k111 d))] (retK (rs 5))) [(0, x0.v), (3, x3.v), (4, .int .i64 x4), (15, .bool x15)] H
noncomputable def law24_CmdBack_p111101 (d : Nat) (x3 : Sl) (x5 : ByteArray) (x38 : Bool) (H : Heap) : Res := opq (run (X d) NN (cd 5 [1, 1, 1, 1, 0, 1, 0]) (law24_CmdBack_k11111 d) [] (retK (rs 5))) [(3, x3.v), (5, .string x5), (38, .bool x38)] H
theorem law24_CmdBack_p11010_s (d : Nat) (m0 : Nat) (x0 : Sl) (x3 : Sl) (x4 : Int) (H : Heap) : law24_CmdBack_p11010 d (m0 + 1) x0 x3 x4 H =
  if (decide (x4 < (x0.n : Int))) = true then
  (law24_CmdBack_p11010001 d m0 x0 x3 x4 (decide (x4 < 8)) H)
  else
  (law24_CmdBack_p11010001 d m0 x0 x3 x4 false H) := (opq_app _ _ _).trans <| by kernel_rfl
theorem law24_CmdBack_p11010001_eq (d : Nat) (m0 : Nat) (x0 : Sl) (x3 : Sl) (x4 : Int) (x15 : Bool) (H : Heap) : law24_CmdBack_p11010001 d m0 x0 x3 x4 x15 H =
  if x15 = true then
  (optK x0.a fun a1 =>
    if 0 ≤ x4 ∧ x4 < (x0.n : Int) then
    optK (ldA H (ap a1 (((x4).toNat) * 5)) 5) fun v2 =>
    asA v2 fun c3 =>
    callK (X d n_law24_command [.agg c3] H) fun v4 H5 =>
    asA v4 fun c6 =>
    optK (fillL [(0, 2)] [.agg c6] [.string (S []), .slice none 0 0]) fun l7 =>
    newK H5 (.cells l7 t_cmd_Command false 0 false) fun p8 H9 =>
    appendK t_cmd_Command 2 40 false x3.v (.slice (some ⟨p8, 0, none⟩) 1 1) H9 fun v10 H11 =>
    asSL v10 fun l12 =>
    law24_CmdBack_p11010 d m0 x0 l12 (IntKind.wrap .i64 (x4 + 1)) H11
    else none)
  else
  (callK (X d n_cmd_Print [x3.v] H) fun v13 H14 =>
    asS v13 fun s15 =>
    callK (X d n_law24_known [] H14) fun v16 H17 =>
    asB v16 fun b18 =>
    if (!b18) = true then
    (law24_CmdBack_p111101 d x3 s15 true H17)
    else
    (if (sEq s15 (S [])) = true then
      (law24_CmdBack_p111101 d x3 s15 true H17)
      else
      (law24_CmdBack_p111101 d x3 s15 (decide ((400 : Int) < (slen s15 : Int))) H17))) := (opq_app _ _ _).trans <| by kernel_rfl
theorem law24_CmdBack_p111101_eq (d : Nat) (x3 : Sl) (x5 : ByteArray) (x38 : Bool) (H : Heap) : law24_CmdBack_p111101 d x3 x5 x38 H =
  if x38 = true then
  (callK (X d n_law24_known [] H) fun v1 H2 =>
    asB v1 fun b3 =>
    some (.bool b3, H2))
  else
  (callK (X d n_cmd_Parse [.string x5] H) fun v4 H5 =>
    castT [.sl, .int .i64] v4 fun l6 =>
    castT [.sl, .int .i64] (.tuple ⟨l6⟩) fun l7 =>
    optK l7[0]? fun v8 =>
    asSL v8 fun l9 =>
    optK l7[1]? fun v10 =>
    asI .i64 v10 fun n11 =>
    if (decide (n11 = 0)) = true then
    (callK (X d n_law24_same [x3.v, l9.v] H5) fun v12 H13 =>
      asB v12 fun b14 =>
      if b14 = true then
      (callK (X d n_cmd_Print [l9.v] H13) fun v15 H16 =>
        asS v15 fun s17 =>
        some (.bool (sEq s17 x5), H16))
      else
      (some (.bool false, H13)))
    else
    (some (.bool false, H5))) := (opq_app _ _ _).trans <| by kernel_rfl
theorem law24_CmdBack_eq (d : Nat) (x0 : Sl) (H : Heap) : X (d + 1) n_law24_CmdBack [x0.v] H =
  law24_CmdBack_p11010 d NN x0 Sl.nil 0 H := by kernel_rfl
end Go.Proofs.Ytnpmlgibjhjiiaa.dec

namespace Go.Proofs.Ytnpmlgibjhjiiaa.dec
open Go Go.Cm
/-! porthole/portholelaw24.CmdParts -/
noncomputable def law24_CmdParts_k111 (d : Nat) : Kt := run (X d) NN (cd 6 [1, 1, 1]) (retK (rs 6)) [] (retK (rs 6))
noncomputable def law24_CmdParts_k1111 (d : Nat) : Kt := run (X d) NN (cd 6 [1, 1, 1, 1]) (retK (rs 6)) [] (retK (rs 6))
noncomputable def law24_CmdParts_k1111111 (d : Nat) : Kt := run (X d) NN (cd 6 [1, 1, 1, 1, 1, 1, 1]) (retK (rs 6)) [] (retK (rs 6))
noncomputable def law24_CmdParts_k111111111 (d : Nat) : Kt := run (X d) NN (cd 6 [1, 1, 1, 1, 1, 1, 1, 1, 1]) (retK (rs 6)) [] (retK (rs 6))
noncomputable def law24_CmdParts_l11111111010 (d : Nat) (m0 : Nat) : Kt := iter (fun k => run (X d) NN (cd 6 [1, 1, 1, 1, 1, 1, 1, 1, 0, 1, 0, 0]) (backK [(2, .int .i64), (7, .sl), (8, .sl), (11, .str), (12, .str), (13, .str), (14, .int .i64)] (opq k)) [(4, (law24_CmdParts_k111111111 d))] (retK (rs 6))) m0
noncomputable def law24_CmdParts_l111010 (d : Nat) (m0 : Nat) : Kt := iter (fun k => run (X d) NN (cd 6 [1, 1, 1, 0, 1, 0, 0]) (backK [(1, .sl), (2, .int .i64), (7, .sl), (8, .sl), (10, .int .i64)] (opq k)) [(2, (law24_CmdParts_k1111 d))] (retK (rs 6))) m0
noncomputable def law24_CmdParts_k11101001 (d : Nat) (m0 : Nat) : Kt := run (X d) NN (cd 6 [1, 1, 1, 0, 1, 0, 0, 1]) (backK [(1, .sl), (2, .int .i64), (7, .sl), (8, .sl), (10, .int .i64)] (opq (law24_CmdParts_l111010 d m0))) [(2, (law24_CmdParts_k1111 d))] (retK (rs 6))
noncomputable def law24_CmdParts_l11010 (d : Nat) (m0 : Nat) : Kt := iter (fun k => run (X d) NN (cd 6 [1, 1, 0, 1, 0, 0]) (backK [(0, .sl), (1, .sl), (2, .int .i64), (7, .sl), (8, .sl), (9, .int .i64)] (opq k)) [(0, (law24_CmdParts_k111 d))] (retK (rs 6))) m0
noncomputable def law24_CmdParts_k1101001 (d : Nat) (m0 : Nat) : Kt := run (X d) NN (cd 6 [1, 1, 0, 1, 0, 0, 1]) (backK [(0, .sl), (1, .sl), (2, .int .i64), (7, .sl), (8, .sl), (9, .int .i64)] (opq (law24_CmdParts_l11010 d m0))) [(0, (law24_CmdParts_k111 d))] (retK (rs 6))
noncomputable def law24_CmdParts_p11010 (d : Nat) (m0 : Nat) (x0 : Sl) (x1 : Sl) (x2 : Int) (x7 : Sl) (x8 : Sl) (x9 : Int) (H : Heap) : Res := opq (law24_CmdParts_l11010 d m0) [(0, x0.v), (1, x1.v), (2, .int .i64 x2), (7, x7.v), (8, x8.v), (9, .int .i64 x9)] H
noncomputable def law24_CmdParts_p11010001 (d : Nat) (m0 : Nat) (x0 : Sl) (x1 : Sl) (x2 : Int) (x7 : Sl) (x8 : Sl) (x9 : Int) (x24 : Bool) (H : Heap) : Res := opq (run (X d) NN (cd 6 [1, 1, 0, 1, 0, 0, 0, 1, 0]) (law24_CmdParts_k1101001 d m0) [(0, (law24_CmdParts_k111 d))] (retK (rs 6))) [(0, x0.v), (1, x1.v), (2, .int .i64 x2), (7, x7.v), (8, x8.v), (9, .int .i64 x9), (24, .bool x24)] H
noncomputable def law24_CmdParts_p111010 (d : Nat) (m0 : Nat) (x1 : Sl) (x2 : Int) (x7 : Sl) (x8 : Sl) (x10 : Int) (H : Heap) : Res := opq (law24_CmdParts_l111010 d m0) [(1, x1.v), (2, .int .i64 x2), (7, x7.v), (8, x8.v), (10, .int .i64 x10)] H
noncomputable def law24_CmdParts_p111010001 (d : Nat) (m0 : Nat) (x1 : Sl) (x2 : Int) (x7 : Sl) (x8 : Sl) (x10 : Int) (x42 : Bool) (H : Heap) : Res := opq (run (X d) NN (cd 6 [1, 1, 1, 0, 1, 0, 0, 0, 1, 0]) (law24_CmdParts_k11101001 d m0) [(2, (law24_CmdParts_k1111 d))] (retK (rs 6))) [(1, x1.v), (2, .int .i64 x2), (7, x7.v), (8, x8.v), (10, .int .i64 x10), (42, .bool x42)] H
noncomputable def law24_CmdParts_p11111101 (d : Nat) (x2 : Int) (x7 : Sl) (x8 : Sl) (x11 : ByteArray) (x12 : ByteArray) (x74 : Bool) (H : Heap) : Res := opq (run (X d) NN (cd 6 [1, 1, 1, 1, 1, 1, 0, 1, 0]) (law24_CmdParts_k1111111 d) [] (retK (rs 6))) [(2, .int .i64 x2), (7, x7.v), (8, x8.v), (11, .string x11), (12, .string x12), (74, .bool x74)] H
noncomputable def law24_CmdParts_p11111111010 (d : Nat) (m0 : Nat) (x2 : Int) (x7 : Sl) (x8 : Sl) (x11 : ByteArray) (x12 : ByteArray) (x13 : ByteArray) (x14 : Int) (H : Heap) : Res := opq (law24_CmdParts_l11111111010 d m0) [(2, .int .i64 x2), (7, x7.v), (8, x8.v), (11, .string x11), (12, .string x12), (13, .string x13), (14, .int .i64 x14)] H
theorem law24_CmdParts_p11010_s (d : Nat) (m0 : Nat) (x0 : Sl) (x1 : Sl) (x2 : Int) (x7 : Sl) (x8 : Sl) (x9 : Int) (H : Heap) : law24_CmdParts_p11010 d (m0 + 1) x0 x1 x2 x7 x8 x9 H =
  if (decide (x9 < (x0.n : Int))) = true then
  (law24_CmdParts_p11010001 d m0 x0 x1 x2 x7 x8 x9 (decide (x9 < 3)) H)
  else
  (law24_CmdParts_p11010001 d m0 x0 x1 x2 x7 x8 x9 false H) := (opq_app _ _ _).trans <| by kernel_rfl
theorem law24_CmdParts_p11010001_eq (d : Nat) (m0 : Nat) (x0 : Sl) (x1 : Sl) (x2 : Int) (x7 : Sl) (x8 : Sl) (x9 : Int) (x24 : Bool) (H : Heap) : law24_CmdParts_p11010001 d m0 x0 x1 x2 x7 x8 x9 x24 H =
  if x24 = true then
  (optK x0.a fun a1 =>
    if 0 ≤ x9 ∧ x9 < (x0.n : Int) then
    optK (ldA H (ap a1 (((x9).toNat) * 5)) 5) fun v2 =>
    asA v2 fun c3 =>
    callK (X d n_law24_command [.agg c3] H) fun v4 H5 =>
    asA v4 fun c6 =>
    optK (fillL [(0, 2)] [.agg c6] [.string (S []), .slice none 0 0]) fun l7 =>
    newK H5 (.cells l7 t_cmd_Command false 0 false) fun p8 H9 =>
    appendK t_cmd_Command 2 40 false x7.v (.slice (some ⟨p8, 0, none⟩) 1 1) H9 fun v10 H11 =>
    asSL v10 fun l12 =>
    law24_CmdParts_p11010 d m0 x0 x1 x2 l12 x8 (IntKind.wrap .i64 (x9 + 1)) H11
    else none)
  else
  (law24_CmdParts_p111010 d NN x1 x2 x7 x8 0 H) := (opq_app _ _ _).trans <| by kernel_rfl
theorem law24_CmdParts_p111010_s (d : Nat) (m0 : Nat) (x1 : Sl) (x2 : Int) (x7 : Sl) (x8 : Sl) (x10 : Int) (H : Heap) : law24_CmdParts_p111010 d (m0 + 1) x1 x2 x7 x8 x10 H =
  if (decide (x10 < (x1.n : Int))) = true then
  (law24_CmdParts_p111010001 d m0 x1 x2 x7 x8 x10 (decide (x10 < 3)) H)
  else
  (law24_CmdParts_p111010001 d m0 x1 x2 x7 x8 x10 false H) := (opq_app _ _ _).trans <| by kernel_rfl
theorem law24_CmdParts_p111010001_eq (d : Nat) (m0 : Nat) (x1 : Sl) (x2 : Int) (x7 : Sl) (x8 : Sl) (x10 : Int) (x42 : Bool) (H : Heap) : law24_CmdParts_p111010001 d m0 x1 x2 x7 x8 x10 x42 H =
  if x42 = true then
  (optK x1.a fun a1 =>
    if 0 ≤ x10 ∧ x10 < (x1.n : Int) then
    optK (ldA H (ap a1 (((x10).toNat) * 5)) 5) fun v2 =>
    asA v2 fun c3 =>
    callK (X d n_law24_command [.agg c3] H) fun v4 H5 =>
    asA v4 fun c6 =>
    optK (fillL [(0, 2)] [.agg c6] [.string (S []), .slice none 0 0]) fun l7 =>
    newK H5 (.cells l7 t_cmd_Command false 0 false) fun p8 H9 =>
    appendK t_cmd_Command 2 40 false x8.v (.slice (some ⟨p8, 0, none⟩) 1 1) H9 fun v10 H11 =>
    asSL v10 fun l12 =>
    law24_CmdParts_p111010 d m0 x1 x2 x7 l12 (IntKind.wrap .i64 (x10 + 1)) H11
    else none)
  else
  (callK (X d n_cmd_Print [x7.v] H) fun v13 H14 =>
    asS v13 fun s15 =>
    callK (X d n_cmd_Print [x8.v] H14) fun v16 H17 =>
    asS v16 fun s18 =>
    callK (X d n_law24_known [] H17) fun v19 H20 =>
    asB v19 fun b21 =>
    if (!b21) = true then
    (law24_CmdParts_p11111101 d x2 x7 x8 s15 s18 true H20)
    else
    (if (sEq s15 (S [])) = true then
      (law24_CmdParts_p11111101 d x2 x7 x8 s15 s18 true H20)
      else
      (if (sEq s18 (S [])) = true then
        (law24_CmdParts_p11111101 d x2 x7 x8 s15 s18 true H20)
        else
        (law24_CmdParts_p11111101 d x2 x7 x8 s15 s18 (decide ((370 : Int) < IntKind.wrap .i64 ((slen s15 : Int) + (slen s18 : Int)))) H20)))) := (opq_app _ _ _).trans <| by kernel_rfl
theorem law24_CmdParts_p11111101_eq (d : Nat) (x2 : Int) (x7 : Sl) (x8 : Sl) (x11 : ByteArray) (x12 : ByteArray) (x74 : Bool) (H : Heap) : law24_CmdParts_p11111101 d x2 x7 x8 x11 x12 x74 H =
  if x74 = true then
  (callK (X d n_law24_known [] H) fun v1 H2 =>
    asB v1 fun b3 =>
    some (.bool b3, H2))
  else
  (law24_CmdParts_p11111111010 d NN x2 x7 x8 x11 x12 (S []) 0 H) := (opq_app _ _ _).trans <| by kernel_rfl
theorem law24_CmdParts_p11111111010_s (d : Nat) (m0 : Nat) (x2 : Int) (x7 : Sl) (x8 : Sl) (x11 : ByteArray) (x12 : ByteArray) (x13 : ByteArray) (x14 : Int) (H : Heap) : law24_CmdParts_p11111111010 d (m0 + 1) x2 x7 x8 x11 x12 x13 x14 H =
  callK (X d n_hand_Pick [.int .i64 x2, .int .i64 6] H) fun v1 H2 =>
  asI .i64 v1 fun n3 =>
  if (decide (x14 < n3)) = true then
  (if slen x13 + slen (S [32]) ≤ 9223372036854775807 then
    law24_CmdParts_p11111111010 d m0 x2 x7 x8 x11 x12 (sCat x13 (S [32])) (IntKind.wrap .i64 (x14 + 1)) H2
    else none)
  else
  (if slen x13 + slen x11 ≤ 9223372036854775807 then
    if slen (sCat x13 x11) + slen x13 ≤ 9223372036854775807 then
    if slen (sCat (sCat x13 x11) x13) + slen (S [59]) ≤ 9223372036854775807 then
    if slen (sCat (sCat (sCat x13 x11) x13) (S [59])) + slen x13 ≤ 9223372036854775807 then
    if slen (sCat (sCat (sCat (sCat x13 x11) x13) (S [59])) x13) + slen (S [59]) ≤ 9223372036854775807 then
    if slen (sCat (sCat (sCat (sCat (sCat x13 x11) x13) (S [59])) x13) (S [59])) + slen x12 ≤ 9223372036854775807 then
    if slen (sCat (sCat (sCat (sCat (sCat (sCat x13 x11) x13) (S [59])) x13) (S [59])) x12) + slen x13 ≤ 9223372036854775807 then
    callK (X d n_cmd_Parse [.string (sCat (sCat (sCat (sCat (sCat (sCat (sCat x13 x11) x13) (S [59])) x13) (S [59])) x12) x13)] H2) fun v4 H5 =>
    castT [.sl, .int .i64] v4 fun l6 =>
    castT [.sl, .int .i64] (.tuple ⟨l6⟩) fun l7 =>
    optK l7[0]? fun v8 =>
    asSL v8 fun l9 =>
    optK l7[1]? fun v10 =>
    asI .i64 v10 fun n11 =>
    if (decide (n11 = 0)) = true then
    (newK H5 (.cells [] t_cmd_Command false 0 false) fun p12 H13 =>
      appendK t_cmd_Command 2 40 false (.slice (some ⟨p12, 0, none⟩) 0 0) x7.v H13 fun v14 H15 =>
      asSL v14 fun l16 =>
      appendK t_cmd_Command 2 40 false l16.v x8.v H15 fun v17 H18 =>
      asSL v17 fun l19 =>
      callK (X d n_law24_same [l9.v, l19.v] H18) fun v20 H21 =>
      asB v20 fun b22 =>
      some (.bool b22, H21))
    else
    (some (.bool false, H5))
    else none
    else none
    else none
    else none
    else none
    else none
    else none) := (opq_app _ _ _).trans <| by kernel_rfl
theorem law24_CmdParts_eq (d : Nat) (x0 : Sl) (x1 : Sl) (x2 : Int) (H : Heap) : X (d + 1) n_law24_CmdParts [x0.v, x1.v, .int .i64 x2] H =
  law24_CmdParts_p11010 d NN x0 x1 x2 Sl.nil Sl.nil 0 H := by kernel_rfl
end Go.Proofs.Ytnpmlgibjhjiiaa.dec
