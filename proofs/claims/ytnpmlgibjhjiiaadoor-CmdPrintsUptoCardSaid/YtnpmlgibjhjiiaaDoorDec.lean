/-
  The functions' numbers, their code with cuts.
  And: What calls compute, piece by piece. What calls compute, piece by piece. What calls compute, piece by piece. What calls compute, piece by piece. What calls compute, piece by piece. What calls compute, piece by piece. What calls compute, piece by piece. What calls compute, piece by piece. What calls compute, piece by piece. What calls compute, piece by piece. What calls compute, piece by piece. What calls compute, piece by piece. What calls compute, piece by piece. What calls compute, piece by piece. What calls compute, piece by piece. What calls compute, piece by piece. What calls compute, piece by piece. What calls compute, piece by piece. What calls compute, piece by piece. What calls compute, piece by piece. What calls compute, piece by piece. What calls compute, piece by piece. What calls compute, piece by piece. What calls compute, piece by piece. What calls compute, piece by piece. What calls compute, piece by piece. What calls compute, piece by piece. What calls compute, piece by piece. What calls compute, piece by piece. What calls compute, piece by piece.
-/
import Derived.Test.YtnpmlgibjhjiiaaDoorCmG
import Derived.Test.YtnpmlgibjhjiiaaDoorChecked
namespace Go.Proofs.YtnpmlgibjhjiiaaDoor.dec
open Go Go.Cm
abbrev n_main_main : Nat := 0
abbrev n_gosem_cut : Nat := 1
abbrev n_gosem_cut_init : Nat := 2
abbrev n_law24_CmdPlain : Nat := 3
abbrev n_law24_CmdPrints : Nat := 4
abbrev n_law24_CmdKnown : Nat := 5
abbrev n_cmd_NewKeys : Nat := 6
abbrev n_law24_known : Nat := 7
abbrev n_cmd_Keys_Feed : Nat := 8
abbrev n_cmd_Bound : Nat := 9
abbrev n_cmd_Parse : Nat := 10
abbrev n_cmd_Right : Nat := 11
abbrev n_law24_command : Nat := 12
abbrev n_ref22_Right : Nat := 13
abbrev n_cmd_Needs : Nat := 14
abbrev n_ref22_Needs : Nat := 15
abbrev n_cmd_Print : Nat := 16
abbrev n_ref22_Print : Nat := 17
abbrev n_cmd_Keys_Feed_1 : Nat := 18
abbrev n_cmd_reader_ends : Nat := 19
abbrev n_cmd_reader_quoted : Nat := 20
abbrev n_cmd_reader_word : Nat := 21
abbrev n_mux_Right : Nat := 22
abbrev n_cmd_isNumber : Nat := 23
abbrev n_hand_Pick : Nat := 24
abbrev n_ref22_Digits : Nat := 25
abbrev n_ref15_IsName : Nat := 26
abbrev n_ref22_number : Nat := 27
abbrev n_cmd_shown : Nat := 28
abbrev n_strings_Join : Nat := 29
abbrev n_ref22_word : Nat := 30
abbrev n_cmd_plain : Nat := 31
abbrev n_cmd_number : Nat := 32
abbrev n_ref22_below : Nat := 33
abbrev n_ref15_plain : Nat := 34
abbrev n_strings_Builder_Grow : Nat := 35
abbrev n_strings_Builder_WriteString : Nat := 36
abbrev n_strings_Builder_String : Nat := 37
abbrev n_ref22_bare : Nat := 38
abbrev n_strconv_Atoi : Nat := 39
abbrev n_strings_Builder_copyCheck : Nat := 40
abbrev n_strings_Builder_grow : Nat := 41
abbrev n_strconv_Atoix : Nat := 42
abbrev n_strconv_toError : Nat := 43
abbrev n_abi_NoEscape : Nat := 44
abbrev n_bytealg_MakeNoZero : Nat := 45
abbrev n_strconv_ParseInt : Nat := 46
abbrev n_strconv_syntaxError : Nat := 47
abbrev n_strconv_rangeError : Nat := 48
abbrev n_strconv_baseError : Nat := 49
abbrev n_strconv_bitSizeError : Nat := 50
abbrev n_strconv_ParseUint : Nat := 51
abbrev n_stringslite_Clone : Nat := 52
abbrev n_errors_New : Nat := 53
abbrev n_strconv_Itoa : Nat := 54
abbrev n_strconv_lower : Nat := 55
abbrev n_strconv_underscoreOK : Nat := 56
abbrev n_strconv_Itoax : Nat := 57
abbrev n_strconv_FormatInt : Nat := 58
abbrev n_strconv_small : Nat := 59
abbrev n_strconv_numDigits : Nat := 60
abbrev n_strconv_formatBase10 : Nat := 61
abbrev n_strconv_formatBits : Nat := 62
abbrev n_strconv_log10Pow2 : Nat := 63
abbrev n_math_bits_Len64 : Nat := 64
abbrev n_strconv_bool2_int : Nat := 65
abbrev n_strconv_isPowerOfTwo : Nat := 66
abbrev n_math_bits_TrailingZeros : Nat := 67
abbrev n_math_bits_TrailingZeros32 : Nat := 68
abbrev n_math_bits_TrailingZeros64 : Nat := 69
abbrev n_runtime_boundsError_Error : Nat := 70
abbrev n_runtime_boundsError_RuntimeError : Nat := 71
abbrev n_runtime_errorString_Error : Nat := 72
abbrev n_runtime_errorString_RuntimeError : Nat := 73
abbrev n_runtime_plainError_Error : Nat := 74
abbrev n_runtime_plainError_RuntimeError : Nat := 75
abbrev n_runtime_errorAddressString_Error : Nat := 76
abbrev n_runtime_errorAddressString_RuntimeError : Nat := 77
abbrev n_runtime_TypeAssertionError_Error : Nat := 78
abbrev n_runtime_TypeAssertionError_RuntimeError : Nat := 79
abbrev n_runtime_PanicNilError_Error : Nat := 80
abbrev n_runtime_PanicNilError_RuntimeError : Nat := 81
abbrev n_abi_Type_Align : Nat := 82
abbrev n_runtime_maps_unhashableTypeError_Error : Nat := 83
abbrev n_runtime_maps_unhashableTypeError_RuntimeError : Nat := 84
abbrev n_strings_Builder_Reset : Nat := 85
abbrev n_strconv_Error_Error : Nat := 86
abbrev n_strconv_NumError_Error : Nat := 87
abbrev n_errors_errorString_Error : Nat := 88
abbrev n_abi_Kind_String : Nat := 89
abbrev n_var_s_door_gosem_cut_vars_holds_initialisers_alone_see_the_manifest_s_row_cutvarsword_look_11_test_files_too : Nat := 90
abbrev n_var_s_door_strconv_uint64pow10_is_laid_by_its_own_initialiser_plain_data_look_11 : Nat := 91
abbrev n_var_s_door_math_bits_deBruijn32tab_is_laid_by_its_own_initialiser_plain_data_look_11 : Nat := 92
abbrev n_var_s_door_math_bits_deBruijn64tab_is_laid_by_its_own_initialiser_plain_data_look_11 : Nat := 93
abbrev n_var_s_door_strconv_ErrRange_is_laid_by_its_own_call_of_errors_New_on_one_literal_look_11 : Nat := 94
abbrev n_var_s_door_strconv_ErrSyntax_is_laid_by_its_own_call_of_errors_New_on_one_literal_look_11 : Nat := 95
abbrev n_var_s_door_the_look_of_gosem_cut_vars_went_over_the_folder_that_the_caller_named_as_the_repository_s_root_look_11 : Nat := 96
abbrev n_gosem_cut_vars : Nat := 97
abbrev t_int64 : Nat := 2
abbrev t_int : Nat := 3
abbrev t_bool : Nat := 4
abbrev t_uint8 : Nat := 5
abbrev t_abi_BoundsErrorCode : Nat := 6
abbrev t_runtime_boundsError : Nat := 8
abbrev t_string : Nat := 9
abbrev t_runtime_errorString : Nat := 10
abbrev t_runtime_plainError : Nat := 11
abbrev t_uintptr : Nat := 12
abbrev t_runtime_errorAddressString : Nat := 14
abbrev t_P_runtime_TypeAssertionError : Nat := 15
abbrev t_P_runtime_PanicNilError : Nat := 16
abbrev t_P_abi_Type : Nat := 17
abbrev t_maps_unhashableTypeError : Nat := 19
abbrev t_int32 : Nat := 21
abbrev t_S_uint8 : Nat := 22
abbrev t_P_cmd_Keys : Nat := 23
abbrev t_S_cmd_Press : Nat := 26
abbrev t_cmd_Press : Nat := 29
abbrev t_S_cmd_Command : Nat := 32
abbrev t_api_Errno : Nat := 33
abbrev t_S_string : Nat := 37
abbrev t_cmd_Command : Nat := 39
abbrev t_S_law24_Raw : Nat := 41
abbrev t_law24_Raw : Nat := 44
abbrev t_cmd_Keys : Nat := 49
abbrev t_P_cmd_reader : Nat := 50
abbrev t_cmd_reader : Nat := 52
abbrev t_20_string : Nat := 54
abbrev t_5_string : Nat := 57
abbrev t_3_string : Nat := 58
abbrev t_4_string : Nat := 59
abbrev t_P_strings_Builder : Nat := 66
abbrev t_strings_Builder : Nat := 68
abbrev t_error : Nat := 71
abbrev t_P_uint8 : Nat := 75
abbrev t_unsafe_Pointer : Nat := 77
abbrev t_strconv_Error : Nat := 80
abbrev t_P_strconv_NumError : Nat := 83
abbrev t_uint64 : Nat := 86
abbrev t_uint : Nat := 89
abbrev t_strconv_NumError : Nat := 92
abbrev t_P_errors_errorString : Nat := 95
abbrev t_errors_errorString : Nat := 97
abbrev t_24_uint8 : Nat := 99
abbrev t_20_uint64 : Nat := 106
abbrev t_uint32 : Nat := 107
abbrev t_65_uint8 : Nat := 108
abbrev t_32_uint8 : Nat := 112
abbrev t_64_uint8 : Nat := 113
abbrev t_runtime_TypeAssertionError : Nat := 115
abbrev t_0_P_runtime_PanicNilError : Nat := 116
abbrev t_runtime_PanicNilError : Nat := 118
abbrev t_abi_TFlag : Nat := 120
abbrev t_abi_Kind : Nat := 121
abbrev t_abi_NameOff : Nat := 123
abbrev t_abi_TypeOff : Nat := 124
abbrev t_abi_Type : Nat := 126
def cutsL : List (Nat × CT) := [(3, (.two .no (.two .no (.two (.two .no (.cut [(0, .sl), (1, .int .u8), (5, .ptr), (22, .bool)] .no)) (.two .no (.two .no (.two (.two .no (.one (.lp [(0, .sl), (1, .int .u8), (5, .ptr), (6, .str), (7, .str), (8, .int .i64)] (.two .no (.two .no (.cut [(0, .sl), (1, .int .u8), (5, .ptr), (6, .str), (7, .str), (8, .int .i64)] .no)))))) (.two .no (.two (.two .no (.one (.lp [(1, .int .u8), (5, .ptr), (6, .str), (7, .str), (9, .sl), (10, .int .i64)] .no))) .no))))))))),
  (4, (.two .no (.two .no (.two (.two .no (.one (.lp [(0, .sl), (3, .sl), (4, .int .i64)] (.two (.two .no (.cut [(0, .sl), (3, .sl), (4, .int .i64), (13, .bool)] .no)) (.two (.one (.two .no (.two (.two .no (.cut [(0, .sl), (3, .sl), (4, .int .i64), (5, .any), (32, .bool)] .no)) .no))) .no))))) .no)))),
  (8, (.two .no (.two .no (.two .no (.two .no (.two (.two .no (.one (.lp [(0, .ptr), (5, .any), (6, .any), (7, .any), (13, .sl), (14, .int .i64), (15, .int .i64)] (.two .no (.two .no (.two (.one (.two .no (.two .no (.two (.one (.two .no (.cut [(0, .ptr), (5, .any), (6, .any), (7, .any), (9, .int .u8), (10, .str), (11, .bool), (13, .sl), (14, .int .i64), (15, .int .i64), (24, .bool)] (.two .no (.two .no (.cut [(0, .ptr), (5, .any), (6, .any), (7, .any), (9, .int .u8), (10, .str), (11, .bool), (13, .sl), (14, .int .i64), (15, .int .i64), (37, .bool)] .no)))))) (.cut [(0, .ptr), (5, .any), (6, .any), (7, .any), (13, .sl), (14, .int .i64), (15, .int .i64)] .no))))) (.cut [(0, .ptr), (5, .any), (6, .any), (7, .any), (13, .sl), (14, .int .i64), (15, .int .i64)] .no))))))) .no)))))),
  (9, (.two .no (.two .no (.two (.two .no (.cut [(0, .int .u8), (26, .bool)] .no)) .no)))),
  (10, (.two .no (.two .no (.two .no (.two (.one (.lp [(4, .ptr)] (.two .no (.one (.two .no (.two .no (.cut [(4, .ptr), (5, .bool)] (.two .no (.cut [(4, .ptr), (74, .bool)] .no))))))))) .no))))),
  (11, (.two .no (.two .no (.two (.two .no (.one (.two .no (.cut [(3, .sl), (7, .str), (8, .bool)] (.two .no (.two .no (.cut [(3, .sl), (7, .str), (17, .bool)] (.two .no (.two .no (.cut [(3, .sl), (7, .str), (29, .bool)] .no)))))))))) .no)))),
  (12, (.two .no (.two .no (.two .no (.two .no (.two (.two .no (.one (.two .no (.cut [(1, .any), (2, .any), (4, .any), (5, .str), (17, .str), (18, .bool)] (.two .no (.two .no (.cut [(1, .any), (2, .any), (4, .any), (5, .str), (17, .str), (28, .bool)] .no))))))) (.cut [(1, .any), (2, .any), (4, .any)] .no))))))),
  (13, (.two .no (.two .no (.two (.two .no (.one (.two .no (.cut [(1, .any), (3, .int .i64), (8, .str), (9, .bool)] (.two .no (.two .no (.cut [(1, .any), (3, .int .i64), (8, .str), (17, .bool)] (.two .no (.two .no (.cut [(1, .any), (3, .int .i64), (8, .str), (29, .bool)] .no)))))))))) .no)))),
  (14, (.two .no (.two (.one (.two .no (.two .no (.two .no (.cut [(7, .bool)] .no))))) .no))),
  (15, (.two .no (.two (.one (.two .no (.two .no (.two .no (.cut [(7, .bool)] .no))))) .no))),
  (16, (.two .no (.two .no (.two (.two .no (.one (.lp [(3, .sl), (11, .sl), (12, .int .i64), (13, .int .i64)] (.two .no (.two .no (.two (.one (.two .no (.two .no (.two (.two .no (.one (.lp [(3, .sl), (5, .any), (6, .sl), (11, .sl), (12, .int .i64), (13, .int .i64), (22, .sl), (23, .int .i64), (24, .int .i64)] (.two .no (.two .no (.two (.one (.two .no (.two .no (.two (.two .no (.cut [(3, .sl), (5, .any), (6, .sl), (9, .str), (11, .sl), (12, .int .i64), (13, .int .i64), (22, .sl), (23, .int .i64), (24, .int .i64), (39, .bool)] .no)) .no)))) .no)))))) .no)))) .no)))))) .no)))),
  (17, (.two .no (.two .no (.two (.two .no (.one (.lp [(0, .sl), (3, .str), (4, .int .i64)] (.two .no (.two (.one (.two .no (.two .no (.cut [(0, .sl), (3, .str), (4, .int .i64)] (.two .no (.two .no (.two .no (.two .no (.one (.lp [(0, .sl), (3, .str), (4, .int .i64), (7, .int .i64)] .no)))))))))) .no))))) .no)))),
  (18, (.two .no (.cut [(0, .ptr)] .no))),
  (19, (.two .no (.cut [(0, .ptr)] .no))),
  (20, (.two .no (.two .no (.two (.two .no (.one (.lp [(0, .ptr), (3, .sl), (4, .int .i64)] (.two .no (.two (.one (.two .no (.two (.one (.two .no (.cut [(0, .ptr), (3, .sl), (4, .int .i64), (5, .int .u8), (21, .bool)] (.two .no (.two .no (.two .no (.two .no (.two (.two .no (.two (.two .no (.cut [(0, .ptr), (3, .sl), (4, .int .i64), (81, .bool)] .no)) .no)) .no)))))))) (.cut [(0, .ptr), (3, .sl), (4, .int .i64), (5, .int .u8)] .no)))) .no))))) .no)))),
  (21, (.two .no (.two .no (.two (.one (.lp [(0, .ptr), (3, .int .i64)] (.two (.two .no (.cut [(0, .ptr), (3, .int .i64), (19, .bool)] .no)) .no))) .no)))),
  (22, (.two .no (.two (.two .no (.one (.lp [(0, .str), (3, .int .i64)] (.two .no (.two (.one (.two .no (.two .no (.cut [(0, .str), (3, .int .i64), (31, .bool)] .no)))) .no))))) .no))),
  (26, (.two .no (.two (.two .no (.one (.lp [(0, .str), (3, .int .i64)] .no))) .no))),
  (27, (.two .no (.two (.two .no (.cut [(0, .str), (22, .bool)] .no)) (.two .no (.two (.two .no (.one (.lp [(0, .str), (3, .int .i64), (4, .int .i64)] (.two .no (.two (.one (.two (.two .no (.cut [(0, .str), (3, .int .i64), (4, .int .i64), (38, .bool)] .no)) .no)) .no))))) .no))))),
  (28, (.two .no (.two .no (.two .no (.two (.two .no (.one (.lp [(0, .str), (4, .bool), (5, .sl), (6, .int .i64)] (.two .no (.two (.one (.two .no (.two (.two .no (.cut [(0, .str), (4, .bool), (5, .sl), (6, .int .i64), (7, .int .u8), (24, .bool)] .no)) (.two .no (.cut [(0, .str), (4, .bool), (5, .sl), (6, .int .i64), (7, .int .u8)] (.two (.two .no (.cut [(0, .str), (4, .bool), (5, .sl), (6, .int .i64), (7, .int .u8), (36, .bool)] .no)) (.cut [(0, .str), (4, .bool), (5, .sl), (6, .int .i64), (7, .int .u8)] .no))))))) .no))))) .no))))),
  (30, (.two .no (.two .no (.two .no (.two (.two .no (.one (.lp [(0, .str), (4, .bool), (5, .str), (6, .int .i64)] (.two .no (.two (.one (.two (.two .no (.cut [(0, .str), (4, .bool), (5, .str), (6, .int .i64), (24, .bool)] .no)) (.two .no (.cut [(0, .str), (4, .bool), (5, .str), (6, .int .i64)] (.two (.two .no (.cut [(0, .str), (4, .bool), (5, .str), (6, .int .i64), (41, .bool)] .no)) (.cut [(0, .str), (4, .bool), (5, .str), (6, .int .i64)] .no)))))) .no))))) .no))))),
  (32, (.two .no (.two (.two .no (.cut [(0, .str), (24, .bool)] .no)) (.two (.two .no (.one (.lp [(0, .str), (26, .any)] (.two .no (.two .no (.one (.two .no (.two .no (.cut [(0, .str), (26, .any), (35, .bool)] .no))))))))) .no)))),
  (42, (.two .no (.two .no (.two (.two .no (.cut [(0, .str), (30, .bool)] (.two (.two .no (.two (.two .no (.cut [(0, .str), (5, .str), (39, .bool)] .no)) (.cut [(0, .str), (5, .str)] (.two .no (.two (.two .no (.one (.lp [(5, .str), (6, .int .i64), (47, .sl), (48, .int .i64), (49, .int .i64)] .no))) .no))))) .no))) .no))))]

noncomputable def C : CProg := ⟨autoC (lookCT cutsL) [] Tryd.prog, fun f => if f = n_law24_known then some (sure n_law24_known n_law24_known) else if f = n_ref22_below then some (digP dig2) else if f = n_strings_Join then some joinP else none⟩
theorem exNN : ∃ n : Nat, n = 4000000000 := ⟨_, rfl⟩
noncomputable def NN : Nat := Classical.choose exNN
theorem NN_eq : NN = 4000000000 := Classical.choose_spec exNN
noncomputable def X (d : Nat) : CallF := callD C NN d
noncomputable def cd (f : Nat) (p : List Nat) : CCode := cdC (lookCT cutsL) [] Tryd.prog f p
noncomputable def rs (f : Nat) : List CRes := rsC [] Tryd.prog f
end Go.Proofs.YtnpmlgibjhjiiaaDoor.dec

namespace Go.Proofs.YtnpmlgibjhjiiaaDoor.dec
open Go Go.Cm
/-! porthole/cmd.Parse -/
noncomputable def cmd_Parse_k1111 (d : Nat) : Kt := run (X d) NN (cd 10 [1, 1, 1, 1]) (retK (rs 10)) [] (retK (rs 10))
noncomputable def cmd_Parse_l11100 (d : Nat) (m0 : Nat) : Kt := iter (fun k => run (X d) NN (cd 10 [1, 1, 1, 0, 0, 0]) (backK [(4, .ptr)] (opq k)) [(0, (cmd_Parse_k1111 d))] (retK (rs 10))) m0
noncomputable def cmd_Parse_p11100 (d : Nat) (m0 : Nat) (x4 : Nat) (H : Heap) : Res := opq (cmd_Parse_l11100 d m0) [(4, P0 x4)] H
noncomputable def cmd_Parse_p1110001011 (d : Nat) (m0 : Nat) (x4 : Nat) (x5 : Bool) (H : Heap) : Res := opq (run (X d) NN (cd 10 [1, 1, 1, 0, 0, 0, 1, 0, 1, 1, 0]) (backK [(4, .ptr)] (opq (cmd_Parse_l11100 d m0))) [(1, (backK [(4, .ptr)] (opq (cmd_Parse_l11100 d m0)))), (0, (cmd_Parse_k1111 d))] (retK (rs 10))) [(4, P0 x4), (5, .bool x5)] H
noncomputable def cmd_Parse_p111000101101 (d : Nat) (m0 : Nat) (x4 : Nat) (x74 : Bool) (H : Heap) : Res := opq (run (X d) NN (cd 10 [1, 1, 1, 0, 0, 0, 1, 0, 1, 1, 0, 1, 0]) (backK [(4, .ptr)] (opq (cmd_Parse_l11100 d m0))) [(1, (backK [(4, .ptr)] (opq (cmd_Parse_l11100 d m0)))), (0, (cmd_Parse_k1111 d))] (retK (rs 10))) [(4, P0 x4), (74, .bool x74)] H
theorem cmd_Parse_p11100_s (d : Nat) (m0 : Nat) (x4 : Nat) (H : Heap) : cmd_Parse_p11100 d (m0 + 1) x4 H =
  optK (Heap.ld1 H ⟨x4, 0, none⟩) fun v1 =>
  asS v1 fun s2 =>
  if (!sEq s2 (S [])) = true then
  (optK (Heap.ld1 H ⟨x4, 0, none⟩) fun v3 =>
    asS v3 fun s4 =>
    if 0 ≤ (0 : Int) ∧ (0 : Int) < (slen s4 : Int) then
    if (decide (bt s4 0 = 32)) = true then
    (optK (Heap.ld1 H ⟨x4, 0, none⟩) fun v5 =>
      asS v5 fun s6 =>
      if 0 ≤ (1 : Int) ∧ 1 ≤ (slen s6 : Int) then
      optK (Heap.st1 H ⟨x4, 0, none⟩ (.string (sSub s6 1 (slen s6)))) fun H7 =>
      cmd_Parse_p11100 d m0 x4 H7
      else none)
    else
    (if (decide (bt s4 0 = 59)) = true then
      (optK (Heap.ld1 H ⟨x4, 0, none⟩) fun v8 =>
        asS v8 fun s9 =>
        if 0 ≤ (1 : Int) ∧ 1 ≤ (slen s9 : Int) then
        optK (Heap.st1 H ⟨x4, 0, none⟩ (.string (sSub s9 1 (slen s9)))) fun H10 =>
        callK (X d n_cmd_reader_ends [P0 x4] H10) fun _ H12 =>
        cmd_Parse_p11100 d m0 x4 H12
        else none)
      else
      (if (decide (bt s4 0 = 34)) = true then
        (callK (X d n_cmd_reader_quoted [P0 x4] H) fun v13 H14 =>
          asB v13 fun b15 =>
          cmd_Parse_p1110001011 d m0 x4 b15 H14)
        else
        (callK (X d n_cmd_reader_word [P0 x4] H) fun v16 H17 =>
          asB v16 fun b18 =>
          cmd_Parse_p1110001011 d m0 x4 b18 H17)))
    else none)
  else
  (callK (X d n_cmd_reader_ends [P0 x4] H) fun _ H20 =>
    optK (Heap.ld1 H20 ⟨x4, 1, none⟩) fun v21 =>
    asSL v21 fun l22 =>
    some (.tuple #[l22.v, .int .i64 0], H20)) := (opq_app _ _ _).trans <| by kernel_rfl
theorem cmd_Parse_p1110001011_eq (d : Nat) (m0 : Nat) (x4 : Nat) (x5 : Bool) (H : Heap) : cmd_Parse_p1110001011 d m0 x4 x5 H =
  if (!x5) = true then
  (cmd_Parse_p111000101101 d m0 x4 true H)
  else
  (optK (Heap.ld1 H ⟨x4, 0, none⟩) fun v1 =>
    asS v1 fun s2 =>
    if (!sEq s2 (S [])) = true then
    (optK (Heap.ld1 H ⟨x4, 0, none⟩) fun v3 =>
      asS v3 fun s4 =>
      if 0 ≤ (0 : Int) ∧ (0 : Int) < (slen s4 : Int) then
      if (!decide (bt s4 0 = 32)) = true then
      (optK (Heap.ld1 H ⟨x4, 0, none⟩) fun v5 =>
        asS v5 fun s6 =>
        if 0 ≤ (0 : Int) ∧ (0 : Int) < (slen s6 : Int) then
        cmd_Parse_p111000101101 d m0 x4 (!decide (bt s6 0 = 59)) H
        else none)
      else
      (cmd_Parse_p111000101101 d m0 x4 false H)
      else none)
    else
    (cmd_Parse_p111000101101 d m0 x4 false H)) := (opq_app _ _ _).trans <| by kernel_rfl
theorem cmd_Parse_p111000101101_eq (d : Nat) (m0 : Nat) (x4 : Nat) (x74 : Bool) (H : Heap) : cmd_Parse_p111000101101 d m0 x4 x74 H =
  if x74 = true then
  (some (.tuple #[.slice none 0 0, .int .i64 5], H))
  else
  (cmd_Parse_p11100 d m0 x4 H) := (opq_app _ _ _).trans <| by kernel_rfl
theorem cmd_Parse_eq (d : Nat) (x0 : ByteArray) (H : Heap) : X (d + 1) n_cmd_Parse [.string x0] H =
  if (decide ((400 : Int) < (slen x0 : Int))) = true then
  (some (.tuple #[.slice none 0 0, .int .i64 6], H))
  else
  (newK H (.cells [.string x0, .slice none 0 0, .slice none 0 0] t_cmd_reader false 0 false) fun p1 H2 =>
    cmd_Parse_p11100 d NN p1 H2) := by kernel_rfl
end Go.Proofs.YtnpmlgibjhjiiaaDoor.dec

namespace Go.Proofs.YtnpmlgibjhjiiaaDoor.dec
open Go Go.Cm
/-! (*porthole/cmd.reader).ends -/
noncomputable def cmd_reader_ends_p1 (d : Nat) (x0 : Nat) (H : Heap) : Res := opq (run (X d) NN (cd 19 [1, 0]) (retK (rs 19)) [] (retK (rs 19))) [(0, P0 x0)] H
theorem cmd_reader_ends_p1_eq (d : Nat) (x0 : Nat) (H : Heap) : cmd_reader_ends_p1 d x0 H =
  optK (Heap.st1 H ⟨x0, 2, none⟩ (.slice none 0 0)) fun H1 =>
  some (.tuple #[], H1) := (opq_app _ _ _).trans <| by kernel_rfl
theorem cmd_reader_ends_eq (d : Nat) (x0 : Nat) (H : Heap) : X (d + 1) n_cmd_reader_ends [P0 x0] H =
  optK (Heap.ld1 H ⟨x0, 2, none⟩) fun v1 =>
  asSL v1 fun l2 =>
  if (decide ((0 : Int) < (l2.n : Int))) = true then
  (optK (Heap.ld1 H ⟨x0, 1, none⟩) fun v3 =>
    asSL v3 fun l4 =>
    optK (Heap.ld1 H ⟨x0, 2, none⟩) fun v5 =>
    asSL v5 fun l6 =>
    optK l6.a fun a7 =>
    if 0 ≤ (0 : Int) ∧ (0 : Int) < (l6.n : Int) then
    optK (Heap.ld1 H (ap a7 0)) fun v8 =>
    asS v8 fun s9 =>
    newK H (.cells [] t_string false 0 false) fun p10 H11 =>
    optK (Heap.ld1 H11 ⟨x0, 2, none⟩) fun v12 =>
    asSL v12 fun l13 =>
    optK (readD (.subSl t_string 1 true false false) [l13.v, .int .i64 1] H11) fun v14 =>
    asSL v14 fun l15 =>
    appendK t_string 1 16 false (.slice (some ⟨p10, 0, none⟩) 0 0) l15.v H11 fun v16 H17 =>
    asSL v16 fun l18 =>
    newK H17 (.cells [.string s9, l18.v] t_cmd_Command false 0 false) fun p19 H20 =>
    appendK t_cmd_Command 2 40 false l4.v (.slice (some ⟨p19, 0, none⟩) 1 1) H20 fun v21 H22 =>
    asSL v21 fun l23 =>
    optK (Heap.st1 H22 ⟨x0, 1, none⟩ l23.v) fun H24 =>
    chk (rdsOk [H, H11, H17, H20, H22, H24] [⟨.subSl t_string 1 true false false, [l13.v, .int .i64 1], v14, 0, 1⟩, ⟨.load 1 false, [.pointer (some ⟨x0, 2, none⟩)], v12, 0, 1⟩, ⟨.load 1 false, [.pointer (some (ap a7 0))], v8, 0, 2⟩, ⟨.load 1 false, [.pointer (some ⟨x0, 2, none⟩)], v5, 0, 2⟩, ⟨.load 1 false, [.pointer (some ⟨x0, 1, none⟩)], v3, 0, 3⟩]) (
      cmd_reader_ends_p1 d x0 H24)
    else none)
  else
  (cmd_reader_ends_p1 d x0 H) := by kernel_rfl
end Go.Proofs.YtnpmlgibjhjiiaaDoor.dec

namespace Go.Proofs.YtnpmlgibjhjiiaaDoor.dec
open Go Go.Cm
/-! (*porthole/cmd.reader).quoted -/
noncomputable def cmd_reader_quoted_k111 (d : Nat) : Kt := run (X d) NN (cd 20 [1, 1, 1]) (retK (rs 20)) [] (retK (rs 20))
noncomputable def cmd_reader_quoted_l11010 (d : Nat) (m0 : Nat) : Kt := iter (fun k => run (X d) NN (cd 20 [1, 1, 0, 1, 0, 0]) (backK [(0, .ptr), (3, .sl), (4, .int .i64)] (opq k)) [(0, (cmd_reader_quoted_k111 d))] (retK (rs 20))) m0
noncomputable def cmd_reader_quoted_k11010011 (d : Nat) (m0 : Nat) : Kt := run (X d) NN (cd 20 [1, 1, 0, 1, 0, 0, 1, 1]) (backK [(0, .ptr), (3, .sl), (4, .int .i64)] (opq (cmd_reader_quoted_l11010 d m0))) [(0, (cmd_reader_quoted_k111 d))] (retK (rs 20))
noncomputable def cmd_reader_quoted_k11010010011 (d : Nat) (m0 : Nat) : Kt := run (X d) NN (cd 20 [1, 1, 0, 1, 0, 0, 1, 0, 0, 1, 1]) (cmd_reader_quoted_k11010011 d m0) [(1, (cmd_reader_quoted_k11010011 d m0)), (0, (cmd_reader_quoted_k111 d))] (retK (rs 20))
noncomputable def cmd_reader_quoted_k110100100100101111011 (d : Nat) (m0 : Nat) : Kt := run (X d) NN (cd 20 [1, 1, 0, 1, 0, 0, 1, 0, 0, 1, 0, 0, 1, 0, 1, 1, 1, 1, 0, 1, 1]) (cmd_reader_quoted_k11010010011 d m0) [(2, (cmd_reader_quoted_k11010010011 d m0)), (1, (cmd_reader_quoted_k11010011 d m0)), (0, (cmd_reader_quoted_k111 d))] (retK (rs 20))
noncomputable def cmd_reader_quoted_p11010 (d : Nat) (m0 : Nat) (x0 : Nat) (x3 : Sl) (x4 : Int) (H : Heap) : Res := opq (cmd_reader_quoted_l11010 d m0) [(0, P0 x0), (3, x3.v), (4, .int .i64 x4)] H
noncomputable def cmd_reader_quoted_p1101001001001 (d : Nat) (m0 : Nat) (x0 : Nat) (x3 : Sl) (x4 : Int) (x5 : Int) (x21 : Bool) (H : Heap) : Res := opq (run (X d) NN (cd 20 [1, 1, 0, 1, 0, 0, 1, 0, 0, 1, 0, 0, 1, 0]) (cmd_reader_quoted_k11010010011 d m0) [(2, (cmd_reader_quoted_k11010010011 d m0)), (1, (cmd_reader_quoted_k11010011 d m0)), (0, (cmd_reader_quoted_k111 d))] (retK (rs 20))) [(0, P0 x0), (3, x3.v), (4, .int .i64 x4), (5, .int .u8 x5), (21, .bool x21)] H
noncomputable def cmd_reader_quoted_p1101001001001011110101 (d : Nat) (m0 : Nat) (x0 : Nat) (x3 : Sl) (x4 : Int) (x81 : Bool) (H : Heap) : Res := opq (run (X d) NN (cd 20 [1, 1, 0, 1, 0, 0, 1, 0, 0, 1, 0, 0, 1, 0, 1, 1, 1, 1, 0, 1, 0, 1, 0]) (cmd_reader_quoted_k110100100100101111011 d m0) [(2, (cmd_reader_quoted_k11010010011 d m0)), (1, (cmd_reader_quoted_k11010011 d m0)), (0, (cmd_reader_quoted_k111 d))] (retK (rs 20))) [(0, P0 x0), (3, x3.v), (4, .int .i64 x4), (81, .bool x81)] H
noncomputable def cmd_reader_quoted_p11010010011 (d : Nat) (m0 : Nat) (x0 : Nat) (x3 : Sl) (x4 : Int) (x5 : Int) (H : Heap) : Res := opq (run (X d) NN (cd 20 [1, 1, 0, 1, 0, 0, 1, 0, 0, 1, 1, 0]) (cmd_reader_quoted_k11010011 d m0) [(1, (cmd_reader_quoted_k11010011 d m0)), (0, (cmd_reader_quoted_k111 d))] (retK (rs 20))) [(0, P0 x0), (3, x3.v), (4, .int .i64 x4), (5, .int .u8 x5)] H
theorem cmd_reader_quoted_p11010_s (d : Nat) (m0 : Nat) (x0 : Nat) (x3 : Sl) (x4 : Int) (H : Heap) : cmd_reader_quoted_p11010 d (m0 + 1) x0 x3 x4 H =
  optK (Heap.ld1 H ⟨x0, 0, none⟩) fun v1 =>
  asS v1 fun s2 =>
  if (decide (x4 < (slen s2 : Int))) = true then
  (optK (Heap.ld1 H ⟨x0, 0, none⟩) fun v3 =>
    asS v3 fun s4 =>
    if 0 ≤ x4 ∧ x4 < (slen s4 : Int) then
    if (decide (bt s4 ((x4).toNat) < 32)) = true then
    (cmd_reader_quoted_p1101001001001 d m0 x0 x3 x4 (bt s4 ((x4).toNat)) true H)
    else
    (cmd_reader_quoted_p1101001001001 d m0 x0 x3 x4 (bt s4 ((x4).toNat)) (decide ((126 : Int) < bt s4 ((x4).toNat))) H)
    else none)
  else
  (some (.bool false, H)) := (opq_app _ _ _).trans <| by kernel_rfl
theorem cmd_reader_quoted_p1101001001001_eq (d : Nat) (m0 : Nat) (x0 : Nat) (x3 : Sl) (x4 : Int) (x5 : Int) (x21 : Bool) (H : Heap) : cmd_reader_quoted_p1101001001001 d m0 x0 x3 x4 x5 x21 H =
  if x21 = true then
  (some (.bool false, H))
  else
  (if (decide (x5 = 34)) = true then
    (optK (Heap.ld1 H ⟨x0, 2, none⟩) fun v1 =>
      asSL v1 fun l2 =>
      optK (readD (.bytesStr) [x3.v] H) fun v3 =>
      asS v3 fun s4 =>
      newK H (.cells [.string s4] t_string false 0 false) fun p5 H6 =>
      appendK t_string 1 16 false l2.v (.slice (some ⟨p5, 0, none⟩) 1 1) H6 fun v7 H8 =>
      asSL v7 fun l9 =>
      optK (Heap.st1 H8 ⟨x0, 2, none⟩ l9.v) fun H10 =>
      chk (rdsOk [H, H6, H8, H10] [⟨.load 1 false, [.pointer (some ⟨x0, 2, none⟩)], v1, 0, 1⟩]) (
        optK (Heap.ld1 H10 ⟨x0, 0, none⟩) fun v11 =>
        asS v11 fun s12 =>
        if 0 ≤ IntKind.wrap .i64 (x4 + 1) ∧ IntKind.wrap .i64 (x4 + 1) ≤ (slen s12 : Int) then
        optK (Heap.st1 H10 ⟨x0, 0, none⟩ (.string (sSub s12 ((IntKind.wrap .i64 (x4 + 1)).toNat) (slen s12)))) fun H13 =>
        some (.bool true, H13)
        else none))
    else
    (if (decide (x5 = 92)) = true then
      (optK (Heap.ld1 H ⟨x0, 0, none⟩) fun v14 =>
        asS v14 fun s15 =>
        if (decide (IntKind.wrap .i64 (x4 + 1) = (slen s15 : Int))) = true then
        (cmd_reader_quoted_p1101001001001011110101 d m0 x0 x3 (IntKind.wrap .i64 (x4 + 1)) true H)
        else
        (optK (Heap.ld1 H ⟨x0, 0, none⟩) fun v16 =>
          asS v16 fun s17 =>
          if 0 ≤ IntKind.wrap .i64 (x4 + 1) ∧ IntKind.wrap .i64 (x4 + 1) < (slen s17 : Int) then
          if (!decide (bt s17 ((IntKind.wrap .i64 (x4 + 1)).toNat) = 34)) = true then
          (optK (Heap.ld1 H ⟨x0, 0, none⟩) fun v18 =>
            asS v18 fun s19 =>
            if 0 ≤ IntKind.wrap .i64 (x4 + 1) ∧ IntKind.wrap .i64 (x4 + 1) < (slen s19 : Int) then
            cmd_reader_quoted_p1101001001001011110101 d m0 x0 x3 (IntKind.wrap .i64 (x4 + 1)) (!decide (bt s19 ((IntKind.wrap .i64 (x4 + 1)).toNat) = 92)) H
            else none)
          else
          (cmd_reader_quoted_p1101001001001011110101 d m0 x0 x3 (IntKind.wrap .i64 (x4 + 1)) false H)
          else none))
      else
      (cmd_reader_quoted_p11010010011 d m0 x0 x3 x4 x5 H))) := (opq_app _ _ _).trans <| by kernel_rfl
theorem cmd_reader_quoted_p1101001001001011110101_eq (d : Nat) (m0 : Nat) (x0 : Nat) (x3 : Sl) (x4 : Int) (x81 : Bool) (H : Heap) : cmd_reader_quoted_p1101001001001011110101 d m0 x0 x3 x4 x81 H =
  if x81 = true then
  (some (.bool false, H))
  else
  (optK (Heap.ld1 H ⟨x0, 0, none⟩) fun v1 =>
    asS v1 fun s2 =>
    if 0 ≤ x4 ∧ x4 < (slen s2 : Int) then
    cmd_reader_quoted_p11010010011 d m0 x0 x3 x4 (bt s2 ((x4).toNat)) H
    else none) := (opq_app _ _ _).trans <| by kernel_rfl
theorem cmd_reader_quoted_p11010010011_eq (d : Nat) (m0 : Nat) (x0 : Nat) (x3 : Sl) (x4 : Int) (x5 : Int) (H : Heap) : cmd_reader_quoted_p11010010011 d m0 x0 x3 x4 x5 H =
  newK H (.cells [.int .u8 x5] t_uint8 false 0 false) fun p1 H2 =>
  appendK t_uint8 1 1 false x3.v (.slice (some ⟨p1, 0, none⟩) 1 1) H2 fun v3 H4 =>
  asSL v3 fun l5 =>
  cmd_reader_quoted_p11010 d m0 x0 l5 (IntKind.wrap .i64 (x4 + 1)) H4 := (opq_app _ _ _).trans <| by kernel_rfl
theorem cmd_reader_quoted_eq (d : Nat) (x0 : Nat) (H : Heap) : X (d + 1) n_cmd_reader_quoted [P0 x0] H =
  cmd_reader_quoted_p11010 d NN x0 Sl.nil 1 H := by kernel_rfl
end Go.Proofs.YtnpmlgibjhjiiaaDoor.dec

namespace Go.Proofs.YtnpmlgibjhjiiaaDoor.dec
open Go Go.Cm
/-! (*porthole/cmd.reader).word -/
noncomputable def cmd_reader_word_k111 (d : Nat) : Kt := run (X d) NN (cd 21 [1, 1, 1]) (retK (rs 21)) [] (retK (rs 21))
noncomputable def cmd_reader_word_l1100 (d : Nat) (m0 : Nat) : Kt := iter (fun k => run (X d) NN (cd 21 [1, 1, 0, 0, 0]) (backK [(0, .ptr), (3, .int .i64)] (opq k)) [(0, (cmd_reader_word_k111 d))] (retK (rs 21))) m0
noncomputable def cmd_reader_word_k110001 (d : Nat) (m0 : Nat) : Kt := run (X d) NN (cd 21 [1, 1, 0, 0, 0, 1]) (backK [(0, .ptr), (3, .int .i64)] (opq (cmd_reader_word_l1100 d m0))) [(0, (cmd_reader_word_k111 d))] (retK (rs 21))
noncomputable def cmd_reader_word_p1100 (d : Nat) (m0 : Nat) (x0 : Nat) (x3 : Int) (H : Heap) : Res := opq (cmd_reader_word_l1100 d m0) [(0, P0 x0), (3, .int .i64 x3)] H
noncomputable def cmd_reader_word_p1100001 (d : Nat) (m0 : Nat) (x0 : Nat) (x3 : Int) (x19 : Bool) (H : Heap) : Res := opq (run (X d) NN (cd 21 [1, 1, 0, 0, 0, 0, 1, 0]) (cmd_reader_word_k110001 d m0) [(0, (cmd_reader_word_k111 d))] (retK (rs 21))) [(0, P0 x0), (3, .int .i64 x3), (19, .bool x19)] H
theorem cmd_reader_word_p1100_s (d : Nat) (m0 : Nat) (x0 : Nat) (x3 : Int) (H : Heap) : cmd_reader_word_p1100 d (m0 + 1) x0 x3 H =
  optK (Heap.ld1 H ⟨x0, 0, none⟩) fun v1 =>
  asS v1 fun s2 =>
  if (decide (x3 < (slen s2 : Int))) = true then
  (optK (Heap.ld1 H ⟨x0, 0, none⟩) fun v3 =>
    asS v3 fun s4 =>
    if 0 ≤ x3 ∧ x3 < (slen s4 : Int) then
    callK (X d n_cmd_plain [.int .u8 (bt s4 ((x3).toNat))] H) fun v5 H6 =>
    asB v5 fun b7 =>
    cmd_reader_word_p1100001 d m0 x0 x3 b7 H6
    else none)
  else
  (cmd_reader_word_p1100001 d m0 x0 x3 false H) := (opq_app _ _ _).trans <| by kernel_rfl
theorem cmd_reader_word_p1100001_eq (d : Nat) (m0 : Nat) (x0 : Nat) (x3 : Int) (x19 : Bool) (H : Heap) : cmd_reader_word_p1100001 d m0 x0 x3 x19 H =
  if x19 = true then
  (cmd_reader_word_p1100 d m0 x0 (IntKind.wrap .i64 (x3 + 1)) H)
  else
  (optK (Heap.ld1 H ⟨x0, 2, none⟩) fun v1 =>
    asSL v1 fun l2 =>
    optK (Heap.ld1 H ⟨x0, 0, none⟩) fun v3 =>
    asS v3 fun s4 =>
    if 0 ≤ x3 ∧ x3 ≤ (slen s4 : Int) then
    newK H (.cells [.string (sSub s4 0 ((x3).toNat))] t_string false 0 false) fun p5 H6 =>
    appendK t_string 1 16 false l2.v (.slice (some ⟨p5, 0, none⟩) 1 1) H6 fun v7 H8 =>
    asSL v7 fun l9 =>
    optK (Heap.st1 H8 ⟨x0, 2, none⟩ l9.v) fun H10 =>
    chk (rdsOk [H, H6, H8, H10] [⟨.load 1 false, [.pointer (some ⟨x0, 2, none⟩)], v1, 0, 1⟩]) (
      optK (Heap.ld1 H10 ⟨x0, 0, none⟩) fun v11 =>
      asS v11 fun s12 =>
      if 0 ≤ x3 ∧ x3 ≤ (slen s12 : Int) then
      optK (Heap.st1 H10 ⟨x0, 0, none⟩ (.string (sSub s12 ((x3).toNat) (slen s12)))) fun H13 =>
      some (.bool (decide ((0 : Int) < x3)), H13)
      else none)
    else none) := (opq_app _ _ _).trans <| by kernel_rfl
theorem cmd_reader_word_eq (d : Nat) (x0 : Nat) (H : Heap) : X (d + 1) n_cmd_reader_word [P0 x0] H =
  cmd_reader_word_p1100 d NN x0 0 H := by kernel_rfl
end Go.Proofs.YtnpmlgibjhjiiaaDoor.dec

namespace Go.Proofs.YtnpmlgibjhjiiaaDoor.dec
open Go Go.Cm
/-! porthole/cmd.plain -/
theorem cmd_plain_eq (d : Nat) (x0 : Int) (H : Heap) : X (d + 1) n_cmd_plain [.int .u8 x0] H =
  if (decide ((33 : Int) ≤ x0)) = true then
  (if (decide (x0 ≤ 126)) = true then
    (if (!decide (x0 = 59)) = true then
      (if (!decide (x0 = 34)) = true then
        (some (.bool (!decide (x0 = 92)), H))
        else
        (some (.bool false, H)))
      else
      (some (.bool false, H)))
    else
    (some (.bool false, H)))
  else
  (some (.bool false, H)) := by kernel_rfl
end Go.Proofs.YtnpmlgibjhjiiaaDoor.dec

namespace Go.Proofs.YtnpmlgibjhjiiaaDoor.dec
open Go Go.Cm
/-! porthole/cmd.shown -/
noncomputable def cmd_shown_k1111 (d : Nat) : Kt := run (X d) NN (cd 28 [1, 1, 1, 1]) (retK (rs 28)) [] (retK (rs 28))
noncomputable def cmd_shown_l111010 (d : Nat) (m0 : Nat) : Kt := iter (fun k => run (X d) NN (cd 28 [1, 1, 1, 0, 1, 0, 0]) (backK [(0, .str), (4, .bool), (5, .sl), (6, .int .i64)] (opq k)) [(0, (cmd_shown_k1111 d))] (retK (rs 28))) m0
noncomputable def cmd_shown_k111010011 (d : Nat) (m0 : Nat) : Kt := run (X d) NN (cd 28 [1, 1, 1, 0, 1, 0, 0, 1, 1]) (backK [(0, .str), (4, .bool), (5, .sl), (6, .int .i64)] (opq (cmd_shown_l111010 d m0))) [(0, (cmd_shown_k1111 d))] (retK (rs 28))
noncomputable def cmd_shown_k111010010011 (d : Nat) (m0 : Nat) : Kt := run (X d) NN (cd 28 [1, 1, 1, 0, 1, 0, 0, 1, 0, 0, 1, 1]) (cmd_shown_k111010011 d m0) [(1, (cmd_shown_k111010011 d m0)), (0, (cmd_shown_k1111 d))] (retK (rs 28))
noncomputable def cmd_shown_k111010010011101 (d : Nat) (m0 : Nat) : Kt := run (X d) NN (cd 28 [1, 1, 1, 0, 1, 0, 0, 1, 0, 0, 1, 1, 1, 0, 1]) (cmd_shown_k111010011 d m0) [(1, (cmd_shown_k111010011 d m0)), (0, (cmd_shown_k1111 d))] (retK (rs 28))
noncomputable def cmd_shown_p111010 (d : Nat) (m0 : Nat) (x0 : ByteArray) (x4 : Bool) (x5 : Sl) (x6 : Int) (H : Heap) : Res := opq (cmd_shown_l111010 d m0) [(0, .string x0), (4, .bool x4), (5, x5.v), (6, .int .i64 x6)] H
noncomputable def cmd_shown_p1110100100101 (d : Nat) (m0 : Nat) (x0 : ByteArray) (x4 : Bool) (x5 : Sl) (x6 : Int) (x7 : Int) (x24 : Bool) (H : Heap) : Res := opq (run (X d) NN (cd 28 [1, 1, 1, 0, 1, 0, 0, 1, 0, 0, 1, 0, 1, 0]) (cmd_shown_k111010010011 d m0) [(1, (cmd_shown_k111010011 d m0)), (0, (cmd_shown_k1111 d))] (retK (rs 28))) [(0, .string x0), (4, .bool x4), (5, x5.v), (6, .int .i64 x6), (7, .int .u8 x7), (24, .bool x24)] H
noncomputable def cmd_shown_p1110100100111 (d : Nat) (m0 : Nat) (x0 : ByteArray) (x4 : Bool) (x5 : Sl) (x6 : Int) (x7 : Int) (H : Heap) : Res := opq (run (X d) NN (cd 28 [1, 1, 1, 0, 1, 0, 0, 1, 0, 0, 1, 1, 1, 0]) (cmd_shown_k111010011 d m0) [(1, (cmd_shown_k111010011 d m0)), (0, (cmd_shown_k1111 d))] (retK (rs 28))) [(0, .string x0), (4, .bool x4), (5, x5.v), (6, .int .i64 x6), (7, .int .u8 x7)] H
noncomputable def cmd_shown_p1110100100111001 (d : Nat) (m0 : Nat) (x0 : ByteArray) (x4 : Bool) (x5 : Sl) (x6 : Int) (x7 : Int) (x36 : Bool) (H : Heap) : Res := opq (run (X d) NN (cd 28 [1, 1, 1, 0, 1, 0, 0, 1, 0, 0, 1, 1, 1, 0, 0, 1, 0]) (cmd_shown_k111010010011101 d m0) [(1, (cmd_shown_k111010011 d m0)), (0, (cmd_shown_k1111 d))] (retK (rs 28))) [(0, .string x0), (4, .bool x4), (5, x5.v), (6, .int .i64 x6), (7, .int .u8 x7), (36, .bool x36)] H
noncomputable def cmd_shown_p111010010011101 (d : Nat) (m0 : Nat) (x0 : ByteArray) (x4 : Bool) (x5 : Sl) (x6 : Int) (x7 : Int) (H : Heap) : Res := opq (run (X d) NN (cd 28 [1, 1, 1, 0, 1, 0, 0, 1, 0, 0, 1, 1, 1, 0, 1, 0]) (cmd_shown_k111010011 d m0) [(1, (cmd_shown_k111010011 d m0)), (0, (cmd_shown_k1111 d))] (retK (rs 28))) [(0, .string x0), (4, .bool x4), (5, x5.v), (6, .int .i64 x6), (7, .int .u8 x7)] H
theorem cmd_shown_p111010_s (d : Nat) (m0 : Nat) (x0 : ByteArray) (x4 : Bool) (x5 : Sl) (x6 : Int) (H : Heap) : cmd_shown_p111010 d (m0 + 1) x0 x4 x5 x6 H =
  if (decide (x6 < (slen x0 : Int))) = true then
  (if 0 ≤ x6 ∧ x6 < (slen x0 : Int) then
    if (decide (bt x0 ((x6).toNat) < 32)) = true then
    (cmd_shown_p1110100100101 d m0 x0 x4 x5 x6 (bt x0 ((x6).toNat)) true H)
    else
    (cmd_shown_p1110100100101 d m0 x0 x4 x5 x6 (bt x0 ((x6).toNat)) (decide ((126 : Int) < bt x0 ((x6).toNat))) H)
    else none)
  else
  (if x4 = true then
    (optK (readD (.bytesStr) [x5.v] H) fun v1 =>
      asS v1 fun s2 =>
      if slen (S [34]) + slen s2 ≤ 9223372036854775807 then
      if slen (sCat (S [34]) s2) + slen (S [34]) ≤ 9223372036854775807 then
      some (.tuple #[.string (sCat (sCat (S [34]) s2) (S [34])), .bool true], H)
      else none
      else none)
    else
    (optK (readD (.bytesStr) [x5.v] H) fun v3 =>
      asS v3 fun s4 =>
      some (.tuple #[.string s4, .bool true], H))) := (opq_app _ _ _).trans <| by kernel_rfl
theorem cmd_shown_p1110100100101_eq (d : Nat) (m0 : Nat) (x0 : ByteArray) (x4 : Bool) (x5 : Sl) (x6 : Int) (x7 : Int) (x24 : Bool) (H : Heap) : cmd_shown_p1110100100101 d m0 x0 x4 x5 x6 x7 x24 H =
  if x24 = true then
  (some (.tuple #[.string (S []), .bool false], H))
  else
  (if x4 = true then
    (cmd_shown_p1110100100111 d m0 x0 true x5 x6 x7 H)
    else
    (callK (X d n_cmd_plain [.int .u8 x7] H) fun v1 H2 =>
      asB v1 fun b3 =>
      cmd_shown_p1110100100111 d m0 x0 (!b3) x5 x6 x7 H2)) := (opq_app _ _ _).trans <| by kernel_rfl
theorem cmd_shown_p1110100100111_eq (d : Nat) (m0 : Nat) (x0 : ByteArray) (x4 : Bool) (x5 : Sl) (x6 : Int) (x7 : Int) (H : Heap) : cmd_shown_p1110100100111 d m0 x0 x4 x5 x6 x7 H =
  if (decide (x7 = 34)) = true then
  (cmd_shown_p1110100100111001 d m0 x0 x4 x5 x6 x7 true H)
  else
  (cmd_shown_p1110100100111001 d m0 x0 x4 x5 x6 x7 (decide (x7 = 92)) H) := (opq_app _ _ _).trans <| by kernel_rfl
theorem cmd_shown_p1110100100111001_eq (d : Nat) (m0 : Nat) (x0 : ByteArray) (x4 : Bool) (x5 : Sl) (x6 : Int) (x7 : Int) (x36 : Bool) (H : Heap) : cmd_shown_p1110100100111001 d m0 x0 x4 x5 x6 x7 x36 H =
  if x36 = true then
  (newK H (.cells [.int .u8 92] t_uint8 false 0 false) fun p1 H2 =>
    appendK t_uint8 1 1 false x5.v (.slice (some ⟨p1, 0, none⟩) 1 1) H2 fun v3 H4 =>
    asSL v3 fun l5 =>
    cmd_shown_p111010010011101 d m0 x0 x4 l5 x6 x7 H4)
  else
  (cmd_shown_p111010010011101 d m0 x0 x4 x5 x6 x7 H) := (opq_app _ _ _).trans <| by kernel_rfl
theorem cmd_shown_p111010010011101_eq (d : Nat) (m0 : Nat) (x0 : ByteArray) (x4 : Bool) (x5 : Sl) (x6 : Int) (x7 : Int) (H : Heap) : cmd_shown_p111010010011101 d m0 x0 x4 x5 x6 x7 H =
  newK H (.cells [.int .u8 x7] t_uint8 false 0 false) fun p1 H2 =>
  appendK t_uint8 1 1 false x5.v (.slice (some ⟨p1, 0, none⟩) 1 1) H2 fun v3 H4 =>
  asSL v3 fun l5 =>
  cmd_shown_p111010 d m0 x0 x4 l5 (IntKind.wrap .i64 (x6 + 1)) H4 := (opq_app _ _ _).trans <| by kernel_rfl
theorem cmd_shown_eq (d : Nat) (x0 : ByteArray) (H : Heap) : X (d + 1) n_cmd_shown [.string x0] H =
  cmd_shown_p111010 d NN x0 (sEq x0 (S [])) Sl.nil 0 H := by kernel_rfl
end Go.Proofs.YtnpmlgibjhjiiaaDoor.dec

namespace Go.Proofs.YtnpmlgibjhjiiaaDoor.dec
open Go Go.Cm
/-! porthole/cmd.NewKeys -/
theorem cmd_NewKeys_eq (d : Nat) (H : Heap) : X (d + 1) n_cmd_NewKeys [] H =
  newK H (.cells [.bool false] t_cmd_Keys false 0 false) fun p1 H2 =>
  some (P0 p1, H2) := by kernel_rfl
end Go.Proofs.YtnpmlgibjhjiiaaDoor.dec

namespace Go.Proofs.YtnpmlgibjhjiiaaDoor.dec
open Go Go.Cm
/-! (*porthole/cmd.Keys).Feed -/
noncomputable def cmd_Keys_Feed_k11111 (d : Nat) : Kt := run (X d) NN (cd 8 [1, 1, 1, 1, 1]) (retK (rs 8)) [] (retK (rs 8))
noncomputable def cmd_Keys_Feed_l1111010 (d : Nat) (m0 : Nat) : Kt := iter (fun k => run (X d) NN (cd 8 [1, 1, 1, 1, 0, 1, 0, 0]) (backK [(0, .ptr), (5, .any), (6, .any), (7, .any), (13, .sl), (14, .int .i64), (15, .int .i64)] (opq k)) [(0, (cmd_Keys_Feed_k11111 d))] (retK (rs 8))) m0
noncomputable def cmd_Keys_Feed_k11110100111 (d : Nat) (m0 : Nat) : Kt := run (X d) NN (cd 8 [1, 1, 1, 1, 0, 1, 0, 0, 1, 1, 1]) (backK [(0, .ptr), (5, .any), (6, .any), (7, .any), (13, .sl), (14, .int .i64), (15, .int .i64)] (opq (cmd_Keys_Feed_l1111010 d m0))) [(0, (cmd_Keys_Feed_k11111 d))] (retK (rs 8))
noncomputable def cmd_Keys_Feed_k111101001100111 (d : Nat) (m0 : Nat) : Kt := run (X d) NN (cd 8 [1, 1, 1, 1, 0, 1, 0, 0, 1, 1, 0, 0, 1, 1, 1]) (cmd_Keys_Feed_k11110100111 d m0) [(1, (cmd_Keys_Feed_k11110100111 d m0)), (0, (cmd_Keys_Feed_k11111 d))] (retK (rs 8))
noncomputable def cmd_Keys_Feed_p1111010 (d : Nat) (m0 : Nat) (x0 : Nat) (x5 : Nat) (x6 : Nat) (x7 : Nat) (x7_1 : Nat) (x13 : Sl) (x14 : Int) (x15 : Int) (H : Heap) : Res := opq (cmd_Keys_Feed_l1111010 d m0) [(0, P0 x0), (5, P0 x5), (6, P0 x6), (7, .func (.func n_cmd_Keys_Feed_1) #[] #[P0 x7, P0 x7_1]), (13, x13.v), (14, .int .i64 x14), (15, .int .i64 x15)] H
noncomputable def cmd_Keys_Feed_p11110100110011001 (d : Nat) (m0 : Nat) (x0 : Nat) (x5 : Nat) (x6 : Nat) (x7 : Nat) (x7_1 : Nat) (x9 : Int) (x10 : ByteArray) (x11 : Bool) (x13 : Sl) (x14 : Int) (x15 : Int) (x24 : Bool) (H : Heap) : Res := opq (run (X d) NN (cd 8 [1, 1, 1, 1, 0, 1, 0, 0, 1, 1, 0, 0, 1, 1, 0, 0, 1, 0]) (cmd_Keys_Feed_k111101001100111 d m0) [(2, (cmd_Keys_Feed_k111101001100111 d m0)), (1, (cmd_Keys_Feed_k11110100111 d m0)), (0, (cmd_Keys_Feed_k11111 d))] (retK (rs 8))) [(0, P0 x0), (5, P0 x5), (6, P0 x6), (7, .func (.func n_cmd_Keys_Feed_1) #[] #[P0 x7, P0 x7_1]), (9, .int .u8 x9), (10, .string x10), (11, .bool x11), (13, x13.v), (14, .int .i64 x14), (15, .int .i64 x15), (24, .bool x24)] H
noncomputable def cmd_Keys_Feed_p11110100111 (d : Nat) (m0 : Nat) (x0 : Nat) (x5 : Nat) (x6 : Nat) (x7 : Nat) (x7_1 : Nat) (x13 : Sl) (x14 : Int) (x15 : Int) (H : Heap) : Res := opq (run (X d) NN (cd 8 [1, 1, 1, 1, 0, 1, 0, 0, 1, 1, 1, 0]) (backK [(0, .ptr), (5, .any), (6, .any), (7, .any), (13, .sl), (14, .int .i64), (15, .int .i64)] (opq (cmd_Keys_Feed_l1111010 d m0))) [(0, (cmd_Keys_Feed_k11111 d))] (retK (rs 8))) [(0, P0 x0), (5, P0 x5), (6, P0 x6), (7, .func (.func n_cmd_Keys_Feed_1) #[] #[P0 x7, P0 x7_1]), (13, x13.v), (14, .int .i64 x14), (15, .int .i64 x15)] H
noncomputable def cmd_Keys_Feed_p11110100110011001011 (d : Nat) (m0 : Nat) (x0 : Nat) (x5 : Nat) (x6 : Nat) (x7 : Nat) (x7_1 : Nat) (x9 : Int) (x10 : ByteArray) (x11 : Bool) (x13 : Sl) (x14 : Int) (x15 : Int) (x37 : Bool) (H : Heap) : Res := opq (run (X d) NN (cd 8 [1, 1, 1, 1, 0, 1, 0, 0, 1, 1, 0, 0, 1, 1, 0, 0, 1, 0, 1, 1, 0]) (cmd_Keys_Feed_k111101001100111 d m0) [(2, (cmd_Keys_Feed_k111101001100111 d m0)), (1, (cmd_Keys_Feed_k11110100111 d m0)), (0, (cmd_Keys_Feed_k11111 d))] (retK (rs 8))) [(0, P0 x0), (5, P0 x5), (6, P0 x6), (7, .func (.func n_cmd_Keys_Feed_1) #[] #[P0 x7, P0 x7_1]), (9, .int .u8 x9), (10, .string x10), (11, .bool x11), (13, x13.v), (14, .int .i64 x14), (15, .int .i64 x15), (37, .bool x37)] H
noncomputable def cmd_Keys_Feed_p111101001100111 (d : Nat) (m0 : Nat) (x0 : Nat) (x5 : Nat) (x6 : Nat) (x7 : Nat) (x7_1 : Nat) (x13 : Sl) (x14 : Int) (x15 : Int) (H : Heap) : Res := opq (run (X d) NN (cd 8 [1, 1, 1, 1, 0, 1, 0, 0, 1, 1, 0, 0, 1, 1, 1, 0]) (cmd_Keys_Feed_k11110100111 d m0) [(1, (cmd_Keys_Feed_k11110100111 d m0)), (0, (cmd_Keys_Feed_k11111 d))] (retK (rs 8))) [(0, P0 x0), (5, P0 x5), (6, P0 x6), (7, .func (.func n_cmd_Keys_Feed_1) #[] #[P0 x7, P0 x7_1]), (13, x13.v), (14, .int .i64 x14), (15, .int .i64 x15)] H
theorem cmd_Keys_Feed_p1111010_s (d : Nat) (m0 : Nat) (x0 : Nat) (x5 : Nat) (x6 : Nat) (x7 : Nat) (x7_1 : Nat) (x13 : Sl) (x14 : Int) (x15 : Int) (H : Heap) : cmd_Keys_Feed_p1111010 d (m0 + 1) x0 x5 x6 x7 x7_1 x13 x14 x15 H =
  if (decide (x15 < x14)) = true then
  (optK x13.a fun a1 =>
    if 0 ≤ x15 ∧ x15 < (x13.n : Int) then
    optK (Heap.ld1 H (ap a1 (((x15).toNat) * 1))) fun v2 =>
    asI .u8 v2 fun n3 =>
    callK (X d n_cmd_Bound [.int .u8 n3] H) fun v4 H5 =>
    castT [.str, .bool] v4 fun l6 =>
    castT [.str, .bool] (.tuple ⟨l6⟩) fun l7 =>
    optK l7[0]? fun v8 =>
    asS v8 fun s9 =>
    optK l7[1]? fun v10 =>
    asB v10 fun b11 =>
    optK (Heap.ld1 H5 ⟨x0, 0, none⟩) fun v12 =>
    asB v12 fun b13 =>
    if (!b13) = true then
    (cmd_Keys_Feed_p11110100110011001 d m0 x0 x5 x6 x7 x7_1 n3 s9 b11 x13 x14 x15 (decide (n3 = 2)) H5)
    else
    (cmd_Keys_Feed_p11110100110011001 d m0 x0 x5 x6 x7 x7_1 n3 s9 b11 x13 x14 x15 false H5)
    else none)
  else
  (callK (X d n_cmd_Keys_Feed_1 [P0 x7, P0 x7_1] H) fun _ H15 =>
    optK (Heap.ld1 H15 ⟨x5, 0, none⟩) fun v16 =>
    asSL v16 fun l17 =>
    some (l17.v, H15)) := (opq_app _ _ _).trans <| by kernel_rfl
theorem cmd_Keys_Feed_p11110100110011001_eq (d : Nat) (m0 : Nat) (x0 : Nat) (x5 : Nat) (x6 : Nat) (x7 : Nat) (x7_1 : Nat) (x9 : Int) (x10 : ByteArray) (x11 : Bool) (x13 : Sl) (x14 : Int) (x15 : Int) (x24 : Bool) (H : Heap) : cmd_Keys_Feed_p11110100110011001 d m0 x0 x5 x6 x7 x7_1 x9 x10 x11 x13 x14 x15 x24 H =
  if x24 = true then
  (optK (Heap.st1 H ⟨x0, 0, none⟩ (.bool true)) fun H1 =>
    cmd_Keys_Feed_p11110100111 d m0 x0 x5 x6 x7 x7_1 x13 x14 x15 H1)
  else
  (optK (Heap.ld1 H ⟨x0, 0, none⟩) fun v2 =>
    asB v2 fun b3 =>
    if (!b3) = true then
    (cmd_Keys_Feed_p11110100110011001011 d m0 x0 x5 x6 x7 x7_1 x9 x10 x11 x13 x14 x15 true H)
    else
    (cmd_Keys_Feed_p11110100110011001011 d m0 x0 x5 x6 x7 x7_1 x9 x10 x11 x13 x14 x15 (decide (x9 = 2)) H)) := (opq_app _ _ _).trans <| by kernel_rfl
theorem cmd_Keys_Feed_p11110100111_eq (d : Nat) (m0 : Nat) (x0 : Nat) (x5 : Nat) (x6 : Nat) (x7 : Nat) (x7_1 : Nat) (x13 : Sl) (x14 : Int) (x15 : Int) (H : Heap) : cmd_Keys_Feed_p11110100111 d m0 x0 x5 x6 x7 x7_1 x13 x14 x15 H =
  cmd_Keys_Feed_p1111010 d m0 x0 x5 x6 x7 x7_1 x13 x14 (IntKind.wrap .i64 (x15 + 1)) H := (opq_app _ _ _).trans <| by kernel_rfl
theorem cmd_Keys_Feed_p11110100110011001011_eq (d : Nat) (m0 : Nat) (x0 : Nat) (x5 : Nat) (x6 : Nat) (x7 : Nat) (x7_1 : Nat) (x9 : Int) (x10 : ByteArray) (x11 : Bool) (x13 : Sl) (x14 : Int) (x15 : Int) (x37 : Bool) (H : Heap) : cmd_Keys_Feed_p11110100110011001011 d m0 x0 x5 x6 x7 x7_1 x9 x10 x11 x13 x14 x15 x37 H =
  if x37 = true then
  (optK (Heap.ld1 H ⟨x6, 0, none⟩) fun v1 =>
    asSL v1 fun l2 =>
    newK H (.cells [.int .u8 x9] t_uint8 false 0 false) fun p3 H4 =>
    appendK t_uint8 1 1 false l2.v (.slice (some ⟨p3, 0, none⟩) 1 1) H4 fun v5 H6 =>
    asSL v5 fun l7 =>
    optK (Heap.st1 H6 ⟨x6, 0, none⟩ l7.v) fun H8 =>
    cmd_Keys_Feed_p111101001100111 d m0 x0 x5 x6 x7 x7_1 x13 x14 x15 H8)
  else
  (if x11 = true then
    (callK (X d n_cmd_Keys_Feed_1 [P0 x7, P0 x7_1] H) fun _ H10 =>
      optK (Heap.ld1 H10 ⟨x5, 0, none⟩) fun v11 =>
      asSL v11 fun l12 =>
      newK H10 (.cells [.slice none 0 0, .string x10] t_cmd_Press false 0 false) fun p13 H14 =>
      appendK t_cmd_Press 2 40 false l12.v (.slice (some ⟨p13, 0, none⟩) 1 1) H14 fun v15 H16 =>
      asSL v15 fun l17 =>
      optK (Heap.st1 H16 ⟨x5, 0, none⟩ l17.v) fun H18 =>
      cmd_Keys_Feed_p111101001100111 d m0 x0 x5 x6 x7 x7_1 x13 x14 x15 H18)
    else
    (cmd_Keys_Feed_p111101001100111 d m0 x0 x5 x6 x7 x7_1 x13 x14 x15 H)) := (opq_app _ _ _).trans <| by kernel_rfl
theorem cmd_Keys_Feed_p111101001100111_eq (d : Nat) (m0 : Nat) (x0 : Nat) (x5 : Nat) (x6 : Nat) (x7 : Nat) (x7_1 : Nat) (x13 : Sl) (x14 : Int) (x15 : Int) (H : Heap) : cmd_Keys_Feed_p111101001100111 d m0 x0 x5 x6 x7 x7_1 x13 x14 x15 H =
  optK (Heap.st1 H ⟨x0, 0, none⟩ (.bool false)) fun H1 =>
  cmd_Keys_Feed_p11110100111 d m0 x0 x5 x6 x7 x7_1 x13 x14 x15 H1 := (opq_app _ _ _).trans <| by kernel_rfl
theorem cmd_Keys_Feed_eq (d : Nat) (x0 : Nat) (x1 : Sl) (H : Heap) : X (d + 1) n_cmd_Keys_Feed [P0 x0, x1.v] H =
  newK H (.cells [.slice none 0 0] t_S_cmd_Press false 0 false) fun p1 H2 =>
  newK H2 (.cells [.slice none 0 0] t_S_uint8 false 0 false) fun p3 H4 =>
  cmd_Keys_Feed_p1111010 d NN x0 p1 p3 p3 p1 x1 (x1.n : Int) 0 H4 := by kernel_rfl
end Go.Proofs.YtnpmlgibjhjiiaaDoor.dec

namespace Go.Proofs.YtnpmlgibjhjiiaaDoor.dec
open Go Go.Cm
/-! porthole/cmd.Bound -/
noncomputable def cmd_Bound_k111 (d : Nat) : Kt := run (X d) NN (cd 9 [1, 1, 1]) (retK (rs 9)) [] (retK (rs 9))
noncomputable def cmd_Bound_p1101 (d : Nat) (x0 : Int) (x26 : Bool) (H : Heap) : Res := opq (run (X d) NN (cd 9 [1, 1, 0, 1, 0]) (cmd_Bound_k111 d) [] (retK (rs 9))) [(0, .int .u8 x0), (26, .bool x26)] H
theorem cmd_Bound_p1101_eq (d : Nat) (x0 : Int) (x26 : Bool) (H : Heap) : cmd_Bound_p1101 d x0 x26 H =
  if x26 = true then
  (if slen (S [115, 101, 108, 101, 99, 116, 45, 112, 97, 110, 101, 32]) + slen (Utf8.encode (IntKind.wrap .i32 x0)) ≤ 9223372036854775807 then
    some (.tuple #[.string (sCat (S [115, 101, 108, 101, 99, 116, 45, 112, 97, 110, 101, 32]) (Utf8.encode (IntKind.wrap .i32 x0))), .bool true], H)
    else none)
  else
  (some (.tuple #[.string (S []), .bool false], H)) := (opq_app _ _ _).trans <| by kernel_rfl
theorem cmd_Bound_eq (d : Nat) (x0 : Int) (H : Heap) : X (d + 1) n_cmd_Bound [.int .u8 x0] H =
  if (decide (x0 = 99)) = true then
  (some (.tuple #[.string (S [110, 101, 119, 45, 119, 105, 110, 100, 111, 119]), .bool true], H))
  else
  (if (decide (x0 = 38)) = true then
    (some (.tuple #[.string (S [107, 105, 108, 108, 45, 119, 105, 110, 100, 111, 119]), .bool true], H))
    else
    (if (decide (x0 = 37)) = true then
      (some (.tuple #[.string (S [115, 112, 108, 105, 116, 45, 119, 105, 110, 100, 111, 119, 32, 45, 104]), .bool true], H))
      else
      (if (decide (x0 = 34)) = true then
        (some (.tuple #[.string (S [115, 112, 108, 105, 116, 45, 119, 105, 110, 100, 111, 119, 32, 45, 118]), .bool true], H))
        else
        (if (decide (x0 = 120)) = true then
          (some (.tuple #[.string (S [107, 105, 108, 108, 45, 112, 97, 110, 101]), .bool true], H))
          else
          (if (decide (x0 = 122)) = true then
            (some (.tuple #[.string (S [122, 111, 111, 109]), .bool true], H))
            else
            (if (decide (x0 = 111)) = true then
              (some (.tuple #[.string (S [115, 101, 108, 101, 99, 116, 45, 112, 97, 110, 101, 32, 48]), .bool true], H))
              else
              (if (decide (x0 = 93)) = true then
                (some (.tuple #[.string (S [112, 97, 115, 116, 101, 32, 48]), .bool true], H))
                else
                (if (decide ((48 : Int) ≤ x0)) = true then
                  (cmd_Bound_p1101 d x0 (decide (x0 ≤ 57)) H)
                  else
                  (cmd_Bound_p1101 d x0 false H))))))))) := by kernel_rfl
end Go.Proofs.YtnpmlgibjhjiiaaDoor.dec

namespace Go.Proofs.YtnpmlgibjhjiiaaDoor.dec
open Go Go.Cm
/-! (*porthole/cmd.Keys).Feed$1 -/
noncomputable def cmd_Keys_Feed_1_p1 (d : Nat) (x0 : Nat) (H : Heap) : Res := opq (run (X d) NN (cd 18 [1, 0]) (retK (rs 18)) [] (retK (rs 18))) [(0, P0 x0)] H
theorem cmd_Keys_Feed_1_p1_eq (d : Nat) (x0 : Nat) (H : Heap) : cmd_Keys_Feed_1_p1 d x0 H =
  optK (Heap.st1 H ⟨x0, 0, none⟩ (.slice none 0 0)) fun H1 =>
  some (.tuple #[], H1) := (opq_app _ _ _).trans <| by kernel_rfl
theorem cmd_Keys_Feed_1_eq (d : Nat) (x0 : Nat) (x1 : Nat) (H : Heap) : X (d + 1) n_cmd_Keys_Feed_1 [P0 x0, P0 x1] H =
  optK (Heap.ld1 H ⟨x0, 0, none⟩) fun v1 =>
  asSL v1 fun l2 =>
  if (decide ((0 : Int) < (l2.n : Int))) = true then
  (optK (Heap.ld1 H ⟨x1, 0, none⟩) fun v3 =>
    asSL v3 fun l4 =>
    optK (Heap.ld1 H ⟨x0, 0, none⟩) fun v5 =>
    asSL v5 fun l6 =>
    newK H (.cells [l6.v, .string (S [])] t_cmd_Press false 0 false) fun p7 H8 =>
    appendK t_cmd_Press 2 40 false l4.v (.slice (some ⟨p7, 0, none⟩) 1 1) H8 fun v9 H10 =>
    asSL v9 fun l11 =>
    optK (Heap.st1 H10 ⟨x1, 0, none⟩ l11.v) fun H12 =>
    cmd_Keys_Feed_1_p1 d x0 H12)
  else
  (cmd_Keys_Feed_1_p1 d x0 H) := by kernel_rfl
end Go.Proofs.YtnpmlgibjhjiiaaDoor.dec

namespace Go.Proofs.YtnpmlgibjhjiiaaDoor.dec
open Go Go.Cm
/-! porthole/cmd.Right -/
noncomputable def cmd_Right_k111 (d : Nat) : Kt := run (X d) NN (cd 11 [1, 1, 1]) (retK (rs 11)) [] (retK (rs 11))
noncomputable def cmd_Right_p110101 (d : Nat) (x3 : Sl) (x7 : ByteArray) (x8 : Bool) (H : Heap) : Res := opq (run (X d) NN (cd 11 [1, 1, 0, 1, 0, 1, 0]) (cmd_Right_k111 d) [(0, (cmd_Right_k111 d))] (retK (rs 11))) [(3, x3.v), (7, .string x7), (8, .bool x8)] H
noncomputable def cmd_Right_p110101011 (d : Nat) (x3 : Sl) (x7 : ByteArray) (x17 : Bool) (H : Heap) : Res := opq (run (X d) NN (cd 11 [1, 1, 0, 1, 0, 1, 0, 1, 1, 0]) (cmd_Right_k111 d) [(0, (cmd_Right_k111 d))] (retK (rs 11))) [(3, x3.v), (7, .string x7), (17, .bool x17)] H
noncomputable def cmd_Right_p110101011011 (d : Nat) (x3 : Sl) (x7 : ByteArray) (x29 : Bool) (H : Heap) : Res := opq (run (X d) NN (cd 11 [1, 1, 0, 1, 0, 1, 0, 1, 1, 0, 1, 1, 0]) (cmd_Right_k111 d) [(0, (cmd_Right_k111 d))] (retK (rs 11))) [(3, x3.v), (7, .string x7), (29, .bool x29)] H
theorem cmd_Right_p110101_eq (d : Nat) (x3 : Sl) (x7 : ByteArray) (x8 : Bool) (H : Heap) : cmd_Right_p110101 d x3 x7 x8 H =
  if x8 = true then
  (some (.bool (decide ((x3.n : Int) = 0)), H))
  else
  (if (sEq x7 (S [110, 101, 119, 45, 115, 101, 115, 115, 105, 111, 110])) = true then
    (cmd_Right_p110101011 d x3 x7 (sEq x7 (S [110, 101, 119, 45, 115, 101, 115, 115, 105, 111, 110])) H)
    else
    (cmd_Right_p110101011 d x3 x7 (sEq x7 (S [114, 101, 110, 97, 109, 101])) H)) := (opq_app _ _ _).trans <| by kernel_rfl
theorem cmd_Right_p110101011_eq (d : Nat) (x3 : Sl) (x7 : ByteArray) (x17 : Bool) (H : Heap) : cmd_Right_p110101011 d x3 x7 x17 H =
  if x17 = true then
  (if (decide ((x3.n : Int) = 1)) = true then
    (optK x3.a fun a1 =>
      if 0 ≤ (0 : Int) ∧ (0 : Int) < (x3.n : Int) then
      optK (Heap.ld1 H (ap a1 0)) fun v2 =>
      asS v2 fun s3 =>
      callK (X d n_mux_Right [.string s3] H) fun v4 H5 =>
      asB v4 fun b6 =>
      some (.bool b6, H5)
      else none)
    else
    (some (.bool false, H)))
  else
  (if (sEq x7 (S [115, 101, 108, 101, 99, 116, 45, 119, 105, 110, 100, 111, 119])) = true then
    (cmd_Right_p110101011011 d x3 x7 (sEq x7 (S [115, 101, 108, 101, 99, 116, 45, 119, 105, 110, 100, 111, 119])) H)
    else
    (if (sEq x7 (S [115, 101, 108, 101, 99, 116, 45, 112, 97, 110, 101])) = true then
      (cmd_Right_p110101011011 d x3 x7 (sEq x7 (S [115, 101, 108, 101, 99, 116, 45, 112, 97, 110, 101])) H)
      else
      (if (sEq x7 (S [115, 119, 97, 112, 45, 112, 97, 110, 101])) = true then
        (cmd_Right_p110101011011 d x3 x7 (sEq x7 (S [115, 119, 97, 112, 45, 112, 97, 110, 101])) H)
        else
        (cmd_Right_p110101011011 d x3 x7 (sEq x7 (S [112, 97, 115, 116, 101])) H)))) := (opq_app _ _ _).trans <| by kernel_rfl
theorem cmd_Right_p110101011011_eq (d : Nat) (x3 : Sl) (x7 : ByteArray) (x29 : Bool) (H : Heap) : cmd_Right_p110101011011 d x3 x7 x29 H =
  if x29 = true then
  (if (decide ((x3.n : Int) = 1)) = true then
    (optK x3.a fun a1 =>
      if 0 ≤ (0 : Int) ∧ (0 : Int) < (x3.n : Int) then
      optK (Heap.ld1 H (ap a1 0)) fun v2 =>
      asS v2 fun s3 =>
      callK (X d n_cmd_isNumber [.string s3] H) fun v4 H5 =>
      asB v4 fun b6 =>
      some (.bool b6, H5)
      else none)
    else
    (some (.bool false, H)))
  else
  (if (sEq x7 (S [115, 112, 108, 105, 116, 45, 119, 105, 110, 100, 111, 119])) = true then
    (if (decide ((x3.n : Int) = 1)) = true then
      (optK x3.a fun a7 =>
        if 0 ≤ (0 : Int) ∧ (0 : Int) < (x3.n : Int) then
        optK (Heap.ld1 H (ap a7 0)) fun v8 =>
        asS v8 fun s9 =>
        if (sEq s9 (S [45, 104])) = true then
        (some (.bool true, H))
        else
        (optK x3.a fun a10 =>
          if 0 ≤ (0 : Int) ∧ (0 : Int) < (x3.n : Int) then
          optK (Heap.ld1 H (ap a10 0)) fun v11 =>
          asS v11 fun s12 =>
          some (.bool (sEq s12 (S [45, 118])), H)
          else none)
        else none)
      else
      (some (.bool false, H)))
    else
    (if (sEq x7 (S [114, 101, 115, 105, 122, 101, 45, 112, 97, 110, 101])) = true then
      (if (decide ((x3.n : Int) = 2)) = true then
        (optK x3.a fun a13 =>
          if 0 ≤ (0 : Int) ∧ (0 : Int) < (x3.n : Int) then
          optK (Heap.ld1 H (ap a13 0)) fun v14 =>
          asS v14 fun s15 =>
          if (sEq s15 (S [45, 76])) = true then
          (optK x3.a fun a16 =>
            if 0 ≤ (1 : Int) ∧ (1 : Int) < (x3.n : Int) then
            optK (Heap.ld1 H (ap a16 1)) fun v17 =>
            asS v17 fun s18 =>
            callK (X d n_cmd_isNumber [.string s18] H) fun v19 H20 =>
            asB v19 fun b21 =>
            some (.bool b21, H20)
            else none)
          else
          (optK x3.a fun a22 =>
            if 0 ≤ (0 : Int) ∧ (0 : Int) < (x3.n : Int) then
            optK (Heap.ld1 H (ap a22 0)) fun v23 =>
            asS v23 fun s24 =>
            if (sEq s24 (S [45, 82])) = true then
            (optK x3.a fun a25 =>
              if 0 ≤ (1 : Int) ∧ (1 : Int) < (x3.n : Int) then
              optK (Heap.ld1 H (ap a25 1)) fun v26 =>
              asS v26 fun s27 =>
              callK (X d n_cmd_isNumber [.string s27] H) fun v28 H29 =>
              asB v28 fun b30 =>
              some (.bool b30, H29)
              else none)
            else
            (optK x3.a fun a31 =>
              if 0 ≤ (0 : Int) ∧ (0 : Int) < (x3.n : Int) then
              optK (Heap.ld1 H (ap a31 0)) fun v32 =>
              asS v32 fun s33 =>
              if (sEq s33 (S [45, 85])) = true then
              (optK x3.a fun a34 =>
                if 0 ≤ (1 : Int) ∧ (1 : Int) < (x3.n : Int) then
                optK (Heap.ld1 H (ap a34 1)) fun v35 =>
                asS v35 fun s36 =>
                callK (X d n_cmd_isNumber [.string s36] H) fun v37 H38 =>
                asB v37 fun b39 =>
                some (.bool b39, H38)
                else none)
              else
              (optK x3.a fun a40 =>
                if 0 ≤ (0 : Int) ∧ (0 : Int) < (x3.n : Int) then
                optK (Heap.ld1 H (ap a40 0)) fun v41 =>
                asS v41 fun s42 =>
                if (sEq s42 (S [45, 68])) = true then
                (optK x3.a fun a43 =>
                  if 0 ≤ (1 : Int) ∧ (1 : Int) < (x3.n : Int) then
                  optK (Heap.ld1 H (ap a43 1)) fun v44 =>
                  asS v44 fun s45 =>
                  callK (X d n_cmd_isNumber [.string s45] H) fun v46 H47 =>
                  asB v46 fun b48 =>
                  some (.bool b48, H47)
                  else none)
                else
                (some (.bool false, H))
                else none)
              else none)
            else none)
          else none)
        else
        (some (.bool false, H)))
      else
      (if (sEq x7 (S [99, 111, 112, 121])) = true then
        (if (decide ((x3.n : Int) = 2)) = true then
          (optK x3.a fun a49 =>
            if 0 ≤ (0 : Int) ∧ (0 : Int) < (x3.n : Int) then
            optK (Heap.ld1 H (ap a49 0)) fun v50 =>
            asS v50 fun s51 =>
            callK (X d n_cmd_isNumber [.string s51] H) fun v52 H53 =>
            asB v52 fun b54 =>
            if b54 = true then
            (optK x3.a fun a55 =>
              if 0 ≤ (1 : Int) ∧ (1 : Int) < (x3.n : Int) then
              optK (Heap.ld1 H53 (ap a55 1)) fun v56 =>
              asS v56 fun s57 =>
              callK (X d n_cmd_isNumber [.string s57] H53) fun v58 H59 =>
              asB v58 fun b60 =>
              some (.bool b60, H59)
              else none)
            else
            (some (.bool false, H53))
            else none)
          else
          (some (.bool false, H)))
        else
        (if (sEq x7 (S [115, 101, 110, 100])) = true then
          (some (.bool (decide ((x3.n : Int) = 1)), H))
          else
          (some (.bool false, H)))))) := (opq_app _ _ _).trans <| by kernel_rfl
theorem cmd_Right_eq (d : Nat) (x0 : Array Value) (H : Heap) : X (d + 1) n_cmd_Right [.agg x0] H =
  effK (.box t_cmd_Command) [.agg x0] H fun v1 H2 =>
  asP v1 fun o3 =>
  optK o3 fun a4 =>
  optK (Heap.ld1 H2 (ap a4 1)) fun v5 =>
  asSL v5 fun l6 =>
  asP v1 fun o7 =>
  optK o7 fun a8 =>
  optK (Heap.ld1 H2 (ap a8 0)) fun v9 =>
  asS v9 fun s10 =>
  if (sEq s10 (S [107, 105, 108, 108, 45, 115, 101, 115, 115, 105, 111, 110])) = true then
  (cmd_Right_p110101 d l6 s10 (sEq s10 (S [107, 105, 108, 108, 45, 115, 101, 115, 115, 105, 111, 110])) H2)
  else
  (if (sEq s10 (S [110, 101, 119, 45, 119, 105, 110, 100, 111, 119])) = true then
    (cmd_Right_p110101 d l6 s10 (sEq s10 (S [110, 101, 119, 45, 119, 105, 110, 100, 111, 119])) H2)
    else
    (if (sEq s10 (S [107, 105, 108, 108, 45, 119, 105, 110, 100, 111, 119])) = true then
      (cmd_Right_p110101 d l6 s10 (sEq s10 (S [107, 105, 108, 108, 45, 119, 105, 110, 100, 111, 119])) H2)
      else
      (if (sEq s10 (S [107, 105, 108, 108, 45, 112, 97, 110, 101])) = true then
        (cmd_Right_p110101 d l6 s10 (sEq s10 (S [107, 105, 108, 108, 45, 112, 97, 110, 101])) H2)
        else
        (cmd_Right_p110101 d l6 s10 (sEq s10 (S [122, 111, 111, 109])) H2)))) := by kernel_rfl
end Go.Proofs.YtnpmlgibjhjiiaaDoor.dec

namespace Go.Proofs.YtnpmlgibjhjiiaaDoor.dec
open Go Go.Cm
/-! porthole/cmd.isNumber -/
theorem cmd_isNumber_eq (d : Nat) (x0 : ByteArray) (H : Heap) : X (d + 1) n_cmd_isNumber [.string x0] H =
  callK (X d n_cmd_number [.string x0] H) fun v1 H2 =>
  castT [.int .i64, .bool] v1 fun l3 =>
  castT [.int .i64, .bool] (.tuple ⟨l3⟩) fun l4 =>
  optK l4[0]? fun v5 =>
  asI .i64 v5 fun _ =>
  optK l4[1]? fun v7 =>
  asB v7 fun b8 =>
  some (.bool b8, H2) := by kernel_rfl
end Go.Proofs.YtnpmlgibjhjiiaaDoor.dec

namespace Go.Proofs.YtnpmlgibjhjiiaaDoor.dec
open Go Go.Cm
/-! porthole/cmd.number -/
noncomputable def cmd_number_k11 (d : Nat) : Kt := run (X d) NN (cd 32 [1, 1]) (retK (rs 32)) [] (retK (rs 32))
noncomputable def cmd_number_k111 (d : Nat) : Kt := run (X d) NN (cd 32 [1, 1, 1]) (retK (rs 32)) [] (retK (rs 32))
noncomputable def cmd_number_l11010 (d : Nat) (m0 : Nat) : Kt := iter (fun k => run (X d) NN (cd 32 [1, 1, 0, 1, 0, 0]) (backK [(0, .str), (26, .any)] (opq k)) [(0, (cmd_number_k111 d))] (retK (rs 32))) m0
noncomputable def cmd_number_p101 (d : Nat) (x0 : ByteArray) (x24 : Bool) (H : Heap) : Res := opq (run (X d) NN (cd 32 [1, 0, 1, 0]) (cmd_number_k11 d) [] (retK (rs 32))) [(0, .string x0), (24, .bool x24)] H
noncomputable def cmd_number_p11010 (d : Nat) (m0 : Nat) (x0 : ByteArray) (x26 : Nat) (H : Heap) : Res := opq (cmd_number_l11010 d m0) [(0, .string x0), (26, P0 x26)] H
noncomputable def cmd_number_p11010011011 (d : Nat) (m0 : Nat) (x0 : ByteArray) (x26 : Nat) (x35 : Bool) (H : Heap) : Res := opq (run (X d) NN (cd 32 [1, 1, 0, 1, 0, 0, 1, 1, 0, 1, 1, 0]) (backK [(0, .str), (26, .any)] (opq (cmd_number_l11010 d m0))) [(1, (backK [(0, .str), (26, .any)] (opq (cmd_number_l11010 d m0)))), (0, (cmd_number_k111 d))] (retK (rs 32))) [(0, .string x0), (26, P0 x26), (35, .bool x35)] H
theorem cmd_number_p101_eq (d : Nat) (x0 : ByteArray) (x24 : Bool) (H : Heap) : cmd_number_p101 d x0 x24 H =
  if x24 = true then
  (some (.tuple #[.int .i64 0, .bool false], H))
  else
  (newK H (.iter x0 0) fun p1 H2 =>
    cmd_number_p11010 d NN x0 p1 H2) := (opq_app _ _ _).trans <| by kernel_rfl
theorem cmd_number_p11010_s (d : Nat) (m0 : Nat) (x0 : ByteArray) (x26 : Nat) (H : Heap) : cmd_number_p11010 d (m0 + 1) x0 x26 H =
  nextK H (⟨x26, 0, none⟩) (fun H1 _ r3 =>
    if (decide (r3 < 48)) = true then
    (cmd_number_p11010011011 d m0 x0 x26 true H1)
    else
    (cmd_number_p11010011011 d m0 x0 x26 (decide ((57 : Int) < r3)) H1))
  (fun H4 =>
    callK (X d n_strconv_Atoi [.string x0] H4) fun v5 H6 =>
    castT [.int .i64, .any] v5 fun l7 =>
    castT [.int .i64, .any] (.tuple ⟨l7⟩) fun l8 =>
    optK l8[0]? fun v9 =>
    asI .i64 v9 fun n10 =>
    optK l8[1]? fun v11 =>
    optK (isNil .i v11) fun b12 =>
    some (.tuple #[.int .i64 n10, .bool b12], H6)) := (opq_app _ _ _).trans <| by kernel_rfl
theorem cmd_number_p11010011011_eq (d : Nat) (m0 : Nat) (x0 : ByteArray) (x26 : Nat) (x35 : Bool) (H : Heap) : cmd_number_p11010011011 d m0 x0 x26 x35 H =
  if x35 = true then
  (some (.tuple #[.int .i64 0, .bool false], H))
  else
  (cmd_number_p11010 d m0 x0 x26 H) := (opq_app _ _ _).trans <| by kernel_rfl
theorem cmd_number_eq (d : Nat) (x0 : ByteArray) (H : Heap) : X (d + 1) n_cmd_number [.string x0] H =
  if (sEq x0 (S [])) = true then
  (cmd_number_p101 d x0 true H)
  else
  (if (decide ((4 : Int) < (slen x0 : Int))) = true then
    (cmd_number_p101 d x0 true H)
    else
    (if (decide ((1 : Int) < (slen x0 : Int))) = true then
      (if 0 ≤ (0 : Int) ∧ (0 : Int) < (slen x0 : Int) then
        cmd_number_p101 d x0 (decide (bt x0 0 = 48)) H
        else none)
      else
      (cmd_number_p101 d x0 false H))) := by kernel_rfl
end Go.Proofs.YtnpmlgibjhjiiaaDoor.dec

namespace Go.Proofs.YtnpmlgibjhjiiaaDoor.dec
open Go Go.Cm
/-! strconv.Atoi -/
theorem strconv_Atoi_eq (d : Nat) (x0 : ByteArray) (H : Heap) : X (d + 1) n_strconv_Atoi [.string x0] H =
  callK (X d n_strconv_Atoix [.string x0] H) fun v1 H2 =>
  castT [.int .i64, .any] v1 fun l3 =>
  castT [.int .i64, .any] (.tuple ⟨l3⟩) fun l4 =>
  optK l4[0]? fun v5 =>
  asI .i64 v5 fun n6 =>
  optK l4[1]? fun v7 =>
  optK (isNil .i v7) fun b8 =>
  if (!b8) = true then
  (callK (X d n_strconv_toError [.string (S [65, 116, 111, 105]), .string x0, .int .i64 0, .int .i64 0, v7] H2) fun v9 H10 =>
    some (.tuple #[.int .i64 n6, v9], H10))
  else
  (some (.tuple #[.int .i64 n6, .nilIface], H2)) := by kernel_rfl
end Go.Proofs.YtnpmlgibjhjiiaaDoor.dec

namespace Go.Proofs.YtnpmlgibjhjiiaaDoor.dec
open Go Go.Cm
/-! internal/strconv.Atoi -/
noncomputable def strconv_Atoix_k111 (d : Nat) : Kt := run (X d) NN (cd 42 [1, 1, 1]) (retK (rs 42)) [] (retK (rs 42))
noncomputable def strconv_Atoix_k11010011 (d : Nat) : Kt := run (X d) NN (cd 42 [1, 1, 0, 1, 0, 0, 1, 1]) (strconv_Atoix_k111 d) [] (retK (rs 42))
noncomputable def strconv_Atoix_k11010011011 (d : Nat) : Kt := run (X d) NN (cd 42 [1, 1, 0, 1, 0, 0, 1, 1, 0, 1, 1]) (strconv_Atoix_k111 d) [] (retK (rs 42))
noncomputable def strconv_Atoix_l1101001101010 (d : Nat) (m0 : Nat) : Kt := iter (fun k => run (X d) NN (cd 42 [1, 1, 0, 1, 0, 0, 1, 1, 0, 1, 0, 1, 0, 0]) (backK [(5, .str), (6, .int .i64), (47, .sl), (48, .int .i64), (49, .int .i64)] (opq k)) [(0, (strconv_Atoix_k11010011011 d))] (retK (rs 42))) m0
noncomputable def strconv_Atoix_p1101 (d : Nat) (x0 : ByteArray) (x30 : Bool) (H : Heap) : Res := opq (run (X d) NN (cd 42 [1, 1, 0, 1, 0]) (strconv_Atoix_k111 d) [] (retK (rs 42))) [(0, .string x0), (30, .bool x30)] H
noncomputable def strconv_Atoix_p110100101 (d : Nat) (x0 : ByteArray) (x5 : ByteArray) (x39 : Bool) (H : Heap) : Res := opq (run (X d) NN (cd 42 [1, 1, 0, 1, 0, 0, 1, 0, 1, 0]) (strconv_Atoix_k11010011 d) [] (retK (rs 42))) [(0, .string x0), (5, .string x5), (39, .bool x39)] H
noncomputable def strconv_Atoix_p11010011 (d : Nat) (x0 : ByteArray) (x5 : ByteArray) (H : Heap) : Res := opq (run (X d) NN (cd 42 [1, 1, 0, 1, 0, 0, 1, 1, 0]) (strconv_Atoix_k111 d) [] (retK (rs 42))) [(0, .string x0), (5, .string x5)] H
noncomputable def strconv_Atoix_p1101001101010 (d : Nat) (m0 : Nat) (x5 : ByteArray) (x6 : Int) (x47 : Sl) (x48 : Int) (x49 : Int) (H : Heap) : Res := opq (strconv_Atoix_l1101001101010 d m0) [(5, .string x5), (6, .int .i64 x6), (47, x47.v), (48, .int .i64 x48), (49, .int .i64 x49)] H
theorem strconv_Atoix_p1101_eq (d : Nat) (x0 : ByteArray) (x30 : Bool) (H : Heap) : strconv_Atoix_p1101 d x0 x30 H =
  if x30 = true then
  (if 0 ≤ (0 : Int) ∧ (0 : Int) < (slen x0 : Int) then
    if (decide (bt x0 0 = 45)) = true then
    (strconv_Atoix_p110100101 d x0 x0 true H)
    else
    (if 0 ≤ (0 : Int) ∧ (0 : Int) < (slen x0 : Int) then
      strconv_Atoix_p110100101 d x0 x0 (decide (bt x0 0 = 43)) H
      else none)
    else none)
  else
  (callK (X d n_strconv_ParseInt [.string x0, .int .i64 10, .int .i64 0] H) fun v1 H2 =>
    castT [.int .i64, .any] v1 fun l3 =>
    castT [.int .i64, .any] (.tuple ⟨l3⟩) fun l4 =>
    optK l4[0]? fun v5 =>
    asI .i64 v5 fun n6 =>
    optK l4[1]? fun v7 =>
    some (.tuple #[.int .i64 n6, v7], H2)) := (opq_app _ _ _).trans <| by kernel_rfl
theorem strconv_Atoix_p110100101_eq (d : Nat) (x0 : ByteArray) (x5 : ByteArray) (x39 : Bool) (H : Heap) : strconv_Atoix_p110100101 d x0 x5 x39 H =
  if x39 = true then
  (if 0 ≤ (1 : Int) ∧ 1 ≤ (slen x0 : Int) then
    if (decide ((slen (sSub x0 1 (slen x0)) : Int) < 1)) = true then
    (some (.tuple #[.int .i64 0, .iface t_strconv_Error (.int .i64 2)], H))
    else
    (strconv_Atoix_p11010011 d (sSub x0 1 (slen x0)) x5 H)
    else none)
  else
  (strconv_Atoix_p11010011 d x0 x5 H) := (opq_app _ _ _).trans <| by kernel_rfl
theorem strconv_Atoix_p11010011_eq (d : Nat) (x0 : ByteArray) (x5 : ByteArray) (H : Heap) : strconv_Atoix_p11010011 d x0 x5 H =
  newK H (.cells ((lst x0).map fun b => .int .u8 b.toNat) t_uint8 true 0 true) fun p1 H2 =>
  strconv_Atoix_p1101001101010 d NN x5 0 ⟨some ⟨p1, 0, none⟩, slen x0, slen x0⟩ (slen x0 : Int) 0 H2 := (opq_app _ _ _).trans <| by kernel_rfl
theorem strconv_Atoix_p1101001101010_s (d : Nat) (m0 : Nat) (x5 : ByteArray) (x6 : Int) (x47 : Sl) (x48 : Int) (x49 : Int) (H : Heap) : strconv_Atoix_p1101001101010 d (m0 + 1) x5 x6 x47 x48 x49 H =
  if (decide (x49 < x48)) = true then
  (optK x47.a fun a1 =>
    if 0 ≤ x49 ∧ x49 < (x47.n : Int) then
    optK (Heap.ld1 H (ap a1 (((x49).toNat) * 1))) fun v2 =>
    asI .u8 v2 fun n3 =>
    if (decide ((9 : Int) < IntKind.wrap .u8 (n3 - 48))) = true then
    (some (.tuple #[.int .i64 0, .iface t_strconv_Error (.int .i64 2)], H))
    else
    (strconv_Atoix_p1101001101010 d m0 x5 (IntKind.wrap .i64 ((IntKind.wrap .i64 (x6 * 10)) + (IntKind.wrap .i64 (IntKind.wrap .u8 (n3 - 48))))) x47 x48 (IntKind.wrap .i64 (x49 + 1)) H)
    else none)
  else
  (if 0 ≤ (0 : Int) ∧ (0 : Int) < (slen x5 : Int) then
    if (decide (bt x5 0 = 45)) = true then
    (some (.tuple #[.int .i64 (IntKind.wrap .i64 (0 - x6)), .nilIface], H))
    else
    (some (.tuple #[.int .i64 x6, .nilIface], H))
    else none) := (opq_app _ _ _).trans <| by kernel_rfl
theorem strconv_Atoix_eq (d : Nat) (x0 : ByteArray) (H : Heap) : X (d + 1) n_strconv_Atoix [.string x0] H =
  if (decide ((0 : Int) < (slen x0 : Int))) = true then
  (strconv_Atoix_p1101 d x0 (decide ((slen x0 : Int) < 19)) H)
  else
  (strconv_Atoix_p1101 d x0 false H) := by kernel_rfl
end Go.Proofs.YtnpmlgibjhjiiaaDoor.dec

namespace Go.Proofs.YtnpmlgibjhjiiaaDoor.dec
open Go Go.Cm
/-! porthole/portholehand.Pick -/
theorem hand_Pick_eq (d : Nat) (x0 : Int) (x1 : Int) (H : Heap) : X (d + 1) n_hand_Pick [.int .i64 x0, .int .i64 x1] H =
  if x1 = 0 then none else
  if (decide (Int.tmod x0 x1 < 0)) = true then
  (some (.int .i64 (IntKind.wrap .i64 ((Int.tmod x0 x1) + x1)), H))
  else
  (some (.int .i64 (Int.tmod x0 x1), H)) := by kernel_rfl
end Go.Proofs.YtnpmlgibjhjiiaaDoor.dec

namespace Go.Proofs.YtnpmlgibjhjiiaaDoor.dec
open Go Go.Cm
/-! porthole/cmd.Print -/
noncomputable def cmd_Print_k111 (d : Nat) : Kt := run (X d) NN (cd 16 [1, 1, 1]) (retK (rs 16)) [] (retK (rs 16))
noncomputable def cmd_Print_l11010 (d : Nat) (m0 : Nat) : Kt := iter (fun k => run (X d) NN (cd 16 [1, 1, 0, 1, 0, 0]) (backK [(3, .sl), (11, .sl), (12, .int .i64), (13, .int .i64)] (opq k)) [(0, (cmd_Print_k111 d))] (retK (rs 16))) m0
noncomputable def cmd_Print_k110100111 (d : Nat) (m0 : Nat) : Kt := run (X d) NN (cd 16 [1, 1, 0, 1, 0, 0, 1, 1, 1]) (backK [(3, .sl), (11, .sl), (12, .int .i64), (13, .int .i64)] (opq (cmd_Print_l11010 d m0))) [(0, (cmd_Print_k111 d))] (retK (rs 16))
noncomputable def cmd_Print_k1101001100111 (d : Nat) (m0 : Nat) : Kt := run (X d) NN (cd 16 [1, 1, 0, 1, 0, 0, 1, 1, 0, 0, 1, 1, 1]) (cmd_Print_k110100111 d m0) [(1, (cmd_Print_k110100111 d m0)), (0, (cmd_Print_k111 d))] (retK (rs 16))
noncomputable def cmd_Print_l110100110011010 (d : Nat) (m0 : Nat) (m1 : Nat) : Kt := iter (fun k => run (X d) NN (cd 16 [1, 1, 0, 1, 0, 0, 1, 1, 0, 0, 1, 1, 0, 1, 0, 0]) (backK [(3, .sl), (5, .any), (6, .sl), (11, .sl), (12, .int .i64), (13, .int .i64), (22, .sl), (23, .int .i64), (24, .int .i64)] (opq k)) [(2, (cmd_Print_k1101001100111 d m0)), (1, (cmd_Print_k110100111 d m0)), (0, (cmd_Print_k111 d))] (retK (rs 16))) m1
noncomputable def cmd_Print_k1101001100110100111 (d : Nat) (m0 : Nat) (m1 : Nat) : Kt := run (X d) NN (cd 16 [1, 1, 0, 1, 0, 0, 1, 1, 0, 0, 1, 1, 0, 1, 0, 0, 1, 1, 1]) (backK [(3, .sl), (5, .any), (6, .sl), (11, .sl), (12, .int .i64), (13, .int .i64), (22, .sl), (23, .int .i64), (24, .int .i64)] (opq (cmd_Print_l110100110011010 d m0 m1))) [(2, (cmd_Print_k1101001100111 d m0)), (1, (cmd_Print_k110100111 d m0)), (0, (cmd_Print_k111 d))] (retK (rs 16))
noncomputable def cmd_Print_k11010011001101001100111 (d : Nat) (m0 : Nat) (m1 : Nat) : Kt := run (X d) NN (cd 16 [1, 1, 0, 1, 0, 0, 1, 1, 0, 0, 1, 1, 0, 1, 0, 0, 1, 1, 0, 0, 1, 1, 1]) (cmd_Print_k1101001100110100111 d m0 m1) [(3, (cmd_Print_k1101001100110100111 d m0 m1)), (2, (cmd_Print_k1101001100111 d m0)), (1, (cmd_Print_k110100111 d m0)), (0, (cmd_Print_k111 d))] (retK (rs 16))
noncomputable def cmd_Print_p11010 (d : Nat) (m0 : Nat) (x3 : Sl) (x11 : Sl) (x12 : Int) (x13 : Int) (H : Heap) : Res := opq (cmd_Print_l11010 d m0) [(3, x3.v), (11, x11.v), (12, .int .i64 x12), (13, .int .i64 x13)] H
noncomputable def cmd_Print_p110100110011010 (d : Nat) (m0 : Nat) (m1 : Nat) (x3 : Sl) (x5 : Nat) (x6 : Sl) (x11 : Sl) (x12 : Int) (x13 : Int) (x22 : Sl) (x23 : Int) (x24 : Int) (H : Heap) : Res := opq (cmd_Print_l110100110011010 d m0 m1) [(3, x3.v), (5, P0 x5), (6, x6.v), (11, x11.v), (12, .int .i64 x12), (13, .int .i64 x13), (22, x22.v), (23, .int .i64 x23), (24, .int .i64 x24)] H
noncomputable def cmd_Print_p110100110011010011001101 (d : Nat) (m0 : Nat) (m1 : Nat) (x3 : Sl) (x5 : Nat) (x6 : Sl) (x9 : ByteArray) (x11 : Sl) (x12 : Int) (x13 : Int) (x22 : Sl) (x23 : Int) (x24 : Int) (x39 : Bool) (H : Heap) : Res := opq (run (X d) NN (cd 16 [1, 1, 0, 1, 0, 0, 1, 1, 0, 0, 1, 1, 0, 1, 0, 0, 1, 1, 0, 0, 1, 1, 0, 1, 0]) (cmd_Print_k11010011001101001100111 d m0 m1) [(3, (cmd_Print_k1101001100110100111 d m0 m1)), (2, (cmd_Print_k1101001100111 d m0)), (1, (cmd_Print_k110100111 d m0)), (0, (cmd_Print_k111 d))] (retK (rs 16))) [(3, x3.v), (5, P0 x5), (6, x6.v), (9, .string x9), (11, x11.v), (12, .int .i64 x12), (13, .int .i64 x13), (22, x22.v), (23, .int .i64 x23), (24, .int .i64 x24), (39, .bool x39)] H
theorem cmd_Print_p11010_s (d : Nat) (m0 : Nat) (x3 : Sl) (x11 : Sl) (x12 : Int) (x13 : Int) (H : Heap) : cmd_Print_p11010 d (m0 + 1) x3 x11 x12 x13 H =
  if (decide (x13 < x12)) = true then
  (optK x11.a fun a1 =>
    if 0 ≤ x13 ∧ x13 < (x11.n : Int) then
    optK (ldA H (ap a1 (((x13).toNat) * 2)) 2) fun v2 =>
    asA v2 fun c3 =>
    newK H (.cells [.string (S []), .slice none 0 0] t_cmd_Command false 0 false) fun p4 H5 =>
    effK (.store 2) [P0 p4, .agg c3] H5 fun _ H7 =>
    optK (Heap.ld1 H7 ⟨p4, 0, none⟩) fun v8 =>
    asS v8 fun s9 =>
    newK H7 (.cells [.string s9] t_string false 0 false) fun p10 H11 =>
    optK (Heap.ld1 H11 ⟨p4, 1, none⟩) fun v12 =>
    asSL v12 fun l13 =>
    appendK t_string 1 16 false (.slice (some ⟨p10, 0, none⟩) 1 1) l13.v H11 fun v14 H15 =>
    asSL v14 fun l16 =>
    cmd_Print_p110100110011010 d m0 NN x3 p4 Sl.nil x11 x12 x13 l16 (l16.n : Int) 0 H15
    else none)
  else
  (callK (X d n_strings_Join [x3.v, .string (S [59, 32])] H) fun v17 H18 =>
    asS v17 fun s19 =>
    some (.string s19, H18)) := (opq_app _ _ _).trans <| by kernel_rfl
theorem cmd_Print_p110100110011010_s (d : Nat) (m0 : Nat) (m1 : Nat) (x3 : Sl) (x5 : Nat) (x6 : Sl) (x11 : Sl) (x12 : Int) (x13 : Int) (x22 : Sl) (x23 : Int) (x24 : Int) (H : Heap) : cmd_Print_p110100110011010 d m0 (m1 + 1) x3 x5 x6 x11 x12 x13 x22 x23 x24 H =
  if (decide (x24 < x23)) = true then
  (optK x22.a fun a1 =>
    if 0 ≤ x24 ∧ x24 < (x22.n : Int) then
    optK (Heap.ld1 H (ap a1 (((x24).toNat) * 1))) fun v2 =>
    asS v2 fun s3 =>
    callK (X d n_cmd_shown [.string s3] H) fun v4 H5 =>
    castT [.str, .bool] v4 fun l6 =>
    castT [.str, .bool] (.tuple ⟨l6⟩) fun l7 =>
    optK l7[0]? fun v8 =>
    asS v8 fun s9 =>
    optK l7[1]? fun v10 =>
    asB v10 fun b11 =>
    if (!b11) = true then
    (cmd_Print_p110100110011010011001101 d m0 m1 x3 x5 x6 s9 x11 x12 x13 x22 x23 x24 true H5)
    else
    (optK (Heap.ld1 H5 ⟨x5, 0, none⟩) fun v12 =>
      asS v12 fun s13 =>
      cmd_Print_p110100110011010011001101 d m0 m1 x3 x5 x6 s9 x11 x12 x13 x22 x23 x24 (sEq s13 (S [])) H5)
    else none)
  else
  (callK (X d n_strings_Join [x6.v, .string (S [32])] H) fun v14 H15 =>
    asS v14 fun s16 =>
    newK H15 (.cells [.string s16] t_string false 0 false) fun p17 H18 =>
    appendK t_string 1 16 false x3.v (.slice (some ⟨p17, 0, none⟩) 1 1) H18 fun v19 H20 =>
    asSL v19 fun l21 =>
    cmd_Print_p11010 d m0 l21 x11 x12 (IntKind.wrap .i64 (x13 + 1)) H20) := (opq_app _ _ _).trans <| by kernel_rfl
theorem cmd_Print_p110100110011010011001101_eq (d : Nat) (m0 : Nat) (m1 : Nat) (x3 : Sl) (x5 : Nat) (x6 : Sl) (x9 : ByteArray) (x11 : Sl) (x12 : Int) (x13 : Int) (x22 : Sl) (x23 : Int) (x24 : Int) (x39 : Bool) (H : Heap) : cmd_Print_p110100110011010011001101 d m0 m1 x3 x5 x6 x9 x11 x12 x13 x22 x23 x24 x39 H =
  if x39 = true then
  (some (.string (S []), H))
  else
  (newK H (.cells [.string x9] t_string false 0 false) fun p1 H2 =>
    appendK t_string 1 16 false x6.v (.slice (some ⟨p1, 0, none⟩) 1 1) H2 fun v3 H4 =>
    asSL v3 fun l5 =>
    cmd_Print_p110100110011010 d m0 m1 x3 x5 l5 x11 x12 x13 x22 x23 (IntKind.wrap .i64 (x24 + 1)) H4) := (opq_app _ _ _).trans <| by kernel_rfl
theorem cmd_Print_eq (d : Nat) (x0 : Sl) (H : Heap) : X (d + 1) n_cmd_Print [x0.v] H =
  cmd_Print_p11010 d NN Sl.nil x0 (x0.n : Int) 0 H := by kernel_rfl
end Go.Proofs.YtnpmlgibjhjiiaaDoor.dec

namespace Go.Proofs.YtnpmlgibjhjiiaaDoor.dec
open Go Go.Cm
/-! porthole/portholelaw24.command -/
noncomputable def law24_command_k11111 (d : Nat) : Kt := run (X d) NN (cd 12 [1, 1, 1, 1, 1]) (retK (rs 12)) [] (retK (rs 12))
noncomputable def law24_command_p11110101 (d : Nat) (x1 : Value) (x2 : Nat) (x4 : Nat) (x5 : ByteArray) (x17 : ByteArray) (x18 : Bool) (H : Heap) : Res := opq (run (X d) NN (cd 12 [1, 1, 1, 1, 0, 1, 0, 1, 0]) (law24_command_k11111 d) [(0, (law24_command_k11111 d))] (retK (rs 12))) [(1, x1), (2, P0 x2), (4, P0 x4), (5, .string x5), (17, .string x17), (18, .bool x18)] H
noncomputable def law24_command_p11111 (d : Nat) (x1 : Value) (x2 : Nat) (x4 : Nat) (H : Heap) : Res := opq (run (X d) NN (cd 12 [1, 1, 1, 1, 1, 0]) (retK (rs 12)) [] (retK (rs 12))) [(1, x1), (2, P0 x2), (4, P0 x4)] H
noncomputable def law24_command_p11110101011 (d : Nat) (x1 : Value) (x2 : Nat) (x4 : Nat) (x5 : ByteArray) (x17 : ByteArray) (x28 : Bool) (H : Heap) : Res := opq (run (X d) NN (cd 12 [1, 1, 1, 1, 0, 1, 0, 1, 0, 1, 1, 0]) (law24_command_k11111 d) [(0, (law24_command_k11111 d))] (retK (rs 12))) [(1, x1), (2, P0 x2), (4, P0 x4), (5, .string x5), (17, .string x17), (28, .bool x28)] H
theorem law24_command_p11110101_eq (d : Nat) (x1 : Value) (x2 : Nat) (x4 : Nat) (x5 : ByteArray) (x17 : ByteArray) (x18 : Bool) (H : Heap) : law24_command_p11110101 d x1 x2 x4 x5 x17 x18 H =
  if x18 = true then
  (asP x1 fun o1 =>
    optK o1 fun a2 =>
    optK (Heap.ld1 H (ap a2 1)) fun v3 =>
    asI .i64 v3 fun n4 =>
    callK (X d n_hand_Pick [.int .i64 n4, .int .i64 5] H) fun v5 H6 =>
    asI .i64 v5 fun n7 =>
    if 0 ≤ n7 ∧ n7 < 5 then
    optK (partL [.string (S [97]), .string (S [98]), .string (S [99]), .string (S [97, 45, 49]), .string (S [66])] (((n7).toNat) * 1) 1 false) fun v8 =>
    asS v8 fun s9 =>
    newK H6 (.cells [.string s9] t_string false 0 false) fun p10 H11 =>
    optK (Heap.st1 H11 ⟨x4, 1, none⟩ (.slice (some ⟨p10, 0, none⟩) 1 1)) fun H12 =>
    law24_command_p11111 d x1 x2 x4 H12
    else none)
  else
  (if (sEq x17 (S [115, 101, 108, 101, 99, 116, 45, 119, 105, 110, 100, 111, 119])) = true then
    (law24_command_p11110101011 d x1 x2 x4 x5 x17 (sEq x17 (S [115, 101, 108, 101, 99, 116, 45, 119, 105, 110, 100, 111, 119])) H)
    else
    (if (sEq x17 (S [115, 101, 108, 101, 99, 116, 45, 112, 97, 110, 101])) = true then
      (law24_command_p11110101011 d x1 x2 x4 x5 x17 (sEq x17 (S [115, 101, 108, 101, 99, 116, 45, 112, 97, 110, 101])) H)
      else
      (if (sEq x17 (S [115, 119, 97, 112, 45, 112, 97, 110, 101])) = true then
        (law24_command_p11110101011 d x1 x2 x4 x5 x17 (sEq x17 (S [115, 119, 97, 112, 45, 112, 97, 110, 101])) H)
        else
        (law24_command_p11110101011 d x1 x2 x4 x5 x17 (sEq x17 (S [112, 97, 115, 116, 101])) H)))) := (opq_app _ _ _).trans <| by kernel_rfl
theorem law24_command_p11111_eq (d : Nat) (x1 : Value) (x2 : Nat) (x4 : Nat) (H : Heap) : law24_command_p11111 d x1 x2 x4 H =
  asP x1 fun o1 =>
  optK o1 fun a2 =>
  optK (Heap.ld1 H (ap a2 4)) fun v3 =>
  asI .i64 v3 fun n4 =>
  callK (X d n_hand_Pick [.int .i64 n4, .int .i64 20] H) fun v5 H6 =>
  asI .i64 v5 fun n7 =>
  if (decide (n7 = 0)) = true then
  (newK H6 (.cells [] t_string false 0 false) fun p8 H9 =>
    asP x1 fun o10 =>
    optK o10 fun a11 =>
    optK (Heap.ld1 H9 (ap a11 3)) fun v12 =>
    asSL v12 fun l13 =>
    appendK t_string 1 16 false (.slice (some ⟨p8, 0, none⟩) 0 0) l13.v H9 fun v14 H15 =>
    asSL v14 fun l16 =>
    optK (Heap.st1 H15 ⟨x4, 1, none⟩ l16.v) fun H17 =>
    optK (ldA H17 ⟨x4, 0, none⟩ 2) fun v18 =>
    asA v18 fun c19 =>
    effK (.store 2) [P0 x2, .agg c19] H17 fun _ H21 =>
    retK [.cell 2 2 true] [(2, P0 x2)] H21)
  else
  (if (decide (n7 = 1)) = true then
    (newK H6 (.cells [] t_string false 0 false) fun p23 H24 =>
      optK (Heap.ld1 H24 ⟨x4, 1, none⟩) fun v25 =>
      asSL v25 fun l26 =>
      appendK t_string 1 16 false (.slice (some ⟨p23, 0, none⟩) 0 0) l26.v H24 fun v27 H28 =>
      asSL v27 fun l29 =>
      newK H28 (.cells [.string (S [109, 111, 114, 101])] t_string false 0 false) fun p30 H31 =>
      appendK t_string 1 16 false l29.v (.slice (some ⟨p30, 0, none⟩) 1 1) H31 fun v32 H33 =>
      asSL v32 fun l34 =>
      optK (Heap.st1 H33 ⟨x4, 1, none⟩ l34.v) fun H35 =>
      optK (ldA H35 ⟨x4, 0, none⟩ 2) fun v36 =>
      asA v36 fun c37 =>
      effK (.store 2) [P0 x2, .agg c37] H35 fun _ H39 =>
      retK [.cell 2 2 true] [(2, P0 x2)] H39)
    else
    (if (decide (n7 = 2)) = true then
      (asP x1 fun o41 =>
        optK o41 fun a42 =>
        optK (Heap.ld1 H6 (ap a42 3)) fun v43 =>
        asSL v43 fun l44 =>
        if (decide ((0 : Int) < (l44.n : Int))) = true then
        (asP x1 fun o45 =>
          optK o45 fun a46 =>
          optK (Heap.ld1 H6 (ap a46 3)) fun v47 =>
          asSL v47 fun l48 =>
          optK l48.a fun a49 =>
          if 0 ≤ (0 : Int) ∧ (0 : Int) < (l48.n : Int) then
          optK (Heap.ld1 H6 (ap a49 0)) fun v50 =>
          asS v50 fun s51 =>
          optK (Heap.st1 H6 ⟨x4, 0, none⟩ (.string s51)) fun H52 =>
          optK (ldA H52 ⟨x4, 0, none⟩ 2) fun v53 =>
          asA v53 fun c54 =>
          effK (.store 2) [P0 x2, .agg c54] H52 fun _ H56 =>
          retK [.cell 2 2 true] [(2, P0 x2)] H56
          else none)
        else
        (optK (ldA H6 ⟨x4, 0, none⟩ 2) fun v58 =>
          asA v58 fun c59 =>
          effK (.store 2) [P0 x2, .agg c59] H6 fun _ H61 =>
          retK [.cell 2 2 true] [(2, P0 x2)] H61))
      else
      (optK (ldA H6 ⟨x4, 0, none⟩ 2) fun v63 =>
        asA v63 fun c64 =>
        effK (.store 2) [P0 x2, .agg c64] H6 fun _ H66 =>
        retK [.cell 2 2 true] [(2, P0 x2)] H66))) := (opq_app _ _ _).trans <| by kernel_rfl
theorem law24_command_p11110101011_eq (d : Nat) (x1 : Value) (x2 : Nat) (x4 : Nat) (x5 : ByteArray) (x17 : ByteArray) (x28 : Bool) (H : Heap) : law24_command_p11110101011 d x1 x2 x4 x5 x17 x28 H =
  if x28 = true then
  (newK H (.cells [.string x5] t_string false 0 false) fun p1 H2 =>
    optK (Heap.st1 H2 ⟨x4, 1, none⟩ (.slice (some ⟨p1, 0, none⟩) 1 1)) fun H3 =>
    law24_command_p11111 d x1 x2 x4 H3)
  else
  (if (sEq x17 (S [115, 112, 108, 105, 116, 45, 119, 105, 110, 100, 111, 119])) = true then
    (asP x1 fun o4 =>
      optK o4 fun a5 =>
      optK (Heap.ld1 H (ap a5 1)) fun v6 =>
      asI .i64 v6 fun n7 =>
      callK (X d n_hand_Pick [.int .i64 n7, .int .i64 3] H) fun v8 H9 =>
      asI .i64 v8 fun n10 =>
      if 0 ≤ n10 ∧ n10 < 3 then
      optK (partL [.string (S [45, 104]), .string (S [45, 118]), .string (S [45, 120])] (((n10).toNat) * 1) 1 false) fun v11 =>
      asS v11 fun s12 =>
      newK H9 (.cells [.string s12] t_string false 0 false) fun p13 H14 =>
      optK (Heap.st1 H14 ⟨x4, 1, none⟩ (.slice (some ⟨p13, 0, none⟩) 1 1)) fun H15 =>
      law24_command_p11111 d x1 x2 x4 H15
      else none)
    else
    (if (sEq x17 (S [114, 101, 115, 105, 122, 101, 45, 112, 97, 110, 101])) = true then
      (asP x1 fun o16 =>
        optK o16 fun a17 =>
        optK (Heap.ld1 H (ap a17 1)) fun v18 =>
        asI .i64 v18 fun n19 =>
        callK (X d n_hand_Pick [.int .i64 n19, .int .i64 4] H) fun v20 H21 =>
        asI .i64 v20 fun n22 =>
        if 0 ≤ n22 ∧ n22 < 4 then
        optK (partL [.string (S [45, 76]), .string (S [45, 82]), .string (S [45, 85]), .string (S [45, 68])] (((n22).toNat) * 1) 1 false) fun v23 =>
        asS v23 fun s24 =>
        newK H21 (.cells [.string s24, .string x5] t_string false 0 false) fun p25 H26 =>
        optK (Heap.st1 H26 ⟨x4, 1, none⟩ (.slice (some ⟨p25, 0, none⟩) 2 2)) fun H27 =>
        law24_command_p11111 d x1 x2 x4 H27
        else none)
      else
      (if (sEq x17 (S [99, 111, 112, 121])) = true then
        (asP x1 fun o28 =>
          optK o28 fun a29 =>
          optK (Heap.ld1 H (ap a29 1)) fun v30 =>
          asI .i64 v30 fun n31 =>
          callK (X d n_hand_Pick [.int .i64 n31, .int .i64 9] H) fun v32 H33 =>
          asI .i64 v32 fun n34 =>
          callK (X d n_ref22_Digits [.int .i64 n34] H33) fun v35 H36 =>
          asS v35 fun s37 =>
          newK H36 (.cells [.string s37, .string x5] t_string false 0 false) fun p38 H39 =>
          optK (Heap.st1 H39 ⟨x4, 1, none⟩ (.slice (some ⟨p38, 0, none⟩) 2 2)) fun H40 =>
          law24_command_p11111 d x1 x2 x4 H40)
        else
        (if (sEq x17 (S [115, 101, 110, 100])) = true then
          (asP x1 fun o41 =>
            optK o41 fun a42 =>
            optK (Heap.ld1 H (ap a42 1)) fun v43 =>
            asI .i64 v43 fun n44 =>
            callK (X d n_hand_Pick [.int .i64 n44, .int .i64 4] H) fun v45 H46 =>
            asI .i64 v45 fun n47 =>
            if 0 ≤ n47 ∧ n47 < 4 then
            optK (partL [.string (S [120]), .string (S [97, 32, 98]), .string (S []), .string (S [34, 113, 92])] (((n47).toNat) * 1) 1 false) fun v48 =>
            asS v48 fun s49 =>
            newK H46 (.cells [.string s49] t_string false 0 false) fun p50 H51 =>
            optK (Heap.st1 H51 ⟨x4, 1, none⟩ (.slice (some ⟨p50, 0, none⟩) 1 1)) fun H52 =>
            law24_command_p11111 d x1 x2 x4 H52
            else none)
          else
          (law24_command_p11111 d x1 x2 x4 H))))) := (opq_app _ _ _).trans <| by kernel_rfl
theorem law24_command_eq (d : Nat) (x0 : Array Value) (H : Heap) : X (d + 1) n_law24_command [.agg x0] H =
  effK (.box t_law24_Raw) [.agg x0] H fun v1 H2 =>
  newK H2 (.cells [.string (S []), .slice none 0 0] t_cmd_Command false 0 false) fun p3 H4 =>
  asP v1 fun o5 =>
  optK o5 fun a6 =>
  optK (Heap.ld1 H4 (ap a6 0)) fun v7 =>
  asI .i64 v7 fun n8 =>
  callK (X d n_hand_Pick [.int .i64 n8, .int .i64 20] H4) fun v9 H10 =>
  asI .i64 v9 fun n11 =>
  if 0 ≤ n11 ∧ n11 < 20 then
  optK (partL [.string (S [110, 101, 119, 45, 115, 101, 115, 115, 105, 111, 110]), .string (S [107, 105, 108, 108, 45, 115, 101, 115, 115, 105, 111, 110]), .string (S [114, 101, 110, 97, 109, 101]), .string (S [110, 101, 119, 45, 119, 105, 110, 100, 111, 119]), .string (S [107, 105, 108, 108, 45, 119, 105, 110, 100, 111, 119]), .string (S [115, 101, 108, 101, 99, 116, 45, 119, 105, 110, 100, 111, 119]), .string (S [115, 112, 108, 105, 116, 45, 119, 105, 110, 100, 111, 119]), .string (S [115, 112, 108, 105, 116, 45, 119, 105, 110, 100, 111, 119]), .string (S [107, 105, 108, 108, 45, 112, 97, 110, 101]), .string (S [115, 101, 108, 101, 99, 116, 45, 112, 97, 110, 101]), .string (S [115, 119, 97, 112, 45, 112, 97, 110, 101]), .string (S [114, 101, 115, 105, 122, 101, 45, 112, 97, 110, 101]), .string (S [114, 101, 115, 105, 122, 101, 45, 112, 97, 110, 101]), .string (S [122, 111, 111, 109]), .string (S [99, 111, 112, 121]), .string (S [112, 97, 115, 116, 101]), .string (S [115, 101, 110, 100]), .string (S [115, 101, 110, 100]), .string (S [110, 111, 116, 104, 105, 110, 103]), .string (S [115, 112, 108, 105, 116, 45, 119, 105, 110, 100, 111, 119])] (((n11).toNat) * 1) 1 false) fun v12 =>
  asS v12 fun s13 =>
  newK H10 (.cells [.string (S []), .slice none 0 0] t_cmd_Command false 0 false) fun p14 H15 =>
  optK (Heap.stN H15 ⟨p14, 0, none⟩ [.string s13, .slice none 0 0]) fun H16 =>
  asP v1 fun o17 =>
  optK o17 fun a18 =>
  optK (Heap.ld1 H16 (ap a18 2)) fun v19 =>
  asI .i64 v19 fun n20 =>
  callK (X d n_hand_Pick [.int .i64 n20, .int .i64 12] H16) fun v21 H22 =>
  asI .i64 v21 fun n23 =>
  callK (X d n_ref22_Digits [.int .i64 n23] H22) fun v24 H25 =>
  asS v24 fun s26 =>
  if (sEq s13 (S [110, 101, 119, 45, 115, 101, 115, 115, 105, 111, 110])) = true then
  (law24_command_p11110101 d v1 p3 p14 s26 s13 (sEq s13 (S [110, 101, 119, 45, 115, 101, 115, 115, 105, 111, 110])) H25)
  else
  (law24_command_p11110101 d v1 p3 p14 s26 s13 (sEq s13 (S [114, 101, 110, 97, 109, 101])) H25)
  else none := by kernel_rfl
end Go.Proofs.YtnpmlgibjhjiiaaDoor.dec

namespace Go.Proofs.YtnpmlgibjhjiiaaDoor.dec
open Go Go.Cm
/-! porthole/portholeref22.Digits -/
theorem ref22_Digits_eq (d : Nat) (x0 : Int) (H : Heap) : X (d + 1) n_ref22_Digits [.int .i64 x0] H =
  if (decide (x0 < 0)) = true then
  (callK (X d n_ref22_below [.int .i64 x0] H) fun v1 H2 =>
    asS v1 fun s3 =>
    if slen (S [45]) + slen s3 ≤ 9223372036854775807 then
    some (.string (sCat (S [45]) s3), H2)
    else none)
  else
  (callK (X d n_ref22_below [.int .i64 (IntKind.wrap .i64 (0 - x0))] H) fun v4 H5 =>
    asS v4 fun s6 =>
    some (.string s6, H5)) := by kernel_rfl
end Go.Proofs.YtnpmlgibjhjiiaaDoor.dec

namespace Go.Proofs.YtnpmlgibjhjiiaaDoor.dec
open Go Go.Cm
/-! porthole/portholeref22.Print -/
noncomputable def ref22_Print_k111 (d : Nat) : Kt := run (X d) NN (cd 17 [1, 1, 1]) (retK (rs 17)) [] (retK (rs 17))
noncomputable def ref22_Print_l11010 (d : Nat) (m0 : Nat) : Kt := iter (fun k => run (X d) NN (cd 17 [1, 1, 0, 1, 0, 0]) (backK [(0, .sl), (3, .str), (4, .int .i64)] (opq k)) [(0, (ref22_Print_k111 d))] (retK (rs 17))) m0
noncomputable def ref22_Print_k11010011 (d : Nat) (m0 : Nat) : Kt := run (X d) NN (cd 17 [1, 1, 0, 1, 0, 0, 1, 1]) (backK [(0, .sl), (3, .str), (4, .int .i64)] (opq (ref22_Print_l11010 d m0))) [(0, (ref22_Print_k111 d))] (retK (rs 17))
noncomputable def ref22_Print_l11010010011011110 (d : Nat) (m0 : Nat) (m1 : Nat) : Kt := iter (fun k => run (X d) NN (cd 17 [1, 1, 0, 1, 0, 0, 1, 0, 0, 1, 1, 0, 1, 1, 1, 1, 0, 0]) (backK [(0, .sl), (3, .str), (4, .int .i64), (7, .int .i64)] (opq k)) [(2, (ref22_Print_k11010011 d m0)), (1, (ref22_Print_k11010011 d m0)), (0, (ref22_Print_k111 d))] (retK (rs 17))) m1
noncomputable def ref22_Print_p11010 (d : Nat) (m0 : Nat) (x0 : Sl) (x3 : ByteArray) (x4 : Int) (H : Heap) : Res := opq (ref22_Print_l11010 d m0) [(0, x0.v), (3, .string x3), (4, .int .i64 x4)] H
noncomputable def ref22_Print_p11010010011 (d : Nat) (m0 : Nat) (x0 : Sl) (x3 : ByteArray) (x4 : Int) (H : Heap) : Res := opq (run (X d) NN (cd 17 [1, 1, 0, 1, 0, 0, 1, 0, 0, 1, 1, 0]) (ref22_Print_k11010011 d m0) [(1, (ref22_Print_k11010011 d m0)), (0, (ref22_Print_k111 d))] (retK (rs 17))) [(0, x0.v), (3, .string x3), (4, .int .i64 x4)] H
noncomputable def ref22_Print_p11010010011011110 (d : Nat) (m0 : Nat) (m1 : Nat) (x0 : Sl) (x3 : ByteArray) (x4 : Int) (x7 : Int) (H : Heap) : Res := opq (ref22_Print_l11010010011011110 d m0 m1) [(0, x0.v), (3, .string x3), (4, .int .i64 x4), (7, .int .i64 x7)] H
theorem ref22_Print_p11010_s (d : Nat) (m0 : Nat) (x0 : Sl) (x3 : ByteArray) (x4 : Int) (H : Heap) : ref22_Print_p11010 d (m0 + 1) x0 x3 x4 H =
  if (decide (x4 < (x0.n : Int))) = true then
  (optK x0.a fun a1 =>
    if 0 ≤ x4 ∧ x4 < (x0.n : Int) then
    optK (Heap.ld1 H (ap (ap a1 (((x4).toNat) * 2)) 0)) fun v2 =>
    asS v2 fun s3 =>
    if (sEq s3 (S [])) = true then
    (some (.string (S []), H))
    else
    (if (decide ((0 : Int) < x4)) = true then
      (if slen x3 + slen (S [59, 32]) ≤ 9223372036854775807 then
        ref22_Print_p11010010011 d m0 x0 (sCat x3 (S [59, 32])) x4 H
        else none)
      else
      (ref22_Print_p11010010011 d m0 x0 x3 x4 H))
    else none)
  else
  (some (.string x3, H)) := (opq_app _ _ _).trans <| by kernel_rfl
theorem ref22_Print_p11010010011_eq (d : Nat) (m0 : Nat) (x0 : Sl) (x3 : ByteArray) (x4 : Int) (H : Heap) : ref22_Print_p11010010011 d m0 x0 x3 x4 H =
  optK x0.a fun a1 =>
  if 0 ≤ x4 ∧ x4 < (x0.n : Int) then
  optK (Heap.ld1 H (ap (ap a1 (((x4).toNat) * 2)) 0)) fun v2 =>
  asS v2 fun s3 =>
  callK (X d n_ref22_word [.string s3] H) fun v4 H5 =>
  castT [.str, .bool] v4 fun l6 =>
  castT [.str, .bool] (.tuple ⟨l6⟩) fun l7 =>
  optK l7[0]? fun v8 =>
  asS v8 fun s9 =>
  optK l7[1]? fun v10 =>
  asB v10 fun b11 =>
  if (!b11) = true then
  (some (.string (S []), H5))
  else
  (if slen x3 + slen s9 ≤ 9223372036854775807 then
    ref22_Print_p11010010011011110 d m0 NN x0 (sCat x3 s9) x4 0 H5
    else none)
  else none := (opq_app _ _ _).trans <| by kernel_rfl
theorem ref22_Print_p11010010011011110_s (d : Nat) (m0 : Nat) (m1 : Nat) (x0 : Sl) (x3 : ByteArray) (x4 : Int) (x7 : Int) (H : Heap) : ref22_Print_p11010010011011110 d m0 (m1 + 1) x0 x3 x4 x7 H =
  optK x0.a fun a1 =>
  if 0 ≤ x4 ∧ x4 < (x0.n : Int) then
  optK (Heap.ld1 H (ap (ap a1 (((x4).toNat) * 2)) 1)) fun v2 =>
  asSL v2 fun l3 =>
  if (decide (x7 < (l3.n : Int))) = true then
  (optK x0.a fun a4 =>
    if 0 ≤ x4 ∧ x4 < (x0.n : Int) then
    optK (Heap.ld1 H (ap (ap a4 (((x4).toNat) * 2)) 1)) fun v5 =>
    asSL v5 fun l6 =>
    optK l6.a fun a7 =>
    if 0 ≤ x7 ∧ x7 < (l6.n : Int) then
    optK (Heap.ld1 H (ap a7 (((x7).toNat) * 1))) fun v8 =>
    asS v8 fun s9 =>
    callK (X d n_ref22_word [.string s9] H) fun v10 H11 =>
    castT [.str, .bool] v10 fun l12 =>
    castT [.str, .bool] (.tuple ⟨l12⟩) fun l13 =>
    optK l13[0]? fun v14 =>
    asS v14 fun s15 =>
    optK l13[1]? fun v16 =>
    asB v16 fun b17 =>
    if (!b17) = true then
    (some (.string (S []), H11))
    else
    (if slen x3 + slen (S [32]) ≤ 9223372036854775807 then
      if slen (sCat x3 (S [32])) + slen s15 ≤ 9223372036854775807 then
      ref22_Print_p11010010011011110 d m0 m1 x0 (sCat (sCat x3 (S [32])) s15) x4 (IntKind.wrap .i64 (x7 + 1)) H11
      else none
      else none)
    else none
    else none)
  else
  (ref22_Print_p11010 d m0 x0 x3 (IntKind.wrap .i64 (x4 + 1)) H)
  else none := (opq_app _ _ _).trans <| by kernel_rfl
theorem ref22_Print_eq (d : Nat) (x0 : Sl) (H : Heap) : X (d + 1) n_ref22_Print [x0.v] H =
  ref22_Print_p11010 d NN x0 (S []) 0 H := by kernel_rfl
end Go.Proofs.YtnpmlgibjhjiiaaDoor.dec

namespace Go.Proofs.YtnpmlgibjhjiiaaDoor.dec
open Go Go.Cm
/-! porthole/portholeref22.word -/
noncomputable def ref22_word_k1111 (d : Nat) : Kt := run (X d) NN (cd 30 [1, 1, 1, 1]) (retK (rs 30)) [] (retK (rs 30))
noncomputable def ref22_word_l111010 (d : Nat) (m0 : Nat) : Kt := iter (fun k => run (X d) NN (cd 30 [1, 1, 1, 0, 1, 0, 0]) (backK [(0, .str), (4, .bool), (5, .str), (6, .int .i64)] (opq k)) [(0, (ref22_word_k1111 d))] (retK (rs 30))) m0
noncomputable def ref22_word_k111010011 (d : Nat) (m0 : Nat) : Kt := run (X d) NN (cd 30 [1, 1, 1, 0, 1, 0, 0, 1, 1]) (backK [(0, .str), (4, .bool), (5, .str), (6, .int .i64)] (opq (ref22_word_l111010 d m0))) [(0, (ref22_word_k1111 d))] (retK (rs 30))
noncomputable def ref22_word_k11101001001 (d : Nat) (m0 : Nat) : Kt := run (X d) NN (cd 30 [1, 1, 1, 0, 1, 0, 0, 1, 0, 0, 1]) (ref22_word_k111010011 d m0) [(1, (ref22_word_k111010011 d m0)), (0, (ref22_word_k1111 d))] (retK (rs 30))
noncomputable def ref22_word_k11101001001101 (d : Nat) (m0 : Nat) : Kt := run (X d) NN (cd 30 [1, 1, 1, 0, 1, 0, 0, 1, 0, 0, 1, 1, 0, 1]) (ref22_word_k111010011 d m0) [(1, (ref22_word_k111010011 d m0)), (0, (ref22_word_k1111 d))] (retK (rs 30))
noncomputable def ref22_word_p111010 (d : Nat) (m0 : Nat) (x0 : ByteArray) (x4 : Bool) (x5 : ByteArray) (x6 : Int) (H : Heap) : Res := opq (ref22_word_l111010 d m0) [(0, .string x0), (4, .bool x4), (5, .string x5), (6, .int .i64 x6)] H
noncomputable def ref22_word_p111010010001 (d : Nat) (m0 : Nat) (x0 : ByteArray) (x4 : Bool) (x5 : ByteArray) (x6 : Int) (x24 : Bool) (H : Heap) : Res := opq (run (X d) NN (cd 30 [1, 1, 1, 0, 1, 0, 0, 1, 0, 0, 0, 1, 0]) (ref22_word_k11101001001 d m0) [(1, (ref22_word_k111010011 d m0)), (0, (ref22_word_k1111 d))] (retK (rs 30))) [(0, .string x0), (4, .bool x4), (5, .string x5), (6, .int .i64 x6), (24, .bool x24)] H
noncomputable def ref22_word_p111010010011 (d : Nat) (m0 : Nat) (x0 : ByteArray) (x4 : Bool) (x5 : ByteArray) (x6 : Int) (H : Heap) : Res := opq (run (X d) NN (cd 30 [1, 1, 1, 0, 1, 0, 0, 1, 0, 0, 1, 1, 0]) (ref22_word_k111010011 d m0) [(1, (ref22_word_k111010011 d m0)), (0, (ref22_word_k1111 d))] (retK (rs 30))) [(0, .string x0), (4, .bool x4), (5, .string x5), (6, .int .i64 x6)] H
noncomputable def ref22_word_p111010010011001 (d : Nat) (m0 : Nat) (x0 : ByteArray) (x4 : Bool) (x5 : ByteArray) (x6 : Int) (x41 : Bool) (H : Heap) : Res := opq (run (X d) NN (cd 30 [1, 1, 1, 0, 1, 0, 0, 1, 0, 0, 1, 1, 0, 0, 1, 0]) (ref22_word_k11101001001101 d m0) [(1, (ref22_word_k111010011 d m0)), (0, (ref22_word_k1111 d))] (retK (rs 30))) [(0, .string x0), (4, .bool x4), (5, .string x5), (6, .int .i64 x6), (41, .bool x41)] H
noncomputable def ref22_word_p11101001001101 (d : Nat) (m0 : Nat) (x0 : ByteArray) (x4 : Bool) (x5 : ByteArray) (x6 : Int) (H : Heap) : Res := opq (run (X d) NN (cd 30 [1, 1, 1, 0, 1, 0, 0, 1, 0, 0, 1, 1, 0, 1, 0]) (ref22_word_k111010011 d m0) [(1, (ref22_word_k111010011 d m0)), (0, (ref22_word_k1111 d))] (retK (rs 30))) [(0, .string x0), (4, .bool x4), (5, .string x5), (6, .int .i64 x6)] H
theorem ref22_word_p111010_s (d : Nat) (m0 : Nat) (x0 : ByteArray) (x4 : Bool) (x5 : ByteArray) (x6 : Int) (H : Heap) : ref22_word_p111010 d (m0 + 1) x0 x4 x5 x6 H =
  if (decide (x6 < (slen x0 : Int))) = true then
  (if 0 ≤ x6 ∧ x6 < (slen x0 : Int) then
    if (decide (bt x0 ((x6).toNat) < 32)) = true then
    (ref22_word_p111010010001 d m0 x0 x4 x5 x6 true H)
    else
    (if 0 ≤ x6 ∧ x6 < (slen x0 : Int) then
      ref22_word_p111010010001 d m0 x0 x4 x5 x6 (decide ((126 : Int) < bt x0 ((x6).toNat))) H
      else none)
    else none)
  else
  (if x4 = true then
    (some (.tuple #[.string x0, .bool true], H))
    else
    (if slen x5 + slen (S [34]) ≤ 9223372036854775807 then
      some (.tuple #[.string (sCat x5 (S [34])), .bool true], H)
      else none)) := (opq_app _ _ _).trans <| by kernel_rfl
theorem ref22_word_p111010010001_eq (d : Nat) (m0 : Nat) (x0 : ByteArray) (x4 : Bool) (x5 : ByteArray) (x6 : Int) (x24 : Bool) (H : Heap) : ref22_word_p111010010001 d m0 x0 x4 x5 x6 x24 H =
  if x24 = true then
  (some (.tuple #[.string (S []), .bool false], H))
  else
  (if x4 = true then
    (if 0 ≤ x6 ∧ x6 < (slen x0 : Int) then
      callK (X d n_ref22_bare [.int .u8 (bt x0 ((x6).toNat))] H) fun v1 H2 =>
      asB v1 fun b3 =>
      ref22_word_p111010010011 d m0 x0 b3 x5 x6 H2
      else none)
    else
    (ref22_word_p111010010011 d m0 x0 false x5 x6 H)) := (opq_app _ _ _).trans <| by kernel_rfl
theorem ref22_word_p111010010011_eq (d : Nat) (m0 : Nat) (x0 : ByteArray) (x4 : Bool) (x5 : ByteArray) (x6 : Int) (H : Heap) : ref22_word_p111010010011 d m0 x0 x4 x5 x6 H =
  if 0 ≤ x6 ∧ x6 < (slen x0 : Int) then
  if (decide (bt x0 ((x6).toNat) = 34)) = true then
  (ref22_word_p111010010011001 d m0 x0 x4 x5 x6 true H)
  else
  (if 0 ≤ x6 ∧ x6 < (slen x0 : Int) then
    ref22_word_p111010010011001 d m0 x0 x4 x5 x6 (decide (bt x0 ((x6).toNat) = 92)) H
    else none)
  else none := (opq_app _ _ _).trans <| by kernel_rfl
theorem ref22_word_p111010010011001_eq (d : Nat) (m0 : Nat) (x0 : ByteArray) (x4 : Bool) (x5 : ByteArray) (x6 : Int) (x41 : Bool) (H : Heap) : ref22_word_p111010010011001 d m0 x0 x4 x5 x6 x41 H =
  if x41 = true then
  (if slen x5 + slen (S [92]) ≤ 9223372036854775807 then
    ref22_word_p11101001001101 d m0 x0 x4 (sCat x5 (S [92])) x6 H
    else none)
  else
  (ref22_word_p11101001001101 d m0 x0 x4 x5 x6 H) := (opq_app _ _ _).trans <| by kernel_rfl
theorem ref22_word_p11101001001101_eq (d : Nat) (m0 : Nat) (x0 : ByteArray) (x4 : Bool) (x5 : ByteArray) (x6 : Int) (H : Heap) : ref22_word_p11101001001101 d m0 x0 x4 x5 x6 H =
  if 0 ≤ x6 ∧ x6 ≤ IntKind.wrap .i64 (x6 + 1) ∧ IntKind.wrap .i64 (x6 + 1) ≤ (slen x0 : Int) then
  if slen x5 + slen (sSub x0 ((x6).toNat) ((IntKind.wrap .i64 (x6 + 1)).toNat)) ≤ 9223372036854775807 then
  ref22_word_p111010 d m0 x0 x4 (sCat x5 (sSub x0 ((x6).toNat) ((IntKind.wrap .i64 (x6 + 1)).toNat))) (IntKind.wrap .i64 (x6 + 1)) H
  else none
  else none := (opq_app _ _ _).trans <| by kernel_rfl
theorem ref22_word_eq (d : Nat) (x0 : ByteArray) (H : Heap) : X (d + 1) n_ref22_word [.string x0] H =
  ref22_word_p111010 d NN x0 (!sEq x0 (S [])) (S [34]) 0 H := by kernel_rfl
end Go.Proofs.YtnpmlgibjhjiiaaDoor.dec

namespace Go.Proofs.YtnpmlgibjhjiiaaDoor.dec
open Go Go.Cm
/-! porthole/portholeref22.bare -/
theorem ref22_bare_eq (d : Nat) (x0 : Int) (H : Heap) : X (d + 1) n_ref22_bare [.int .u8 x0] H =
  if (decide ((32 : Int) < x0)) = true then
  (if (decide (x0 < 127)) = true then
    (if (!decide (x0 = 59)) = true then
      (if (!decide (x0 = 34)) = true then
        (some (.bool (!decide (x0 = 92)), H))
        else
        (some (.bool false, H)))
      else
      (some (.bool false, H)))
    else
    (some (.bool false, H)))
  else
  (some (.bool false, H)) := by kernel_rfl
end Go.Proofs.YtnpmlgibjhjiiaaDoor.dec

namespace Go.Proofs.YtnpmlgibjhjiiaaDoor.dec
open Go Go.Cm
/-! porthole/portholeref22.Right -/
noncomputable def ref22_Right_k111 (d : Nat) : Kt := run (X d) NN (cd 13 [1, 1, 1]) (retK (rs 13)) [] (retK (rs 13))
noncomputable def ref22_Right_p110101 (d : Nat) (x1 : Value) (x3 : Int) (x8 : ByteArray) (x9 : Bool) (H : Heap) : Res := opq (run (X d) NN (cd 13 [1, 1, 0, 1, 0, 1, 0]) (ref22_Right_k111 d) [(0, (ref22_Right_k111 d))] (retK (rs 13))) [(1, x1), (3, .int .i64 x3), (8, .string x8), (9, .bool x9)] H
noncomputable def ref22_Right_p110101011 (d : Nat) (x1 : Value) (x3 : Int) (x8 : ByteArray) (x17 : Bool) (H : Heap) : Res := opq (run (X d) NN (cd 13 [1, 1, 0, 1, 0, 1, 0, 1, 1, 0]) (ref22_Right_k111 d) [(0, (ref22_Right_k111 d))] (retK (rs 13))) [(1, x1), (3, .int .i64 x3), (8, .string x8), (17, .bool x17)] H
noncomputable def ref22_Right_p110101011011 (d : Nat) (x1 : Value) (x3 : Int) (x8 : ByteArray) (x29 : Bool) (H : Heap) : Res := opq (run (X d) NN (cd 13 [1, 1, 0, 1, 0, 1, 0, 1, 1, 0, 1, 1, 0]) (ref22_Right_k111 d) [(0, (ref22_Right_k111 d))] (retK (rs 13))) [(1, x1), (3, .int .i64 x3), (8, .string x8), (29, .bool x29)] H
theorem ref22_Right_p110101_eq (d : Nat) (x1 : Value) (x3 : Int) (x8 : ByteArray) (x9 : Bool) (H : Heap) : ref22_Right_p110101 d x1 x3 x8 x9 H =
  if x9 = true then
  (some (.bool (decide (x3 = 0)), H))
  else
  (if (sEq x8 (S [110, 101, 119, 45, 115, 101, 115, 115, 105, 111, 110])) = true then
    (ref22_Right_p110101011 d x1 x3 x8 (sEq x8 (S [110, 101, 119, 45, 115, 101, 115, 115, 105, 111, 110])) H)
    else
    (ref22_Right_p110101011 d x1 x3 x8 (sEq x8 (S [114, 101, 110, 97, 109, 101])) H)) := (opq_app _ _ _).trans <| by kernel_rfl
theorem ref22_Right_p110101011_eq (d : Nat) (x1 : Value) (x3 : Int) (x8 : ByteArray) (x17 : Bool) (H : Heap) : ref22_Right_p110101011 d x1 x3 x8 x17 H =
  if x17 = true then
  (if (decide (x3 = 1)) = true then
    (asP x1 fun o1 =>
      optK o1 fun a2 =>
      optK (Heap.ld1 H (ap a2 1)) fun v3 =>
      asSL v3 fun l4 =>
      optK l4.a fun a5 =>
      if 0 ≤ (0 : Int) ∧ (0 : Int) < (l4.n : Int) then
      optK (Heap.ld1 H (ap a5 0)) fun v6 =>
      asS v6 fun s7 =>
      callK (X d n_ref15_IsName [.string s7] H) fun v8 H9 =>
      asB v8 fun b10 =>
      some (.bool b10, H9)
      else none)
    else
    (some (.bool false, H)))
  else
  (if (sEq x8 (S [115, 101, 108, 101, 99, 116, 45, 119, 105, 110, 100, 111, 119])) = true then
    (ref22_Right_p110101011011 d x1 x3 x8 (sEq x8 (S [115, 101, 108, 101, 99, 116, 45, 119, 105, 110, 100, 111, 119])) H)
    else
    (if (sEq x8 (S [115, 101, 108, 101, 99, 116, 45, 112, 97, 110, 101])) = true then
      (ref22_Right_p110101011011 d x1 x3 x8 (sEq x8 (S [115, 101, 108, 101, 99, 116, 45, 112, 97, 110, 101])) H)
      else
      (if (sEq x8 (S [115, 119, 97, 112, 45, 112, 97, 110, 101])) = true then
        (ref22_Right_p110101011011 d x1 x3 x8 (sEq x8 (S [115, 119, 97, 112, 45, 112, 97, 110, 101])) H)
        else
        (ref22_Right_p110101011011 d x1 x3 x8 (sEq x8 (S [112, 97, 115, 116, 101])) H)))) := (opq_app _ _ _).trans <| by kernel_rfl
theorem ref22_Right_p110101011011_eq (d : Nat) (x1 : Value) (x3 : Int) (x8 : ByteArray) (x29 : Bool) (H : Heap) : ref22_Right_p110101011011 d x1 x3 x8 x29 H =
  if x29 = true then
  (if (decide (x3 = 1)) = true then
    (asP x1 fun o1 =>
      optK o1 fun a2 =>
      optK (Heap.ld1 H (ap a2 1)) fun v3 =>
      asSL v3 fun l4 =>
      optK l4.a fun a5 =>
      if 0 ≤ (0 : Int) ∧ (0 : Int) < (l4.n : Int) then
      optK (Heap.ld1 H (ap a5 0)) fun v6 =>
      asS v6 fun s7 =>
      callK (X d n_ref22_number [.string s7] H) fun v8 H9 =>
      asI .i64 v8 fun n10 =>
      some (.bool (decide ((0 : Int) ≤ n10)), H9)
      else none)
    else
    (some (.bool false, H)))
  else
  (if (sEq x8 (S [115, 112, 108, 105, 116, 45, 119, 105, 110, 100, 111, 119])) = true then
    (if (decide (x3 = 1)) = true then
      (asP x1 fun o11 =>
        optK o11 fun a12 =>
        optK (Heap.ld1 H (ap a12 1)) fun v13 =>
        asSL v13 fun l14 =>
        optK l14.a fun a15 =>
        if 0 ≤ (0 : Int) ∧ (0 : Int) < (l14.n : Int) then
        optK (Heap.ld1 H (ap a15 0)) fun v16 =>
        asS v16 fun s17 =>
        if (sEq s17 (S [45, 104])) = true then
        (some (.bool true, H))
        else
        (asP x1 fun o18 =>
          optK o18 fun a19 =>
          optK (Heap.ld1 H (ap a19 1)) fun v20 =>
          asSL v20 fun l21 =>
          optK l21.a fun a22 =>
          if 0 ≤ (0 : Int) ∧ (0 : Int) < (l21.n : Int) then
          optK (Heap.ld1 H (ap a22 0)) fun v23 =>
          asS v23 fun s24 =>
          some (.bool (sEq s24 (S [45, 118])), H)
          else none)
        else none)
      else
      (some (.bool false, H)))
    else
    (if (sEq x8 (S [114, 101, 115, 105, 122, 101, 45, 112, 97, 110, 101])) = true then
      (if (decide (x3 = 2)) = true then
        (asP x1 fun o25 =>
          optK o25 fun a26 =>
          optK (Heap.ld1 H (ap a26 1)) fun v27 =>
          asSL v27 fun l28 =>
          optK l28.a fun a29 =>
          if 0 ≤ (0 : Int) ∧ (0 : Int) < (l28.n : Int) then
          optK (Heap.ld1 H (ap a29 0)) fun v30 =>
          asS v30 fun s31 =>
          if (sEq s31 (S [45, 76])) = true then
          (asP x1 fun o32 =>
            optK o32 fun a33 =>
            optK (Heap.ld1 H (ap a33 1)) fun v34 =>
            asSL v34 fun l35 =>
            optK l35.a fun a36 =>
            if 0 ≤ (1 : Int) ∧ (1 : Int) < (l35.n : Int) then
            optK (Heap.ld1 H (ap a36 1)) fun v37 =>
            asS v37 fun s38 =>
            callK (X d n_ref22_number [.string s38] H) fun v39 H40 =>
            asI .i64 v39 fun n41 =>
            some (.bool (decide ((0 : Int) ≤ n41)), H40)
            else none)
          else
          (asP x1 fun o42 =>
            optK o42 fun a43 =>
            optK (Heap.ld1 H (ap a43 1)) fun v44 =>
            asSL v44 fun l45 =>
            optK l45.a fun a46 =>
            if 0 ≤ (0 : Int) ∧ (0 : Int) < (l45.n : Int) then
            optK (Heap.ld1 H (ap a46 0)) fun v47 =>
            asS v47 fun s48 =>
            if (sEq s48 (S [45, 82])) = true then
            (asP x1 fun o49 =>
              optK o49 fun a50 =>
              optK (Heap.ld1 H (ap a50 1)) fun v51 =>
              asSL v51 fun l52 =>
              optK l52.a fun a53 =>
              if 0 ≤ (1 : Int) ∧ (1 : Int) < (l52.n : Int) then
              optK (Heap.ld1 H (ap a53 1)) fun v54 =>
              asS v54 fun s55 =>
              callK (X d n_ref22_number [.string s55] H) fun v56 H57 =>
              asI .i64 v56 fun n58 =>
              some (.bool (decide ((0 : Int) ≤ n58)), H57)
              else none)
            else
            (asP x1 fun o59 =>
              optK o59 fun a60 =>
              optK (Heap.ld1 H (ap a60 1)) fun v61 =>
              asSL v61 fun l62 =>
              optK l62.a fun a63 =>
              if 0 ≤ (0 : Int) ∧ (0 : Int) < (l62.n : Int) then
              optK (Heap.ld1 H (ap a63 0)) fun v64 =>
              asS v64 fun s65 =>
              if (sEq s65 (S [45, 85])) = true then
              (asP x1 fun o66 =>
                optK o66 fun a67 =>
                optK (Heap.ld1 H (ap a67 1)) fun v68 =>
                asSL v68 fun l69 =>
                optK l69.a fun a70 =>
                if 0 ≤ (1 : Int) ∧ (1 : Int) < (l69.n : Int) then
                optK (Heap.ld1 H (ap a70 1)) fun v71 =>
                asS v71 fun s72 =>
                callK (X d n_ref22_number [.string s72] H) fun v73 H74 =>
                asI .i64 v73 fun n75 =>
                some (.bool (decide ((0 : Int) ≤ n75)), H74)
                else none)
              else
              (asP x1 fun o76 =>
                optK o76 fun a77 =>
                optK (Heap.ld1 H (ap a77 1)) fun v78 =>
                asSL v78 fun l79 =>
                optK l79.a fun a80 =>
                if 0 ≤ (0 : Int) ∧ (0 : Int) < (l79.n : Int) then
                optK (Heap.ld1 H (ap a80 0)) fun v81 =>
                asS v81 fun s82 =>
                if (sEq s82 (S [45, 68])) = true then
                (asP x1 fun o83 =>
                  optK o83 fun a84 =>
                  optK (Heap.ld1 H (ap a84 1)) fun v85 =>
                  asSL v85 fun l86 =>
                  optK l86.a fun a87 =>
                  if 0 ≤ (1 : Int) ∧ (1 : Int) < (l86.n : Int) then
                  optK (Heap.ld1 H (ap a87 1)) fun v88 =>
                  asS v88 fun s89 =>
                  callK (X d n_ref22_number [.string s89] H) fun v90 H91 =>
                  asI .i64 v90 fun n92 =>
                  some (.bool (decide ((0 : Int) ≤ n92)), H91)
                  else none)
                else
                (some (.bool false, H))
                else none)
              else none)
            else none)
          else none)
        else
        (some (.bool false, H)))
      else
      (if (sEq x8 (S [99, 111, 112, 121])) = true then
        (if (decide (x3 = 2)) = true then
          (asP x1 fun o93 =>
            optK o93 fun a94 =>
            optK (Heap.ld1 H (ap a94 1)) fun v95 =>
            asSL v95 fun l96 =>
            optK l96.a fun a97 =>
            if 0 ≤ (0 : Int) ∧ (0 : Int) < (l96.n : Int) then
            optK (Heap.ld1 H (ap a97 0)) fun v98 =>
            asS v98 fun s99 =>
            callK (X d n_ref22_number [.string s99] H) fun v100 H101 =>
            asI .i64 v100 fun n102 =>
            if (decide ((0 : Int) ≤ n102)) = true then
            (asP x1 fun o103 =>
              optK o103 fun a104 =>
              optK (Heap.ld1 H101 (ap a104 1)) fun v105 =>
              asSL v105 fun l106 =>
              optK l106.a fun a107 =>
              if 0 ≤ (1 : Int) ∧ (1 : Int) < (l106.n : Int) then
              optK (Heap.ld1 H101 (ap a107 1)) fun v108 =>
              asS v108 fun s109 =>
              callK (X d n_ref22_number [.string s109] H101) fun v110 H111 =>
              asI .i64 v110 fun n112 =>
              some (.bool (decide ((0 : Int) ≤ n112)), H111)
              else none)
            else
            (some (.bool false, H101))
            else none)
          else
          (some (.bool false, H)))
        else
        (if (sEq x8 (S [115, 101, 110, 100])) = true then
          (some (.bool (decide (x3 = 1)), H))
          else
          (some (.bool false, H)))))) := (opq_app _ _ _).trans <| by kernel_rfl
theorem ref22_Right_eq (d : Nat) (x0 : Array Value) (H : Heap) : X (d + 1) n_ref22_Right [.agg x0] H =
  effK (.box t_cmd_Command) [.agg x0] H fun v1 H2 =>
  asP v1 fun o3 =>
  optK o3 fun a4 =>
  optK (Heap.ld1 H2 (ap a4 1)) fun v5 =>
  asSL v5 fun l6 =>
  asP v1 fun o7 =>
  optK o7 fun a8 =>
  optK (Heap.ld1 H2 (ap a8 0)) fun v9 =>
  asS v9 fun s10 =>
  if (sEq s10 (S [107, 105, 108, 108, 45, 115, 101, 115, 115, 105, 111, 110])) = true then
  (ref22_Right_p110101 d v1 (l6.n : Int) s10 (sEq s10 (S [107, 105, 108, 108, 45, 115, 101, 115, 115, 105, 111, 110])) H2)
  else
  (if (sEq s10 (S [110, 101, 119, 45, 119, 105, 110, 100, 111, 119])) = true then
    (ref22_Right_p110101 d v1 (l6.n : Int) s10 (sEq s10 (S [110, 101, 119, 45, 119, 105, 110, 100, 111, 119])) H2)
    else
    (if (sEq s10 (S [107, 105, 108, 108, 45, 119, 105, 110, 100, 111, 119])) = true then
      (ref22_Right_p110101 d v1 (l6.n : Int) s10 (sEq s10 (S [107, 105, 108, 108, 45, 119, 105, 110, 100, 111, 119])) H2)
      else
      (if (sEq s10 (S [107, 105, 108, 108, 45, 112, 97, 110, 101])) = true then
        (ref22_Right_p110101 d v1 (l6.n : Int) s10 (sEq s10 (S [107, 105, 108, 108, 45, 112, 97, 110, 101])) H2)
        else
        (ref22_Right_p110101 d v1 (l6.n : Int) s10 (sEq s10 (S [122, 111, 111, 109])) H2)))) := by kernel_rfl
end Go.Proofs.YtnpmlgibjhjiiaaDoor.dec

namespace Go.Proofs.YtnpmlgibjhjiiaaDoor.dec
open Go Go.Cm
/-! porthole/cmd.Needs -/
noncomputable def cmd_Needs_k11 (d : Nat) : Kt := run (X d) NN (cd 14 [1, 1]) (retK (rs 14)) [] (retK (rs 14))
noncomputable def cmd_Needs_p100111 (d : Nat) (x7 : Bool) (H : Heap) : Res := opq (run (X d) NN (cd 14 [1, 0, 0, 1, 1, 1, 0]) (cmd_Needs_k11 d) [(0, (cmd_Needs_k11 d))] (retK (rs 14))) [(7, .bool x7)] H
theorem cmd_Needs_p100111_eq (d : Nat) (x7 : Bool) (H : Heap) : cmd_Needs_p100111 d x7 H =
  if x7 = true then
  (some (.int .i64 2, H))
  else
  (some (.int .i64 4, H)) := (opq_app _ _ _).trans <| by kernel_rfl
theorem cmd_Needs_eq (d : Nat) (x0 : Array Value) (H : Heap) : X (d + 1) n_cmd_Needs [.agg x0] H =
  effK (.box t_cmd_Command) [.agg x0] H fun v1 H2 =>
  optK (readD (.load 2 true) [v1] H2) fun v3 =>
  asA v3 fun c4 =>
  callK (X d n_cmd_Right [.agg c4] H2) fun v5 H6 =>
  asB v5 fun b7 =>
  if (!b7) = true then
  (some (.int .i64 0, H6))
  else
  (asP v1 fun o8 =>
    optK o8 fun a9 =>
    optK (Heap.ld1 H6 (ap a9 0)) fun v10 =>
    asS v10 fun s11 =>
    if (sEq s11 (S [112, 97, 115, 116, 101])) = true then
    (cmd_Needs_p100111 d true H6)
    else
    (asP v1 fun o12 =>
      optK o12 fun a13 =>
      optK (Heap.ld1 H6 (ap a13 0)) fun v14 =>
      asS v14 fun s15 =>
      cmd_Needs_p100111 d (sEq s15 (S [115, 101, 110, 100])) H6)) := by kernel_rfl
end Go.Proofs.YtnpmlgibjhjiiaaDoor.dec

namespace Go.Proofs.YtnpmlgibjhjiiaaDoor.dec
open Go Go.Cm
/-! porthole/portholeref22.Needs -/
noncomputable def ref22_Needs_k11 (d : Nat) : Kt := run (X d) NN (cd 15 [1, 1]) (retK (rs 15)) [] (retK (rs 15))
noncomputable def ref22_Needs_p100111 (d : Nat) (x7 : Bool) (H : Heap) : Res := opq (run (X d) NN (cd 15 [1, 0, 0, 1, 1, 1, 0]) (ref22_Needs_k11 d) [(0, (ref22_Needs_k11 d))] (retK (rs 15))) [(7, .bool x7)] H
theorem ref22_Needs_p100111_eq (d : Nat) (x7 : Bool) (H : Heap) : ref22_Needs_p100111 d x7 H =
  if x7 = true then
  (some (.int .i64 2, H))
  else
  (some (.int .i64 4, H)) := (opq_app _ _ _).trans <| by kernel_rfl
theorem ref22_Needs_eq (d : Nat) (x0 : Array Value) (H : Heap) : X (d + 1) n_ref22_Needs [.agg x0] H =
  effK (.box t_cmd_Command) [.agg x0] H fun v1 H2 =>
  optK (readD (.load 2 true) [v1] H2) fun v3 =>
  asA v3 fun c4 =>
  callK (X d n_ref22_Right [.agg c4] H2) fun v5 H6 =>
  asB v5 fun b7 =>
  if (!b7) = true then
  (some (.int .i64 0, H6))
  else
  (asP v1 fun o8 =>
    optK o8 fun a9 =>
    optK (Heap.ld1 H6 (ap a9 0)) fun v10 =>
    asS v10 fun s11 =>
    if (sEq s11 (S [112, 97, 115, 116, 101])) = true then
    (ref22_Needs_p100111 d true H6)
    else
    (asP v1 fun o12 =>
      optK o12 fun a13 =>
      optK (Heap.ld1 H6 (ap a13 0)) fun v14 =>
      asS v14 fun s15 =>
      ref22_Needs_p100111 d (sEq s15 (S [115, 101, 110, 100])) H6)) := by kernel_rfl
end Go.Proofs.YtnpmlgibjhjiiaaDoor.dec

namespace Go.Proofs.YtnpmlgibjhjiiaaDoor.dec
open Go Go.Cm
/-! porthole/mux.Right -/
noncomputable def mux_Right_k11 (d : Nat) : Kt := run (X d) NN (cd 22 [1, 1]) (retK (rs 22)) [] (retK (rs 22))
noncomputable def mux_Right_l1010 (d : Nat) (m0 : Nat) : Kt := iter (fun k => run (X d) NN (cd 22 [1, 0, 1, 0, 0]) (backK [(0, .str), (3, .int .i64)] (opq k)) [(0, (mux_Right_k11 d))] (retK (rs 22))) m0
noncomputable def mux_Right_k1010011 (d : Nat) (m0 : Nat) : Kt := run (X d) NN (cd 22 [1, 0, 1, 0, 0, 1, 1]) (backK [(0, .str), (3, .int .i64)] (opq (mux_Right_l1010 d m0))) [(0, (mux_Right_k11 d))] (retK (rs 22))
noncomputable def mux_Right_p1010 (d : Nat) (m0 : Nat) (x0 : ByteArray) (x3 : Int) (H : Heap) : Res := opq (mux_Right_l1010 d m0) [(0, .string x0), (3, .int .i64 x3)] H
noncomputable def mux_Right_p1010010011 (d : Nat) (m0 : Nat) (x0 : ByteArray) (x3 : Int) (x31 : Bool) (H : Heap) : Res := opq (run (X d) NN (cd 22 [1, 0, 1, 0, 0, 1, 0, 0, 1, 1, 0]) (mux_Right_k1010011 d m0) [(1, (mux_Right_k1010011 d m0)), (0, (mux_Right_k11 d))] (retK (rs 22))) [(0, .string x0), (3, .int .i64 x3), (31, .bool x31)] H
theorem mux_Right_p1010_s (d : Nat) (m0 : Nat) (x0 : ByteArray) (x3 : Int) (H : Heap) : mux_Right_p1010 d (m0 + 1) x0 x3 H =
  if (decide (x3 < (slen x0 : Int))) = true then
  (if 0 ≤ x3 ∧ x3 < (slen x0 : Int) then
    if (decide (bt x0 ((x3).toNat) < 97)) = true then
    (if (decide (bt x0 ((x3).toNat) < 48)) = true then
      (mux_Right_p1010010011 d m0 x0 x3 (!decide (bt x0 ((x3).toNat) = 45)) H)
      else
      (if (decide ((57 : Int) < bt x0 ((x3).toNat))) = true then
        (mux_Right_p1010010011 d m0 x0 x3 (!decide (bt x0 ((x3).toNat) = 45)) H)
        else
        (mux_Right_p1010010011 d m0 x0 x3 false H)))
    else
    (if (decide ((122 : Int) < bt x0 ((x3).toNat))) = true then
      (if (decide (bt x0 ((x3).toNat) < 48)) = true then
        (mux_Right_p1010010011 d m0 x0 x3 (!decide (bt x0 ((x3).toNat) = 45)) H)
        else
        (if (decide ((57 : Int) < bt x0 ((x3).toNat))) = true then
          (mux_Right_p1010010011 d m0 x0 x3 (!decide (bt x0 ((x3).toNat) = 45)) H)
          else
          (mux_Right_p1010010011 d m0 x0 x3 false H)))
      else
      (mux_Right_p1010010011 d m0 x0 x3 false H))
    else none)
  else
  (if (!sEq x0 (S [])) = true then
    (some (.bool (decide ((slen x0 : Int) ≤ 20)), H))
    else
    (some (.bool false, H))) := (opq_app _ _ _).trans <| by kernel_rfl
theorem mux_Right_p1010010011_eq (d : Nat) (m0 : Nat) (x0 : ByteArray) (x3 : Int) (x31 : Bool) (H : Heap) : mux_Right_p1010010011 d m0 x0 x3 x31 H =
  if x31 = true then
  (some (.bool false, H))
  else
  (mux_Right_p1010 d m0 x0 (IntKind.wrap .i64 (x3 + 1)) H) := (opq_app _ _ _).trans <| by kernel_rfl
theorem mux_Right_eq (d : Nat) (x0 : ByteArray) (H : Heap) : X (d + 1) n_mux_Right [.string x0] H =
  mux_Right_p1010 d NN x0 0 H := by kernel_rfl
end Go.Proofs.YtnpmlgibjhjiiaaDoor.dec

namespace Go.Proofs.YtnpmlgibjhjiiaaDoor.dec
open Go Go.Cm
/-! porthole/portholeref15.IsName -/
noncomputable def ref15_IsName_k11 (d : Nat) : Kt := run (X d) NN (cd 26 [1, 1]) (retK (rs 26)) [] (retK (rs 26))
noncomputable def ref15_IsName_l1010 (d : Nat) (m0 : Nat) : Kt := iter (fun k => run (X d) NN (cd 26 [1, 0, 1, 0, 0]) (backK [(0, .str), (3, .int .i64)] (opq k)) [(0, (ref15_IsName_k11 d))] (retK (rs 26))) m0
noncomputable def ref15_IsName_p1010 (d : Nat) (m0 : Nat) (x0 : ByteArray) (x3 : Int) (H : Heap) : Res := opq (ref15_IsName_l1010 d m0) [(0, .string x0), (3, .int .i64 x3)] H
theorem ref15_IsName_p1010_s (d : Nat) (m0 : Nat) (x0 : ByteArray) (x3 : Int) (H : Heap) : ref15_IsName_p1010 d (m0 + 1) x0 x3 H =
  if (decide (x3 < (slen x0 : Int))) = true then
  (if 0 ≤ x3 ∧ x3 < (slen x0 : Int) then
    callK (X d n_ref15_plain [.int .u8 (bt x0 ((x3).toNat))] H) fun v1 H2 =>
    asB v1 fun b3 =>
    if (!b3) = true then
    (some (.bool false, H2))
    else
    (ref15_IsName_p1010 d m0 x0 (IntKind.wrap .i64 (x3 + 1)) H2)
    else none)
  else
  (if (decide ((1 : Int) ≤ (slen x0 : Int))) = true then
    (some (.bool (decide ((slen x0 : Int) ≤ 20)), H))
    else
    (some (.bool false, H))) := (opq_app _ _ _).trans <| by kernel_rfl
theorem ref15_IsName_eq (d : Nat) (x0 : ByteArray) (H : Heap) : X (d + 1) n_ref15_IsName [.string x0] H =
  ref15_IsName_p1010 d NN x0 0 H := by kernel_rfl
end Go.Proofs.YtnpmlgibjhjiiaaDoor.dec

namespace Go.Proofs.YtnpmlgibjhjiiaaDoor.dec
open Go Go.Cm
/-! porthole/portholeref22.number -/
noncomputable def ref22_number_k11 (d : Nat) : Kt := run (X d) NN (cd 27 [1, 1]) (retK (rs 27)) [] (retK (rs 27))
noncomputable def ref22_number_k1111 (d : Nat) : Kt := run (X d) NN (cd 27 [1, 1, 1, 1]) (retK (rs 27)) [] (retK (rs 27))
noncomputable def ref22_number_l111010 (d : Nat) (m0 : Nat) : Kt := iter (fun k => run (X d) NN (cd 27 [1, 1, 1, 0, 1, 0, 0]) (backK [(0, .str), (3, .int .i64), (4, .int .i64)] (opq k)) [(0, (ref22_number_k1111 d))] (retK (rs 27))) m0
noncomputable def ref22_number_k111010011 (d : Nat) (m0 : Nat) : Kt := run (X d) NN (cd 27 [1, 1, 1, 0, 1, 0, 0, 1, 1]) (backK [(0, .str), (3, .int .i64), (4, .int .i64)] (opq (ref22_number_l111010 d m0))) [(0, (ref22_number_k1111 d))] (retK (rs 27))
noncomputable def ref22_number_k11101001001 (d : Nat) (m0 : Nat) : Kt := run (X d) NN (cd 27 [1, 1, 1, 0, 1, 0, 0, 1, 0, 0, 1]) (ref22_number_k111010011 d m0) [(1, (ref22_number_k111010011 d m0)), (0, (ref22_number_k1111 d))] (retK (rs 27))
noncomputable def ref22_number_p101 (d : Nat) (x0 : ByteArray) (x22 : Bool) (H : Heap) : Res := opq (run (X d) NN (cd 27 [1, 0, 1, 0]) (ref22_number_k11 d) [] (retK (rs 27))) [(0, .string x0), (22, .bool x22)] H
noncomputable def ref22_number_p111010 (d : Nat) (m0 : Nat) (x0 : ByteArray) (x3 : Int) (x4 : Int) (H : Heap) : Res := opq (ref22_number_l111010 d m0) [(0, .string x0), (3, .int .i64 x3), (4, .int .i64 x4)] H
noncomputable def ref22_number_p111010010001 (d : Nat) (m0 : Nat) (x0 : ByteArray) (x3 : Int) (x4 : Int) (x38 : Bool) (H : Heap) : Res := opq (run (X d) NN (cd 27 [1, 1, 1, 0, 1, 0, 0, 1, 0, 0, 0, 1, 0]) (ref22_number_k11101001001 d m0) [(1, (ref22_number_k111010011 d m0)), (0, (ref22_number_k1111 d))] (retK (rs 27))) [(0, .string x0), (3, .int .i64 x3), (4, .int .i64 x4), (38, .bool x38)] H
theorem ref22_number_p101_eq (d : Nat) (x0 : ByteArray) (x22 : Bool) (H : Heap) : ref22_number_p101 d x0 x22 H =
  if x22 = true then
  (some (.int .i64 (-1), H))
  else
  (ref22_number_p111010 d NN x0 0 0 H) := (opq_app _ _ _).trans <| by kernel_rfl
theorem ref22_number_p111010_s (d : Nat) (m0 : Nat) (x0 : ByteArray) (x3 : Int) (x4 : Int) (H : Heap) : ref22_number_p111010 d (m0 + 1) x0 x3 x4 H =
  if (decide (x4 < (slen x0 : Int))) = true then
  (if 0 ≤ x4 ∧ x4 < (slen x0 : Int) then
    if (decide (bt x0 ((x4).toNat) < 48)) = true then
    (ref22_number_p111010010001 d m0 x0 x3 x4 true H)
    else
    (if 0 ≤ x4 ∧ x4 < (slen x0 : Int) then
      ref22_number_p111010010001 d m0 x0 x3 x4 (decide ((57 : Int) < bt x0 ((x4).toNat))) H
      else none)
    else none)
  else
  (some (.int .i64 x3, H)) := (opq_app _ _ _).trans <| by kernel_rfl
theorem ref22_number_p111010010001_eq (d : Nat) (m0 : Nat) (x0 : ByteArray) (x3 : Int) (x4 : Int) (x38 : Bool) (H : Heap) : ref22_number_p111010010001 d m0 x0 x3 x4 x38 H =
  if x38 = true then
  (some (.int .i64 (-1), H))
  else
  (if 0 ≤ x4 ∧ x4 < (slen x0 : Int) then
    ref22_number_p111010 d m0 x0 (IntKind.wrap .i64 ((IntKind.wrap .i64 (10 * x3)) + (IntKind.wrap .i64 (IntKind.wrap .u8 ((bt x0 ((x4).toNat)) - 48))))) (IntKind.wrap .i64 (x4 + 1)) H
    else none) := (opq_app _ _ _).trans <| by kernel_rfl
theorem ref22_number_eq (d : Nat) (x0 : ByteArray) (H : Heap) : X (d + 1) n_ref22_number [.string x0] H =
  if (decide ((slen x0 : Int) < 1)) = true then
  (ref22_number_p101 d x0 true H)
  else
  (if (decide ((4 : Int) < (slen x0 : Int))) = true then
    (ref22_number_p101 d x0 true H)
    else
    (if (decide ((1 : Int) < (slen x0 : Int))) = true then
      (if 0 ≤ (0 : Int) ∧ (0 : Int) < (slen x0 : Int) then
        ref22_number_p101 d x0 (decide (bt x0 0 = 48)) H
        else none)
      else
      (ref22_number_p101 d x0 false H))) := by kernel_rfl
end Go.Proofs.YtnpmlgibjhjiiaaDoor.dec

namespace Go.Proofs.YtnpmlgibjhjiiaaDoor.dec
open Go Go.Cm
/-! porthole/portholeref15.plain -/
theorem ref15_plain_eq (d : Nat) (x0 : Int) (H : Heap) : X (d + 1) n_ref15_plain [.int .u8 x0] H =
  if (decide ((97 : Int) ≤ x0)) = true then
  (if (decide (x0 ≤ 122)) = true then
    (some (.bool true, H))
    else
    (if (decide ((48 : Int) ≤ x0)) = true then
      (if (decide (x0 ≤ 57)) = true then
        (some (.bool true, H))
        else
        (some (.bool (decide (x0 = 45)), H)))
      else
      (some (.bool (decide (x0 = 45)), H))))
  else
  (if (decide ((48 : Int) ≤ x0)) = true then
    (if (decide (x0 ≤ 57)) = true then
      (some (.bool true, H))
      else
      (some (.bool (decide (x0 = 45)), H)))
    else
    (some (.bool (decide (x0 = 45)), H))) := by kernel_rfl
end Go.Proofs.YtnpmlgibjhjiiaaDoor.dec

namespace Go.Proofs.YtnpmlgibjhjiiaaDoor.dec
open Go Go.Cm
/-! porthole/portholelaw24.CmdPrints -/
noncomputable def law24_CmdPrints_k111 (d : Nat) : Kt := run (X d) NN (cd 4 [1, 1, 1]) (retK (rs 4)) [] (retK (rs 4))
noncomputable def law24_CmdPrints_l11010 (d : Nat) (m0 : Nat) : Kt := iter (fun k => run (X d) NN (cd 4 [1, 1, 0, 1, 0, 0]) (backK [(0, .sl), (3, .sl), (4, .int .i64)] (opq k)) [(0, (law24_CmdPrints_k111 d))] (retK (rs 4))) m0
noncomputable def law24_CmdPrints_k1101001 (d : Nat) (m0 : Nat) : Kt := run (X d) NN (cd 4 [1, 1, 0, 1, 0, 0, 1]) (backK [(0, .sl), (3, .sl), (4, .int .i64)] (opq (law24_CmdPrints_l11010 d m0))) [(0, (law24_CmdPrints_k111 d))] (retK (rs 4))
noncomputable def law24_CmdPrints_k11010011 (d : Nat) (m0 : Nat) : Kt := run (X d) NN (cd 4 [1, 1, 0, 1, 0, 0, 1, 1]) (backK [(0, .sl), (3, .sl), (4, .int .i64)] (opq (law24_CmdPrints_l11010 d m0))) [(0, (law24_CmdPrints_k111 d))] (retK (rs 4))
noncomputable def law24_CmdPrints_k11010010011 (d : Nat) (m0 : Nat) : Kt := run (X d) NN (cd 4 [1, 1, 0, 1, 0, 0, 1, 0, 0, 1, 1]) (law24_CmdPrints_k11010011 d m0) [(1, (law24_CmdPrints_k11010011 d m0)), (0, (law24_CmdPrints_k111 d))] (retK (rs 4))
noncomputable def law24_CmdPrints_p11010 (d : Nat) (m0 : Nat) (x0 : Sl) (x3 : Sl) (x4 : Int) (H : Heap) : Res := opq (law24_CmdPrints_l11010 d m0) [(0, x0.v), (3, x3.v), (4, .int .i64 x4)] H
noncomputable def law24_CmdPrints_p11010001 (d : Nat) (m0 : Nat) (x0 : Sl) (x3 : Sl) (x4 : Int) (x13 : Bool) (H : Heap) : Res := opq (run (X d) NN (cd 4 [1, 1, 0, 1, 0, 0, 0, 1, 0]) (law24_CmdPrints_k1101001 d m0) [(0, (law24_CmdPrints_k111 d))] (retK (rs 4))) [(0, x0.v), (3, x3.v), (4, .int .i64 x4), (13, .bool x13)] H
noncomputable def law24_CmdPrints_p110100100101 (d : Nat) (m0 : Nat) (x0 : Sl) (x3 : Sl) (x4 : Int) (x5 : Nat) (x32 : Bool) (H : Heap) : Res := opq (run (X d) NN (cd 4 [1, 1, 0, 1, 0, 0, 1, 0, 0, 1, 0, 1, 0]) (law24_CmdPrints_k11010010011 d m0) [(1, (law24_CmdPrints_k11010011 d m0)), (0, (law24_CmdPrints_k111 d))] (retK (rs 4))) [(0, x0.v), (3, x3.v), (4, .int .i64 x4), (5, P0 x5), (32, .bool x32)] H
theorem law24_CmdPrints_p11010_s (d : Nat) (m0 : Nat) (x0 : Sl) (x3 : Sl) (x4 : Int) (H : Heap) : law24_CmdPrints_p11010 d (m0 + 1) x0 x3 x4 H =
  if (decide (x4 < (x0.n : Int))) = true then
  (law24_CmdPrints_p11010001 d m0 x0 x3 x4 (decide (x4 < 12)) H)
  else
  (law24_CmdPrints_p11010001 d m0 x0 x3 x4 false H) := (opq_app _ _ _).trans <| by kernel_rfl
theorem law24_CmdPrints_p11010001_eq (d : Nat) (m0 : Nat) (x0 : Sl) (x3 : Sl) (x4 : Int) (x13 : Bool) (H : Heap) : law24_CmdPrints_p11010001 d m0 x0 x3 x4 x13 H =
  if x13 = true then
  (optK x0.a fun a1 =>
    if 0 ≤ x4 ∧ x4 < (x0.n : Int) then
    optK (ldA H (ap a1 (((x4).toNat) * 5)) 5) fun v2 =>
    asA v2 fun c3 =>
    callK (X d n_law24_command [.agg c3] H) fun v4 H5 =>
    asA v4 fun c6 =>
    newK H5 (.cells [.string (S []), .slice none 0 0] t_cmd_Command false 0 false) fun p7 H8 =>
    effK (.store 2) [P0 p7, .agg c6] H8 fun _ H10 =>
    optK (ldA H10 ⟨p7, 0, none⟩ 2) fun v11 =>
    asA v11 fun c12 =>
    callK (X d n_cmd_Right [.agg c12] H10) fun v13 H14 =>
    asB v13 fun b15 =>
    optK (ldA H14 ⟨p7, 0, none⟩ 2) fun v16 =>
    asA v16 fun c17 =>
    callK (X d n_ref22_Right [.agg c17] H14) fun v18 H19 =>
    asB v18 fun b20 =>
    if (!(b15 == b20)) = true then
    (chk (rdsOk [H10, H14, H19, H19, H19] [⟨.load 2 true, [P0 p7], v16, 0, 1⟩]) (
        law24_CmdPrints_p110100100101 d m0 x0 x3 x4 p7 true H19))
    else
    (optK (ldA H19 ⟨p7, 0, none⟩ 2) fun v21 =>
      asA v21 fun c22 =>
      callK (X d n_cmd_Needs [.agg c22] H19) fun v23 H24 =>
      asI .i64 v23 fun n25 =>
      optK (ldA H24 ⟨p7, 0, none⟩ 2) fun v26 =>
      asA v26 fun c27 =>
      callK (X d n_ref22_Needs [.agg c27] H24) fun v28 H29 =>
      asI .i64 v28 fun n30 =>
      chk (rdsOk [H10, H14, H19, H24, H29] [⟨.load 2 true, [P0 p7], v26, 2, 3⟩, ⟨.load 2 true, [P0 p7], v16, 0, 1⟩]) (
        law24_CmdPrints_p110100100101 d m0 x0 x3 x4 p7 (!decide (n25 = n30)) H29))
    else none)
  else
  (callK (X d n_law24_known [] H) fun v31 H32 =>
    asB v31 fun b33 =>
    if b33 = true then
    (callK (X d n_cmd_Print [x3.v] H32) fun v34 H35 =>
      asS v34 fun s36 =>
      callK (X d n_ref22_Print [x3.v] H35) fun v37 H38 =>
      asS v37 fun s39 =>
      some (.bool (sEq s36 s39), H38))
    else
    (some (.bool false, H32))) := (opq_app _ _ _).trans <| by kernel_rfl
theorem law24_CmdPrints_p110100100101_eq (d : Nat) (m0 : Nat) (x0 : Sl) (x3 : Sl) (x4 : Int) (x5 : Nat) (x32 : Bool) (H : Heap) : law24_CmdPrints_p110100100101 d m0 x0 x3 x4 x5 x32 H =
  if x32 = true then
  (some (.bool false, H))
  else
  (optK (ldA H ⟨x5, 0, none⟩ 2) fun v1 =>
    asA v1 fun c2 =>
    optK (fillL [(0, 2)] [.agg c2] [.string (S []), .slice none 0 0]) fun l3 =>
    newK H (.cells l3 t_cmd_Command false 0 false) fun p4 H5 =>
    appendK t_cmd_Command 2 40 false x3.v (.slice (some ⟨p4, 0, none⟩) 1 1) H5 fun v6 H7 =>
    asSL v6 fun l8 =>
    law24_CmdPrints_p11010 d m0 x0 l8 (IntKind.wrap .i64 (x4 + 1)) H7) := (opq_app _ _ _).trans <| by kernel_rfl
theorem law24_CmdPrints_eq (d : Nat) (x0 : Sl) (H : Heap) : X (d + 1) n_law24_CmdPrints [x0.v] H =
  law24_CmdPrints_p11010 d NN x0 Sl.nil 0 H := by kernel_rfl
end Go.Proofs.YtnpmlgibjhjiiaaDoor.dec
