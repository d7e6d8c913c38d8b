/-
  The functions' numbers, their code with cuts.
  And: What calls compute, piece by piece. What calls compute, piece by piece. What calls compute, piece by piece. What calls compute, piece by piece. What calls compute, piece by piece. What calls compute, piece by piece. What calls compute, piece by piece. What calls compute, piece by piece. What calls compute, piece by piece. What calls compute, piece by piece. What calls compute, piece by piece. What calls compute, piece by piece. What calls compute, piece by piece. What calls compute, piece by piece. What calls compute, piece by piece.
-/
import Derived.Test.YtnpmlgibjhjiiaaDoorCmG
import Derived.Test.YtnpmlgibjhjiiaaDoorChecked
namespace Go.Proofs.YtnpmlgibjhjiiaaDoor.dec
open Go Go.Cm
abbrev n_main_main : Nat := 0
abbrev n_gosem_cut : Nat := 1
abbrev n_gosem_cut_init : Nat := 2
abbrev n_law24_CmdPlain : Nat := 3
abbrev n_law24_CmdPrints : Nat := 4
abbrev n_law24_CmdKnown : Nat := 5
abbrev n_cmd_NewKeys : Nat := 6
abbrev n_law24_known : Nat := 7
abbrev n_cmd_Keys_Feed : Nat := 8
abbrev n_cmd_Bound : Nat := 9
abbrev n_cmd_Parse : Nat := 10
abbrev n_cmd_Right : Nat := 11
abbrev n_law24_command : Nat := 12
abbrev n_ref22_Right : Nat := 13
abbrev n_cmd_Needs : Nat := 14
abbrev n_ref22_Needs : Nat := 15
abbrev n_cmd_Print : Nat := 16
abbrev n_ref22_Print : Nat := 17
abbrev n_cmd_Keys_Feed_1 : Nat := 18
abbrev n_cmd_reader_ends : Nat := 19
abbrev n_cmd_reader_quoted : Nat := 20
abbrev n_cmd_reader_word : Nat := 21
abbrev n_mux_Right : Nat := 22
abbrev n_cmd_isNumber : Nat := 23
abbrev n_hand_Pick : Nat := 24
abbrev n_ref22_Digits : Nat := 25
abbrev n_ref15_IsName : Nat := 26
abbrev n_ref22_number : Nat := 27
abbrev n_cmd_shown : Nat := 28
abbrev n_strings_Join : Nat := 29
abbrev n_ref22_word : Nat := 30
abbrev n_cmd_plain : Nat := 31
abbrev n_cmd_number : Nat := 32
abbrev n_ref22_below : Nat := 33
abbrev n_ref15_plain : Nat := 34
abbrev n_strings_Builder_Grow : Nat := 35
abbrev n_strings_Builder_WriteString : Nat := 36
abbrev n_strings_Builder_String : Nat := 37
abbrev n_ref22_bare : Nat := 38
abbrev n_strconv_Atoi : Nat := 39
abbrev n_strings_Builder_copyCheck : Nat := 40
abbrev n_strings_Builder_grow : Nat := 41
abbrev n_strconv_Atoix : Nat := 42
abbrev n_strconv_toError : Nat := 43
abbrev n_abi_NoEscape : Nat := 44
abbrev n_bytealg_MakeNoZero : Nat := 45
abbrev n_strconv_ParseInt : Nat := 46
abbrev n_strconv_syntaxError : Nat := 47
abbrev n_strconv_rangeError : Nat := 48
abbrev n_strconv_baseError : Nat := 49
abbrev n_strconv_bitSizeError : Nat := 50
abbrev n_strconv_ParseUint : Nat := 51
abbrev n_stringslite_Clone : Nat := 52
abbrev n_errors_New : Nat := 53
abbrev n_strconv_Itoa : Nat := 54
abbrev n_strconv_lower : Nat := 55
abbrev n_strconv_underscoreOK : Nat := 56
abbrev n_strconv_Itoax : Nat := 57
abbrev n_strconv_FormatInt : Nat := 58
abbrev n_strconv_small : Nat := 59
abbrev n_strconv_numDigits : Nat := 60
abbrev n_strconv_formatBase10 : Nat := 61
abbrev n_strconv_formatBits : Nat := 62
abbrev n_strconv_log10Pow2 : Nat := 63
abbrev n_math_bits_Len64 : Nat := 64
abbrev n_strconv_bool2_int : Nat := 65
abbrev n_strconv_isPowerOfTwo : Nat := 66
abbrev n_math_bits_TrailingZeros : Nat := 67
abbrev n_math_bits_TrailingZeros32 : Nat := 68
abbrev n_math_bits_TrailingZeros64 : Nat := 69
abbrev n_runtime_boundsError_Error : Nat := 70
abbrev n_runtime_boundsError_RuntimeError : Nat := 71
abbrev n_runtime_errorString_Error : Nat := 72
abbrev n_runtime_errorString_RuntimeError : Nat := 73
abbrev n_runtime_plainError_Error : Nat := 74
abbrev n_runtime_plainError_RuntimeError : Nat := 75
abbrev n_runtime_errorAddressString_Error : Nat := 76
abbrev n_runtime_errorAddressString_RuntimeError : Nat := 77
abbrev n_runtime_TypeAssertionError_Error : Nat := 78
abbrev n_runtime_TypeAssertionError_RuntimeError : Nat := 79
abbrev n_runtime_PanicNilError_Error : Nat := 80
abbrev n_runtime_PanicNilError_RuntimeError : Nat := 81
abbrev n_abi_Type_Align : Nat := 82
abbrev n_runtime_maps_unhashableTypeError_Error : Nat := 83
abbrev n_runtime_maps_unhashableTypeError_RuntimeError : Nat := 84
abbrev n_strings_Builder_Reset : Nat := 85
abbrev n_strconv_Error_Error : Nat := 86
abbrev n_strconv_NumError_Error : Nat := 87
abbrev n_errors_errorString_Error : Nat := 88
abbrev n_abi_Kind_String : Nat := 89
abbrev n_var_s_door_gosem_cut_vars_holds_initialisers_alone_see_the_manifest_s_row_cutvarsword_look_11_test_files_too : Nat := 90
abbrev n_var_s_door_strconv_uint64pow10_is_laid_by_its_own_initialiser_plain_data_look_11 : Nat := 91
abbrev n_var_s_door_math_bits_deBruijn32tab_is_laid_by_its_own_initialiser_plain_data_look_11 : Nat := 92
abbrev n_var_s_door_math_bits_deBruijn64tab_is_laid_by_its_own_initialiser_plain_data_look_11 : Nat := 93
abbrev n_var_s_door_strconv_ErrRange_is_laid_by_its_own_call_of_errors_New_on_one_literal_look_11 : Nat := 94
abbrev n_var_s_door_strconv_ErrSyntax_is_laid_by_its_own_call_of_errors_New_on_one_literal_look_11 : Nat := 95
abbrev n_var_s_door_the_look_of_gosem_cut_vars_went_over_the_folder_that_the_caller_named_as_the_repository_s_root_look_11 : Nat := 96
abbrev n_gosem_cut_vars : Nat := 97
abbrev t_int64 : Nat := 2
abbrev t_int : Nat := 3
abbrev t_bool : Nat := 4
abbrev t_uint8 : Nat := 5
abbrev t_abi_BoundsErrorCode : Nat := 6
abbrev t_runtime_boundsError : Nat := 8
abbrev t_string : Nat := 9
abbrev t_runtime_errorString : Nat := 10
abbrev t_runtime_plainError : Nat := 11
abbrev t_uintptr : Nat := 12
abbrev t_runtime_errorAddressString : Nat := 14
abbrev t_P_runtime_TypeAssertionError : Nat := 15
abbrev t_P_runtime_PanicNilError : Nat := 16
abbrev t_P_abi_Type : Nat := 17
abbrev t_maps_unhashableTypeError : Nat := 19
abbrev t_int32 : Nat := 21
abbrev t_S_uint8 : Nat := 22
abbrev t_P_cmd_Keys : Nat := 23
abbrev t_S_cmd_Press : Nat := 26
abbrev t_cmd_Press : Nat := 29
abbrev t_S_cmd_Command : Nat := 32
abbrev t_api_Errno : Nat := 33
abbrev t_S_string : Nat := 37
abbrev t_cmd_Command : Nat := 39
abbrev t_S_law24_Raw : Nat := 41
abbrev t_law24_Raw : Nat := 44
abbrev t_cmd_Keys : Nat := 49
abbrev t_P_cmd_reader : Nat := 50
abbrev t_cmd_reader : Nat := 52
abbrev t_20_string : Nat := 54
abbrev t_5_string : Nat := 57
abbrev t_3_string : Nat := 58
abbrev t_4_string : Nat := 59
abbrev t_P_strings_Builder : Nat := 66
abbrev t_strings_Builder : Nat := 68
abbrev t_error : Nat := 71
abbrev t_P_uint8 : Nat := 75
abbrev t_unsafe_Pointer : Nat := 77
abbrev t_strconv_Error : Nat := 80
abbrev t_P_strconv_NumError : Nat := 83
abbrev t_uint64 : Nat := 86
abbrev t_uint : Nat := 89
abbrev t_strconv_NumError : Nat := 92
abbrev t_P_errors_errorString : Nat := 95
abbrev t_errors_errorString : Nat := 97
abbrev t_24_uint8 : Nat := 99
abbrev t_20_uint64 : Nat := 106
abbrev t_uint32 : Nat := 107
abbrev t_65_uint8 : Nat := 108
abbrev t_32_uint8 : Nat := 112
abbrev t_64_uint8 : Nat := 113
abbrev t_runtime_TypeAssertionError : Nat := 115
abbrev t_0_P_runtime_PanicNilError : Nat := 116
abbrev t_runtime_PanicNilError : Nat := 118
abbrev t_abi_TFlag : Nat := 120
abbrev t_abi_Kind : Nat := 121
abbrev t_abi_NameOff : Nat := 123
abbrev t_abi_TypeOff : Nat := 124
abbrev t_abi_Type : Nat := 126
def cutsL : List (Nat × CT) := [(3, (.two .no (.two .no (.two (.two .no (.cut [(0, .sl), (1, .int .u8), (5, .ptr), (22, .bool)] .no)) (.two .no (.two .no (.two (.two .no (.one (.lp [(0, .sl), (1, .int .u8), (5, .ptr), (6, .str), (7, .str), (8, .int .i64)] (.two .no (.two .no (.cut [(0, .sl), (1, .int .u8), (5, .ptr), (6, .str), (7, .str), (8, .int .i64)] .no)))))) (.two .no (.two (.two .no (.one (.lp [(1, .int .u8), (5, .ptr), (6, .str), (7, .str), (9, .sl), (10, .int .i64)] .no))) .no))))))))),
  (8, (.two .no (.two .no (.two .no (.two .no (.two (.two .no (.one (.lp [(0, .ptr), (5, .any), (6, .any), (7, .any), (13, .sl), (14, .int .i64), (15, .int .i64)] (.two .no (.two .no (.two (.one (.two .no (.two .no (.two (.one (.two .no (.cut [(0, .ptr), (5, .any), (6, .any), (7, .any), (9, .int .u8), (10, .str), (11, .bool), (13, .sl), (14, .int .i64), (15, .int .i64), (24, .bool)] (.two .no (.two .no (.cut [(0, .ptr), (5, .any), (6, .any), (7, .any), (9, .int .u8), (10, .str), (11, .bool), (13, .sl), (14, .int .i64), (15, .int .i64), (37, .bool)] .no)))))) (.cut [(0, .ptr), (5, .any), (6, .any), (7, .any), (13, .sl), (14, .int .i64), (15, .int .i64)] .no))))) (.cut [(0, .ptr), (5, .any), (6, .any), (7, .any), (13, .sl), (14, .int .i64), (15, .int .i64)] .no))))))) .no)))))),
  (9, (.two .no (.two .no (.two (.two .no (.cut [(0, .int .u8), (26, .bool)] .no)) .no)))),
  (10, (.two .no (.two .no (.two .no (.two (.one (.lp [(4, .ptr)] (.two .no (.one (.two .no (.two .no (.cut [(4, .ptr), (5, .bool)] (.two .no (.cut [(4, .ptr), (74, .bool)] .no))))))))) .no))))),
  (11, (.two .no (.two .no (.two (.two .no (.one (.two .no (.cut [(3, .sl), (7, .str), (8, .bool)] (.two .no (.two .no (.cut [(3, .sl), (7, .str), (17, .bool)] (.two .no (.two .no (.cut [(3, .sl), (7, .str), (29, .bool)] .no)))))))))) .no)))),
  (18, (.two .no (.cut [(0, .ptr)] .no))),
  (19, (.two .no (.cut [(0, .ptr)] .no))),
  (20, (.two .no (.two .no (.two (.two .no (.one (.lp [(0, .ptr), (3, .sl), (4, .int .i64)] (.two .no (.two (.one (.two .no (.two (.one (.two .no (.cut [(0, .ptr), (3, .sl), (4, .int .i64), (5, .int .u8), (21, .bool)] (.two .no (.two .no (.two .no (.two .no (.two (.two .no (.two (.two .no (.cut [(0, .ptr), (3, .sl), (4, .int .i64), (81, .bool)] .no)) .no)) .no)))))))) (.cut [(0, .ptr), (3, .sl), (4, .int .i64), (5, .int .u8)] .no)))) .no))))) .no)))),
  (21, (.two .no (.two .no (.two (.one (.lp [(0, .ptr), (3, .int .i64)] (.two (.two .no (.cut [(0, .ptr), (3, .int .i64), (19, .bool)] .no)) .no))) .no)))),
  (22, (.two .no (.two (.two .no (.one (.lp [(0, .str), (3, .int .i64)] (.two .no (.two (.one (.two .no (.two .no (.cut [(0, .str), (3, .int .i64), (31, .bool)] .no)))) .no))))) .no))),
  (26, (.two .no (.two (.two .no (.one (.lp [(0, .str), (3, .int .i64)] .no))) .no))),
  (32, (.two .no (.two (.two .no (.cut [(0, .str), (24, .bool)] .no)) (.two (.two .no (.one (.lp [(0, .str), (26, .any)] (.two .no (.two .no (.one (.two .no (.two .no (.cut [(0, .str), (26, .any), (35, .bool)] .no))))))))) .no)))),
  (42, (.two .no (.two .no (.two (.two .no (.cut [(0, .str), (30, .bool)] (.two (.two .no (.two (.two .no (.cut [(0, .str), (5, .str), (39, .bool)] .no)) (.cut [(0, .str), (5, .str)] (.two .no (.two (.two .no (.one (.lp [(5, .str), (6, .int .i64), (47, .sl), (48, .int .i64), (49, .int .i64)] .no))) .no))))) .no))) .no))))]

noncomputable def C : CProg := ⟨autoC (lookCT cutsL) [] Tryd.prog, fun f => if f = n_law24_known then some (sure n_law24_known n_law24_known) else none⟩
theorem exNN : ∃ n : Nat, n = 4000000000 := ⟨_, rfl⟩
noncomputable def NN : Nat := Classical.choose exNN
theorem NN_eq : NN = 4000000000 := Classical.choose_spec exNN
noncomputable def X (d : Nat) : CallF := callD C NN d
noncomputable def cd (f : Nat) (p : List Nat) : CCode := cdC (lookCT cutsL) [] Tryd.prog f p
noncomputable def rs (f : Nat) : List CRes := rsC [] Tryd.prog f
end Go.Proofs.YtnpmlgibjhjiiaaDoor.dec

namespace Go.Proofs.YtnpmlgibjhjiiaaDoor.dec
open Go Go.Cm
/-! porthole/cmd.Parse -/
noncomputable def cmd_Parse_k1111 (d : Nat) : Kt := run (X d) NN (cd 10 [1, 1, 1, 1]) (retK (rs 10)) [] (retK (rs 10))
noncomputable def cmd_Parse_l11100 (d : Nat) (m0 : Nat) : Kt := iter (fun k => run (X d) NN (cd 10 [1, 1, 1, 0, 0, 0]) (backK [(4, .ptr)] (opq k)) [(0, (cmd_Parse_k1111 d))] (retK (rs 10))) m0
noncomputable def cmd_Parse_p11100 (d : Nat) (m0 : Nat) (x4 : Nat) (H : Heap) : Res := opq (cmd_Parse_l11100 d m0) [(4, P0 x4)] H
noncomputable def cmd_Parse_p1110001011 (d : Nat) (m0 : Nat) (x4 : Nat) (x5 : Bool) (H : Heap) : Res := opq (run (X d) NN (cd 10 [1, 1, 1, 0, 0, 0, 1, 0, 1, 1, 0]) (backK [(4, .ptr)] (opq (cmd_Parse_l11100 d m0))) [(1, (backK [(4, .ptr)] (opq (cmd_Parse_l11100 d m0)))), (0, (cmd_Parse_k1111 d))] (retK (rs 10))) [(4, P0 x4), (5, .bool x5)] H
noncomputable def cmd_Parse_p111000101101 (d : Nat) (m0 : Nat) (x4 : Nat) (x74 : Bool) (H : Heap) : Res := opq (run (X d) NN (cd 10 [1, 1, 1, 0, 0, 0, 1, 0, 1, 1, 0, 1, 0]) (backK [(4, .ptr)] (opq (cmd_Parse_l11100 d m0))) [(1, (backK [(4, .ptr)] (opq (cmd_Parse_l11100 d m0)))), (0, (cmd_Parse_k1111 d))] (retK (rs 10))) [(4, P0 x4), (74, .bool x74)] H
theorem cmd_Parse_p11100_s (d : Nat) (m0 : Nat) (x4 : Nat) (H : Heap) : cmd_Parse_p11100 d (m0 + 1) x4 H =
  optK (Heap.ld1 H ⟨x4, 0, none⟩) fun v1 =>
  asS v1 fun s2 =>
  if (!sEq s2 (S [])) = true then
  (optK (Heap.ld1 H ⟨x4, 0, none⟩) fun v3 =>
    asS v3 fun s4 =>
    if 0 ≤ (0 : Int) ∧ (0 : Int) < (slen s4 : Int) then
    if (decide (bt s4 0 = 32)) = true then
    (optK (Heap.ld1 H ⟨x4, 0, none⟩) fun v5 =>
      asS v5 fun s6 =>
      if 0 ≤ (1 : Int) ∧ 1 ≤ (slen s6 : Int) then
      optK (Heap.st1 H ⟨x4, 0, none⟩ (.string (sSub s6 1 (slen s6)))) fun H7 =>
      cmd_Parse_p11100 d m0 x4 H7
      else none)
    else
    (if (decide (bt s4 0 = 59)) = true then
      (optK (Heap.ld1 H ⟨x4, 0, none⟩) fun v8 =>
        asS v8 fun s9 =>
        if 0 ≤ (1 : Int) ∧ 1 ≤ (slen s9 : Int) then
        optK (Heap.st1 H ⟨x4, 0, none⟩ (.string (sSub s9 1 (slen s9)))) fun H10 =>
        callK (X d n_cmd_reader_ends [P0 x4] H10) fun _ H12 =>
        cmd_Parse_p11100 d m0 x4 H12
        else none)
      else
      (if (decide (bt s4 0 = 34)) = true then
        (callK (X d n_cmd_reader_quoted [P0 x4] H) fun v13 H14 =>
          asB v13 fun b15 =>
          cmd_Parse_p1110001011 d m0 x4 b15 H14)
        else
        (callK (X d n_cmd_reader_word [P0 x4] H) fun v16 H17 =>
          asB v16 fun b18 =>
          cmd_Parse_p1110001011 d m0 x4 b18 H17)))
    else none)
  else
  (callK (X d n_cmd_reader_ends [P0 x4] H) fun _ H20 =>
    optK (Heap.ld1 H20 ⟨x4, 1, none⟩) fun v21 =>
    asSL v21 fun l22 =>
    some (.tuple #[l22.v, .int .i64 0], H20)) := (opq_app _ _ _).trans <| by kernel_rfl
theorem cmd_Parse_p1110001011_eq (d : Nat) (m0 : Nat) (x4 : Nat) (x5 : Bool) (H : Heap) : cmd_Parse_p1110001011 d m0 x4 x5 H =
  if (!x5) = true then
  (cmd_Parse_p111000101101 d m0 x4 true H)
  else
  (optK (Heap.ld1 H ⟨x4, 0, none⟩) fun v1 =>
    asS v1 fun s2 =>
    if (!sEq s2 (S [])) = true then
    (optK (Heap.ld1 H ⟨x4, 0, none⟩) fun v3 =>
      asS v3 fun s4 =>
      if 0 ≤ (0 : Int) ∧ (0 : Int) < (slen s4 : Int) then
      if (!decide (bt s4 0 = 32)) = true then
      (optK (Heap.ld1 H ⟨x4, 0, none⟩) fun v5 =>
        asS v5 fun s6 =>
        if 0 ≤ (0 : Int) ∧ (0 : Int) < (slen s6 : Int) then
        cmd_Parse_p111000101101 d m0 x4 (!decide (bt s6 0 = 59)) H
        else none)
      else
      (cmd_Parse_p111000101101 d m0 x4 false H)
      else none)
    else
    (cmd_Parse_p111000101101 d m0 x4 false H)) := (opq_app _ _ _).trans <| by kernel_rfl
theorem cmd_Parse_p111000101101_eq (d : Nat) (m0 : Nat) (x4 : Nat) (x74 : Bool) (H : Heap) : cmd_Parse_p111000101101 d m0 x4 x74 H =
  if x74 = true then
  (some (.tuple #[.slice none 0 0, .int .i64 5], H))
  else
  (cmd_Parse_p11100 d m0 x4 H) := (opq_app _ _ _).trans <| by kernel_rfl
theorem cmd_Parse_eq (d : Nat) (x0 : ByteArray) (H : Heap) : X (d + 1) n_cmd_Parse [.string x0] H =
  if (decide ((400 : Int) < (slen x0 : Int))) = true then
  (some (.tuple #[.slice none 0 0, .int .i64 6], H))
  else
  (newK H (.cells [.string x0, .slice none 0 0, .slice none 0 0] t_cmd_reader false 0 false) fun p1 H2 =>
    cmd_Parse_p11100 d NN p1 H2) := by kernel_rfl
end Go.Proofs.YtnpmlgibjhjiiaaDoor.dec

namespace Go.Proofs.YtnpmlgibjhjiiaaDoor.dec
open Go Go.Cm
/-! (*porthole/cmd.reader).ends -/
noncomputable def cmd_reader_ends_p1 (d : Nat) (x0 : Nat) (H : Heap) : Res := opq (run (X d) NN (cd 19 [1, 0]) (retK (rs 19)) [] (retK (rs 19))) [(0, P0 x0)] H
theorem cmd_reader_ends_p1_eq (d : Nat) (x0 : Nat) (H : Heap) : cmd_reader_ends_p1 d x0 H =
  optK (Heap.st1 H ⟨x0, 2, none⟩ (.slice none 0 0)) fun H1 =>
  some (.tuple #[], H1) := (opq_app _ _ _).trans <| by kernel_rfl
theorem cmd_reader_ends_eq (d : Nat) (x0 : Nat) (H : Heap) : X (d + 1) n_cmd_reader_ends [P0 x0] H =
  optK (Heap.ld1 H ⟨x0, 2, none⟩) fun v1 =>
  asSL v1 fun l2 =>
  if (decide ((0 : Int) < (l2.n : Int))) = true then
  (optK (Heap.ld1 H ⟨x0, 1, none⟩) fun v3 =>
    asSL v3 fun l4 =>
    optK (Heap.ld1 H ⟨x0, 2, none⟩) fun v5 =>
    asSL v5 fun l6 =>
    optK l6.a fun a7 =>
    if 0 ≤ (0 : Int) ∧ (0 : Int) < (l6.n : Int) then
    optK (Heap.ld1 H (ap a7 0)) fun v8 =>
    asS v8 fun s9 =>
    newK H (.cells [] t_string false 0 false) fun p10 H11 =>
    optK (Heap.ld1 H11 ⟨x0, 2, none⟩) fun v12 =>
    asSL v12 fun l13 =>
    optK (readD (.subSl t_string 1 true false false) [l13.v, .int .i64 1] H11) fun v14 =>
    asSL v14 fun l15 =>
    appendK t_string 1 16 false (.slice (some ⟨p10, 0, none⟩) 0 0) l15.v H11 fun v16 H17 =>
    asSL v16 fun l18 =>
    newK H17 (.cells [.string s9, l18.v] t_cmd_Command false 0 false) fun p19 H20 =>
    appendK t_cmd_Command 2 40 false l4.v (.slice (some ⟨p19, 0, none⟩) 1 1) H20 fun v21 H22 =>
    asSL v21 fun l23 =>
    optK (Heap.st1 H22 ⟨x0, 1, none⟩ l23.v) fun H24 =>
    chk (rdsOk [H, H11, H17, H20, H22, H24] [⟨.subSl t_string 1 true false false, [l13.v, .int .i64 1], v14, 0, 1⟩, ⟨.load 1 false, [.pointer (some ⟨x0, 2, none⟩)], v12, 0, 1⟩, ⟨.load 1 false, [.pointer (some (ap a7 0))], v8, 0, 2⟩, ⟨.load 1 false, [.pointer (some ⟨x0, 2, none⟩)], v5, 0, 2⟩, ⟨.load 1 false, [.pointer (some ⟨x0, 1, none⟩)], v3, 0, 3⟩]) (
      cmd_reader_ends_p1 d x0 H24)
    else none)
  else
  (cmd_reader_ends_p1 d x0 H) := by kernel_rfl
end Go.Proofs.YtnpmlgibjhjiiaaDoor.dec

namespace Go.Proofs.YtnpmlgibjhjiiaaDoor.dec
open Go Go.Cm
/-! (*porthole/cmd.reader).quoted -/
noncomputable def cmd_reader_quoted_k111 (d : Nat) : Kt := run (X d) NN (cd 20 [1, 1, 1]) (retK (rs 20)) [] (retK (rs 20))
noncomputable def cmd_reader_quoted_l11010 (d : Nat) (m0 : Nat) : Kt := iter (fun k => run (X d) NN (cd 20 [1, 1, 0, 1, 0, 0]) (backK [(0, .ptr), (3, .sl), (4, .int .i64)] (opq k)) [(0, (cmd_reader_quoted_k111 d))] (retK (rs 20))) m0
noncomputable def cmd_reader_quoted_k11010011 (d : Nat) (m0 : Nat) : Kt := run (X d) NN (cd 20 [1, 1, 0, 1, 0, 0, 1, 1]) (backK [(0, .ptr), (3, .sl), (4, .int .i64)] (opq (cmd_reader_quoted_l11010 d m0))) [(0, (cmd_reader_quoted_k111 d))] (retK (rs 20))
noncomputable def cmd_reader_quoted_k11010010011 (d : Nat) (m0 : Nat) : Kt := run (X d) NN (cd 20 [1, 1, 0, 1, 0, 0, 1, 0, 0, 1, 1]) (cmd_reader_quoted_k11010011 d m0) [(1, (cmd_reader_quoted_k11010011 d m0)), (0, (cmd_reader_quoted_k111 d))] (retK (rs 20))
noncomputable def cmd_reader_quoted_k110100100100101111011 (d : Nat) (m0 : Nat) : Kt := run (X d) NN (cd 20 [1, 1, 0, 1, 0, 0, 1, 0, 0, 1, 0, 0, 1, 0, 1, 1, 1, 1, 0, 1, 1]) (cmd_reader_quoted_k11010010011 d m0) [(2, (cmd_reader_quoted_k11010010011 d m0)), (1, (cmd_reader_quoted_k11010011 d m0)), (0, (cmd_reader_quoted_k111 d))] (retK (rs 20))
noncomputable def cmd_reader_quoted_p11010 (d : Nat) (m0 : Nat) (x0 : Nat) (x3 : Sl) (x4 : Int) (H : Heap) : Res := opq (cmd_reader_quoted_l11010 d m0) [(0, P0 x0), (3, x3.v), (4, .int .i64 x4)] H
noncomputable def cmd_reader_quoted_p1101001001001 (d : Nat) (m0 : Nat) (x0 : Nat) (x3 : Sl) (x4 : Int) (x5 : Int) (x21 : Bool) (H : Heap) : Res := opq (run (X d) NN (cd 20 [1, 1, 0, 1, 0, 0, 1, 0, 0, 1, 0, 0, 1, 0]) (cmd_reader_quoted_k11010010011 d m0) [(2, (cmd_reader_quoted_k11010010011 d m0)), (1, (cmd_reader_quoted_k11010011 d m0)), (0, (cmd_reader_quoted_k111 d))] (retK (rs 20))) [(0, P0 x0), (3, x3.v), (4, .int .i64 x4), (5, .int .u8 x5), (21, .bool x21)] H
noncomputable def cmd_reader_quoted_p1101001001001011110101 (d : Nat) (m0 : Nat) (x0 : Nat) (x3 : Sl) (x4 : Int) (x81 : Bool) (H : Heap) : Res := opq (run (X d) NN (cd 20 [1, 1, 0, 1, 0, 0, 1, 0, 0, 1, 0, 0, 1, 0, 1, 1, 1, 1, 0, 1, 0, 1, 0]) (cmd_reader_quoted_k110100100100101111011 d m0) [(2, (cmd_reader_quoted_k11010010011 d m0)), (1, (cmd_reader_quoted_k11010011 d m0)), (0, (cmd_reader_quoted_k111 d))] (retK (rs 20))) [(0, P0 x0), (3, x3.v), (4, .int .i64 x4), (81, .bool x81)] H
noncomputable def cmd_reader_quoted_p11010010011 (d : Nat) (m0 : Nat) (x0 : Nat) (x3 : Sl) (x4 : Int) (x5 : Int) (H : Heap) : Res := opq (run (X d) NN (cd 20 [1, 1, 0, 1, 0, 0, 1, 0, 0, 1, 1, 0]) (cmd_reader_quoted_k11010011 d m0) [(1, (cmd_reader_quoted_k11010011 d m0)), (0, (cmd_reader_quoted_k111 d))] (retK (rs 20))) [(0, P0 x0), (3, x3.v), (4, .int .i64 x4), (5, .int .u8 x5)] H
theorem cmd_reader_quoted_p11010_s (d : Nat) (m0 : Nat) (x0 : Nat) (x3 : Sl) (x4 : Int) (H : Heap) : cmd_reader_quoted_p11010 d (m0 + 1) x0 x3 x4 H =
  optK (Heap.ld1 H ⟨x0, 0, none⟩) fun v1 =>
  asS v1 fun s2 =>
  if (decide (x4 < (slen s2 : Int))) = true then
  (optK (Heap.ld1 H ⟨x0, 0, none⟩) fun v3 =>
    asS v3 fun s4 =>
    if 0 ≤ x4 ∧ x4 < (slen s4 : Int) then
    if (decide (bt s4 ((x4).toNat) < 32)) = true then
    (cmd_reader_quoted_p1101001001001 d m0 x0 x3 x4 (bt s4 ((x4).toNat)) true H)
    else
    (cmd_reader_quoted_p1101001001001 d m0 x0 x3 x4 (bt s4 ((x4).toNat)) (decide ((126 : Int) < bt s4 ((x4).toNat))) H)
    else none)
  else
  (some (.bool false, H)) := (opq_app _ _ _).trans <| by kernel_rfl
theorem cmd_reader_quoted_p1101001001001_eq (d : Nat) (m0 : Nat) (x0 : Nat) (x3 : Sl) (x4 : Int) (x5 : Int) (x21 : Bool) (H : Heap) : cmd_reader_quoted_p1101001001001 d m0 x0 x3 x4 x5 x21 H =
  if x21 = true then
  (some (.bool false, H))
  else
  (if (decide (x5 = 34)) = true then
    (optK (Heap.ld1 H ⟨x0, 2, none⟩) fun v1 =>
      asSL v1 fun l2 =>
      optK (readD (.bytesStr) [x3.v] H) fun v3 =>
      asS v3 fun s4 =>
      newK H (.cells [.string s4] t_string false 0 false) fun p5 H6 =>
      appendK t_string 1 16 false l2.v (.slice (some ⟨p5, 0, none⟩) 1 1) H6 fun v7 H8 =>
      asSL v7 fun l9 =>
      optK (Heap.st1 H8 ⟨x0, 2, none⟩ l9.v) fun H10 =>
      chk (rdsOk [H, H6, H8, H10] [⟨.load 1 false, [.pointer (some ⟨x0, 2, none⟩)], v1, 0, 1⟩]) (
        optK (Heap.ld1 H10 ⟨x0, 0, none⟩) fun v11 =>
        asS v11 fun s12 =>
        if 0 ≤ IntKind.wrap .i64 (x4 + 1) ∧ IntKind.wrap .i64 (x4 + 1) ≤ (slen s12 : Int) then
        optK (Heap.st1 H10 ⟨x0, 0, none⟩ (.string (sSub s12 ((IntKind.wrap .i64 (x4 + 1)).toNat) (slen s12)))) fun H13 =>
        some (.bool true, H13)
        else none))
    else
    (if (decide (x5 = 92)) = true then
      (optK (Heap.ld1 H ⟨x0, 0, none⟩) fun v14 =>
        asS v14 fun s15 =>
        if (decide (IntKind.wrap .i64 (x4 + 1) = (slen s15 : Int))) = true then
        (cmd_reader_quoted_p1101001001001011110101 d m0 x0 x3 (IntKind.wrap .i64 (x4 + 1)) true H)
        else
        (optK (Heap.ld1 H ⟨x0, 0, none⟩) fun v16 =>
          asS v16 fun s17 =>
          if 0 ≤ IntKind.wrap .i64 (x4 + 1) ∧ IntKind.wrap .i64 (x4 + 1) < (slen s17 : Int) then
          if (!decide (bt s17 ((IntKind.wrap .i64 (x4 + 1)).toNat) = 34)) = true then
          (optK (Heap.ld1 H ⟨x0, 0, none⟩) fun v18 =>
            asS v18 fun s19 =>
            if 0 ≤ IntKind.wrap .i64 (x4 + 1) ∧ IntKind.wrap .i64 (x4 + 1) < (slen s19 : Int) then
            cmd_reader_quoted_p1101001001001011110101 d m0 x0 x3 (IntKind.wrap .i64 (x4 + 1)) (!decide (bt s19 ((IntKind.wrap .i64 (x4 + 1)).toNat) = 92)) H
            else none)
          else
          (cmd_reader_quoted_p1101001001001011110101 d m0 x0 x3 (IntKind.wrap .i64 (x4 + 1)) false H)
          else none))
      else
      (cmd_reader_quoted_p11010010011 d m0 x0 x3 x4 x5 H))) := (opq_app _ _ _).trans <| by kernel_rfl
theorem cmd_reader_quoted_p1101001001001011110101_eq (d : Nat) (m0 : Nat) (x0 : Nat) (x3 : Sl) (x4 : Int) (x81 : Bool) (H : Heap) : cmd_reader_quoted_p1101001001001011110101 d m0 x0 x3 x4 x81 H =
  if x81 = true then
  (some (.bool false, H))
  else
  (optK (Heap.ld1 H ⟨x0, 0, none⟩) fun v1 =>
    asS v1 fun s2 =>
    if 0 ≤ x4 ∧ x4 < (slen s2 : Int) then
    cmd_reader_quoted_p11010010011 d m0 x0 x3 x4 (bt s2 ((x4).toNat)) H
    else none) := (opq_app _ _ _).trans <| by kernel_rfl
theorem cmd_reader_quoted_p11010010011_eq (d : Nat) (m0 : Nat) (x0 : Nat) (x3 : Sl) (x4 : Int) (x5 : Int) (H : Heap) : cmd_reader_quoted_p11010010011 d m0 x0 x3 x4 x5 H =
  newK H (.cells [.int .u8 x5] t_uint8 false 0 false) fun p1 H2 =>
  appendK t_uint8 1 1 false x3.v (.slice (some ⟨p1, 0, none⟩) 1 1) H2 fun v3 H4 =>
  asSL v3 fun l5 =>
  cmd_reader_quoted_p11010 d m0 x0 l5 (IntKind.wrap .i64 (x4 + 1)) H4 := (opq_app _ _ _).trans <| by kernel_rfl
theorem cmd_reader_quoted_eq (d : Nat) (x0 : Nat) (H : Heap) : X (d + 1) n_cmd_reader_quoted [P0 x0] H =
  cmd_reader_quoted_p11010 d NN x0 Sl.nil 1 H := by kernel_rfl
end Go.Proofs.YtnpmlgibjhjiiaaDoor.dec

namespace Go.Proofs.YtnpmlgibjhjiiaaDoor.dec
open Go Go.Cm
/-! (*porthole/cmd.reader).word -/
noncomputable def cmd_reader_word_k111 (d : Nat) : Kt := run (X d) NN (cd 21 [1, 1, 1]) (retK (rs 21)) [] (retK (rs 21))
noncomputable def cmd_reader_word_l1100 (d : Nat) (m0 : Nat) : Kt := iter (fun k => run (X d) NN (cd 21 [1, 1, 0, 0, 0]) (backK [(0, .ptr), (3, .int .i64)] (opq k)) [(0, (cmd_reader_word_k111 d))] (retK (rs 21))) m0
noncomputable def cmd_reader_word_k110001 (d : Nat) (m0 : Nat) : Kt := run (X d) NN (cd 21 [1, 1, 0, 0, 0, 1]) (backK [(0, .ptr), (3, .int .i64)] (opq (cmd_reader_word_l1100 d m0))) [(0, (cmd_reader_word_k111 d))] (retK (rs 21))
noncomputable def cmd_reader_word_p1100 (d : Nat) (m0 : Nat) (x0 : Nat) (x3 : Int) (H : Heap) : Res := opq (cmd_reader_word_l1100 d m0) [(0, P0 x0), (3, .int .i64 x3)] H
noncomputable def cmd_reader_word_p1100001 (d : Nat) (m0 : Nat) (x0 : Nat) (x3 : Int) (x19 : Bool) (H : Heap) : Res := opq (run (X d) NN (cd 21 [1, 1, 0, 0, 0, 0, 1, 0]) (cmd_reader_word_k110001 d m0) [(0, (cmd_reader_word_k111 d))] (retK (rs 21))) [(0, P0 x0), (3, .int .i64 x3), (19, .bool x19)] H
theorem cmd_reader_word_p1100_s (d : Nat) (m0 : Nat) (x0 : Nat) (x3 : Int) (H : Heap) : cmd_reader_word_p1100 d (m0 + 1) x0 x3 H =
  optK (Heap.ld1 H ⟨x0, 0, none⟩) fun v1 =>
  asS v1 fun s2 =>
  if (decide (x3 < (slen s2 : Int))) = true then
  (optK (Heap.ld1 H ⟨x0, 0, none⟩) fun v3 =>
    asS v3 fun s4 =>
    if 0 ≤ x3 ∧ x3 < (slen s4 : Int) then
    callK (X d n_cmd_plain [.int .u8 (bt s4 ((x3).toNat))] H) fun v5 H6 =>
    asB v5 fun b7 =>
    cmd_reader_word_p1100001 d m0 x0 x3 b7 H6
    else none)
  else
  (cmd_reader_word_p1100001 d m0 x0 x3 false H) := (opq_app _ _ _).trans <| by kernel_rfl
theorem cmd_reader_word_p1100001_eq (d : Nat) (m0 : Nat) (x0 : Nat) (x3 : Int) (x19 : Bool) (H : Heap) : cmd_reader_word_p1100001 d m0 x0 x3 x19 H =
  if x19 = true then
  (cmd_reader_word_p1100 d m0 x0 (IntKind.wrap .i64 (x3 + 1)) H)
  else
  (optK (Heap.ld1 H ⟨x0, 2, none⟩) fun v1 =>
    asSL v1 fun l2 =>
    optK (Heap.ld1 H ⟨x0, 0, none⟩) fun v3 =>
    asS v3 fun s4 =>
    if 0 ≤ x3 ∧ x3 ≤ (slen s4 : Int) then
    newK H (.cells [.string (sSub s4 0 ((x3).toNat))] t_string false 0 false) fun p5 H6 =>
    appendK t_string 1 16 false l2.v (.slice (some ⟨p5, 0, none⟩) 1 1) H6 fun v7 H8 =>
    asSL v7 fun l9 =>
    optK (Heap.st1 H8 ⟨x0, 2, none⟩ l9.v) fun H10 =>
    chk (rdsOk [H, H6, H8, H10] [⟨.load 1 false, [.pointer (some ⟨x0, 2, none⟩)], v1, 0, 1⟩]) (
      optK (Heap.ld1 H10 ⟨x0, 0, none⟩) fun v11 =>
      asS v11 fun s12 =>
      if 0 ≤ x3 ∧ x3 ≤ (slen s12 : Int) then
      optK (Heap.st1 H10 ⟨x0, 0, none⟩ (.string (sSub s12 ((x3).toNat) (slen s12)))) fun H13 =>
      some (.bool (decide ((0 : Int) < x3)), H13)
      else none)
    else none) := (opq_app _ _ _).trans <| by kernel_rfl
theorem cmd_reader_word_eq (d : Nat) (x0 : Nat) (H : Heap) : X (d + 1) n_cmd_reader_word [P0 x0] H =
  cmd_reader_word_p1100 d NN x0 0 H := by kernel_rfl
end Go.Proofs.YtnpmlgibjhjiiaaDoor.dec

namespace Go.Proofs.YtnpmlgibjhjiiaaDoor.dec
open Go Go.Cm
/-! porthole/cmd.plain -/
theorem cmd_plain_eq (d : Nat) (x0 : Int) (H : Heap) : X (d + 1) n_cmd_plain [.int .u8 x0] H =
  if (decide ((33 : Int) ≤ x0)) = true then
  (if (decide (x0 ≤ 126)) = true then
    (if (!decide (x0 = 59)) = true then
      (if (!decide (x0 = 34)) = true then
        (some (.bool (!decide (x0 = 92)), H))
        else
        (some (.bool false, H)))
      else
      (some (.bool false, H)))
    else
    (some (.bool false, H)))
  else
  (some (.bool false, H)) := by kernel_rfl
end Go.Proofs.YtnpmlgibjhjiiaaDoor.dec

namespace Go.Proofs.YtnpmlgibjhjiiaaDoor.dec
open Go Go.Cm
/-! porthole/cmd.NewKeys -/
theorem cmd_NewKeys_eq (d : Nat) (H : Heap) : X (d + 1) n_cmd_NewKeys [] H =
  newK H (.cells [.bool false] t_cmd_Keys false 0 false) fun p1 H2 =>
  some (P0 p1, H2) := by kernel_rfl
end Go.Proofs.YtnpmlgibjhjiiaaDoor.dec

namespace Go.Proofs.YtnpmlgibjhjiiaaDoor.dec
open Go Go.Cm
/-! (*porthole/cmd.Keys).Feed -/
noncomputable def cmd_Keys_Feed_k11111 (d : Nat) : Kt := run (X d) NN (cd 8 [1, 1, 1, 1, 1]) (retK (rs 8)) [] (retK (rs 8))
noncomputable def cmd_Keys_Feed_l1111010 (d : Nat) (m0 : Nat) : Kt := iter (fun k => run (X d) NN (cd 8 [1, 1, 1, 1, 0, 1, 0, 0]) (backK [(0, .ptr), (5, .any), (6, .any), (7, .any), (13, .sl), (14, .int .i64), (15, .int .i64)] (opq k)) [(0, (cmd_Keys_Feed_k11111 d))] (retK (rs 8))) m0
noncomputable def cmd_Keys_Feed_k11110100111 (d : Nat) (m0 : Nat) : Kt := run (X d) NN (cd 8 [1, 1, 1, 1, 0, 1, 0, 0, 1, 1, 1]) (backK [(0, .ptr), (5, .any), (6, .any), (7, .any), (13, .sl), (14, .int .i64), (15, .int .i64)] (opq (cmd_Keys_Feed_l1111010 d m0))) [(0, (cmd_Keys_Feed_k11111 d))] (retK (rs 8))
noncomputable def cmd_Keys_Feed_k111101001100111 (d : Nat) (m0 : Nat) : Kt := run (X d) NN (cd 8 [1, 1, 1, 1, 0, 1, 0, 0, 1, 1, 0, 0, 1, 1, 1]) (cmd_Keys_Feed_k11110100111 d m0) [(1, (cmd_Keys_Feed_k11110100111 d m0)), (0, (cmd_Keys_Feed_k11111 d))] (retK (rs 8))
noncomputable def cmd_Keys_Feed_p1111010 (d : Nat) (m0 : Nat) (x0 : Nat) (x5 : Nat) (x6 : Nat) (x7 : Nat) (x7_1 : Nat) (x13 : Sl) (x14 : Int) (x15 : Int) (H : Heap) : Res := opq (cmd_Keys_Feed_l1111010 d m0) [(0, P0 x0), (5, P0 x5), (6, P0 x6), (7, .func (.func n_cmd_Keys_Feed_1) #[] #[P0 x7, P0 x7_1]), (13, x13.v), (14, .int .i64 x14), (15, .int .i64 x15)] H
noncomputable def cmd_Keys_Feed_p11110100110011001 (d : Nat) (m0 : Nat) (x0 : Nat) (x5 : Nat) (x6 : Nat) (x7 : Nat) (x7_1 : Nat) (x9 : Int) (x10 : ByteArray) (x11 : Bool) (x13 : Sl) (x14 : Int) (x15 : Int) (x24 : Bool) (H : Heap) : Res := opq (run (X d) NN (cd 8 [1, 1, 1, 1, 0, 1, 0, 0, 1, 1, 0, 0, 1, 1, 0, 0, 1, 0]) (cmd_Keys_Feed_k111101001100111 d m0) [(2, (cmd_Keys_Feed_k111101001100111 d m0)), (1, (cmd_Keys_Feed_k11110100111 d m0)), (0, (cmd_Keys_Feed_k11111 d))] (retK (rs 8))) [(0, P0 x0), (5, P0 x5), (6, P0 x6), (7, .func (.func n_cmd_Keys_Feed_1) #[] #[P0 x7, P0 x7_1]), (9, .int .u8 x9), (10, .string x10), (11, .bool x11), (13, x13.v), (14, .int .i64 x14), (15, .int .i64 x15), (24, .bool x24)] H
noncomputable def cmd_Keys_Feed_p11110100111 (d : Nat) (m0 : Nat) (x0 : Nat) (x5 : Nat) (x6 : Nat) (x7 : Nat) (x7_1 : Nat) (x13 : Sl) (x14 : Int) (x15 : Int) (H : Heap) : Res := opq (run (X d) NN (cd 8 [1, 1, 1, 1, 0, 1, 0, 0, 1, 1, 1, 0]) (backK [(0, .ptr), (5, .any), (6, .any), (7, .any), (13, .sl), (14, .int .i64), (15, .int .i64)] (opq (cmd_Keys_Feed_l1111010 d m0))) [(0, (cmd_Keys_Feed_k11111 d))] (retK (rs 8))) [(0, P0 x0), (5, P0 x5), (6, P0 x6), (7, .func (.func n_cmd_Keys_Feed_1) #[] #[P0 x7, P0 x7_1]), (13, x13.v), (14, .int .i64 x14), (15, .int .i64 x15)] H
noncomputable def cmd_Keys_Feed_p11110100110011001011 (d : Nat) (m0 : Nat) (x0 : Nat) (x5 : Nat) (x6 : Nat) (x7 : Nat) (x7_1 : Nat) (x9 : Int) (x10 : ByteArray) (x11 : Bool) (x13 : Sl) (x14 : Int) (x15 : Int) (x37 : Bool) (H : Heap) : Res := opq (run (X d) NN (cd 8 [1, 1, 1, 1, 0, 1, 0, 0, 1, 1, 0, 0, 1, 1, 0, 0, 1, 0, 1, 1, 0]) (cmd_Keys_Feed_k111101001100111 d m0) [(2, (cmd_Keys_Feed_k111101001100111 d m0)), (1, (cmd_Keys_Feed_k11110100111 d m0)), (0, (cmd_Keys_Feed_k11111 d))] (retK (rs 8))) [(0, P0 x0), (5, P0 x5), (6, P0 x6), (7, .func (.func n_cmd_Keys_Feed_1) #[] #[P0 x7, P0 x7_1]), (9, .int .u8 x9), (10, .string x10), (11, .bool x11), (13, x13.v), (14, .int .i64 x14), (15, .int .i64 x15), (37, .bool x37)] H
noncomputable def cmd_Keys_Feed_p111101001100111 (d : Nat) (m0 : Nat) (x0 : Nat) (x5 : Nat) (x6 : Nat) (x7 : Nat) (x7_1 : Nat) (x13 : Sl) (x14 : Int) (x15 : Int) (H : Heap) : Res := opq (run (X d) NN (cd 8 [1, 1, 1, 1, 0, 1, 0, 0, 1, 1, 0, 0, 1, 1, 1, 0]) (cmd_Keys_Feed_k11110100111 d m0) [(1, (cmd_Keys_Feed_k11110100111 d m0)), (0, (cmd_Keys_Feed_k11111 d))] (retK (rs 8))) [(0, P0 x0), (5, P0 x5), (6, P0 x6), (7, .func (.func n_cmd_Keys_Feed_1) #[] #[P0 x7, P0 x7_1]), (13, x13.v), (14, .int .i64 x14), (15, .int .i64 x15)] H
theorem cmd_Keys_Feed_p1111010_s (d : Nat) (m0 : Nat) (x0 : Nat) (x5 : Nat) (x6 : Nat) (x7 : Nat) (x7_1 : Nat) (x13 : Sl) (x14 : Int) (x15 : Int) (H : Heap) : cmd_Keys_Feed_p1111010 d (m0 + 1) x0 x5 x6 x7 x7_1 x13 x14 x15 H =
  if (decide (x15 < x14)) = true then
  (optK x13.a fun a1 =>
    if 0 ≤ x15 ∧ x15 < (x13.n : Int) then
    optK (Heap.ld1 H (ap a1 (((x15).toNat) * 1))) fun v2 =>
    asI .u8 v2 fun n3 =>
    callK (X d n_cmd_Bound [.int .u8 n3] H) fun v4 H5 =>
    castT [.str, .bool] v4 fun l6 =>
    castT [.str, .bool] (.tuple ⟨l6⟩) fun l7 =>
    optK l7[0]? fun v8 =>
    asS v8 fun s9 =>
    optK l7[1]? fun v10 =>
    asB v10 fun b11 =>
    optK (Heap.ld1 H5 ⟨x0, 0, none⟩) fun v12 =>
    asB v12 fun b13 =>
    if (!b13) = true then
    (cmd_Keys_Feed_p11110100110011001 d m0 x0 x5 x6 x7 x7_1 n3 s9 b11 x13 x14 x15 (decide (n3 = 2)) H5)
    else
    (cmd_Keys_Feed_p11110100110011001 d m0 x0 x5 x6 x7 x7_1 n3 s9 b11 x13 x14 x15 false H5)
    else none)
  else
  (callK (X d n_cmd_Keys_Feed_1 [P0 x7, P0 x7_1] H) fun _ H15 =>
    optK (Heap.ld1 H15 ⟨x5, 0, none⟩) fun v16 =>
    asSL v16 fun l17 =>
    some (l17.v, H15)) := (opq_app _ _ _).trans <| by kernel_rfl
theorem cmd_Keys_Feed_p11110100110011001_eq (d : Nat) (m0 : Nat) (x0 : Nat) (x5 : Nat) (x6 : Nat) (x7 : Nat) (x7_1 : Nat) (x9 : Int) (x10 : ByteArray) (x11 : Bool) (x13 : Sl) (x14 : Int) (x15 : Int) (x24 : Bool) (H : Heap) : cmd_Keys_Feed_p11110100110011001 d m0 x0 x5 x6 x7 x7_1 x9 x10 x11 x13 x14 x15 x24 H =
  if x24 = true then
  (optK (Heap.st1 H ⟨x0, 0, none⟩ (.bool true)) fun H1 =>
    cmd_Keys_Feed_p11110100111 d m0 x0 x5 x6 x7 x7_1 x13 x14 x15 H1)
  else
  (optK (Heap.ld1 H ⟨x0, 0, none⟩) fun v2 =>
    asB v2 fun b3 =>
    if (!b3) = true then
    (cmd_Keys_Feed_p11110100110011001011 d m0 x0 x5 x6 x7 x7_1 x9 x10 x11 x13 x14 x15 true H)
    else
    (cmd_Keys_Feed_p11110100110011001011 d m0 x0 x5 x6 x7 x7_1 x9 x10 x11 x13 x14 x15 (decide (x9 = 2)) H)) := (opq_app _ _ _).trans <| by kernel_rfl
theorem cmd_Keys_Feed_p11110100111_eq (d : Nat) (m0 : Nat) (x0 : Nat) (x5 : Nat) (x6 : Nat) (x7 : Nat) (x7_1 : Nat) (x13 : Sl) (x14 : Int) (x15 : Int) (H : Heap) : cmd_Keys_Feed_p11110100111 d m0 x0 x5 x6 x7 x7_1 x13 x14 x15 H =
  cmd_Keys_Feed_p1111010 d m0 x0 x5 x6 x7 x7_1 x13 x14 (IntKind.wrap .i64 (x15 + 1)) H := (opq_app _ _ _).trans <| by kernel_rfl
theorem cmd_Keys_Feed_p11110100110011001011_eq (d : Nat) (m0 : Nat) (x0 : Nat) (x5 : Nat) (x6 : Nat) (x7 : Nat) (x7_1 : Nat) (x9 : Int) (x10 : ByteArray) (x11 : Bool) (x13 : Sl) (x14 : Int) (x15 : Int) (x37 : Bool) (H : Heap) : cmd_Keys_Feed_p11110100110011001011 d m0 x0 x5 x6 x7 x7_1 x9 x10 x11 x13 x14 x15 x37 H =
  if x37 = true then
  (optK (Heap.ld1 H ⟨x6, 0, none⟩) fun v1 =>
    asSL v1 fun l2 =>
    newK H (.cells [.int .u8 x9] t_uint8 false 0 false) fun p3 H4 =>
    appendK t_uint8 1 1 false l2.v (.slice (some ⟨p3, 0, none⟩) 1 1) H4 fun v5 H6 =>
    asSL v5 fun l7 =>
    optK (Heap.st1 H6 ⟨x6, 0, none⟩ l7.v) fun H8 =>
    cmd_Keys_Feed_p111101001100111 d m0 x0 x5 x6 x7 x7_1 x13 x14 x15 H8)
  else
  (if x11 = true then
    (callK (X d n_cmd_Keys_Feed_1 [P0 x7, P0 x7_1] H) fun _ H10 =>
      optK (Heap.ld1 H10 ⟨x5, 0, none⟩) fun v11 =>
      asSL v11 fun l12 =>
      newK H10 (.cells [.slice none 0 0, .string x10] t_cmd_Press false 0 false) fun p13 H14 =>
      appendK t_cmd_Press 2 40 false l12.v (.slice (some ⟨p13, 0, none⟩) 1 1) H14 fun v15 H16 =>
      asSL v15 fun l17 =>
      optK (Heap.st1 H16 ⟨x5, 0, none⟩ l17.v) fun H18 =>
      cmd_Keys_Feed_p111101001100111 d m0 x0 x5 x6 x7 x7_1 x13 x14 x15 H18)
    else
    (cmd_Keys_Feed_p111101001100111 d m0 x0 x5 x6 x7 x7_1 x13 x14 x15 H)) := (opq_app _ _ _).trans <| by kernel_rfl
theorem cmd_Keys_Feed_p111101001100111_eq (d : Nat) (m0 : Nat) (x0 : Nat) (x5 : Nat) (x6 : Nat) (x7 : Nat) (x7_1 : Nat) (x13 : Sl) (x14 : Int) (x15 : Int) (H : Heap) : cmd_Keys_Feed_p111101001100111 d m0 x0 x5 x6 x7 x7_1 x13 x14 x15 H =
  optK (Heap.st1 H ⟨x0, 0, none⟩ (.bool false)) fun H1 =>
  cmd_Keys_Feed_p11110100111 d m0 x0 x5 x6 x7 x7_1 x13 x14 x15 H1 := (opq_app _ _ _).trans <| by kernel_rfl
theorem cmd_Keys_Feed_eq (d : Nat) (x0 : Nat) (x1 : Sl) (H : Heap) : X (d + 1) n_cmd_Keys_Feed [P0 x0, x1.v] H =
  newK H (.cells [.slice none 0 0] t_S_cmd_Press false 0 false) fun p1 H2 =>
  newK H2 (.cells [.slice none 0 0] t_S_uint8 false 0 false) fun p3 H4 =>
  cmd_Keys_Feed_p1111010 d NN x0 p1 p3 p3 p1 x1 (x1.n : Int) 0 H4 := by kernel_rfl
end Go.Proofs.YtnpmlgibjhjiiaaDoor.dec

namespace Go.Proofs.YtnpmlgibjhjiiaaDoor.dec
open Go Go.Cm
/-! porthole/cmd.Bound -/
noncomputable def cmd_Bound_k111 (d : Nat) : Kt := run (X d) NN (cd 9 [1, 1, 1]) (retK (rs 9)) [] (retK (rs 9))
noncomputable def cmd_Bound_p1101 (d : Nat) (x0 : Int) (x26 : Bool) (H : Heap) : Res := opq (run (X d) NN (cd 9 [1, 1, 0, 1, 0]) (cmd_Bound_k111 d) [] (retK (rs 9))) [(0, .int .u8 x0), (26, .bool x26)] H
theorem cmd_Bound_p1101_eq (d : Nat) (x0 : Int) (x26 : Bool) (H : Heap) : cmd_Bound_p1101 d x0 x26 H =
  if x26 = true then
  (if slen (S [115, 101, 108, 101, 99, 116, 45, 112, 97, 110, 101, 32]) + slen (Utf8.encode (IntKind.wrap .i32 x0)) ≤ 9223372036854775807 then
    some (.tuple #[.string (sCat (S [115, 101, 108, 101, 99, 116, 45, 112, 97, 110, 101, 32]) (Utf8.encode (IntKind.wrap .i32 x0))), .bool true], H)
    else none)
  else
  (some (.tuple #[.string (S []), .bool false], H)) := (opq_app _ _ _).trans <| by kernel_rfl
theorem cmd_Bound_eq (d : Nat) (x0 : Int) (H : Heap) : X (d + 1) n_cmd_Bound [.int .u8 x0] H =
  if (decide (x0 = 99)) = true then
  (some (.tuple #[.string (S [110, 101, 119, 45, 119, 105, 110, 100, 111, 119]), .bool true], H))
  else
  (if (decide (x0 = 38)) = true then
    (some (.tuple #[.string (S [107, 105, 108, 108, 45, 119, 105, 110, 100, 111, 119]), .bool true], H))
    else
    (if (decide (x0 = 37)) = true then
      (some (.tuple #[.string (S [115, 112, 108, 105, 116, 45, 119, 105, 110, 100, 111, 119, 32, 45, 104]), .bool true], H))
      else
      (if (decide (x0 = 34)) = true then
        (some (.tuple #[.string (S [115, 112, 108, 105, 116, 45, 119, 105, 110, 100, 111, 119, 32, 45, 118]), .bool true], H))
        else
        (if (decide (x0 = 120)) = true then
          (some (.tuple #[.string (S [107, 105, 108, 108, 45, 112, 97, 110, 101]), .bool true], H))
          else
          (if (decide (x0 = 122)) = true then
            (some (.tuple #[.string (S [122, 111, 111, 109]), .bool true], H))
            else
            (if (decide (x0 = 111)) = true then
              (some (.tuple #[.string (S [115, 101, 108, 101, 99, 116, 45, 112, 97, 110, 101, 32, 48]), .bool true], H))
              else
              (if (decide (x0 = 93)) = true then
                (some (.tuple #[.string (S [112, 97, 115, 116, 101, 32, 48]), .bool true], H))
                else
                (if (decide ((48 : Int) ≤ x0)) = true then
                  (cmd_Bound_p1101 d x0 (decide (x0 ≤ 57)) H)
                  else
                  (cmd_Bound_p1101 d x0 false H))))))))) := by kernel_rfl
end Go.Proofs.YtnpmlgibjhjiiaaDoor.dec

namespace Go.Proofs.YtnpmlgibjhjiiaaDoor.dec
open Go Go.Cm
/-! (*porthole/cmd.Keys).Feed$1 -/
noncomputable def cmd_Keys_Feed_1_p1 (d : Nat) (x0 : Nat) (H : Heap) : Res := opq (run (X d) NN (cd 18 [1, 0]) (retK (rs 18)) [] (retK (rs 18))) [(0, P0 x0)] H
theorem cmd_Keys_Feed_1_p1_eq (d : Nat) (x0 : Nat) (H : Heap) : cmd_Keys_Feed_1_p1 d x0 H =
  optK (Heap.st1 H ⟨x0, 0, none⟩ (.slice none 0 0)) fun H1 =>
  some (.tuple #[], H1) := (opq_app _ _ _).trans <| by kernel_rfl
theorem cmd_Keys_Feed_1_eq (d : Nat) (x0 : Nat) (x1 : Nat) (H : Heap) : X (d + 1) n_cmd_Keys_Feed_1 [P0 x0, P0 x1] H =
  optK (Heap.ld1 H ⟨x0, 0, none⟩) fun v1 =>
  asSL v1 fun l2 =>
  if (decide ((0 : Int) < (l2.n : Int))) = true then
  (optK (Heap.ld1 H ⟨x1, 0, none⟩) fun v3 =>
    asSL v3 fun l4 =>
    optK (Heap.ld1 H ⟨x0, 0, none⟩) fun v5 =>
    asSL v5 fun l6 =>
    newK H (.cells [l6.v, .string (S [])] t_cmd_Press false 0 false) fun p7 H8 =>
    appendK t_cmd_Press 2 40 false l4.v (.slice (some ⟨p7, 0, none⟩) 1 1) H8 fun v9 H10 =>
    asSL v9 fun l11 =>
    optK (Heap.st1 H10 ⟨x1, 0, none⟩ l11.v) fun H12 =>
    cmd_Keys_Feed_1_p1 d x0 H12)
  else
  (cmd_Keys_Feed_1_p1 d x0 H) := by kernel_rfl
end Go.Proofs.YtnpmlgibjhjiiaaDoor.dec

namespace Go.Proofs.YtnpmlgibjhjiiaaDoor.dec
open Go Go.Cm
/-! porthole/cmd.Right -/
noncomputable def cmd_Right_k111 (d : Nat) : Kt := run (X d) NN (cd 11 [1, 1, 1]) (retK (rs 11)) [] (retK (rs 11))
noncomputable def cmd_Right_p110101 (d : Nat) (x3 : Sl) (x7 : ByteArray) (x8 : Bool) (H : Heap) : Res := opq (run (X d) NN (cd 11 [1, 1, 0, 1, 0, 1, 0]) (cmd_Right_k111 d) [(0, (cmd_Right_k111 d))] (retK (rs 11))) [(3, x3.v), (7, .string x7), (8, .bool x8)] H
noncomputable def cmd_Right_p110101011 (d : Nat) (x3 : Sl) (x7 : ByteArray) (x17 : Bool) (H : Heap) : Res := opq (run (X d) NN (cd 11 [1, 1, 0, 1, 0, 1, 0, 1, 1, 0]) (cmd_Right_k111 d) [(0, (cmd_Right_k111 d))] (retK (rs 11))) [(3, x3.v), (7, .string x7), (17, .bool x17)] H
noncomputable def cmd_Right_p110101011011 (d : Nat) (x3 : Sl) (x7 : ByteArray) (x29 : Bool) (H : Heap) : Res := opq (run (X d) NN (cd 11 [1, 1, 0, 1, 0, 1, 0, 1, 1, 0, 1, 1, 0]) (cmd_Right_k111 d) [(0, (cmd_Right_k111 d))] (retK (rs 11))) [(3, x3.v), (7, .string x7), (29, .bool x29)] H
theorem cmd_Right_p110101_eq (d : Nat) (x3 : Sl) (x7 : ByteArray) (x8 : Bool) (H : Heap) : cmd_Right_p110101 d x3 x7 x8 H =
  if x8 = true then
  (some (.bool (decide ((x3.n : Int) = 0)), H))
  else
  (if (sEq x7 (S [110, 101, 119, 45, 115, 101, 115, 115, 105, 111, 110])) = true then
    (cmd_Right_p110101011 d x3 x7 (sEq x7 (S [110, 101, 119, 45, 115, 101, 115, 115, 105, 111, 110])) H)
    else
    (cmd_Right_p110101011 d x3 x7 (sEq x7 (S [114, 101, 110, 97, 109, 101])) H)) := (opq_app _ _ _).trans <| by kernel_rfl
theorem cmd_Right_p110101011_eq (d : Nat) (x3 : Sl) (x7 : ByteArray) (x17 : Bool) (H : Heap) : cmd_Right_p110101011 d x3 x7 x17 H =
  if x17 = true then
  (if (decide ((x3.n : Int) = 1)) = true then
    (optK x3.a fun a1 =>
      if 0 ≤ (0 : Int) ∧ (0 : Int) < (x3.n : Int) then
      optK (Heap.ld1 H (ap a1 0)) fun v2 =>
      asS v2 fun s3 =>
      callK (X d n_mux_Right [.string s3] H) fun v4 H5 =>
      asB v4 fun b6 =>
      some (.bool b6, H5)
      else none)
    else
    (some (.bool false, H)))
  else
  (if (sEq x7 (S [115, 101, 108, 101, 99, 116, 45, 119, 105, 110, 100, 111, 119])) = true then
    (cmd_Right_p110101011011 d x3 x7 (sEq x7 (S [115, 101, 108, 101, 99, 116, 45, 119, 105, 110, 100, 111, 119])) H)
    else
    (if (sEq x7 (S [115, 101, 108, 101, 99, 116, 45, 112, 97, 110, 101])) = true then
      (cmd_Right_p110101011011 d x3 x7 (sEq x7 (S [115, 101, 108, 101, 99, 116, 45, 112, 97, 110, 101])) H)
      else
      (if (sEq x7 (S [115, 119, 97, 112, 45, 112, 97, 110, 101])) = true then
        (cmd_Right_p110101011011 d x3 x7 (sEq x7 (S [115, 119, 97, 112, 45, 112, 97, 110, 101])) H)
        else
        (cmd_Right_p110101011011 d x3 x7 (sEq x7 (S [112, 97, 115, 116, 101])) H)))) := (opq_app _ _ _).trans <| by kernel_rfl
theorem cmd_Right_p110101011011_eq (d : Nat) (x3 : Sl) (x7 : ByteArray) (x29 : Bool) (H : Heap) : cmd_Right_p110101011011 d x3 x7 x29 H =
  if x29 = true then
  (if (decide ((x3.n : Int) = 1)) = true then
    (optK x3.a fun a1 =>
      if 0 ≤ (0 : Int) ∧ (0 : Int) < (x3.n : Int) then
      optK (Heap.ld1 H (ap a1 0)) fun v2 =>
      asS v2 fun s3 =>
      callK (X d n_cmd_isNumber [.string s3] H) fun v4 H5 =>
      asB v4 fun b6 =>
      some (.bool b6, H5)
      else none)
    else
    (some (.bool false, H)))
  else
  (if (sEq x7 (S [115, 112, 108, 105, 116, 45, 119, 105, 110, 100, 111, 119])) = true then
    (if (decide ((x3.n : Int) = 1)) = true then
      (optK x3.a fun a7 =>
        if 0 ≤ (0 : Int) ∧ (0 : Int) < (x3.n : Int) then
        optK (Heap.ld1 H (ap a7 0)) fun v8 =>
        asS v8 fun s9 =>
        if (sEq s9 (S [45, 104])) = true then
        (some (.bool true, H))
        else
        (optK x3.a fun a10 =>
          if 0 ≤ (0 : Int) ∧ (0 : Int) < (x3.n : Int) then
          optK (Heap.ld1 H (ap a10 0)) fun v11 =>
          asS v11 fun s12 =>
          some (.bool (sEq s12 (S [45, 118])), H)
          else none)
        else none)
      else
      (some (.bool false, H)))
    else
    (if (sEq x7 (S [114, 101, 115, 105, 122, 101, 45, 112, 97, 110, 101])) = true then
      (if (decide ((x3.n : Int) = 2)) = true then
        (optK x3.a fun a13 =>
          if 0 ≤ (0 : Int) ∧ (0 : Int) < (x3.n : Int) then
          optK (Heap.ld1 H (ap a13 0)) fun v14 =>
          asS v14 fun s15 =>
          if (sEq s15 (S [45, 76])) = true then
          (optK x3.a fun a16 =>
            if 0 ≤ (1 : Int) ∧ (1 : Int) < (x3.n : Int) then
            optK (Heap.ld1 H (ap a16 1)) fun v17 =>
            asS v17 fun s18 =>
            callK (X d n_cmd_isNumber [.string s18] H) fun v19 H20 =>
            asB v19 fun b21 =>
            some (.bool b21, H20)
            else none)
          else
          (optK x3.a fun a22 =>
            if 0 ≤ (0 : Int) ∧ (0 : Int) < (x3.n : Int) then
            optK (Heap.ld1 H (ap a22 0)) fun v23 =>
            asS v23 fun s24 =>
            if (sEq s24 (S [45, 82])) = true then
            (optK x3.a fun a25 =>
              if 0 ≤ (1 : Int) ∧ (1 : Int) < (x3.n : Int) then
              optK (Heap.ld1 H (ap a25 1)) fun v26 =>
              asS v26 fun s27 =>
              callK (X d n_cmd_isNumber [.string s27] H) fun v28 H29 =>
              asB v28 fun b30 =>
              some (.bool b30, H29)
              else none)
            else
            (optK x3.a fun a31 =>
              if 0 ≤ (0 : Int) ∧ (0 : Int) < (x3.n : Int) then
              optK (Heap.ld1 H (ap a31 0)) fun v32 =>
              asS v32 fun s33 =>
              if (sEq s33 (S [45, 85])) = true then
              (optK x3.a fun a34 =>
                if 0 ≤ (1 : Int) ∧ (1 : Int) < (x3.n : Int) then
                optK (Heap.ld1 H (ap a34 1)) fun v35 =>
                asS v35 fun s36 =>
                callK (X d n_cmd_isNumber [.string s36] H) fun v37 H38 =>
                asB v37 fun b39 =>
                some (.bool b39, H38)
                else none)
              else
              (optK x3.a fun a40 =>
                if 0 ≤ (0 : Int) ∧ (0 : Int) < (x3.n : Int) then
                optK (Heap.ld1 H (ap a40 0)) fun v41 =>
                asS v41 fun s42 =>
                if (sEq s42 (S [45, 68])) = true then
                (optK x3.a fun a43 =>
                  if 0 ≤ (1 : Int) ∧ (1 : Int) < (x3.n : Int) then
                  optK (Heap.ld1 H (ap a43 1)) fun v44 =>
                  asS v44 fun s45 =>
                  callK (X d n_cmd_isNumber [.string s45] H) fun v46 H47 =>
                  asB v46 fun b48 =>
                  some (.bool b48, H47)
                  else none)
                else
                (some (.bool false, H))
                else none)
              else none)
            else none)
          else none)
        else
        (some (.bool false, H)))
      else
      (if (sEq x7 (S [99, 111, 112, 121])) = true then
        (if (decide ((x3.n : Int) = 2)) = true then
          (optK x3.a fun a49 =>
            if 0 ≤ (0 : Int) ∧ (0 : Int) < (x3.n : Int) then
            optK (Heap.ld1 H (ap a49 0)) fun v50 =>
            asS v50 fun s51 =>
            callK (X d n_cmd_isNumber [.string s51] H) fun v52 H53 =>
            asB v52 fun b54 =>
            if b54 = true then
            (optK x3.a fun a55 =>
              if 0 ≤ (1 : Int) ∧ (1 : Int) < (x3.n : Int) then
              optK (Heap.ld1 H53 (ap a55 1)) fun v56 =>
              asS v56 fun s57 =>
              callK (X d n_cmd_isNumber [.string s57] H53) fun v58 H59 =>
              asB v58 fun b60 =>
              some (.bool b60, H59)
              else none)
            else
            (some (.bool false, H53))
            else none)
          else
          (some (.bool false, H)))
        else
        (if (sEq x7 (S [115, 101, 110, 100])) = true then
          (some (.bool (decide ((x3.n : Int) = 1)), H))
          else
          (some (.bool false, H)))))) := (opq_app _ _ _).trans <| by kernel_rfl
theorem cmd_Right_eq (d : Nat) (x0 : Array Value) (H : Heap) : X (d + 1) n_cmd_Right [.agg x0] H =
  effK (.box t_cmd_Command) [.agg x0] H fun v1 H2 =>
  asP v1 fun o3 =>
  optK o3 fun a4 =>
  optK (Heap.ld1 H2 (ap a4 1)) fun v5 =>
  asSL v5 fun l6 =>
  asP v1 fun o7 =>
  optK o7 fun a8 =>
  optK (Heap.ld1 H2 (ap a8 0)) fun v9 =>
  asS v9 fun s10 =>
  if (sEq s10 (S [107, 105, 108, 108, 45, 115, 101, 115, 115, 105, 111, 110])) = true then
  (cmd_Right_p110101 d l6 s10 (sEq s10 (S [107, 105, 108, 108, 45, 115, 101, 115, 115, 105, 111, 110])) H2)
  else
  (if (sEq s10 (S [110, 101, 119, 45, 119, 105, 110, 100, 111, 119])) = true then
    (cmd_Right_p110101 d l6 s10 (sEq s10 (S [110, 101, 119, 45, 119, 105, 110, 100, 111, 119])) H2)
    else
    (if (sEq s10 (S [107, 105, 108, 108, 45, 119, 105, 110, 100, 111, 119])) = true then
      (cmd_Right_p110101 d l6 s10 (sEq s10 (S [107, 105, 108, 108, 45, 119, 105, 110, 100, 111, 119])) H2)
      else
      (if (sEq s10 (S [107, 105, 108, 108, 45, 112, 97, 110, 101])) = true then
        (cmd_Right_p110101 d l6 s10 (sEq s10 (S [107, 105, 108, 108, 45, 112, 97, 110, 101])) H2)
        else
        (cmd_Right_p110101 d l6 s10 (sEq s10 (S [122, 111, 111, 109])) H2)))) := by kernel_rfl
end Go.Proofs.YtnpmlgibjhjiiaaDoor.dec

namespace Go.Proofs.YtnpmlgibjhjiiaaDoor.dec
open Go Go.Cm
/-! porthole/cmd.isNumber -/
theorem cmd_isNumber_eq (d : Nat) (x0 : ByteArray) (H : Heap) : X (d + 1) n_cmd_isNumber [.string x0] H =
  callK (X d n_cmd_number [.string x0] H) fun v1 H2 =>
  castT [.int .i64, .bool] v1 fun l3 =>
  castT [.int .i64, .bool] (.tuple ⟨l3⟩) fun l4 =>
  optK l4[0]? fun v5 =>
  asI .i64 v5 fun _ =>
  optK l4[1]? fun v7 =>
  asB v7 fun b8 =>
  some (.bool b8, H2) := by kernel_rfl
end Go.Proofs.YtnpmlgibjhjiiaaDoor.dec

namespace Go.Proofs.YtnpmlgibjhjiiaaDoor.dec
open Go Go.Cm
/-! porthole/cmd.number -/
noncomputable def cmd_number_k11 (d : Nat) : Kt := run (X d) NN (cd 32 [1, 1]) (retK (rs 32)) [] (retK (rs 32))
noncomputable def cmd_number_k111 (d : Nat) : Kt := run (X d) NN (cd 32 [1, 1, 1]) (retK (rs 32)) [] (retK (rs 32))
noncomputable def cmd_number_l11010 (d : Nat) (m0 : Nat) : Kt := iter (fun k => run (X d) NN (cd 32 [1, 1, 0, 1, 0, 0]) (backK [(0, .str), (26, .any)] (opq k)) [(0, (cmd_number_k111 d))] (retK (rs 32))) m0
noncomputable def cmd_number_p101 (d : Nat) (x0 : ByteArray) (x24 : Bool) (H : Heap) : Res := opq (run (X d) NN (cd 32 [1, 0, 1, 0]) (cmd_number_k11 d) [] (retK (rs 32))) [(0, .string x0), (24, .bool x24)] H
noncomputable def cmd_number_p11010 (d : Nat) (m0 : Nat) (x0 : ByteArray) (x26 : Nat) (H : Heap) : Res := opq (cmd_number_l11010 d m0) [(0, .string x0), (26, P0 x26)] H
noncomputable def cmd_number_p11010011011 (d : Nat) (m0 : Nat) (x0 : ByteArray) (x26 : Nat) (x35 : Bool) (H : Heap) : Res := opq (run (X d) NN (cd 32 [1, 1, 0, 1, 0, 0, 1, 1, 0, 1, 1, 0]) (backK [(0, .str), (26, .any)] (opq (cmd_number_l11010 d m0))) [(1, (backK [(0, .str), (26, .any)] (opq (cmd_number_l11010 d m0)))), (0, (cmd_number_k111 d))] (retK (rs 32))) [(0, .string x0), (26, P0 x26), (35, .bool x35)] H
theorem cmd_number_p101_eq (d : Nat) (x0 : ByteArray) (x24 : Bool) (H : Heap) : cmd_number_p101 d x0 x24 H =
  if x24 = true then
  (some (.tuple #[.int .i64 0, .bool false], H))
  else
  (newK H (.iter x0 0) fun p1 H2 =>
    cmd_number_p11010 d NN x0 p1 H2) := (opq_app _ _ _).trans <| by kernel_rfl
theorem cmd_number_p11010_s (d : Nat) (m0 : Nat) (x0 : ByteArray) (x26 : Nat) (H : Heap) : cmd_number_p11010 d (m0 + 1) x0 x26 H =
  nextK H (⟨x26, 0, none⟩) (fun H1 _ r3 =>
    if (decide (r3 < 48)) = true then
    (cmd_number_p11010011011 d m0 x0 x26 true H1)
    else
    (cmd_number_p11010011011 d m0 x0 x26 (decide ((57 : Int) < r3)) H1))
  (fun H4 =>
    callK (X d n_strconv_Atoi [.string x0] H4) fun v5 H6 =>
    castT [.int .i64, .any] v5 fun l7 =>
    castT [.int .i64, .any] (.tuple ⟨l7⟩) fun l8 =>
    optK l8[0]? fun v9 =>
    asI .i64 v9 fun n10 =>
    optK l8[1]? fun v11 =>
    optK (isNil .i v11) fun b12 =>
    some (.tuple #[.int .i64 n10, .bool b12], H6)) := (opq_app _ _ _).trans <| by kernel_rfl
theorem cmd_number_p11010011011_eq (d : Nat) (m0 : Nat) (x0 : ByteArray) (x26 : Nat) (x35 : Bool) (H : Heap) : cmd_number_p11010011011 d m0 x0 x26 x35 H =
  if x35 = true then
  (some (.tuple #[.int .i64 0, .bool false], H))
  else
  (cmd_number_p11010 d m0 x0 x26 H) := (opq_app _ _ _).trans <| by kernel_rfl
theorem cmd_number_eq (d : Nat) (x0 : ByteArray) (H : Heap) : X (d + 1) n_cmd_number [.string x0] H =
  if (sEq x0 (S [])) = true then
  (cmd_number_p101 d x0 true H)
  else
  (if (decide ((4 : Int) < (slen x0 : Int))) = true then
    (cmd_number_p101 d x0 true H)
    else
    (if (decide ((1 : Int) < (slen x0 : Int))) = true then
      (if 0 ≤ (0 : Int) ∧ (0 : Int) < (slen x0 : Int) then
        cmd_number_p101 d x0 (decide (bt x0 0 = 48)) H
        else none)
      else
      (cmd_number_p101 d x0 false H))) := by kernel_rfl
end Go.Proofs.YtnpmlgibjhjiiaaDoor.dec

namespace Go.Proofs.YtnpmlgibjhjiiaaDoor.dec
open Go Go.Cm
/-! strconv.Atoi -/
theorem strconv_Atoi_eq (d : Nat) (x0 : ByteArray) (H : Heap) : X (d + 1) n_strconv_Atoi [.string x0] H =
  callK (X d n_strconv_Atoix [.string x0] H) fun v1 H2 =>
  castT [.int .i64, .any] v1 fun l3 =>
  castT [.int .i64, .any] (.tuple ⟨l3⟩) fun l4 =>
  optK l4[0]? fun v5 =>
  asI .i64 v5 fun n6 =>
  optK l4[1]? fun v7 =>
  optK (isNil .i v7) fun b8 =>
  if (!b8) = true then
  (callK (X d n_strconv_toError [.string (S [65, 116, 111, 105]), .string x0, .int .i64 0, .int .i64 0, v7] H2) fun v9 H10 =>
    some (.tuple #[.int .i64 n6, v9], H10))
  else
  (some (.tuple #[.int .i64 n6, .nilIface], H2)) := by kernel_rfl
end Go.Proofs.YtnpmlgibjhjiiaaDoor.dec

namespace Go.Proofs.YtnpmlgibjhjiiaaDoor.dec
open Go Go.Cm
/-! internal/strconv.Atoi -/
noncomputable def strconv_Atoix_k111 (d : Nat) : Kt := run (X d) NN (cd 42 [1, 1, 1]) (retK (rs 42)) [] (retK (rs 42))
noncomputable def strconv_Atoix_k11010011 (d : Nat) : Kt := run (X d) NN (cd 42 [1, 1, 0, 1, 0, 0, 1, 1]) (strconv_Atoix_k111 d) [] (retK (rs 42))
noncomputable def strconv_Atoix_k11010011011 (d : Nat) : Kt := run (X d) NN (cd 42 [1, 1, 0, 1, 0, 0, 1, 1, 0, 1, 1]) (strconv_Atoix_k111 d) [] (retK (rs 42))
noncomputable def strconv_Atoix_l1101001101010 (d : Nat) (m0 : Nat) : Kt := iter (fun k => run (X d) NN (cd 42 [1, 1, 0, 1, 0, 0, 1, 1, 0, 1, 0, 1, 0, 0]) (backK [(5, .str), (6, .int .i64), (47, .sl), (48, .int .i64), (49, .int .i64)] (opq k)) [(0, (strconv_Atoix_k11010011011 d))] (retK (rs 42))) m0
noncomputable def strconv_Atoix_p1101 (d : Nat) (x0 : ByteArray) (x30 : Bool) (H : Heap) : Res := opq (run (X d) NN (cd 42 [1, 1, 0, 1, 0]) (strconv_Atoix_k111 d) [] (retK (rs 42))) [(0, .string x0), (30, .bool x30)] H
noncomputable def strconv_Atoix_p110100101 (d : Nat) (x0 : ByteArray) (x5 : ByteArray) (x39 : Bool) (H : Heap) : Res := opq (run (X d) NN (cd 42 [1, 1, 0, 1, 0, 0, 1, 0, 1, 0]) (strconv_Atoix_k11010011 d) [] (retK (rs 42))) [(0, .string x0), (5, .string x5), (39, .bool x39)] H
noncomputable def strconv_Atoix_p11010011 (d : Nat) (x0 : ByteArray) (x5 : ByteArray) (H : Heap) : Res := opq (run (X d) NN (cd 42 [1, 1, 0, 1, 0, 0, 1, 1, 0]) (strconv_Atoix_k111 d) [] (retK (rs 42))) [(0, .string x0), (5, .string x5)] H
noncomputable def strconv_Atoix_p1101001101010 (d : Nat) (m0 : Nat) (x5 : ByteArray) (x6 : Int) (x47 : Sl) (x48 : Int) (x49 : Int) (H : Heap) : Res := opq (strconv_Atoix_l1101001101010 d m0) [(5, .string x5), (6, .int .i64 x6), (47, x47.v), (48, .int .i64 x48), (49, .int .i64 x49)] H
theorem strconv_Atoix_p1101_eq (d : Nat) (x0 : ByteArray) (x30 : Bool) (H : Heap) : strconv_Atoix_p1101 d x0 x30 H =
  if x30 = true then
  (if 0 ≤ (0 : Int) ∧ (0 : Int) < (slen x0 : Int) then
    if (decide (bt x0 0 = 45)) = true then
    (strconv_Atoix_p110100101 d x0 x0 true H)
    else
    (if 0 ≤ (0 : Int) ∧ (0 : Int) < (slen x0 : Int) then
      strconv_Atoix_p110100101 d x0 x0 (decide (bt x0 0 = 43)) H
      else none)
    else none)
  else
  (callK (X d n_strconv_ParseInt [.string x0, .int .i64 10, .int .i64 0] H) fun v1 H2 =>
    castT [.int .i64, .any] v1 fun l3 =>
    castT [.int .i64, .any] (.tuple ⟨l3⟩) fun l4 =>
    optK l4[0]? fun v5 =>
    asI .i64 v5 fun n6 =>
    optK l4[1]? fun v7 =>
    some (.tuple #[.int .i64 n6, v7], H2)) := (opq_app _ _ _).trans <| by kernel_rfl
theorem strconv_Atoix_p110100101_eq (d : Nat) (x0 : ByteArray) (x5 : ByteArray) (x39 : Bool) (H : Heap) : strconv_Atoix_p110100101 d x0 x5 x39 H =
  if x39 = true then
  (if 0 ≤ (1 : Int) ∧ 1 ≤ (slen x0 : Int) then
    if (decide ((slen (sSub x0 1 (slen x0)) : Int) < 1)) = true then
    (some (.tuple #[.int .i64 0, .iface t_strconv_Error (.int .i64 2)], H))
    else
    (strconv_Atoix_p11010011 d (sSub x0 1 (slen x0)) x5 H)
    else none)
  else
  (strconv_Atoix_p11010011 d x0 x5 H) := (opq_app _ _ _).trans <| by kernel_rfl
theorem strconv_Atoix_p11010011_eq (d : Nat) (x0 : ByteArray) (x5 : ByteArray) (H : Heap) : strconv_Atoix_p11010011 d x0 x5 H =
  newK H (.cells ((lst x0).map fun b => .int .u8 b.toNat) t_uint8 true 0 true) fun p1 H2 =>
  strconv_Atoix_p1101001101010 d NN x5 0 ⟨some ⟨p1, 0, none⟩, slen x0, slen x0⟩ (slen x0 : Int) 0 H2 := (opq_app _ _ _).trans <| by kernel_rfl
theorem strconv_Atoix_p1101001101010_s (d : Nat) (m0 : Nat) (x5 : ByteArray) (x6 : Int) (x47 : Sl) (x48 : Int) (x49 : Int) (H : Heap) : strconv_Atoix_p1101001101010 d (m0 + 1) x5 x6 x47 x48 x49 H =
  if (decide (x49 < x48)) = true then
  (optK x47.a fun a1 =>
    if 0 ≤ x49 ∧ x49 < (x47.n : Int) then
    optK (Heap.ld1 H (ap a1 (((x49).toNat) * 1))) fun v2 =>
    asI .u8 v2 fun n3 =>
    if (decide ((9 : Int) < IntKind.wrap .u8 (n3 - 48))) = true then
    (some (.tuple #[.int .i64 0, .iface t_strconv_Error (.int .i64 2)], H))
    else
    (strconv_Atoix_p1101001101010 d m0 x5 (IntKind.wrap .i64 ((IntKind.wrap .i64 (x6 * 10)) + (IntKind.wrap .i64 (IntKind.wrap .u8 (n3 - 48))))) x47 x48 (IntKind.wrap .i64 (x49 + 1)) H)
    else none)
  else
  (if 0 ≤ (0 : Int) ∧ (0 : Int) < (slen x5 : Int) then
    if (decide (bt x5 0 = 45)) = true then
    (some (.tuple #[.int .i64 (IntKind.wrap .i64 (0 - x6)), .nilIface], H))
    else
    (some (.tuple #[.int .i64 x6, .nilIface], H))
    else none) := (opq_app _ _ _).trans <| by kernel_rfl
theorem strconv_Atoix_eq (d : Nat) (x0 : ByteArray) (H : Heap) : X (d + 1) n_strconv_Atoix [.string x0] H =
  if (decide ((0 : Int) < (slen x0 : Int))) = true then
  (strconv_Atoix_p1101 d x0 (decide ((slen x0 : Int) < 19)) H)
  else
  (strconv_Atoix_p1101 d x0 false H) := by kernel_rfl
end Go.Proofs.YtnpmlgibjhjiiaaDoor.dec

namespace Go.Proofs.YtnpmlgibjhjiiaaDoor.dec
open Go Go.Cm
/-! porthole/portholelaw24.CmdPlain -/
noncomputable def law24_CmdPlain_k111 (d : Nat) : Kt := run (X d) NN (cd 3 [1, 1, 1]) (retK (rs 3)) [] (retK (rs 3))
noncomputable def law24_CmdPlain_k111111 (d : Nat) : Kt := run (X d) NN (cd 3 [1, 1, 1, 1, 1, 1]) (retK (rs 3)) [] (retK (rs 3))
noncomputable def law24_CmdPlain_k11111111 (d : Nat) : Kt := run (X d) NN (cd 3 [1, 1, 1, 1, 1, 1, 1, 1]) (retK (rs 3)) [] (retK (rs 3))
noncomputable def law24_CmdPlain_l1111111010 (d : Nat) (m0 : Nat) : Kt := iter (fun k => run (X d) NN (cd 3 [1, 1, 1, 1, 1, 1, 1, 0, 1, 0, 0]) (backK [(1, .int .u8), (5, .ptr), (6, .str), (7, .str), (9, .sl), (10, .int .i64)] (opq k)) [(2, (law24_CmdPlain_k11111111 d))] (retK (rs 3))) m0
noncomputable def law24_CmdPlain_l11111010 (d : Nat) (m0 : Nat) : Kt := iter (fun k => run (X d) NN (cd 3 [1, 1, 1, 1, 1, 0, 1, 0, 0]) (backK [(0, .sl), (1, .int .u8), (5, .ptr), (6, .str), (7, .str), (8, .int .i64)] (opq k)) [(0, (law24_CmdPlain_k111111 d))] (retK (rs 3))) m0
noncomputable def law24_CmdPlain_p1101 (d : Nat) (x0 : Sl) (x1 : Int) (x5 : Option Addr) (x22 : Bool) (H : Heap) : Res := opq (run (X d) NN (cd 3 [1, 1, 0, 1, 0]) (law24_CmdPlain_k111 d) [] (retK (rs 3))) [(0, x0.v), (1, .int .u8 x1), (5, .pointer x5), (22, .bool x22)] H
noncomputable def law24_CmdPlain_p11111010 (d : Nat) (m0 : Nat) (x0 : Sl) (x1 : Int) (x5 : Option Addr) (x6 : ByteArray) (x7 : ByteArray) (x8 : Int) (H : Heap) : Res := opq (law24_CmdPlain_l11111010 d m0) [(0, x0.v), (1, .int .u8 x1), (5, .pointer x5), (6, .string x6), (7, .string x7), (8, .int .i64 x8)] H
noncomputable def law24_CmdPlain_p11111010011 (d : Nat) (m0 : Nat) (x0 : Sl) (x1 : Int) (x5 : Option Addr) (x6 : ByteArray) (x7 : ByteArray) (x8 : Int) (H : Heap) : Res := opq (run (X d) NN (cd 3 [1, 1, 1, 1, 1, 0, 1, 0, 0, 1, 1, 0]) (backK [(0, .sl), (1, .int .u8), (5, .ptr), (6, .str), (7, .str), (8, .int .i64)] (opq (law24_CmdPlain_l11111010 d m0))) [(0, (law24_CmdPlain_k111111 d))] (retK (rs 3))) [(0, x0.v), (1, .int .u8 x1), (5, .pointer x5), (6, .string x6), (7, .string x7), (8, .int .i64 x8)] H
noncomputable def law24_CmdPlain_p1111111010 (d : Nat) (m0 : Nat) (x1 : Int) (x5 : Option Addr) (x6 : ByteArray) (x7 : ByteArray) (x9 : Sl) (x10 : Int) (H : Heap) : Res := opq (law24_CmdPlain_l1111111010 d m0) [(1, .int .u8 x1), (5, .pointer x5), (6, .string x6), (7, .string x7), (9, x9.v), (10, .int .i64 x10)] H
theorem law24_CmdPlain_p1101_eq (d : Nat) (x0 : Sl) (x1 : Int) (x5 : Option Addr) (x22 : Bool) (H : Heap) : law24_CmdPlain_p1101 d x0 x1 x5 x22 H =
  if x22 = true then
  (some (.bool false, H))
  else
  (law24_CmdPlain_p11111010 d NN x0 x1 x5 (S []) (S []) 0 H) := (opq_app _ _ _).trans <| by kernel_rfl
theorem law24_CmdPlain_p11111010_s (d : Nat) (m0 : Nat) (x0 : Sl) (x1 : Int) (x5 : Option Addr) (x6 : ByteArray) (x7 : ByteArray) (x8 : Int) (H : Heap) : law24_CmdPlain_p11111010 d (m0 + 1) x0 x1 x5 x6 x7 x8 H =
  if (decide (x8 < (x0.n : Int))) = true then
  (optK x0.a fun a1 =>
    if 0 ≤ x8 ∧ x8 < (x0.n : Int) then
    optK (Heap.ld1 H (ap a1 (((x8).toNat) * 1))) fun v2 =>
    asI .u8 v2 fun n3 =>
    if (!decide (n3 = 2)) = true then
    (optK x0.a fun a4 =>
      if 0 ≤ x8 ∧ x8 < (x0.n : Int) then
      optK (Heap.ld1 H (ap a4 (((x8).toNat) * 1))) fun v5 =>
      asI .u8 v5 fun n6 =>
      newK H (.cells [.int .u8 n6] t_uint8 false 0 false) fun p7 H8 =>
      optK (readD (.bytesStr) [.slice (some ⟨p7, 0, none⟩) 1 1] H8) fun v9 =>
      asS v9 fun s10 =>
      if slen x7 + slen s10 ≤ 9223372036854775807 then
      law24_CmdPlain_p11111010011 d m0 x0 x1 x5 x6 (sCat x7 s10) x8 H8
      else none
      else none)
    else
    (law24_CmdPlain_p11111010011 d m0 x0 x1 x5 x6 x7 x8 H)
    else none)
  else
  (newK H (.cells ((lst x7).map fun b => .int .u8 b.toNat) t_uint8 true 0 true) fun p11 H12 =>
    callK (X d n_cmd_Keys_Feed [.pointer x5, .slice (some ⟨p11, 0, none⟩) (slen x7) (slen x7)] H12) fun v13 H14 =>
    asSL v13 fun l15 =>
    law24_CmdPlain_p1111111010 d NN x1 x5 x6 x7 l15 0 H14) := (opq_app _ _ _).trans <| by kernel_rfl
theorem law24_CmdPlain_p11111010011_eq (d : Nat) (m0 : Nat) (x0 : Sl) (x1 : Int) (x5 : Option Addr) (x6 : ByteArray) (x7 : ByteArray) (x8 : Int) (H : Heap) : law24_CmdPlain_p11111010011 d m0 x0 x1 x5 x6 x7 x8 H =
  law24_CmdPlain_p11111010 d m0 x0 x1 x5 x6 x7 (IntKind.wrap .i64 (x8 + 1)) H := (opq_app _ _ _).trans <| by kernel_rfl
theorem law24_CmdPlain_p1111111010_s (d : Nat) (m0 : Nat) (x1 : Int) (x5 : Option Addr) (x6 : ByteArray) (x7 : ByteArray) (x9 : Sl) (x10 : Int) (H : Heap) : law24_CmdPlain_p1111111010 d (m0 + 1) x1 x5 x6 x7 x9 x10 H =
  if (decide (x10 < (x9.n : Int))) = true then
  (optK x9.a fun a1 =>
    if 0 ≤ x10 ∧ x10 < (x9.n : Int) then
    optK (Heap.ld1 H (ap (ap a1 (((x10).toNat) * 2)) 1)) fun v2 =>
    asS v2 fun s3 =>
    if (!sEq s3 (S [])) = true then
    (some (.bool false, H))
    else
    (optK x9.a fun a4 =>
      if 0 ≤ x10 ∧ x10 < (x9.n : Int) then
      optK (Heap.ld1 H (ap (ap a4 (((x10).toNat) * 2)) 0)) fun v5 =>
      asSL v5 fun l6 =>
      optK (readD (.bytesStr) [l6.v] H) fun v7 =>
      asS v7 fun s8 =>
      if slen x6 + slen s8 ≤ 9223372036854775807 then
      law24_CmdPlain_p1111111010 d m0 x1 x5 (sCat x6 s8) x7 x9 (IntKind.wrap .i64 (x10 + 1)) H
      else none
      else none)
    else none)
  else
  (callK (X d n_cmd_Bound [.int .u8 x1] H) fun v9 H10 =>
    castT [.str, .bool] v9 fun l11 =>
    castT [.str, .bool] (.tuple ⟨l11⟩) fun l12 =>
    optK l12[0]? fun v13 =>
    asS v13 fun s14 =>
    optK l12[1]? fun v15 =>
    asB v15 fun b16 =>
    newK H10 (.cells [.int .u8 2, .int .u8 x1] t_uint8 false 0 false) fun p17 H18 =>
    callK (X d n_cmd_Keys_Feed [.pointer x5, .slice (some ⟨p17, 0, none⟩) 2 2] H18) fun v19 H20 =>
    asSL v19 fun l21 =>
    if (!b16) = true then
    (if (sEq x6 x7) = true then
      (some (.bool (sEq s14 (S [])), H20))
      else
      (some (.bool false, H20)))
    else
    (callK (X d n_cmd_Parse [.string s14] H20) fun v22 H23 =>
      castT [.sl, .int .i64] v22 fun l24 =>
      castT [.sl, .int .i64] (.tuple ⟨l24⟩) fun l25 =>
      optK l25[0]? fun v26 =>
      asSL v26 fun l27 =>
      optK l25[1]? fun v28 =>
      asI .i64 v28 fun n29 =>
      if (sEq x6 x7) = true then
      (if (decide ((l21.n : Int) = 1)) = true then
        (optK l21.a fun a30 =>
          if 0 ≤ (0 : Int) ∧ (0 : Int) < (l21.n : Int) then
          optK (Heap.ld1 H23 (ap (ap a30 0) 1)) fun v31 =>
          asS v31 fun s32 =>
          if (sEq s32 s14) = true then
          (if (decide (n29 = 0)) = true then
            (if (decide ((l27.n : Int) = 1)) = true then
              (optK l27.a fun a33 =>
                if 0 ≤ (0 : Int) ∧ (0 : Int) < (l27.n : Int) then
                optK (ldA H23 (ap a33 0) 2) fun v34 =>
                asA v34 fun c35 =>
                callK (X d n_cmd_Right [.agg c35] H23) fun v36 H37 =>
                asB v36 fun b38 =>
                some (.bool b38, H37)
                else none)
              else
              (some (.bool false, H23)))
            else
            (some (.bool false, H23)))
          else
          (some (.bool false, H23))
          else none)
        else
        (some (.bool false, H23)))
      else
      (some (.bool false, H23)))) := (opq_app _ _ _).trans <| by kernel_rfl
theorem law24_CmdPlain_eq (d : Nat) (x0 : Sl) (x1 : Int) (H : Heap) : X (d + 1) n_law24_CmdPlain [x0.v, .int .u8 x1] H =
  callK (X d n_cmd_NewKeys [] H) fun v1 H2 =>
  asP v1 fun o3 =>
  callK (X d n_law24_known [] H2) fun v4 H5 =>
  asB v4 fun b6 =>
  if (!b6) = true then
  (law24_CmdPlain_p1101 d x0 x1 o3 true H5)
  else
  (law24_CmdPlain_p1101 d x0 x1 o3 o3.isNone H5) := by kernel_rfl
end Go.Proofs.YtnpmlgibjhjiiaaDoor.dec
