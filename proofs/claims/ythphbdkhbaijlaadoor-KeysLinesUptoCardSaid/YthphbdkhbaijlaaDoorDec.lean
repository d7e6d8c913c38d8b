/-
  The functions' numbers, their code with cuts.
  And: What calls compute, piece by piece. What calls compute, piece by piece. What calls compute, piece by piece. What calls compute, piece by piece. What calls compute, piece by piece. What calls compute, piece by piece. What calls compute, piece by piece. What calls compute, piece by piece. What calls compute, piece by piece. What calls compute, piece by piece. What calls compute, piece by piece. What calls compute, piece by piece. What calls compute, piece by piece. What calls compute, piece by piece. What calls compute, piece by piece. What calls compute, piece by piece. What calls compute, piece by piece. What calls compute, piece by piece. What calls compute, piece by piece. What calls compute, piece by piece. What calls compute, piece by piece. What calls compute, piece by piece. What calls compute, piece by piece. What calls compute, piece by piece. What calls compute, piece by piece. What calls compute, piece by piece. What calls compute, piece by piece. What calls compute, piece by piece. What calls compute, piece by piece. What calls compute, piece by piece. What calls compute, piece by piece. What calls compute, piece by piece. What calls compute, piece by piece. What calls compute, piece by piece. What calls compute, piece by piece. What calls compute, piece by piece. What calls compute, piece by piece. What calls compute, piece by piece. What calls compute, piece by piece. What calls compute, piece by piece. What calls compute, piece by piece. What calls compute, piece by piece. What calls compute, piece by piece. What calls compute, piece by piece.
-/
import Derived.Test.YthphbdkhbaijlaaDoorCmH
import Derived.Test.YthphbdkhbaijlaaDoorChecked
namespace Go.Proofs.YthphbdkhbaijlaaDoor.dec
open Go Go.Cm
abbrev n_main_main : Nat := 0
abbrev n_gosem_cut : Nat := 1
abbrev n_gosem_cut_init : Nat := 2
abbrev n_law17_KeysMatch : Nat := 3
abbrev n_law17_KeysStars : Nat := 4
abbrev n_law17_KeysAllows : Nat := 5
abbrev n_law17_KeysFinds : Nat := 6
abbrev n_law17_KeysPrints : Nat := 7
abbrev n_law17_KeysParses : Nat := 8
abbrev n_law17_KeysBack : Nat := 9
abbrev n_law17_KeysLines : Nat := 10
abbrev n_law17_KeysKnown : Nat := 11
abbrev n_hand_Pick : Nat := 12
abbrev n_law17_known : Nat := 13
abbrev n_keys_Match : Nat := 14
abbrev n_ref15_Match : Nat := 15
abbrev n_law17_list : Nat := 16
abbrev n_hand_Secret : Nat := 17
abbrev n_keys_Allows : Nat := 18
abbrev n_ref15_Allows : Nat := 19
abbrev n_keys_Find : Nat := 20
abbrev n_ref15_Find : Nat := 21
abbrev n_keys_Right : Nat := 22
abbrev n_keys_Print : Nat := 23
abbrev n_ref15_Print : Nat := 24
abbrev n_ref15_Right : Nat := 25
abbrev n_keys_Parse : Nat := 26
abbrev n_ref15_Parse : Nat := 27
abbrev n_law17_same : Nat := 28
abbrev n_strings_Trim : Nat := 29
abbrev n_keys_one : Nat := 30
abbrev n_keys_twice : Nat := 31
abbrev n_strings_Builder_WriteByte : Nat := 32
abbrev n_strings_Builder_WriteString : Nat := 33
abbrev n_strings_Builder_String : Nat := 34
abbrev n_ref15_IsName : Nat := 35
abbrev n_ref15_isPattern : Nat := 36
abbrev n_strings_Split : Nat := 37
abbrev n_keys_line : Nat := 38
abbrev n_ref15_split : Nat := 39
abbrev n_ref15_line : Nat := 40
abbrev n_strings_trimLeftByte : Nat := 41
abbrev n_strings_trimRightByte : Nat := 42
abbrev n_strings_makeASCIISet : Nat := 43
abbrev n_strings_trimLeftASCII : Nat := 44
abbrev n_strings_trimRightASCII : Nat := 45
abbrev n_strings_trimLeftUnicode : Nat := 46
abbrev n_strings_trimRightUnicode : Nat := 47
abbrev n_keys_word : Nat := 48
abbrev n_strings_Builder_copyCheck : Nat := 49
abbrev n_ref15_plain : Nat := 50
abbrev n_strings_genSplit : Nat := 51
abbrev n_keys_rights : Nat := 52
abbrev n_keys_public : Nat := 53
abbrev n_ref15_hex : Nat := 54
abbrev n_strings_asciiSet_contains : Nat := 55
abbrev n_unicode_utf8_DecodeRuneInString : Nat := 56
abbrev n_strings_ContainsRune : Nat := 57
abbrev n_unicode_utf8_DecodeLastRuneInString : Nat := 58
abbrev n_keys_letter : Nat := 59
abbrev n_strings_IndexByte : Nat := 60
abbrev n_abi_NoEscape : Nat := 61
abbrev n_strings_explode : Nat := 62
abbrev n_strings_Count : Nat := 63
abbrev n_strings_Index : Nat := 64
abbrev n_strings_HasPrefix : Nat := 65
abbrev n_unicode_utf8_decodeRuneInStringSlow : Nat := 66
abbrev n_strings_IndexRune : Nat := 67
abbrev n_unicode_utf8_RuneStart : Nat := 68
abbrev n_stringslite_IndexByte : Nat := 69
abbrev n_unicode_utf8_RuneCountInString : Nat := 70
abbrev n_bytealg_CountString : Nat := 71
abbrev n_stringslite_Index : Nat := 72
abbrev n_stringslite_HasPrefix : Nat := 73
abbrev n_unicode_utf8_ValidRune : Nat := 74
abbrev n_bytealg_Cutover : Nat := 75
abbrev n_bytealg_IndexString : Nat := 76
abbrev n_bytealg_IndexByteString : Nat := 77
abbrev n_bytealg_IndexRabinKarp_string : Nat := 78
abbrev n_bytealg_hashStr_string : Nat := 79
abbrev n_runtime_boundsError_Error : Nat := 80
abbrev n_runtime_boundsError_RuntimeError : Nat := 81
abbrev n_runtime_errorString_Error : Nat := 82
abbrev n_runtime_errorString_RuntimeError : Nat := 83
abbrev n_runtime_plainError_Error : Nat := 84
abbrev n_runtime_plainError_RuntimeError : Nat := 85
abbrev n_runtime_errorAddressString_Error : Nat := 86
abbrev n_runtime_errorAddressString_RuntimeError : Nat := 87
abbrev n_runtime_TypeAssertionError_Error : Nat := 88
abbrev n_runtime_TypeAssertionError_RuntimeError : Nat := 89
abbrev n_runtime_PanicNilError_Error : Nat := 90
abbrev n_runtime_PanicNilError_RuntimeError : Nat := 91
abbrev n_abi_Type_Align : Nat := 92
abbrev n_runtime_maps_unhashableTypeError_Error : Nat := 93
abbrev n_runtime_maps_unhashableTypeError_RuntimeError : Nat := 94
abbrev n_strings_Builder_Reset : Nat := 95
abbrev n_abi_Kind_String : Nat := 96
abbrev n_var_s_door_gosem_cut_vars_holds_initialisers_alone_see_the_manifest_s_row_cutvarsword_look_11_test_files_too : Nat := 97
abbrev n_var_s_door_law17_names_is_laid_by_its_own_initialiser_plain_data_look_11 : Nat := 98
abbrev n_var_s_door_law17_patterns_is_laid_by_its_own_initialiser_plain_data_look_11 : Nat := 99
abbrev n_var_s_door_the_look_of_gosem_cut_vars_went_over_the_folder_that_the_caller_named_as_the_repository_s_root_look_11 : Nat := 100
abbrev n_var_s_door_unicode_utf8_acceptRanges_is_laid_by_its_own_initialiser_plain_data_look_11 : Nat := 101
abbrev n_var_s_door_unicode_utf8_first_is_laid_by_its_text_alone_pinned_1 : Nat := 102
abbrev n_gosem_cut_vars : Nat := 103
abbrev t_int64 : Nat := 2
abbrev t_int : Nat := 3
abbrev t_bool : Nat := 4
abbrev t_uint8 : Nat := 5
abbrev t_abi_BoundsErrorCode : Nat := 6
abbrev t_runtime_boundsError : Nat := 8
abbrev t_string : Nat := 9
abbrev t_runtime_errorString : Nat := 10
abbrev t_runtime_plainError : Nat := 11
abbrev t_uintptr : Nat := 12
abbrev t_runtime_errorAddressString : Nat := 14
abbrev t_P_runtime_TypeAssertionError : Nat := 15
abbrev t_P_runtime_PanicNilError : Nat := 16
abbrev t_P_abi_Type : Nat := 17
abbrev t_maps_unhashableTypeError : Nat := 19
abbrev t_int32 : Nat := 21
abbrev t_S_int : Nat := 22
abbrev t_5_string : Nat := 23
abbrev t_2_string : Nat := 25
abbrev t_3_string : Nat := 29
abbrev t_S_law17_Raw : Nat := 31
abbrev t_S_api_Key : Nat := 32
abbrev t_6_string : Nat := 34
abbrev t_32_uint8 : Nat := 35
abbrev t_api_Key : Nat := 38
abbrev t_api_Errno : Nat := 45
abbrev t_S_uint8 : Nat := 49
abbrev t_4_string : Nat := 55
abbrev t_S_bool : Nat := 58
abbrev t_law17_Raw : Nat := 60
abbrev t_8_string : Nat := 61
abbrev t_uint64 : Nat := 62
abbrev t_uint : Nat := 63
abbrev t_P_strings_Builder : Nat := 66
abbrev t_strings_Builder : Nat := 68
abbrev t_error : Nat := 70
abbrev t_S_string : Nat := 76
abbrev t_256_bool : Nat := 81
abbrev t_strings_asciiSet : Nat := 82
abbrev t_P_strings_asciiSet : Nat := 86
abbrev t_P_uint8 : Nat := 88
abbrev t_unsafe_Pointer : Nat := 100
abbrev t_256_uint8 : Nat := 106
abbrev t_utf8_acceptRange : Nat := 108
abbrev t_16_utf8_acceptRange : Nat := 109
abbrev t_uint32 : Nat := 112
abbrev t_runtime_TypeAssertionError : Nat := 116
abbrev t_0_P_runtime_PanicNilError : Nat := 117
abbrev t_runtime_PanicNilError : Nat := 119
abbrev t_abi_TFlag : Nat := 121
abbrev t_abi_Kind : Nat := 122
abbrev t_abi_NameOff : Nat := 124
abbrev t_abi_TypeOff : Nat := 125
abbrev t_abi_Type : Nat := 127
def cutsL : List (Nat × CT) := [(3, (.two .no (.two (.two .no (.two (.two .no (.two .no (.two (.two .no (.one (.lp [(0, .sl), (1, .sl), (2, .str), (3, .str), (11, .int .i64)] (.two (.two .no (.cut [(0, .sl), (1, .sl), (2, .str), (3, .str), (11, .int .i64), (22, .bool)] .no)) .no)))) (.two .no (.one (.lp [(1, .sl), (2, .str), (3, .str), (12, .int .i64)] (.two (.two .no (.cut [(1, .sl), (2, .str), (3, .str), (12, .int .i64), (41, .bool)] .no)) .no))))))) .no)) (.cut [(2, .str), (3, .str)] .no)))),
  (4, (.two .no (.two .no (.two .no (.two (.two .no (.one (.lp [(0, .sl), (1, .sl), (5, .str), (6, .str), (7, .int .i64)] (.two (.two .no (.cut [(0, .sl), (1, .sl), (5, .str), (6, .str), (7, .int .i64), (16, .bool)] .no)) .no)))) (.two (.two .no (.one (.lp [(1, .sl), (5, .str), (6, .str), (8, .int .i64)] (.two (.two .no (.cut [(1, .sl), (5, .str), (6, .str), (8, .int .i64), (35, .bool)] .no)) .no)))) .no)))))),
  (5, (.two .no (.two .no (.two .no (.cut [(1, .int .i64), (2, .int .i64), (3, .str), (11, .sl)] (.two .no (.two (.two .no (.cut [(1, .int .i64), (2, .int .i64), (3, .str), (11, .sl), (12, .any), (37, .bool)] .no)) (.cut [(11, .sl), (12, .any)] (.two .no (.two .no (.cut [(14, .any), (15, .bool), (16, .any), (17, .bool)] .no))))))))))),
  (6, (.two .no (.two .no (.two (.two .no (.cut [(1, .int .i64), (5, .sl), (21, .bool)] .no)) (.two .no (.two .no (.two (.two .no (.one (.lp [(5, .sl), (6, .any), (7, .bool), (8, .int .i64)] (.two .no (.two (.one (.two .no (.two (.two .no (.cut [(5, .sl), (6, .any), (7, .bool), (8, .int .i64), (52, .bool)] .no)) .no))) (.cut [(5, .sl), (6, .any), (7, .bool), (8, .int .i64)] .no)))))) .no))))))),
  (7, (.two .no (.two .no (.two .no (.cut [(7, .sl)] .no))))),
  (8, (.two .no (.two .no (.cut [(0, .str)] .no)))),
  (9, (.two .no (.two .no (.two .no (.two (.two .no (.cut [(3, .sl), (4, .str), (21, .bool)] .no)) .no))))),
  (10, (.two .no (.two .no (.two (.two .no (.cut [(1, .sl), (5, .sl), (26, .bool)] .no)) (.two .no (.two (.two .no (.one (.lp [(1, .sl), (5, .sl), (6, .str), (7, .int .i64)] (.two .no (.two (.one (.two .no (.cut [(1, .sl), (5, .sl), (6, .str), (7, .int .i64)] .no))) .no))))) (.two .no (.two .no (.two (.two .no (.one (.lp [(5, .sl), (6, .str), (10, .sl), (11, .int .i64), (12, .int .i64), (13, .int .i64), (14, .int .i64)] (.two .no (.two .no (.cut [(5, .sl), (6, .str), (10, .sl), (11, .int .i64), (12, .int .i64), (13, .int .i64), (14, .int .i64)] .no)))))) .no))))))))),
  (14, (.two .no (.two .no (.two .no (.two (.one (.lp [(0, .str), (1, .str), (5, .int .i64), (6, .int .i64), (7, .int .i64), (8, .int .i64)] (.two .no (.one (.one (.two .no (.cut [(0, .str), (1, .str), (5, .int .i64), (6, .int .i64), (7, .int .i64), (8, .int .i64), (13, .bool)] (.two .no (.two .no (.cut [(0, .str), (1, .str), (5, .int .i64), (6, .int .i64), (7, .int .i64), (8, .int .i64), (28, .bool)] .no)))))))))) .no))))),
  (15, (.two .no (.two .no (.two .no (.two (.two .no (.one (.lp [(0, .str), (1, .str), (5, .sl), (6, .int .i64)] (.two .no (.two (.one (.two .no (.two (.two .no (.one (.lp [(0, .str), (1, .str), (5, .sl), (6, .int .i64), (7, .sl), (8, .int .i64)] (.two .no (.two .no (.cut [(0, .str), (1, .str), (5, .sl), (6, .int .i64), (7, .sl), (8, .int .i64)] .no)))))) .no))) .no))))) .no))))),
  (16, (.two .no (.two .no (.two (.two .no (.one (.lp [(0, .sl), (3, .sl), (4, .int .i64)] (.two (.two .no (.cut [(0, .sl), (3, .sl), (4, .int .i64), (14, .bool)] .no)) (.two (.one (.two .no (.cut [(0, .sl), (3, .sl), (4, .int .i64), (5, .any)] (.two .no (.cut [(0, .sl), (3, .sl), (4, .int .i64), (5, .any), (6, .any)] (.two .no (.cut [(0, .sl), (3, .sl), (4, .int .i64), (6, .any)] .no))))))) .no))))) .no)))),
  (17, (.two .no (.two .no (.two .no (.two (.two .no (.one (.lp [(2, .any), (3, .any), (4, .int .u64), (5, .int .i64)] .no))) .no))))),
  (20, (.two .no (.two (.two .no (.one (.lp [(3, .any), (4, .any), (8, .sl), (9, .int .i64), (10, .int .i64)] .no))) .no))),
  (21, (.two .no (.two (.two .no (.one (.lp [(0, .sl), (3, .any), (4, .any), (6, .int .i64)] .no))) .no))),
  (22, (.two .no (.two (.two .no (.one (.lp [(0, .sl), (5, .sl), (6, .int .i64), (7, .int .i64)] (.two .no (.two .no (.two (.one (.two .no (.two .no (.cut [(0, .sl), (5, .sl), (6, .int .i64), (7, .int .i64), (21, .bool)] .no)))) .no)))))) .no))),
  (23, (.two .no (.two .no (.two .no (.two (.two .no (.one (.lp [(4, .any), (13, .sl), (14, .int .i64), (15, .int .i64)] (.two .no (.two .no (.two (.one (.two .no (.two (.two .no (.one (.lp [(4, .any), (6, .any), (13, .sl), (14, .int .i64), (15, .int .i64), (19, .int .i64)] (.two .no (.two .no (.two .no (.cut [(4, .any), (6, .any), (13, .sl), (14, .int .i64), (15, .int .i64), (19, .int .i64)] .no))))))) (.two .no (.two (.two .no (.one (.lp [(4, .any), (6, .any), (13, .sl), (14, .int .i64), (15, .int .i64), (34, .agg), (35, .int .i64)] .no))) .no))))) .no)))))) .no))))),
  (24, (.two .no (.two .no (.two .no (.two (.two .no (.one (.lp [(0, .sl), (4, .str), (5, .int .i64)] (.two .no (.two (.one (.two .no (.two (.two .no (.one (.lp [(0, .sl), (4, .str), (5, .int .i64), (6, .int .i64)] .no))) .no))) .no))))) .no))))),
  (25, (.two .no (.two .no (.two (.two .no (.one (.lp [(0, .sl), (3, .int .i64)] (.two .no (.two (.one (.two (.two .no (.cut [(0, .sl), (3, .int .i64), (45, .bool)] .no)) (.two .no (.one (.lp [(0, .sl), (3, .int .i64), (4, .int .i64)] (.two .no (.two (.one (.two .no (.cut [(0, .sl), (3, .int .i64), (4, .int .i64), (74, .bool)] .no))) .no))))))) .no))))) .no)))),
  (26, (.two .no (.two .no (.two (.two .no (.one (.lp [(5, .sl), (11, .sl), (12, .int .i64), (13, .int .i64)] (.two .no (.two .no (.two (.one (.two .no (.two (.two .no (.cut [(5, .sl), (6, .int .i64), (7, .str), (11, .sl), (12, .int .i64), (13, .int .i64), (24, .bool)] .no)) .no))) (.cut [(5, .sl), (11, .sl), (12, .int .i64), (13, .int .i64)] .no))))))) .no)))),
  (27, (.two .no (.two .no (.two .no (.two (.two .no (.one (.lp [(5, .sl), (6, .sl), (7, .int .i64)] (.two .no (.two (.one (.two (.two .no (.cut [(5, .sl), (6, .sl), (7, .int .i64), (31, .bool)] .no)) (.two .no (.two .no (.two (.two .no (.one (.lp [(5, .sl), (6, .sl), (7, .int .i64), (8, .any), (10, .int .i64)] (.two .no (.two (.one (.two .no (.cut [(5, .sl), (6, .sl), (7, .int .i64), (8, .any), (10, .int .i64), (67, .bool)] .no))) .no))))) .no))))) (.cut [(5, .sl), (6, .sl), (7, .int .i64)] .no)))))) .no))))),
  (28, (.two .no (.two .no (.two (.two .no (.one (.lp [(0, .sl), (1, .sl), (5, .int .i64)] .no))) .no)))),
  (29, (.two .no (.two (.two .no (.cut [(0, .str), (1, .str), (12, .bool)] .no)) (.two (.two .no (.cut [(0, .str), (1, .str), (21, .bool)] .no)) .no)))),
  (31, (.two .no (.two (.two .no (.one (.lp [(3, .any), (7, .sl), (8, .int .i64), (9, .int .i64)] (.two .no (.two .no (.two (.one (.two .no (.two .no (.cut [(3, .any), (7, .sl), (8, .int .i64), (9, .int .i64), (24, .bool)] .no)))) .no)))))) .no))),
  (35, (.two .no (.two (.two .no (.one (.lp [(0, .str), (3, .int .i64)] .no))) .no))),
  (36, (.two .no (.two (.two .no (.one (.lp [(0, .str), (3, .int .i64)] (.two .no (.two (.one (.two .no (.cut [(0, .str), (3, .int .i64), (26, .bool)] .no))) .no))))) .no))),
  (39, (.two .no (.two .no (.two .no (.two (.two .no (.one (.lp [(0, .str), (1, .int .u8), (5, .sl), (6, .int .i64), (7, .int .i64)] (.two .no (.two (.one (.two .no (.cut [(0, .str), (1, .int .u8), (5, .sl), (6, .int .i64), (7, .int .i64), (24, .bool)] .no))) (.cut [(0, .str), (1, .int .u8), (5, .sl), (6, .int .i64), (7, .int .i64)] .no)))))) .no))))),
  (40, (.two .no (.two .no (.two .no (.two (.two .no (.cut [(2, .any), (4, .sl), (5, .any), (34, .bool)] .no)) (.two .no (.cut [(2, .any), (4, .sl), (5, .any)] (.two (.two .no (.one (.lp [(2, .any), (4, .sl), (5, .any), (6, .int .i64)] (.two .no (.two (.one (.two .no (.two .no (.two (.two .no (.cut [(2, .any), (4, .sl), (5, .any), (6, .int .i64), (7, .int .i64), (8, .int .i64), (85, .bool)] .no)) .no)))) .no))))) .no)))))))),
  (41, (.two .no (.two (.one (.lp [(0, .str), (1, .int .u8)] (.two (.two .no (.cut [(0, .str), (1, .int .u8), (13, .bool)] .no)) .no))) .no))),
  (42, (.two .no (.two (.one (.lp [(0, .str), (1, .int .u8)] (.two (.two .no (.cut [(0, .str), (1, .int .u8), (16, .bool)] .no)) .no))) .no))),
  (48, (.two .no (.two (.two .no (.one (.lp [(0, .str), (1, .int .i64), (2, .str), (7, .int .i64)] (.two .no (.two (.one (.two .no (.cut [(0, .str), (1, .int .i64), (2, .str), (7, .int .i64), (26, .bool)] .no))) .no))))) .no))),
  (52, (.two .no (.two .no (.two (.two .no (.one (.lp [(0, .str), (4, .int .i64), (6, .int .i64)] (.two .no (.two .no (.two .no (.cut [(0, .str), (4, .int .i64), (6, .int .i64)] .no))))))) .no)))),
  (53, (.two .no (.two .no (.two .no (.two (.two .no (.one (.lp [(0, .str), (2, .any), (4, .any), (5, .int .i64)] .no))) .no))))),
  (54, (.two .no (.two (.one (.two .no (.cut [(0, .int .u8), (3, .bool)] (.two .no (.two .no (.cut [(0, .int .u8), (13, .bool)] .no)))))) .no)))]

noncomputable def C : CProg := ⟨autoC (lookCT cutsL) [0, 1] Tryd.prog, fun f => if f = n_law17_known then some (sure n_law17_known n_law17_known) else if f = n_strings_IndexByte then some (idxP idxB) else if f = n_abi_NoEscape then some sameP else if f = n_strings_Split then some (splitP t_string) else none⟩
theorem exNN : ∃ n : Nat, n = 4000000000000 := ⟨_, rfl⟩
noncomputable def NN : Nat := Classical.choose exNN
theorem NN_eq : NN = 4000000000000 := Classical.choose_spec exNN
noncomputable def X (d : Nat) : CallF := callD C NN d
noncomputable def cd (f : Nat) (p : List Nat) : CCode := cdC (lookCT cutsL) [0, 1] Tryd.prog f p
noncomputable def rs (f : Nat) : List CRes := rsC [0, 1] Tryd.prog f
end Go.Proofs.YthphbdkhbaijlaaDoor.dec

namespace Go.Proofs.YthphbdkhbaijlaaDoor.dec
open Go Go.Cm
/-! porthole/portholehand.Pick -/
theorem hand_Pick_eq (d : Nat) (x0 : Int) (x1 : Int) (H : Heap) : X (d + 1) n_hand_Pick [.int .i64 x0, .int .i64 x1] H =
  if x1 = 0 then none else
  if (decide (Int.tmod x0 x1 < 0)) = true then
  (some (.int .i64 (IntKind.wrap .i64 ((Int.tmod x0 x1) + x1)), H))
  else
  (some (.int .i64 (Int.tmod x0 x1), H)) := by kernel_rfl
end Go.Proofs.YthphbdkhbaijlaaDoor.dec

namespace Go.Proofs.YthphbdkhbaijlaaDoor.dec
open Go Go.Cm
/-! porthole/keys.Match -/
noncomputable def keys_Match_k1111 (d : Nat) : Kt := run (X d) NN (cd 14 [1, 1, 1, 1]) (retK (rs 14)) [] (retK (rs 14))
noncomputable def keys_Match_l11100 (d : Nat) (m0 : Nat) : Kt := iter (fun k => run (X d) NN (cd 14 [1, 1, 1, 0, 0, 0]) (backK [(0, .str), (1, .str), (5, .int .i64), (6, .int .i64), (7, .int .i64), (8, .int .i64)] (opq k)) [(0, (keys_Match_k1111 d))] (retK (rs 14))) m0
noncomputable def keys_Match_p11100 (d : Nat) (m0 : Nat) (x0 : ByteArray) (x1 : ByteArray) (x5 : Int) (x6 : Int) (x7 : Int) (x8 : Int) (H : Heap) : Res := opq (keys_Match_l11100 d m0) [(0, .string x0), (1, .string x1), (5, .int .i64 x5), (6, .int .i64 x6), (7, .int .i64 x7), (8, .int .i64 x8)] H
noncomputable def keys_Match_p1110001001 (d : Nat) (m0 : Nat) (x0 : ByteArray) (x1 : ByteArray) (x5 : Int) (x6 : Int) (x7 : Int) (x8 : Int) (x13 : Bool) (H : Heap) : Res := opq (run (X d) NN (cd 14 [1, 1, 1, 0, 0, 0, 1, 0, 0, 1, 0]) (backK [(0, .str), (1, .str), (5, .int .i64), (6, .int .i64), (7, .int .i64), (8, .int .i64)] (opq (keys_Match_l11100 d m0))) [(2, (backK [(0, .str), (1, .str), (5, .int .i64), (6, .int .i64), (7, .int .i64), (8, .int .i64)] (opq (keys_Match_l11100 d m0)))), (1, (backK [(0, .str), (1, .str), (5, .int .i64), (6, .int .i64), (7, .int .i64), (8, .int .i64)] (opq (keys_Match_l11100 d m0)))), (0, (keys_Match_k1111 d))] (retK (rs 14))) [(0, .string x0), (1, .string x1), (5, .int .i64 x5), (6, .int .i64 x6), (7, .int .i64 x7), (8, .int .i64 x8), (13, .bool x13)] H
noncomputable def keys_Match_p1110001001011 (d : Nat) (m0 : Nat) (x0 : ByteArray) (x1 : ByteArray) (x5 : Int) (x6 : Int) (x7 : Int) (x8 : Int) (x28 : Bool) (H : Heap) : Res := opq (run (X d) NN (cd 14 [1, 1, 1, 0, 0, 0, 1, 0, 0, 1, 0, 1, 1, 0]) (backK [(0, .str), (1, .str), (5, .int .i64), (6, .int .i64), (7, .int .i64), (8, .int .i64)] (opq (keys_Match_l11100 d m0))) [(2, (backK [(0, .str), (1, .str), (5, .int .i64), (6, .int .i64), (7, .int .i64), (8, .int .i64)] (opq (keys_Match_l11100 d m0)))), (1, (backK [(0, .str), (1, .str), (5, .int .i64), (6, .int .i64), (7, .int .i64), (8, .int .i64)] (opq (keys_Match_l11100 d m0)))), (0, (keys_Match_k1111 d))] (retK (rs 14))) [(0, .string x0), (1, .string x1), (5, .int .i64 x5), (6, .int .i64 x6), (7, .int .i64 x7), (8, .int .i64 x8), (28, .bool x28)] H
theorem keys_Match_p11100_s (d : Nat) (m0 : Nat) (x0 : ByteArray) (x1 : ByteArray) (x5 : Int) (x6 : Int) (x7 : Int) (x8 : Int) (H : Heap) : keys_Match_p11100 d (m0 + 1) x0 x1 x5 x6 x7 x8 H =
  if (decide (x6 < (slen x1 : Int))) = true then
  (if (decide (x5 < (slen x0 : Int))) = true then
    (if 0 ≤ x5 ∧ x5 < (slen x0 : Int) then
      keys_Match_p1110001001 d m0 x0 x1 x5 x6 x7 x8 (decide (bt x0 ((x5).toNat) = 42)) H
      else none)
    else
    (keys_Match_p1110001001 d m0 x0 x1 x5 x6 x7 x8 false H))
  else
  (if 0 ≤ x5 ∧ x5 ≤ (slen x0 : Int) then
    callK (X d n_strings_Trim [.string (sSub x0 ((x5).toNat) (slen x0)), .string (S [42])] H) fun v1 H2 =>
    asS v1 fun s3 =>
    some (.bool (sEq s3 (S [])), H2)
    else none) := (opq_app _ _ _).trans <| by kernel_rfl
theorem keys_Match_p1110001001_eq (d : Nat) (m0 : Nat) (x0 : ByteArray) (x1 : ByteArray) (x5 : Int) (x6 : Int) (x7 : Int) (x8 : Int) (x13 : Bool) (H : Heap) : keys_Match_p1110001001 d m0 x0 x1 x5 x6 x7 x8 x13 H =
  if x13 = true then
  (keys_Match_p11100 d m0 x0 x1 (IntKind.wrap .i64 (x5 + 1)) x6 x5 x6 H)
  else
  (if (decide (x5 < (slen x0 : Int))) = true then
    (if 0 ≤ x5 ∧ x5 < (slen x0 : Int) then
      if (decide (bt x0 ((x5).toNat) = 63)) = true then
      (keys_Match_p1110001001011 d m0 x0 x1 x5 x6 x7 x8 true H)
      else
      (if 0 ≤ x5 ∧ x5 < (slen x0 : Int) then
        if 0 ≤ x6 ∧ x6 < (slen x1 : Int) then
        keys_Match_p1110001001011 d m0 x0 x1 x5 x6 x7 x8 (decide (bt x0 ((x5).toNat) = bt x1 ((x6).toNat))) H
        else none
        else none)
      else none)
    else
    (keys_Match_p1110001001011 d m0 x0 x1 x5 x6 x7 x8 false H)) := (opq_app _ _ _).trans <| by kernel_rfl
theorem keys_Match_p1110001001011_eq (d : Nat) (m0 : Nat) (x0 : ByteArray) (x1 : ByteArray) (x5 : Int) (x6 : Int) (x7 : Int) (x8 : Int) (x28 : Bool) (H : Heap) : keys_Match_p1110001001011 d m0 x0 x1 x5 x6 x7 x8 x28 H =
  if x28 = true then
  (keys_Match_p11100 d m0 x0 x1 (IntKind.wrap .i64 (x5 + 1)) (IntKind.wrap .i64 (x6 + 1)) x7 x8 H)
  else
  (if (decide ((0 : Int) ≤ x7)) = true then
    (keys_Match_p11100 d m0 x0 x1 (IntKind.wrap .i64 (x7 + 1)) (IntKind.wrap .i64 (x8 + 1)) x7 (IntKind.wrap .i64 (x8 + 1)) H)
    else
    (some (.bool false, H))) := (opq_app _ _ _).trans <| by kernel_rfl
theorem keys_Match_eq (d : Nat) (x0 : ByteArray) (x1 : ByteArray) (H : Heap) : X (d + 1) n_keys_Match [.string x0, .string x1] H =
  keys_Match_p11100 d NN x0 x1 0 0 (-1) 0 H := by kernel_rfl
end Go.Proofs.YthphbdkhbaijlaaDoor.dec

namespace Go.Proofs.YthphbdkhbaijlaaDoor.dec
open Go Go.Cm
/-! strings.Trim -/
noncomputable def strings_Trim_k11 (d : Nat) : Kt := run (X d) NN (cd 29 [1, 1]) (retK (rs 29)) [] (retK (rs 29))
noncomputable def strings_Trim_k111 (d : Nat) : Kt := run (X d) NN (cd 29 [1, 1, 1]) (retK (rs 29)) [] (retK (rs 29))
noncomputable def strings_Trim_p101 (d : Nat) (x0 : ByteArray) (x1 : ByteArray) (x12 : Bool) (H : Heap) : Res := opq (run (X d) NN (cd 29 [1, 0, 1, 0]) (strings_Trim_k11 d) [] (retK (rs 29))) [(0, .string x0), (1, .string x1), (12, .bool x12)] H
noncomputable def strings_Trim_p1101 (d : Nat) (x0 : ByteArray) (x1 : ByteArray) (x21 : Bool) (H : Heap) : Res := opq (run (X d) NN (cd 29 [1, 1, 0, 1, 0]) (strings_Trim_k111 d) [] (retK (rs 29))) [(0, .string x0), (1, .string x1), (21, .bool x21)] H
theorem strings_Trim_p101_eq (d : Nat) (x0 : ByteArray) (x1 : ByteArray) (x12 : Bool) (H : Heap) : strings_Trim_p101 d x0 x1 x12 H =
  if x12 = true then
  (some (.string x0, H))
  else
  (if (decide ((slen x1 : Int) = 1)) = true then
    (if 0 ≤ (0 : Int) ∧ (0 : Int) < (slen x1 : Int) then
      strings_Trim_p1101 d x0 x1 (decide (bt x1 0 < 128)) H
      else none)
    else
    (strings_Trim_p1101 d x0 x1 false H)) := (opq_app _ _ _).trans <| by kernel_rfl
theorem strings_Trim_p1101_eq (d : Nat) (x0 : ByteArray) (x1 : ByteArray) (x21 : Bool) (H : Heap) : strings_Trim_p1101 d x0 x1 x21 H =
  if x21 = true then
  (if 0 ≤ (0 : Int) ∧ (0 : Int) < (slen x1 : Int) then
    callK (X d n_strings_trimRightByte [.string x0, .int .u8 (bt x1 0)] H) fun v1 H2 =>
    asS v1 fun s3 =>
    if 0 ≤ (0 : Int) ∧ (0 : Int) < (slen x1 : Int) then
    callK (X d n_strings_trimLeftByte [.string s3, .int .u8 (bt x1 0)] H2) fun v4 H5 =>
    asS v4 fun s6 =>
    some (.string s6, H5)
    else none
    else none)
  else
  (callK (X d n_strings_makeASCIISet [.string x1] H) fun v7 H8 =>
    castT [.agg, .bool] v7 fun l9 =>
    castT [.agg, .bool] (.tuple ⟨l9⟩) fun l10 =>
    optK l10[0]? fun v11 =>
    asA v11 fun c12 =>
    optK l10[1]? fun v13 =>
    asB v13 fun b14 =>
    newK H8 (.cells [.bool false, .bool false, .bool false, .bool false, .bool false, .bool false, .bool false, .bool false, .bool false, .bool false, .bool false, .bool false, .bool false, .bool false, .bool false, .bool false, .bool false, .bool false, .bool false, .bool false, .bool false, .bool false, .bool false, .bool false, .bool false, .bool false, .bool false, .bool false, .bool false, .bool false, .bool false, .bool false, .bool false, .bool false, .bool false, .bool false, .bool false, .bool false, .bool false, .bool false, .bool false, .bool false, .bool false, .bool false, .bool false, .bool false, .bool false, .bool false, .bool false, .bool false, .bool false, .bool false, .bool false, .bool false, .bool false, .bool false, .bool false, .bool false, .bool false, .bool false, .bool false, .bool false, .bool false, .bool false, .bool false, .bool false, .bool false, .bool false, .bool false, .bool false, .bool false, .bool false, .bool false, .bool false, .bool false, .bool false, .bool false, .bool false, .bool false, .bool false, .bool false, .bool false, .bool false, .bool false, .bool false, .bool false, .bool false, .bool false, .bool false, .bool false, .bool false, .bool false, .bool false, .bool false, .bool false, .bool false, .bool false, .bool false, .bool false, .bool false, .bool false, .bool false, .bool false, .bool false, .bool false, .bool false, .bool false, .bool false, .bool false, .bool false, .bool false, .bool false, .bool false, .bool false, .bool false, .bool false, .bool false, .bool false, .bool false, .bool false, .bool false, .bool false, .bool false, .bool false, .bool false, .bool false, .bool false, .bool false, .bool false, .bool false, .bool false, .bool false, .bool false, .bool false, .bool false, .bool false, .bool false, .bool false, .bool false, .bool false, .bool false, .bool false, .bool false, .bool false, .bool false, .bool false, .bool false, .bool false, .bool false, .bool false, .bool false, .bool false, .bool false, .bool false, .bool false, .bool false, .bool false, .bool false, .bool false, .bool false, .bool false, .bool false, .bool false, .bool false, .bool false, .bool false, .bool false, .bool false, .bool false, .bool false, .bool false, .bool false, .bool false, .bool false, .bool false, .bool false, .bool false, .bool false, .bool false, .bool false, .bool false, .bool false, .bool false, .bool false, .bool false, .bool false, .bool false, .bool false, .bool false, .bool false, .bool false, .bool false, .bool false, .bool false, .bool false, .bool false, .bool false, .bool false, .bool false, .bool false, .bool false, .bool false, .bool false, .bool false, .bool false, .bool false, .bool false, .bool false, .bool false, .bool false, .bool false, .bool false, .bool false, .bool false, .bool false, .bool false, .bool false, .bool false, .bool false, .bool false, .bool false, .bool false, .bool false, .bool false, .bool false, .bool false, .bool false, .bool false, .bool false, .bool false, .bool false, .bool false, .bool false, .bool false, .bool false, .bool false, .bool false, .bool false, .bool false, .bool false, .bool false, .bool false, .bool false, .bool false, .bool false, .bool false, .bool false, .bool false, .bool false, .bool false, .bool false, .bool false, .bool false, .bool false, .bool false, .bool false] t_strings_asciiSet false 0 false) fun p15 H16 =>
    effK (.store 256) [P0 p15, .agg c12] H16 fun _ H18 =>
    if b14 = true then
    (callK (X d n_strings_trimRightASCII [.string x0, P0 p15] H18) fun v19 H20 =>
      asS v19 fun s21 =>
      callK (X d n_strings_trimLeftASCII [.string s21, P0 p15] H20) fun v22 H23 =>
      asS v22 fun s24 =>
      some (.string s24, H23))
    else
    (callK (X d n_strings_trimRightUnicode [.string x0, .string x1] H18) fun v25 H26 =>
      asS v25 fun s27 =>
      callK (X d n_strings_trimLeftUnicode [.string s27, .string x1] H26) fun v28 H29 =>
      asS v28 fun s30 =>
      some (.string s30, H29))) := (opq_app _ _ _).trans <| by kernel_rfl
theorem strings_Trim_eq (d : Nat) (x0 : ByteArray) (x1 : ByteArray) (H : Heap) : X (d + 1) n_strings_Trim [.string x0, .string x1] H =
  if (sEq x0 (S [])) = true then
  (strings_Trim_p101 d x0 x1 true H)
  else
  (strings_Trim_p101 d x0 x1 (sEq x1 (S [])) H) := by kernel_rfl
end Go.Proofs.YthphbdkhbaijlaaDoor.dec

namespace Go.Proofs.YthphbdkhbaijlaaDoor.dec
open Go Go.Cm
/-! strings.trimLeftByte -/
noncomputable def strings_trimLeftByte_k11 (d : Nat) : Kt := run (X d) NN (cd 41 [1, 1]) (retK (rs 41)) [] (retK (rs 41))
noncomputable def strings_trimLeftByte_l100 (d : Nat) (m0 : Nat) : Kt := iter (fun k => run (X d) NN (cd 41 [1, 0, 0, 0]) (backK [(0, .str), (1, .int .u8)] (opq k)) [(0, (strings_trimLeftByte_k11 d))] (retK (rs 41))) m0
noncomputable def strings_trimLeftByte_k10001 (d : Nat) (m0 : Nat) : Kt := run (X d) NN (cd 41 [1, 0, 0, 0, 1]) (backK [(0, .str), (1, .int .u8)] (opq (strings_trimLeftByte_l100 d m0))) [(0, (strings_trimLeftByte_k11 d))] (retK (rs 41))
noncomputable def strings_trimLeftByte_p100 (d : Nat) (m0 : Nat) (x0 : ByteArray) (x1 : Int) (H : Heap) : Res := opq (strings_trimLeftByte_l100 d m0) [(0, .string x0), (1, .int .u8 x1)] H
noncomputable def strings_trimLeftByte_p100001 (d : Nat) (m0 : Nat) (x0 : ByteArray) (x1 : Int) (x13 : Bool) (H : Heap) : Res := opq (run (X d) NN (cd 41 [1, 0, 0, 0, 0, 1, 0]) (strings_trimLeftByte_k10001 d m0) [(0, (strings_trimLeftByte_k11 d))] (retK (rs 41))) [(0, .string x0), (1, .int .u8 x1), (13, .bool x13)] H
theorem strings_trimLeftByte_p100_s (d : Nat) (m0 : Nat) (x0 : ByteArray) (x1 : Int) (H : Heap) : strings_trimLeftByte_p100 d (m0 + 1) x0 x1 H =
  if (decide ((0 : Int) < (slen x0 : Int))) = true then
  (if 0 ≤ (0 : Int) ∧ (0 : Int) < (slen x0 : Int) then
    strings_trimLeftByte_p100001 d m0 x0 x1 (decide (bt x0 0 = x1)) H
    else none)
  else
  (strings_trimLeftByte_p100001 d m0 x0 x1 false H) := (opq_app _ _ _).trans <| by kernel_rfl
theorem strings_trimLeftByte_p100001_eq (d : Nat) (m0 : Nat) (x0 : ByteArray) (x1 : Int) (x13 : Bool) (H : Heap) : strings_trimLeftByte_p100001 d m0 x0 x1 x13 H =
  if x13 = true then
  (if 0 ≤ (1 : Int) ∧ 1 ≤ (slen x0 : Int) then
    strings_trimLeftByte_p100 d m0 (sSub x0 1 (slen x0)) x1 H
    else none)
  else
  (some (.string x0, H)) := (opq_app _ _ _).trans <| by kernel_rfl
theorem strings_trimLeftByte_eq (d : Nat) (x0 : ByteArray) (x1 : Int) (H : Heap) : X (d + 1) n_strings_trimLeftByte [.string x0, .int .u8 x1] H =
  strings_trimLeftByte_p100 d NN x0 x1 H := by kernel_rfl
end Go.Proofs.YthphbdkhbaijlaaDoor.dec

namespace Go.Proofs.YthphbdkhbaijlaaDoor.dec
open Go Go.Cm
/-! strings.trimRightByte -/
noncomputable def strings_trimRightByte_k11 (d : Nat) : Kt := run (X d) NN (cd 42 [1, 1]) (retK (rs 42)) [] (retK (rs 42))
noncomputable def strings_trimRightByte_l100 (d : Nat) (m0 : Nat) : Kt := iter (fun k => run (X d) NN (cd 42 [1, 0, 0, 0]) (backK [(0, .str), (1, .int .u8)] (opq k)) [(0, (strings_trimRightByte_k11 d))] (retK (rs 42))) m0
noncomputable def strings_trimRightByte_k10001 (d : Nat) (m0 : Nat) : Kt := run (X d) NN (cd 42 [1, 0, 0, 0, 1]) (backK [(0, .str), (1, .int .u8)] (opq (strings_trimRightByte_l100 d m0))) [(0, (strings_trimRightByte_k11 d))] (retK (rs 42))
noncomputable def strings_trimRightByte_p100 (d : Nat) (m0 : Nat) (x0 : ByteArray) (x1 : Int) (H : Heap) : Res := opq (strings_trimRightByte_l100 d m0) [(0, .string x0), (1, .int .u8 x1)] H
noncomputable def strings_trimRightByte_p100001 (d : Nat) (m0 : Nat) (x0 : ByteArray) (x1 : Int) (x16 : Bool) (H : Heap) : Res := opq (run (X d) NN (cd 42 [1, 0, 0, 0, 0, 1, 0]) (strings_trimRightByte_k10001 d m0) [(0, (strings_trimRightByte_k11 d))] (retK (rs 42))) [(0, .string x0), (1, .int .u8 x1), (16, .bool x16)] H
theorem strings_trimRightByte_p100_s (d : Nat) (m0 : Nat) (x0 : ByteArray) (x1 : Int) (H : Heap) : strings_trimRightByte_p100 d (m0 + 1) x0 x1 H =
  if (decide ((0 : Int) < (slen x0 : Int))) = true then
  (if 0 ≤ IntKind.wrap .i64 ((slen x0 : Int) - 1) ∧ IntKind.wrap .i64 ((slen x0 : Int) - 1) < (slen x0 : Int) then
    strings_trimRightByte_p100001 d m0 x0 x1 (decide (bt x0 ((IntKind.wrap .i64 ((slen x0 : Int) - 1)).toNat) = x1)) H
    else none)
  else
  (strings_trimRightByte_p100001 d m0 x0 x1 false H) := (opq_app _ _ _).trans <| by kernel_rfl
theorem strings_trimRightByte_p100001_eq (d : Nat) (m0 : Nat) (x0 : ByteArray) (x1 : Int) (x16 : Bool) (H : Heap) : strings_trimRightByte_p100001 d m0 x0 x1 x16 H =
  if x16 = true then
  (if 0 ≤ IntKind.wrap .i64 ((slen x0 : Int) - 1) ∧ IntKind.wrap .i64 ((slen x0 : Int) - 1) ≤ (slen x0 : Int) then
    strings_trimRightByte_p100 d m0 (sSub x0 0 ((IntKind.wrap .i64 ((slen x0 : Int) - 1)).toNat)) x1 H
    else none)
  else
  (some (.string x0, H)) := (opq_app _ _ _).trans <| by kernel_rfl
theorem strings_trimRightByte_eq (d : Nat) (x0 : ByteArray) (x1 : Int) (H : Heap) : X (d + 1) n_strings_trimRightByte [.string x0, .int .u8 x1] H =
  strings_trimRightByte_p100 d NN x0 x1 H := by kernel_rfl
end Go.Proofs.YthphbdkhbaijlaaDoor.dec

namespace Go.Proofs.YthphbdkhbaijlaaDoor.dec
open Go Go.Cm
/-! porthole/portholeref15.Match -/
noncomputable def ref15_Match_k1111 (d : Nat) : Kt := run (X d) NN (cd 15 [1, 1, 1, 1]) (retK (rs 15)) [] (retK (rs 15))
noncomputable def ref15_Match_l111010 (d : Nat) (m0 : Nat) : Kt := iter (fun k => run (X d) NN (cd 15 [1, 1, 1, 0, 1, 0, 0]) (backK [(0, .str), (1, .str), (5, .sl), (6, .int .i64)] (opq k)) [(0, (ref15_Match_k1111 d))] (retK (rs 15))) m0
noncomputable def ref15_Match_k111010011 (d : Nat) (m0 : Nat) : Kt := run (X d) NN (cd 15 [1, 1, 1, 0, 1, 0, 0, 1, 1]) (backK [(0, .str), (1, .str), (5, .sl), (6, .int .i64)] (opq (ref15_Match_l111010 d m0))) [(0, (ref15_Match_k1111 d))] (retK (rs 15))
noncomputable def ref15_Match_k111010010011 (d : Nat) (m0 : Nat) : Kt := run (X d) NN (cd 15 [1, 1, 1, 0, 1, 0, 0, 1, 0, 0, 1, 1]) (ref15_Match_k111010011 d m0) [(1, (ref15_Match_k111010011 d m0)), (0, (ref15_Match_k1111 d))] (retK (rs 15))
noncomputable def ref15_Match_l11101001001010 (d : Nat) (m0 : Nat) (m1 : Nat) : Kt := iter (fun k => run (X d) NN (cd 15 [1, 1, 1, 0, 1, 0, 0, 1, 0, 0, 1, 0, 1, 0, 0]) (backK [(0, .str), (1, .str), (5, .sl), (6, .int .i64), (7, .sl), (8, .int .i64)] (opq k)) [(2, (ref15_Match_k111010010011 d m0)), (1, (ref15_Match_k111010011 d m0)), (0, (ref15_Match_k1111 d))] (retK (rs 15))) m1
noncomputable def ref15_Match_p111010 (d : Nat) (m0 : Nat) (x0 : ByteArray) (x1 : ByteArray) (x5 : Sl) (x6 : Int) (H : Heap) : Res := opq (ref15_Match_l111010 d m0) [(0, .string x0), (1, .string x1), (5, x5.v), (6, .int .i64 x6)] H
noncomputable def ref15_Match_p11101001001010 (d : Nat) (m0 : Nat) (m1 : Nat) (x0 : ByteArray) (x1 : ByteArray) (x5 : Sl) (x6 : Int) (x7 : Sl) (x8 : Int) (H : Heap) : Res := opq (ref15_Match_l11101001001010 d m0 m1) [(0, .string x0), (1, .string x1), (5, x5.v), (6, .int .i64 x6), (7, x7.v), (8, .int .i64 x8)] H
noncomputable def ref15_Match_p11101001001010011 (d : Nat) (m0 : Nat) (m1 : Nat) (x0 : ByteArray) (x1 : ByteArray) (x5 : Sl) (x6 : Int) (x7 : Sl) (x8 : Int) (H : Heap) : Res := opq (run (X d) NN (cd 15 [1, 1, 1, 0, 1, 0, 0, 1, 0, 0, 1, 0, 1, 0, 0, 1, 1, 0]) (backK [(0, .str), (1, .str), (5, .sl), (6, .int .i64), (7, .sl), (8, .int .i64)] (opq (ref15_Match_l11101001001010 d m0 m1))) [(2, (ref15_Match_k111010010011 d m0)), (1, (ref15_Match_k111010011 d m0)), (0, (ref15_Match_k1111 d))] (retK (rs 15))) [(0, .string x0), (1, .string x1), (5, x5.v), (6, .int .i64 x6), (7, x7.v), (8, .int .i64 x8)] H
theorem ref15_Match_p111010_s (d : Nat) (m0 : Nat) (x0 : ByteArray) (x1 : ByteArray) (x5 : Sl) (x6 : Int) (H : Heap) : ref15_Match_p111010 d (m0 + 1) x0 x1 x5 x6 H =
  if (decide (x6 < (slen x0 : Int))) = true then
  (effK (.mkSl t_bool 1 1 [.bool false]) [.int .i64 (IntKind.wrap .i64 ((slen x1 : Int) + 1)), .int .i64 (IntKind.wrap .i64 ((slen x1 : Int) + 1))] H fun v1 H2 =>
    asSL v1 fun l3 =>
    ref15_Match_p11101001001010 d m0 NN x0 x1 x5 x6 l3 0 H2)
  else
  (optK x5.a fun a4 =>
    if 0 ≤ (slen x1 : Int) ∧ (slen x1 : Int) < (x5.n : Int) then
    optK (Heap.ld1 H (ap a4 ((((slen x1 : Int)).toNat) * 1))) fun v5 =>
    asB v5 fun b6 =>
    some (.bool b6, H)
    else none) := (opq_app _ _ _).trans <| by kernel_rfl
theorem ref15_Match_p11101001001010_s (d : Nat) (m0 : Nat) (m1 : Nat) (x0 : ByteArray) (x1 : ByteArray) (x5 : Sl) (x6 : Int) (x7 : Sl) (x8 : Int) (H : Heap) : ref15_Match_p11101001001010 d m0 (m1 + 1) x0 x1 x5 x6 x7 x8 H =
  if (decide (x8 ≤ (slen x1 : Int))) = true then
  (if 0 ≤ x6 ∧ x6 < (slen x0 : Int) then
    if (decide (bt x0 ((x6).toNat) = 42)) = true then
    (optK x5.a fun a1 =>
      if 0 ≤ x8 ∧ x8 < (x5.n : Int) then
      optK (Heap.ld1 H (ap a1 (((x8).toNat) * 1))) fun v2 =>
      asB v2 fun b3 =>
      if b3 = true then
      (optK x7.a fun a4 =>
        if 0 ≤ x8 ∧ x8 < (x7.n : Int) then
        optK (Heap.st1 H (ap a4 (((x8).toNat) * 1)) (.bool true)) fun H5 =>
        ref15_Match_p11101001001010011 d m0 m1 x0 x1 x5 x6 x7 x8 H5
        else none)
      else
      (if (decide ((0 : Int) < x8)) = true then
        (optK x7.a fun a6 =>
          if 0 ≤ IntKind.wrap .i64 (x8 - 1) ∧ IntKind.wrap .i64 (x8 - 1) < (x7.n : Int) then
          optK (Heap.ld1 H (ap a6 (((IntKind.wrap .i64 (x8 - 1)).toNat) * 1))) fun v7 =>
          asB v7 fun b8 =>
          optK x7.a fun a9 =>
          if 0 ≤ x8 ∧ x8 < (x7.n : Int) then
          optK (Heap.st1 H (ap a9 (((x8).toNat) * 1)) (.bool b8)) fun H10 =>
          ref15_Match_p11101001001010011 d m0 m1 x0 x1 x5 x6 x7 x8 H10
          else none
          else none)
        else
        (optK x7.a fun a11 =>
          if 0 ≤ x8 ∧ x8 < (x7.n : Int) then
          optK (Heap.st1 H (ap a11 (((x8).toNat) * 1)) (.bool false)) fun H12 =>
          ref15_Match_p11101001001010011 d m0 m1 x0 x1 x5 x6 x7 x8 H12
          else none))
      else none)
    else
    (if (decide ((0 : Int) < x8)) = true then
      (optK x5.a fun a13 =>
        if 0 ≤ IntKind.wrap .i64 (x8 - 1) ∧ IntKind.wrap .i64 (x8 - 1) < (x5.n : Int) then
        optK (Heap.ld1 H (ap a13 (((IntKind.wrap .i64 (x8 - 1)).toNat) * 1))) fun v14 =>
        asB v14 fun b15 =>
        if b15 = true then
        (if 0 ≤ x6 ∧ x6 < (slen x0 : Int) then
          if (decide (bt x0 ((x6).toNat) = 63)) = true then
          (optK x7.a fun a16 =>
            if 0 ≤ x8 ∧ x8 < (x7.n : Int) then
            optK (Heap.st1 H (ap a16 (((x8).toNat) * 1)) (.bool true)) fun H17 =>
            ref15_Match_p11101001001010011 d m0 m1 x0 x1 x5 x6 x7 x8 H17
            else none)
          else
          (if 0 ≤ x6 ∧ x6 < (slen x0 : Int) then
            if 0 ≤ IntKind.wrap .i64 (x8 - 1) ∧ IntKind.wrap .i64 (x8 - 1) < (slen x1 : Int) then
            optK x7.a fun a18 =>
            if 0 ≤ x8 ∧ x8 < (x7.n : Int) then
            optK (Heap.st1 H (ap a18 (((x8).toNat) * 1)) (.bool (decide (bt x0 ((x6).toNat) = bt x1 ((IntKind.wrap .i64 (x8 - 1)).toNat))))) fun H19 =>
            ref15_Match_p11101001001010011 d m0 m1 x0 x1 x5 x6 x7 x8 H19
            else none
            else none
            else none)
          else none)
        else
        (optK x7.a fun a20 =>
          if 0 ≤ x8 ∧ x8 < (x7.n : Int) then
          optK (Heap.st1 H (ap a20 (((x8).toNat) * 1)) (.bool false)) fun H21 =>
          ref15_Match_p11101001001010011 d m0 m1 x0 x1 x5 x6 x7 x8 H21
          else none)
        else none)
      else
      (ref15_Match_p11101001001010011 d m0 m1 x0 x1 x5 x6 x7 x8 H))
    else none)
  else
  (ref15_Match_p111010 d m0 x0 x1 x7 (IntKind.wrap .i64 (x6 + 1)) H) := (opq_app _ _ _).trans <| by kernel_rfl
theorem ref15_Match_p11101001001010011_eq (d : Nat) (m0 : Nat) (m1 : Nat) (x0 : ByteArray) (x1 : ByteArray) (x5 : Sl) (x6 : Int) (x7 : Sl) (x8 : Int) (H : Heap) : ref15_Match_p11101001001010011 d m0 m1 x0 x1 x5 x6 x7 x8 H =
  ref15_Match_p11101001001010 d m0 m1 x0 x1 x5 x6 x7 (IntKind.wrap .i64 (x8 + 1)) H := (opq_app _ _ _).trans <| by kernel_rfl
theorem ref15_Match_eq (d : Nat) (x0 : ByteArray) (x1 : ByteArray) (H : Heap) : X (d + 1) n_ref15_Match [.string x0, .string x1] H =
  effK (.mkSl t_bool 1 1 [.bool false]) [.int .i64 (IntKind.wrap .i64 ((slen x1 : Int) + 1)), .int .i64 (IntKind.wrap .i64 ((slen x1 : Int) + 1))] H fun v1 H2 =>
  asSL v1 fun l3 =>
  optK l3.a fun a4 =>
  if 0 ≤ (0 : Int) ∧ (0 : Int) < (l3.n : Int) then
  optK (Heap.st1 H2 (ap a4 0) (.bool true)) fun H5 =>
  ref15_Match_p111010 d NN x0 x1 l3 0 H5
  else none := by kernel_rfl
end Go.Proofs.YthphbdkhbaijlaaDoor.dec

namespace Go.Proofs.YthphbdkhbaijlaaDoor.dec
open Go Go.Cm
/-! porthole/portholelaw17.KeysMatch -/
noncomputable def law17_KeysMatch_k11 (d : Nat) : Kt := run (X d) NN (cd 3 [1, 1]) (retK (rs 3)) [] (retK (rs 3))
noncomputable def law17_KeysMatch_k1010111 (d : Nat) : Kt := run (X d) NN (cd 3 [1, 0, 1, 0, 1, 1, 1]) (law17_KeysMatch_k11 d) [] (retK (rs 3))
noncomputable def law17_KeysMatch_l101011110 (d : Nat) (m0 : Nat) : Kt := iter (fun k => run (X d) NN (cd 3 [1, 0, 1, 0, 1, 1, 1, 1, 0, 0]) (backK [(1, .sl), (2, .str), (3, .str), (12, .int .i64)] (opq k)) [(2, (law17_KeysMatch_k11 d))] (retK (rs 3))) m0
noncomputable def law17_KeysMatch_k10101111001 (d : Nat) (m0 : Nat) : Kt := run (X d) NN (cd 3 [1, 0, 1, 0, 1, 1, 1, 1, 0, 0, 1]) (backK [(1, .sl), (2, .str), (3, .str), (12, .int .i64)] (opq (law17_KeysMatch_l101011110 d m0))) [(2, (law17_KeysMatch_k11 d))] (retK (rs 3))
noncomputable def law17_KeysMatch_l101011010 (d : Nat) (m0 : Nat) : Kt := iter (fun k => run (X d) NN (cd 3 [1, 0, 1, 0, 1, 1, 0, 1, 0, 0]) (backK [(0, .sl), (1, .sl), (2, .str), (3, .str), (11, .int .i64)] (opq k)) [(0, (law17_KeysMatch_k1010111 d))] (retK (rs 3))) m0
noncomputable def law17_KeysMatch_k10101101001 (d : Nat) (m0 : Nat) : Kt := run (X d) NN (cd 3 [1, 0, 1, 0, 1, 1, 0, 1, 0, 0, 1]) (backK [(0, .sl), (1, .sl), (2, .str), (3, .str), (11, .int .i64)] (opq (law17_KeysMatch_l101011010 d m0))) [(0, (law17_KeysMatch_k1010111 d))] (retK (rs 3))
noncomputable def law17_KeysMatch_p101011010 (d : Nat) (m0 : Nat) (x0 : Sl) (x1 : Sl) (x2 : ByteArray) (x3 : ByteArray) (x11 : Int) (H : Heap) : Res := opq (law17_KeysMatch_l101011010 d m0) [(0, x0.v), (1, x1.v), (2, .string x2), (3, .string x3), (11, .int .i64 x11)] H
noncomputable def law17_KeysMatch_p11 (d : Nat) (x2 : ByteArray) (x3 : ByteArray) (H : Heap) : Res := opq (run (X d) NN (cd 3 [1, 1, 0]) (retK (rs 3)) [] (retK (rs 3))) [(2, .string x2), (3, .string x3)] H
noncomputable def law17_KeysMatch_p101011010001 (d : Nat) (m0 : Nat) (x0 : Sl) (x1 : Sl) (x2 : ByteArray) (x3 : ByteArray) (x11 : Int) (x22 : Bool) (H : Heap) : Res := opq (run (X d) NN (cd 3 [1, 0, 1, 0, 1, 1, 0, 1, 0, 0, 0, 1, 0]) (law17_KeysMatch_k10101101001 d m0) [(0, (law17_KeysMatch_k1010111 d))] (retK (rs 3))) [(0, x0.v), (1, x1.v), (2, .string x2), (3, .string x3), (11, .int .i64 x11), (22, .bool x22)] H
noncomputable def law17_KeysMatch_p101011110 (d : Nat) (m0 : Nat) (x1 : Sl) (x2 : ByteArray) (x3 : ByteArray) (x12 : Int) (H : Heap) : Res := opq (law17_KeysMatch_l101011110 d m0) [(1, x1.v), (2, .string x2), (3, .string x3), (12, .int .i64 x12)] H
noncomputable def law17_KeysMatch_p101011110001 (d : Nat) (m0 : Nat) (x1 : Sl) (x2 : ByteArray) (x3 : ByteArray) (x12 : Int) (x41 : Bool) (H : Heap) : Res := opq (run (X d) NN (cd 3 [1, 0, 1, 0, 1, 1, 1, 1, 0, 0, 0, 1, 0]) (law17_KeysMatch_k10101111001 d m0) [(2, (law17_KeysMatch_k11 d))] (retK (rs 3))) [(1, x1.v), (2, .string x2), (3, .string x3), (12, .int .i64 x12), (41, .bool x41)] H
theorem law17_KeysMatch_p101011010_s (d : Nat) (m0 : Nat) (x0 : Sl) (x1 : Sl) (x2 : ByteArray) (x3 : ByteArray) (x11 : Int) (H : Heap) : law17_KeysMatch_p101011010 d (m0 + 1) x0 x1 x2 x3 x11 H =
  if (decide (x11 < (x0.n : Int))) = true then
  (law17_KeysMatch_p101011010001 d m0 x0 x1 x2 x3 x11 (decide (x11 < 12)) H)
  else
  (law17_KeysMatch_p101011010001 d m0 x0 x1 x2 x3 x11 false H) := (opq_app _ _ _).trans <| by kernel_rfl
theorem law17_KeysMatch_p11_eq (d : Nat) (x2 : ByteArray) (x3 : ByteArray) (H : Heap) : law17_KeysMatch_p11 d x2 x3 H =
  callK (X d n_law17_known [] H) fun v1 H2 =>
  asB v1 fun b3 =>
  if b3 = true then
  (callK (X d n_keys_Match [.string x2, .string x3] H2) fun v4 H5 =>
    asB v4 fun b6 =>
    callK (X d n_ref15_Match [.string x2, .string x3] H5) fun v7 H8 =>
    asB v7 fun b9 =>
    some (.bool (b6 == b9), H8))
  else
  (some (.bool false, H2)) := (opq_app _ _ _).trans <| by kernel_rfl
theorem law17_KeysMatch_p101011010001_eq (d : Nat) (m0 : Nat) (x0 : Sl) (x1 : Sl) (x2 : ByteArray) (x3 : ByteArray) (x11 : Int) (x22 : Bool) (H : Heap) : law17_KeysMatch_p101011010001 d m0 x0 x1 x2 x3 x11 x22 H =
  if x22 = true then
  (optK x0.a fun a1 =>
    if 0 ≤ x11 ∧ x11 < (x0.n : Int) then
    optK (Heap.ld1 H (ap a1 (((x11).toNat) * 1))) fun v2 =>
    asI .i64 v2 fun n3 =>
    callK (X d n_hand_Pick [.int .i64 n3, .int .i64 5] H) fun v4 H5 =>
    asI .i64 v4 fun n6 =>
    if 0 ≤ n6 ∧ n6 < 5 then
    optK (partL [.string (S [97]), .string (S [98]), .string (S [42]), .string (S [63]), .string (S [42])] (((n6).toNat) * 1) 1 false) fun v7 =>
    asS v7 fun s8 =>
    if slen x2 + slen s8 ≤ 9223372036854775807 then
    law17_KeysMatch_p101011010 d m0 x0 x1 (sCat x2 s8) x3 (IntKind.wrap .i64 (x11 + 1)) H5
    else none
    else none
    else none)
  else
  (law17_KeysMatch_p101011110 d NN x1 x2 x3 0 H) := (opq_app _ _ _).trans <| by kernel_rfl
theorem law17_KeysMatch_p101011110_s (d : Nat) (m0 : Nat) (x1 : Sl) (x2 : ByteArray) (x3 : ByteArray) (x12 : Int) (H : Heap) : law17_KeysMatch_p101011110 d (m0 + 1) x1 x2 x3 x12 H =
  if (decide (x12 < (x1.n : Int))) = true then
  (law17_KeysMatch_p101011110001 d m0 x1 x2 x3 x12 (decide (x12 < 14)) H)
  else
  (law17_KeysMatch_p101011110001 d m0 x1 x2 x3 x12 false H) := (opq_app _ _ _).trans <| by kernel_rfl
theorem law17_KeysMatch_p101011110001_eq (d : Nat) (m0 : Nat) (x1 : Sl) (x2 : ByteArray) (x3 : ByteArray) (x12 : Int) (x41 : Bool) (H : Heap) : law17_KeysMatch_p101011110001 d m0 x1 x2 x3 x12 x41 H =
  if x41 = true then
  (optK x1.a fun a1 =>
    if 0 ≤ x12 ∧ x12 < (x1.n : Int) then
    optK (Heap.ld1 H (ap a1 (((x12).toNat) * 1))) fun v2 =>
    asI .i64 v2 fun n3 =>
    callK (X d n_hand_Pick [.int .i64 n3, .int .i64 2] H) fun v4 H5 =>
    asI .i64 v4 fun n6 =>
    if 0 ≤ n6 ∧ n6 < 2 then
    optK (partL [.string (S [97]), .string (S [98])] (((n6).toNat) * 1) 1 false) fun v7 =>
    asS v7 fun s8 =>
    if slen x3 + slen s8 ≤ 9223372036854775807 then
    law17_KeysMatch_p101011110 d m0 x1 x2 (sCat x3 s8) (IntKind.wrap .i64 (x12 + 1)) H5
    else none
    else none
    else none)
  else
  (law17_KeysMatch_p11 d x2 x3 H) := (opq_app _ _ _).trans <| by kernel_rfl
theorem law17_KeysMatch_eq (d : Nat) (x0 : Sl) (x1 : Sl) (x2 : ByteArray) (x3 : ByteArray) (x4 : Bool) (H : Heap) : X (d + 1) n_law17_KeysMatch [x0.v, x1.v, .string x2, .string x3, .bool x4] H =
  if (!x4) = true then
  (law17_KeysMatch_p101011010 d NN x0 x1 (S []) (S []) 0 H)
  else
  (law17_KeysMatch_p11 d x2 x3 H) := by kernel_rfl
end Go.Proofs.YthphbdkhbaijlaaDoor.dec

namespace Go.Proofs.YthphbdkhbaijlaaDoor.dec
open Go Go.Cm
/-! porthole/portholehand.Secret -/
noncomputable def hand_Secret_k1111 (d : Nat) : Kt := run (X d) NN (cd 17 [1, 1, 1, 1]) (retK (rs 17)) [] (retK (rs 17))
noncomputable def hand_Secret_l111010 (d : Nat) (m0 : Nat) : Kt := iter (fun k => run (X d) NN (cd 17 [1, 1, 1, 0, 1, 0, 0]) (backK [(2, .any), (3, .any), (4, .int .u64), (5, .int .i64)] (opq k)) [(0, (hand_Secret_k1111 d))] (retK (rs 17))) m0
noncomputable def hand_Secret_p111010 (d : Nat) (m0 : Nat) (x2 : Nat) (x3 : Nat) (x4 : Int) (x5 : Int) (H : Heap) : Res := opq (hand_Secret_l111010 d m0) [(2, P0 x2), (3, P0 x3), (4, .int .u64 x4), (5, .int .i64 x5)] H
theorem hand_Secret_p111010_s (d : Nat) (m0 : Nat) (x2 : Nat) (x3 : Nat) (x4 : Int) (x5 : Int) (H : Heap) : hand_Secret_p111010 d (m0 + 1) x2 x3 x4 x5 H =
  if (decide (x5 < 32)) = true then
  (if 0 ≤ x5 ∧ x5 < 32 then
    optK (Heap.st1 H ⟨x3, 0 + ((x5).toNat) * 1, none⟩ (.int .u8 (IntKind.wrap .u8 (Int.fdiv (IntKind.wrap .u64 ((IntKind.wrap .u64 (x4 * 6364136223846793005)) + 1442695040888963407)) 1099511627776)))) fun H1 =>
    hand_Secret_p111010 d m0 x2 x3 (IntKind.wrap .u64 ((IntKind.wrap .u64 (x4 * 6364136223846793005)) + 1442695040888963407)) (IntKind.wrap .i64 (x5 + 1)) H1
    else none)
  else
  (optK (ldA H ⟨x3, 0, none⟩ 32) fun v2 =>
    asA v2 fun c3 =>
    effK (.store 32) [P0 x2, .agg c3] H fun _ H5 =>
    retK [.cell 2 32 true] [(2, P0 x2)] H5) := (opq_app _ _ _).trans <| by kernel_rfl
theorem hand_Secret_eq (d : Nat) (x0 : Int) (H : Heap) : X (d + 1) n_hand_Secret [.int .i64 x0] H =
  newK H (.cells [.int .u8 0, .int .u8 0, .int .u8 0, .int .u8 0, .int .u8 0, .int .u8 0, .int .u8 0, .int .u8 0, .int .u8 0, .int .u8 0, .int .u8 0, .int .u8 0, .int .u8 0, .int .u8 0, .int .u8 0, .int .u8 0, .int .u8 0, .int .u8 0, .int .u8 0, .int .u8 0, .int .u8 0, .int .u8 0, .int .u8 0, .int .u8 0, .int .u8 0, .int .u8 0, .int .u8 0, .int .u8 0, .int .u8 0, .int .u8 0, .int .u8 0, .int .u8 0] t_32_uint8 false 0 false) fun p1 H2 =>
  newK H2 (.cells [.int .u8 0, .int .u8 0, .int .u8 0, .int .u8 0, .int .u8 0, .int .u8 0, .int .u8 0, .int .u8 0, .int .u8 0, .int .u8 0, .int .u8 0, .int .u8 0, .int .u8 0, .int .u8 0, .int .u8 0, .int .u8 0, .int .u8 0, .int .u8 0, .int .u8 0, .int .u8 0, .int .u8 0, .int .u8 0, .int .u8 0, .int .u8 0, .int .u8 0, .int .u8 0, .int .u8 0, .int .u8 0, .int .u8 0, .int .u8 0, .int .u8 0, .int .u8 0] t_32_uint8 false 0 false) fun p3 H4 =>
  hand_Secret_p111010 d NN p1 p3 (IntKind.wrap .u64 ((IntKind.wrap .u64 ((IntKind.wrap .u64 x0) * 6364136223846793005)) + 1442695040888963407)) 0 H4 := by kernel_rfl
end Go.Proofs.YthphbdkhbaijlaaDoor.dec

namespace Go.Proofs.YthphbdkhbaijlaaDoor.dec
open Go Go.Cm
/-! porthole/portholelaw17.list -/
noncomputable def law17_list_k111 (d : Nat) : Kt := run (X d) NN (cd 16 [1, 1, 1]) (retK (rs 16)) [] (retK (rs 16))
noncomputable def law17_list_l11010 (d : Nat) (m0 : Nat) : Kt := iter (fun k => run (X d) NN (cd 16 [1, 1, 0, 1, 0, 0]) (backK [(0, .sl), (3, .sl), (4, .int .i64)] (opq k)) [(0, (law17_list_k111 d))] (retK (rs 16))) m0
noncomputable def law17_list_k1101001 (d : Nat) (m0 : Nat) : Kt := run (X d) NN (cd 16 [1, 1, 0, 1, 0, 0, 1]) (backK [(0, .sl), (3, .sl), (4, .int .i64)] (opq (law17_list_l11010 d m0))) [(0, (law17_list_k111 d))] (retK (rs 16))
noncomputable def law17_list_k11010011 (d : Nat) (m0 : Nat) : Kt := run (X d) NN (cd 16 [1, 1, 0, 1, 0, 0, 1, 1]) (backK [(0, .sl), (3, .sl), (4, .int .i64)] (opq (law17_list_l11010 d m0))) [(0, (law17_list_k111 d))] (retK (rs 16))
noncomputable def law17_list_p11010 (d : Nat) (m0 : Nat) (x0 : Sl) (x3 : Sl) (x4 : Int) (H : Heap) : Res := opq (law17_list_l11010 d m0) [(0, x0.v), (3, x3.v), (4, .int .i64 x4)] H
noncomputable def law17_list_p11010001 (d : Nat) (m0 : Nat) (x0 : Sl) (x3 : Sl) (x4 : Int) (x14 : Bool) (H : Heap) : Res := opq (run (X d) NN (cd 16 [1, 1, 0, 1, 0, 0, 0, 1, 0]) (law17_list_k1101001 d m0) [(0, (law17_list_k111 d))] (retK (rs 16))) [(0, x0.v), (3, x3.v), (4, .int .i64 x4), (14, .bool x14)] H
noncomputable def law17_list_p1101001001 (d : Nat) (m0 : Nat) (x0 : Sl) (x3 : Sl) (x4 : Int) (x5 : Nat) (H : Heap) : Res := opq (run (X d) NN (cd 16 [1, 1, 0, 1, 0, 0, 1, 0, 0, 1, 0]) (law17_list_k11010011 d m0) [(1, (law17_list_k11010011 d m0)), (0, (law17_list_k111 d))] (retK (rs 16))) [(0, x0.v), (3, x3.v), (4, .int .i64 x4), (5, P0 x5)] H
noncomputable def law17_list_p110100100101 (d : Nat) (m0 : Nat) (x0 : Sl) (x3 : Sl) (x4 : Int) (x5 : Nat) (x6 : Nat) (H : Heap) : Res := opq (run (X d) NN (cd 16 [1, 1, 0, 1, 0, 0, 1, 0, 0, 1, 0, 1, 0]) (law17_list_k11010011 d m0) [(1, (law17_list_k11010011 d m0)), (0, (law17_list_k111 d))] (retK (rs 16))) [(0, x0.v), (3, x3.v), (4, .int .i64 x4), (5, P0 x5), (6, P0 x6)] H
noncomputable def law17_list_p11010010010101 (d : Nat) (m0 : Nat) (x0 : Sl) (x3 : Sl) (x4 : Int) (x6 : Nat) (H : Heap) : Res := opq (run (X d) NN (cd 16 [1, 1, 0, 1, 0, 0, 1, 0, 0, 1, 0, 1, 0, 1, 0]) (law17_list_k11010011 d m0) [(1, (law17_list_k11010011 d m0)), (0, (law17_list_k111 d))] (retK (rs 16))) [(0, x0.v), (3, x3.v), (4, .int .i64 x4), (6, P0 x6)] H
theorem law17_list_p11010_s (d : Nat) (m0 : Nat) (x0 : Sl) (x3 : Sl) (x4 : Int) (H : Heap) : law17_list_p11010 d (m0 + 1) x0 x3 x4 H =
  if (decide (x4 < (x0.n : Int))) = true then
  (law17_list_p11010001 d m0 x0 x3 x4 (decide (x4 < 25)) H)
  else
  (law17_list_p11010001 d m0 x0 x3 x4 false H) := (opq_app _ _ _).trans <| by kernel_rfl
theorem law17_list_p11010001_eq (d : Nat) (m0 : Nat) (x0 : Sl) (x3 : Sl) (x4 : Int) (x14 : Bool) (H : Heap) : law17_list_p11010001 d m0 x0 x3 x4 x14 H =
  if x14 = true then
  (optK x0.a fun a1 =>
    if 0 ≤ x4 ∧ x4 < (x0.n : Int) then
    optK (ldA H (ap a1 (((x4).toNat) * 6)) 6) fun v2 =>
    asA v2 fun c3 =>
    newK H (.cells [.int .i64 0, .int .i64 0, .int .i64 0, .int .i64 0, .string (S []), .int .i64 0] t_law17_Raw false 0 false) fun p4 H5 =>
    effK (.store 6) [P0 p4, .agg c3] H5 fun _ H7 =>
    law17_list_p1101001001 d m0 x0 x3 x4 p4 H7
    else none)
  else
  (some (x3.v, H)) := (opq_app _ _ _).trans <| by kernel_rfl
theorem law17_list_p1101001001_eq (d : Nat) (m0 : Nat) (x0 : Sl) (x3 : Sl) (x4 : Int) (x5 : Nat) (H : Heap) : law17_list_p1101001001 d m0 x0 x3 x4 x5 H =
  newK H (.cells [.string (S []), .int .u8 0, .int .u8 0, .int .u8 0, .int .u8 0, .int .u8 0, .int .u8 0, .int .u8 0, .int .u8 0, .int .u8 0, .int .u8 0, .int .u8 0, .int .u8 0, .int .u8 0, .int .u8 0, .int .u8 0, .int .u8 0, .int .u8 0, .int .u8 0, .int .u8 0, .int .u8 0, .int .u8 0, .int .u8 0, .int .u8 0, .int .u8 0, .int .u8 0, .int .u8 0, .int .u8 0, .int .u8 0, .int .u8 0, .int .u8 0, .int .u8 0, .int .u8 0, .int .i64 0, .string (S [])] t_api_Key false 0 false) fun p1 H2 =>
  optK (Heap.ld1 H2 ⟨x5, 0, none⟩) fun v3 =>
  asI .i64 v3 fun n4 =>
  callK (X d n_hand_Pick [.int .i64 n4, .int .i64 6] H2) fun v5 H6 =>
  asI .i64 v5 fun n7 =>
  if 0 ≤ n7 ∧ n7 < 6 then
  optK (Heap.ld1 H6 ⟨0, 0 + ((n7).toNat) * 1, none⟩) fun v8 =>
  asS v8 fun s9 =>
  callK (X d n_hand_Pick [.int .i64 x4, .int .i64 6] H6) fun v10 H11 =>
  asI .i64 v10 fun n12 =>
  if 0 ≤ n12 ∧ n12 < 6 then
  optK (Heap.ld1 H11 ⟨0, 0 + ((n12).toNat) * 1, none⟩) fun v13 =>
  asS v13 fun s14 =>
  if slen s9 + slen s14 ≤ 9223372036854775807 then
  optK (Heap.ld1 H11 ⟨x5, 3, none⟩) fun v15 =>
  asI .i64 v15 fun n16 =>
  callK (X d n_hand_Pick [.int .i64 n16, .int .i64 200] H11) fun v17 H18 =>
  asI .i64 v17 fun n19 =>
  callK (X d n_hand_Secret [.int .i64 (IntKind.wrap .i64 (n19 + (IntKind.wrap .i64 (x4 * 200))))] H18) fun v20 H21 =>
  asA v20 fun c22 =>
  optK (Heap.ld1 H21 ⟨x5, 2, none⟩) fun v23 =>
  asI .i64 v23 fun n24 =>
  callK (X d n_hand_Pick [.int .i64 n24, .int .i64 7] H21) fun v25 H26 =>
  asI .i64 v25 fun n27 =>
  optK (Heap.ld1 H26 ⟨x5, 1, none⟩) fun v28 =>
  asI .i64 v28 fun n29 =>
  callK (X d n_hand_Pick [.int .i64 n29, .int .i64 8] H26) fun v30 H31 =>
  asI .i64 v30 fun n32 =>
  if 0 ≤ n32 ∧ n32 < 8 then
  optK (Heap.ld1 H31 ⟨1, 0 + ((n32).toNat) * 1, none⟩) fun v33 =>
  asS v33 fun s34 =>
  optK (fillL [(0, 1), (1, 32), (33, 1), (34, 1)] [.string (sCat s9 s14), .agg c22, .int .i64 (IntKind.wrap .i64 (1 + n27)), .string s34] [.string (S []), .int .u8 0, .int .u8 0, .int .u8 0, .int .u8 0, .int .u8 0, .int .u8 0, .int .u8 0, .int .u8 0, .int .u8 0, .int .u8 0, .int .u8 0, .int .u8 0, .int .u8 0, .int .u8 0, .int .u8 0, .int .u8 0, .int .u8 0, .int .u8 0, .int .u8 0, .int .u8 0, .int .u8 0, .int .u8 0, .int .u8 0, .int .u8 0, .int .u8 0, .int .u8 0, .int .u8 0, .int .u8 0, .int .u8 0, .int .u8 0, .int .u8 0, .int .u8 0, .int .i64 0, .string (S [])]) fun l35 =>
  effK (.store 35) [P0 p1, .agg ⟨l35⟩] H31 fun _ H37 =>
  chk (rdsOk [H2, H6, H11, H18, H21, H26, H31, H37] [⟨.load 1 false, [.pointer (some ⟨x5, 1, none⟩)], v28, 0, 5⟩, ⟨.load 1 false, [.pointer (some ⟨x5, 2, none⟩)], v23, 0, 4⟩, ⟨.load 1 false, [.pointer (some ⟨x5, 3, none⟩)], v15, 0, 2⟩, ⟨.load 1 false, [.pointer (some ⟨0, 0 + ((n12).toNat) * 1, none⟩)], v13, 2, 6⟩, ⟨.load 1 false, [.pointer (some ⟨0, 0 + ((n7).toNat) * 1, none⟩)], v8, 1, 6⟩]) (
    law17_list_p110100100101 d m0 x0 x3 x4 x5 p1 H37)
  else none
  else none
  else none
  else none := (opq_app _ _ _).trans <| by kernel_rfl
theorem law17_list_p110100100101_eq (d : Nat) (m0 : Nat) (x0 : Sl) (x3 : Sl) (x4 : Int) (x5 : Nat) (x6 : Nat) (H : Heap) : law17_list_p110100100101 d m0 x0 x3 x4 x5 x6 H =
  optK (Heap.ld1 H ⟨x5, 5, none⟩) fun v1 =>
  asI .i64 v1 fun n2 =>
  callK (X d n_hand_Pick [.int .i64 n2, .int .i64 40] H) fun v3 H4 =>
  asI .i64 v3 fun n5 =>
  if (decide (n5 = 0)) = true then
  (optK (Heap.ld1 H4 ⟨x5, 4, none⟩) fun v6 =>
    asS v6 fun s7 =>
    optK (Heap.st1 H4 ⟨x6, 0, none⟩ (.string s7)) fun H8 =>
    law17_list_p11010010010101 d m0 x0 x3 x4 x6 H8)
  else
  (if (decide (n5 = 1)) = true then
    (optK (Heap.ld1 H4 ⟨x5, 4, none⟩) fun v9 =>
      asS v9 fun s10 =>
      optK (Heap.st1 H4 ⟨x6, 34, none⟩ (.string s10)) fun H11 =>
      law17_list_p11010010010101 d m0 x0 x3 x4 x6 H11)
    else
    (if (decide (n5 = 2)) = true then
      (optK (Heap.ld1 H4 ⟨x5, 5, none⟩) fun v12 =>
        asI .i64 v12 fun n13 =>
        optK (Heap.st1 H4 ⟨x6, 33, none⟩ (.int .i64 (IntKind.wrap .i64 (Int.tdiv n13 40)))) fun H14 =>
        law17_list_p11010010010101 d m0 x0 x3 x4 x6 H14)
      else
      (if (decide (n5 = 3)) = true then
        (callK (X d n_hand_Secret [.int .i64 0] H4) fun v15 H16 =>
          asA v15 fun c17 =>
          effK (.store 32) [.pointer (some ⟨x6, 1, none⟩), .agg c17] H16 fun _ H19 =>
          law17_list_p11010010010101 d m0 x0 x3 x4 x6 H19)
        else
        (law17_list_p11010010010101 d m0 x0 x3 x4 x6 H4)))) := (opq_app _ _ _).trans <| by kernel_rfl
theorem law17_list_p11010010010101_eq (d : Nat) (m0 : Nat) (x0 : Sl) (x3 : Sl) (x4 : Int) (x6 : Nat) (H : Heap) : law17_list_p11010010010101 d m0 x0 x3 x4 x6 H =
  optK (ldA H ⟨x6, 0, none⟩ 35) fun v1 =>
  asA v1 fun c2 =>
  optK (fillL [(0, 35)] [.agg c2] [.string (S []), .int .u8 0, .int .u8 0, .int .u8 0, .int .u8 0, .int .u8 0, .int .u8 0, .int .u8 0, .int .u8 0, .int .u8 0, .int .u8 0, .int .u8 0, .int .u8 0, .int .u8 0, .int .u8 0, .int .u8 0, .int .u8 0, .int .u8 0, .int .u8 0, .int .u8 0, .int .u8 0, .int .u8 0, .int .u8 0, .int .u8 0, .int .u8 0, .int .u8 0, .int .u8 0, .int .u8 0, .int .u8 0, .int .u8 0, .int .u8 0, .int .u8 0, .int .u8 0, .int .i64 0, .string (S [])]) fun l3 =>
  newK H (.cells l3 t_api_Key false 0 false) fun p4 H5 =>
  appendK t_api_Key 35 72 false x3.v (.slice (some ⟨p4, 0, none⟩) 1 1) H5 fun v6 H7 =>
  asSL v6 fun l8 =>
  law17_list_p11010 d m0 x0 l8 (IntKind.wrap .i64 (x4 + 1)) H7 := (opq_app _ _ _).trans <| by kernel_rfl
theorem law17_list_eq (d : Nat) (x0 : Sl) (H : Heap) : X (d + 1) n_law17_list [x0.v] H =
  law17_list_p11010 d NN x0 Sl.nil 0 H := by kernel_rfl
end Go.Proofs.YthphbdkhbaijlaaDoor.dec

namespace Go.Proofs.YthphbdkhbaijlaaDoor.dec
open Go Go.Cm
/-! porthole/portholelaw17.KeysAllows -/
noncomputable def law17_KeysAllows_k111011 (d : Nat) : Kt := run (X d) NN (cd 5 [1, 1, 1, 0, 1, 1]) (retK (rs 5)) [] (retK (rs 5))
noncomputable def law17_KeysAllows_p111 (d : Nat) (x1 : Int) (x2 : Int) (x3 : ByteArray) (x11 : Sl) (H : Heap) : Res := opq (run (X d) NN (cd 5 [1, 1, 1, 0]) (retK (rs 5)) [] (retK (rs 5))) [(1, .int .i64 x1), (2, .int .i64 x2), (3, .string x3), (11, x11.v)] H
noncomputable def law17_KeysAllows_p1110101 (d : Nat) (x1 : Int) (x2 : Int) (x3 : ByteArray) (x11 : Sl) (x12 : Nat) (x37 : Bool) (H : Heap) : Res := opq (run (X d) NN (cd 5 [1, 1, 1, 0, 1, 0, 1, 0]) (law17_KeysAllows_k111011 d) [] (retK (rs 5))) [(1, .int .i64 x1), (2, .int .i64 x2), (3, .string x3), (11, x11.v), (12, P0 x12), (37, .bool x37)] H
noncomputable def law17_KeysAllows_p111011 (d : Nat) (x11 : Sl) (x12 : Nat) (H : Heap) : Res := opq (run (X d) NN (cd 5 [1, 1, 1, 0, 1, 1, 0]) (retK (rs 5)) [] (retK (rs 5))) [(11, x11.v), (12, P0 x12)] H
noncomputable def law17_KeysAllows_p111011011 (d : Nat) (x14 : Nat) (x15 : Bool) (x16 : Nat) (x17 : Bool) (H : Heap) : Res := opq (run (X d) NN (cd 5 [1, 1, 1, 0, 1, 1, 0, 1, 1, 0]) (retK (rs 5)) [] (retK (rs 5))) [(14, P0 x14), (15, .bool x15), (16, P0 x16), (17, .bool x17)] H
theorem law17_KeysAllows_p111_eq (d : Nat) (x1 : Int) (x2 : Int) (x3 : ByteArray) (x11 : Sl) (H : Heap) : law17_KeysAllows_p111 d x1 x2 x3 x11 H =
  callK (X d n_hand_Pick [.int .i64 x1, .int .i64 300] H) fun v1 H2 =>
  asI .i64 v1 fun n3 =>
  callK (X d n_hand_Secret [.int .i64 n3] H2) fun v4 H5 =>
  asA v4 fun c6 =>
  newK H5 (.cells [.int .u8 0, .int .u8 0, .int .u8 0, .int .u8 0, .int .u8 0, .int .u8 0, .int .u8 0, .int .u8 0, .int .u8 0, .int .u8 0, .int .u8 0, .int .u8 0, .int .u8 0, .int .u8 0, .int .u8 0, .int .u8 0, .int .u8 0, .int .u8 0, .int .u8 0, .int .u8 0, .int .u8 0, .int .u8 0, .int .u8 0, .int .u8 0, .int .u8 0, .int .u8 0, .int .u8 0, .int .u8 0, .int .u8 0, .int .u8 0, .int .u8 0, .int .u8 0] t_32_uint8 false 0 false) fun p7 H8 =>
  effK (.store 32) [P0 p7, .agg c6] H8 fun _ H10 =>
  if (decide ((0 : Int) < (x11.n : Int))) = true then
  (law17_KeysAllows_p1110101 d x1 x2 x3 x11 p7 (decide ((0 : Int) < Int.tmod x1 3)) H10)
  else
  (law17_KeysAllows_p1110101 d x1 x2 x3 x11 p7 false H10) := (opq_app _ _ _).trans <| by kernel_rfl
theorem law17_KeysAllows_p1110101_eq (d : Nat) (x1 : Int) (x2 : Int) (x3 : ByteArray) (x11 : Sl) (x12 : Nat) (x37 : Bool) (H : Heap) : law17_KeysAllows_p1110101 d x1 x2 x3 x11 x12 x37 H =
  if x37 = true then
  (callK (X d n_hand_Pick [.int .i64 x1, .int .i64 (x11.n : Int)] H) fun v1 H2 =>
    asI .i64 v1 fun n3 =>
    optK x11.a fun a4 =>
    if 0 ≤ n3 ∧ n3 < (x11.n : Int) then
    optK (ldA H2 (ap a4 (((n3).toNat) * 35)) 35) fun v5 =>
    asA v5 fun c6 =>
    newK H2 (.cells [.string (S []), .int .u8 0, .int .u8 0, .int .u8 0, .int .u8 0, .int .u8 0, .int .u8 0, .int .u8 0, .int .u8 0, .int .u8 0, .int .u8 0, .int .u8 0, .int .u8 0, .int .u8 0, .int .u8 0, .int .u8 0, .int .u8 0, .int .u8 0, .int .u8 0, .int .u8 0, .int .u8 0, .int .u8 0, .int .u8 0, .int .u8 0, .int .u8 0, .int .u8 0, .int .u8 0, .int .u8 0, .int .u8 0, .int .u8 0, .int .u8 0, .int .u8 0, .int .u8 0, .int .i64 0, .string (S [])] t_api_Key false 0 false) fun p7 H8 =>
    effK (.store 35) [P0 p7, .agg c6] H8 fun _ H10 =>
    optK (ldA H10 ⟨p7, 1, none⟩ 32) fun v11 =>
    asA v11 fun c12 =>
    effK (.store 32) [P0 x12, .agg c12] H10 fun _ H14 =>
    optK (ldA H14 ⟨p7, 0, none⟩ 35) fun v15 =>
    asA v15 fun c16 =>
    callK (X d n_keys_Allows [.agg c16, .int .i64 x2, .string x3] H14) fun v17 H18 =>
    asB v17 fun b19 =>
    optK (ldA H18 ⟨p7, 0, none⟩ 35) fun v20 =>
    asA v20 fun c21 =>
    callK (X d n_ref15_Allows [.agg c21, .int .i64 x2, .string x3] H18) fun v22 H23 =>
    asB v22 fun b24 =>
    chk (rdsOk [H14, H18, H23] [⟨.load 35 true, [P0 p7], v20, 0, 1⟩]) (
      if (!(b19 == b24)) = true then
      (some (.bool false, H23))
      else
      (law17_KeysAllows_p111011 d x11 x12 H23))
    else none)
  else
  (law17_KeysAllows_p111011 d x11 x12 H) := (opq_app _ _ _).trans <| by kernel_rfl
theorem law17_KeysAllows_p111011_eq (d : Nat) (x11 : Sl) (x12 : Nat) (H : Heap) : law17_KeysAllows_p111011 d x11 x12 H =
  optK (ldA H ⟨x12, 0, none⟩ 32) fun v1 =>
  asA v1 fun c2 =>
  callK (X d n_keys_Find [x11.v, .agg c2] H) fun v3 H4 =>
  castT [.agg, .bool] v3 fun l5 =>
  castT [.agg, .bool] (.tuple ⟨l5⟩) fun l6 =>
  optK l6[0]? fun v7 =>
  asA v7 fun c8 =>
  optK l6[1]? fun v9 =>
  asB v9 fun b10 =>
  newK H4 (.cells [.string (S []), .int .u8 0, .int .u8 0, .int .u8 0, .int .u8 0, .int .u8 0, .int .u8 0, .int .u8 0, .int .u8 0, .int .u8 0, .int .u8 0, .int .u8 0, .int .u8 0, .int .u8 0, .int .u8 0, .int .u8 0, .int .u8 0, .int .u8 0, .int .u8 0, .int .u8 0, .int .u8 0, .int .u8 0, .int .u8 0, .int .u8 0, .int .u8 0, .int .u8 0, .int .u8 0, .int .u8 0, .int .u8 0, .int .u8 0, .int .u8 0, .int .u8 0, .int .u8 0, .int .i64 0, .string (S [])] t_api_Key false 0 false) fun p11 H12 =>
  effK (.store 35) [P0 p11, .agg c8] H12 fun _ H14 =>
  optK (ldA H14 ⟨x12, 0, none⟩ 32) fun v15 =>
  asA v15 fun c16 =>
  callK (X d n_ref15_Find [x11.v, .agg c16] H14) fun v17 H18 =>
  castT [.agg, .bool] v17 fun l19 =>
  castT [.agg, .bool] (.tuple ⟨l19⟩) fun l20 =>
  optK l20[0]? fun v21 =>
  asA v21 fun c22 =>
  optK l20[1]? fun v23 =>
  asB v23 fun b24 =>
  newK H18 (.cells [.string (S []), .int .u8 0, .int .u8 0, .int .u8 0, .int .u8 0, .int .u8 0, .int .u8 0, .int .u8 0, .int .u8 0, .int .u8 0, .int .u8 0, .int .u8 0, .int .u8 0, .int .u8 0, .int .u8 0, .int .u8 0, .int .u8 0, .int .u8 0, .int .u8 0, .int .u8 0, .int .u8 0, .int .u8 0, .int .u8 0, .int .u8 0, .int .u8 0, .int .u8 0, .int .u8 0, .int .u8 0, .int .u8 0, .int .u8 0, .int .u8 0, .int .u8 0, .int .u8 0, .int .i64 0, .string (S [])] t_api_Key false 0 false) fun p25 H26 =>
  effK (.store 35) [P0 p25, .agg c22] H26 fun _ H28 =>
  law17_KeysAllows_p111011011 d p11 b10 p25 b24 H28 := (opq_app _ _ _).trans <| by kernel_rfl
theorem law17_KeysAllows_p111011011_eq (d : Nat) (x14 : Nat) (x15 : Bool) (x16 : Nat) (x17 : Bool) (H : Heap) : law17_KeysAllows_p111011011 d x14 x15 x16 x17 H =
  callK (X d n_law17_known [] H) fun v1 H2 =>
  asB v1 fun b3 =>
  if b3 = true then
  (if (x15 == x17) = true then
    (optK (ldA H2 ⟨x14, 0, none⟩ 35) fun v4 =>
      asA v4 fun c5 =>
      optK (ldA H2 ⟨x16, 0, none⟩ 35) fun v6 =>
      asA v6 fun c7 =>
      chk (Array.size c5 == 35 && Array.size c7 == 35) (optK (eqL [.str, .int .u8, .int .u8, .int .u8, .int .u8, .int .u8, .int .u8, .int .u8, .int .u8, .int .u8, .int .u8, .int .u8, .int .u8, .int .u8, .int .u8, .int .u8, .int .u8, .int .u8, .int .u8, .int .u8, .int .u8, .int .u8, .int .u8, .int .u8, .int .u8, .int .u8, .int .u8, .int .u8, .int .u8, .int .u8, .int .u8, .int .u8, .int .u8, .int .i64, .str] c5.toList c7.toList) fun b8 =>
        some (.bool b8, H2)))
    else
    (some (.bool false, H2)))
  else
  (some (.bool false, H2)) := (opq_app _ _ _).trans <| by kernel_rfl
theorem law17_KeysAllows_eq (d : Nat) (x0 : Sl) (x1 : Int) (x2 : Int) (x3 : ByteArray) (x4 : Bool) (H : Heap) : X (d + 1) n_law17_KeysAllows [x0.v, .int .i64 x1, .int .i64 x2, .string x3, .bool x4] H =
  callK (X d n_law17_list [x0.v] H) fun v1 H2 =>
  asSL v1 fun l3 =>
  if x4 = true then
  (callK (X d n_hand_Pick [.int .i64 x1, .int .i64 6] H2) fun v4 H5 =>
    asI .i64 v4 fun n6 =>
    if 0 ≤ n6 ∧ n6 < 6 then
    optK (Heap.ld1 H5 ⟨0, 0 + ((n6).toNat) * 1, none⟩) fun v7 =>
    asS v7 fun s8 =>
    callK (X d n_hand_Pick [.int .i64 x2, .int .i64 9] H5) fun v9 H10 =>
    asI .i64 v9 fun n11 =>
    law17_KeysAllows_p111 d x1 n11 s8 l3 H10
    else none)
  else
  (law17_KeysAllows_p111 d x1 x2 x3 l3 H2) := by kernel_rfl
end Go.Proofs.YthphbdkhbaijlaaDoor.dec

namespace Go.Proofs.YthphbdkhbaijlaaDoor.dec
open Go Go.Cm
/-! porthole/keys.Allows -/
theorem keys_Allows_eq (d : Nat) (x0 : Array Value) (x1 : Int) (x2 : ByteArray) (H : Heap) : X (d + 1) n_keys_Allows [.agg x0, .int .i64 x1, .string x2] H =
  effK (.box t_api_Key) [.agg x0] H fun v1 H2 =>
  if (decide ((1 : Int) ≤ x1)) = true then
  (if (decide (x1 ≤ 7)) = true then
    (asP v1 fun o3 =>
      optK o3 fun a4 =>
      optK (Heap.ld1 H2 (ap a4 33)) fun v5 =>
      asI .i64 v5 fun n6 =>
      if (decide (bitsI .and .i64 n6 x1 = x1)) = true then
      (asP v1 fun o7 =>
        optK o7 fun a8 =>
        optK (Heap.ld1 H2 (ap a8 34)) fun v9 =>
        asS v9 fun s10 =>
        callK (X d n_keys_Match [.string s10, .string x2] H2) fun v11 H12 =>
        asB v11 fun b13 =>
        some (.bool b13, H12))
      else
      (some (.bool false, H2)))
    else
    (some (.bool false, H2)))
  else
  (some (.bool false, H2)) := by kernel_rfl
end Go.Proofs.YthphbdkhbaijlaaDoor.dec

namespace Go.Proofs.YthphbdkhbaijlaaDoor.dec
open Go Go.Cm
/-! porthole/portholeref15.Allows -/
theorem ref15_Allows_eq (d : Nat) (x0 : Array Value) (x1 : Int) (x2 : ByteArray) (H : Heap) : X (d + 1) n_ref15_Allows [.agg x0, .int .i64 x1, .string x2] H =
  effK (.box t_api_Key) [.agg x0] H fun v1 H2 =>
  if (decide ((1 : Int) ≤ x1)) = true then
  (if (decide (x1 ≤ 7)) = true then
    (asP v1 fun o3 =>
      optK o3 fun a4 =>
      optK (Heap.ld1 H2 (ap a4 33)) fun v5 =>
      asI .i64 v5 fun n6 =>
      if (decide (bitsI .and .i64 n6 x1 = x1)) = true then
      (asP v1 fun o7 =>
        optK o7 fun a8 =>
        optK (Heap.ld1 H2 (ap a8 34)) fun v9 =>
        asS v9 fun s10 =>
        callK (X d n_ref15_Match [.string s10, .string x2] H2) fun v11 H12 =>
        asB v11 fun b13 =>
        some (.bool b13, H12))
      else
      (some (.bool false, H2)))
    else
    (some (.bool false, H2)))
  else
  (some (.bool false, H2)) := by kernel_rfl
end Go.Proofs.YthphbdkhbaijlaaDoor.dec

namespace Go.Proofs.YthphbdkhbaijlaaDoor.dec
open Go Go.Cm
/-! porthole/keys.Find -/
noncomputable def keys_Find_k11 (d : Nat) : Kt := run (X d) NN (cd 20 [1, 1]) (retK (rs 20)) [] (retK (rs 20))
noncomputable def keys_Find_l1010 (d : Nat) (m0 : Nat) : Kt := iter (fun k => run (X d) NN (cd 20 [1, 0, 1, 0, 0]) (backK [(3, .any), (4, .any), (8, .sl), (9, .int .i64), (10, .int .i64)] (opq k)) [(0, (keys_Find_k11 d))] (retK (rs 20))) m0
noncomputable def keys_Find_p1010 (d : Nat) (m0 : Nat) (x3 : Value) (x4 : Nat) (x8 : Sl) (x9 : Int) (x10 : Int) (H : Heap) : Res := opq (keys_Find_l1010 d m0) [(3, x3), (4, P0 x4), (8, x8.v), (9, .int .i64 x9), (10, .int .i64 x10)] H
theorem keys_Find_p1010_s (d : Nat) (m0 : Nat) (x3 : Value) (x4 : Nat) (x8 : Sl) (x9 : Int) (x10 : Int) (H : Heap) : keys_Find_p1010 d (m0 + 1) x3 x4 x8 x9 x10 H =
  if (decide (x10 < x9)) = true then
  (optK x8.a fun a1 =>
    if 0 ≤ x10 ∧ x10 < (x8.n : Int) then
    optK (ldA H (ap a1 (((x10).toNat) * 35)) 35) fun v2 =>
    asA v2 fun c3 =>
    newK H (.cells [.string (S []), .int .u8 0, .int .u8 0, .int .u8 0, .int .u8 0, .int .u8 0, .int .u8 0, .int .u8 0, .int .u8 0, .int .u8 0, .int .u8 0, .int .u8 0, .int .u8 0, .int .u8 0, .int .u8 0, .int .u8 0, .int .u8 0, .int .u8 0, .int .u8 0, .int .u8 0, .int .u8 0, .int .u8 0, .int .u8 0, .int .u8 0, .int .u8 0, .int .u8 0, .int .u8 0, .int .u8 0, .int .u8 0, .int .u8 0, .int .u8 0, .int .u8 0, .int .u8 0, .int .i64 0, .string (S [])] t_api_Key false 0 false) fun p4 H5 =>
    effK (.store 35) [P0 p4, .agg c3] H5 fun _ H7 =>
    optK (ldA H7 ⟨p4, 1, none⟩ 32) fun v8 =>
    asA v8 fun c9 =>
    optK (readD (.load 32 true) [x3] H7) fun v10 =>
    asA v10 fun c11 =>
    chk (Array.size c9 == 32 && Array.size c11 == 32) (optK (eqL [.int .u8, .int .u8, .int .u8, .int .u8, .int .u8, .int .u8, .int .u8, .int .u8, .int .u8, .int .u8, .int .u8, .int .u8, .int .u8, .int .u8, .int .u8, .int .u8, .int .u8, .int .u8, .int .u8, .int .u8, .int .u8, .int .u8, .int .u8, .int .u8, .int .u8, .int .u8, .int .u8, .int .u8, .int .u8, .int .u8, .int .u8, .int .u8] c9.toList c11.toList) fun b12 =>
      if b12 = true then
      (optK (ldA H7 ⟨p4, 0, none⟩ 35) fun v13 =>
        asA v13 fun c14 =>
        effK (.store 35) [P0 x4, .agg c14] H7 fun _ H16 =>
        retK [.cell 4 35 true, .tmp 5] [(4, P0 x4), (5, .bool true)] H16)
      else
      (keys_Find_p1010 d m0 x3 x4 x8 x9 (IntKind.wrap .i64 (x10 + 1)) H7))
    else none)
  else
  (optK (Heap.stN H ⟨x4, 0, none⟩ [.string (S []), .int .u8 0, .int .u8 0, .int .u8 0, .int .u8 0, .int .u8 0, .int .u8 0, .int .u8 0, .int .u8 0, .int .u8 0, .int .u8 0, .int .u8 0, .int .u8 0, .int .u8 0, .int .u8 0, .int .u8 0, .int .u8 0, .int .u8 0, .int .u8 0, .int .u8 0, .int .u8 0, .int .u8 0, .int .u8 0, .int .u8 0, .int .u8 0, .int .u8 0, .int .u8 0, .int .u8 0, .int .u8 0, .int .u8 0, .int .u8 0, .int .u8 0, .int .u8 0, .int .i64 0, .string (S [])]) fun H18 =>
    retK [.cell 4 35 true, .tmp 5] [(4, P0 x4), (5, .bool false)] H18) := (opq_app _ _ _).trans <| by kernel_rfl
theorem keys_Find_eq (d : Nat) (x0 : Sl) (x1 : Array Value) (H : Heap) : X (d + 1) n_keys_Find [x0.v, .agg x1] H =
  effK (.box t_32_uint8) [.agg x1] H fun v1 H2 =>
  newK H2 (.cells [.string (S []), .int .u8 0, .int .u8 0, .int .u8 0, .int .u8 0, .int .u8 0, .int .u8 0, .int .u8 0, .int .u8 0, .int .u8 0, .int .u8 0, .int .u8 0, .int .u8 0, .int .u8 0, .int .u8 0, .int .u8 0, .int .u8 0, .int .u8 0, .int .u8 0, .int .u8 0, .int .u8 0, .int .u8 0, .int .u8 0, .int .u8 0, .int .u8 0, .int .u8 0, .int .u8 0, .int .u8 0, .int .u8 0, .int .u8 0, .int .u8 0, .int .u8 0, .int .u8 0, .int .i64 0, .string (S [])] t_api_Key false 0 false) fun p3 H4 =>
  keys_Find_p1010 d NN v1 p3 x0 (x0.n : Int) 0 H4 := by kernel_rfl
end Go.Proofs.YthphbdkhbaijlaaDoor.dec

namespace Go.Proofs.YthphbdkhbaijlaaDoor.dec
open Go Go.Cm
/-! porthole/portholeref15.Find -/
noncomputable def ref15_Find_k11 (d : Nat) : Kt := run (X d) NN (cd 21 [1, 1]) (retK (rs 21)) [] (retK (rs 21))
noncomputable def ref15_Find_l1010 (d : Nat) (m0 : Nat) : Kt := iter (fun k => run (X d) NN (cd 21 [1, 0, 1, 0, 0]) (backK [(0, .sl), (3, .any), (4, .any), (6, .int .i64)] (opq k)) [(0, (ref15_Find_k11 d))] (retK (rs 21))) m0
noncomputable def ref15_Find_p1010 (d : Nat) (m0 : Nat) (x0 : Sl) (x3 : Value) (x4 : Nat) (x6 : Int) (H : Heap) : Res := opq (ref15_Find_l1010 d m0) [(0, x0.v), (3, x3), (4, P0 x4), (6, .int .i64 x6)] H
theorem ref15_Find_p1010_s (d : Nat) (m0 : Nat) (x0 : Sl) (x3 : Value) (x4 : Nat) (x6 : Int) (H : Heap) : ref15_Find_p1010 d (m0 + 1) x0 x3 x4 x6 H =
  if (decide (x6 < (x0.n : Int))) = true then
  (optK x0.a fun a1 =>
    if 0 ≤ x6 ∧ x6 < (x0.n : Int) then
    optK (ldA H (ap (ap a1 (((x6).toNat) * 35)) 1) 32) fun v2 =>
    asA v2 fun c3 =>
    optK (readD (.load 32 true) [x3] H) fun v4 =>
    asA v4 fun c5 =>
    chk (Array.size c3 == 32 && Array.size c5 == 32) (optK (eqL [.int .u8, .int .u8, .int .u8, .int .u8, .int .u8, .int .u8, .int .u8, .int .u8, .int .u8, .int .u8, .int .u8, .int .u8, .int .u8, .int .u8, .int .u8, .int .u8, .int .u8, .int .u8, .int .u8, .int .u8, .int .u8, .int .u8, .int .u8, .int .u8, .int .u8, .int .u8, .int .u8, .int .u8, .int .u8, .int .u8, .int .u8, .int .u8] c3.toList c5.toList) fun b6 =>
      if b6 = true then
      (optK x0.a fun a7 =>
        if 0 ≤ x6 ∧ x6 < (x0.n : Int) then
        optK (ldA H (ap a7 (((x6).toNat) * 35)) 35) fun v8 =>
        asA v8 fun c9 =>
        effK (.store 35) [P0 x4, .agg c9] H fun _ H11 =>
        retK [.cell 4 35 true, .tmp 5] [(4, P0 x4), (5, .bool true)] H11
        else none)
      else
      (ref15_Find_p1010 d m0 x0 x3 x4 (IntKind.wrap .i64 (x6 + 1)) H))
    else none)
  else
  (optK (Heap.stN H ⟨x4, 0, none⟩ [.string (S []), .int .u8 0, .int .u8 0, .int .u8 0, .int .u8 0, .int .u8 0, .int .u8 0, .int .u8 0, .int .u8 0, .int .u8 0, .int .u8 0, .int .u8 0, .int .u8 0, .int .u8 0, .int .u8 0, .int .u8 0, .int .u8 0, .int .u8 0, .int .u8 0, .int .u8 0, .int .u8 0, .int .u8 0, .int .u8 0, .int .u8 0, .int .u8 0, .int .u8 0, .int .u8 0, .int .u8 0, .int .u8 0, .int .u8 0, .int .u8 0, .int .u8 0, .int .u8 0, .int .i64 0, .string (S [])]) fun H13 =>
    retK [.cell 4 35 true, .tmp 5] [(4, P0 x4), (5, .bool false)] H13) := (opq_app _ _ _).trans <| by kernel_rfl
theorem ref15_Find_eq (d : Nat) (x0 : Sl) (x1 : Array Value) (H : Heap) : X (d + 1) n_ref15_Find [x0.v, .agg x1] H =
  effK (.box t_32_uint8) [.agg x1] H fun v1 H2 =>
  newK H2 (.cells [.string (S []), .int .u8 0, .int .u8 0, .int .u8 0, .int .u8 0, .int .u8 0, .int .u8 0, .int .u8 0, .int .u8 0, .int .u8 0, .int .u8 0, .int .u8 0, .int .u8 0, .int .u8 0, .int .u8 0, .int .u8 0, .int .u8 0, .int .u8 0, .int .u8 0, .int .u8 0, .int .u8 0, .int .u8 0, .int .u8 0, .int .u8 0, .int .u8 0, .int .u8 0, .int .u8 0, .int .u8 0, .int .u8 0, .int .u8 0, .int .u8 0, .int .u8 0, .int .u8 0, .int .i64 0, .string (S [])] t_api_Key false 0 false) fun p3 H4 =>
  ref15_Find_p1010 d NN x0 v1 p3 0 H4 := by kernel_rfl
end Go.Proofs.YthphbdkhbaijlaaDoor.dec

namespace Go.Proofs.YthphbdkhbaijlaaDoor.dec
open Go Go.Cm
/-! (*strings.Builder).WriteByte -/
theorem strings_Builder_WriteByte_eq (d : Nat) (x0 : Nat) (x1 : Int) (H : Heap) : X (d + 1) n_strings_Builder_WriteByte [P0 x0, .int .u8 x1] H =
  callK (X d n_strings_Builder_copyCheck [P0 x0] H) fun _ H2 =>
  optK (Heap.ld1 H2 ⟨x0, 1, none⟩) fun v3 =>
  asSL v3 fun l4 =>
  newK H2 (.cells [.int .u8 x1] t_uint8 false 0 false) fun p5 H6 =>
  appendK t_uint8 1 1 false l4.v (.slice (some ⟨p5, 0, none⟩) 1 1) H6 fun v7 H8 =>
  asSL v7 fun l9 =>
  optK (Heap.st1 H8 ⟨x0, 1, none⟩ l9.v) fun H10 =>
  some (.nilIface, H10) := by kernel_rfl
end Go.Proofs.YthphbdkhbaijlaaDoor.dec

namespace Go.Proofs.YthphbdkhbaijlaaDoor.dec
open Go Go.Cm
/-! (*strings.Builder).WriteString -/
theorem strings_Builder_WriteString_eq (d : Nat) (x0 : Nat) (x1 : ByteArray) (H : Heap) : X (d + 1) n_strings_Builder_WriteString [P0 x0, .string x1] H =
  callK (X d n_strings_Builder_copyCheck [P0 x0] H) fun _ H2 =>
  optK (Heap.ld1 H2 ⟨x0, 1, none⟩) fun v3 =>
  asSL v3 fun l4 =>
  appendK t_uint8 1 1 true l4.v (.string x1) H2 fun v5 H6 =>
  asSL v5 fun l7 =>
  optK (Heap.st1 H6 ⟨x0, 1, none⟩ l7.v) fun H8 =>
  some (.tuple #[.int .i64 (slen x1 : Int), .nilIface], H8) := by kernel_rfl
end Go.Proofs.YthphbdkhbaijlaaDoor.dec

namespace Go.Proofs.YthphbdkhbaijlaaDoor.dec
open Go Go.Cm
/-! (*strings.Builder).String -/
theorem strings_Builder_String_eq (d : Nat) (x0 : Nat) (H : Heap) : X (d + 1) n_strings_Builder_String [P0 x0] H =
  optK (Heap.ld1 H ⟨x0, 1, none⟩) fun v1 =>
  asSL v1 fun l2 =>
  effK (.slData) [l2.v] H fun v3 H4 =>
  asP v3 fun o5 =>
  optK (Heap.ld1 H4 ⟨x0, 1, none⟩) fun v6 =>
  asSL v6 fun l7 =>
  effK (.unsStr t_uint8) [.pointer o5, .int .i64 (l7.n : Int)] H4 fun v8 H9 =>
  asS v8 fun s10 =>
  chk (rdsOk [H, H4, H9] [⟨.load 1 false, [.pointer (some ⟨x0, 1, none⟩)], v6, 0, 1⟩]) (
    some (.string s10, H9)) := by kernel_rfl
end Go.Proofs.YthphbdkhbaijlaaDoor.dec

namespace Go.Proofs.YthphbdkhbaijlaaDoor.dec
open Go Go.Cm
/-! (*strings.Builder).copyCheck -/
theorem strings_Builder_copyCheck_eq (d : Nat) (x0 : Nat) (H : Heap) : X (d + 1) n_strings_Builder_copyCheck [P0 x0] H =
  optK (Heap.ld1 H ⟨x0, 0, none⟩) fun v1 =>
  asP v1 fun o2 =>
  if o2.isNone = true then
  (optK (readD (.toUns) [P0 x0] H) fun v3 =>
    callK (X d n_abi_NoEscape [v3] H) fun v4 H5 =>
    optK (readD (.fromUns t_strings_Builder 2) [v4] H5) fun v6 =>
    asP v6 fun o7 =>
    optK (Heap.st1 H5 ⟨x0, 0, none⟩ (.pointer o7)) fun H8 =>
    some (.tuple #[], H8))
  else
  (optK (Heap.ld1 H ⟨x0, 0, none⟩) fun v9 =>
    asP v9 fun o10 =>
    optK (readD (.eqP true) [.pointer o10, P0 x0] H) fun v11 =>
    asB v11 fun b12 =>
    if b12 = true then
    (none)
    else
    (some (.tuple #[], H))) := by kernel_rfl
end Go.Proofs.YthphbdkhbaijlaaDoor.dec

namespace Go.Proofs.YthphbdkhbaijlaaDoor.dec
open Go Go.Cm
/-! porthole/portholelaw17.KeysFinds -/
noncomputable def law17_KeysFinds_k111 (d : Nat) : Kt := run (X d) NN (cd 6 [1, 1, 1]) (retK (rs 6)) [] (retK (rs 6))
noncomputable def law17_KeysFinds_k111111 (d : Nat) : Kt := run (X d) NN (cd 6 [1, 1, 1, 1, 1, 1]) (retK (rs 6)) [] (retK (rs 6))
noncomputable def law17_KeysFinds_l11111010 (d : Nat) (m0 : Nat) : Kt := iter (fun k => run (X d) NN (cd 6 [1, 1, 1, 1, 1, 0, 1, 0, 0]) (backK [(5, .sl), (6, .any), (7, .bool), (8, .int .i64)] (opq k)) [(0, (law17_KeysFinds_k111111 d))] (retK (rs 6))) m0
noncomputable def law17_KeysFinds_k11111010011 (d : Nat) (m0 : Nat) : Kt := run (X d) NN (cd 6 [1, 1, 1, 1, 1, 0, 1, 0, 0, 1, 1]) (backK [(5, .sl), (6, .any), (7, .bool), (8, .int .i64)] (opq (law17_KeysFinds_l11111010 d m0))) [(0, (law17_KeysFinds_k111111 d))] (retK (rs 6))
noncomputable def law17_KeysFinds_k11111010010011 (d : Nat) (m0 : Nat) : Kt := run (X d) NN (cd 6 [1, 1, 1, 1, 1, 0, 1, 0, 0, 1, 0, 0, 1, 1]) (law17_KeysFinds_k11111010011 d m0) [(1, (law17_KeysFinds_k11111010011 d m0)), (0, (law17_KeysFinds_k111111 d))] (retK (rs 6))
noncomputable def law17_KeysFinds_p1101 (d : Nat) (x1 : Int) (x5 : Sl) (x21 : Bool) (H : Heap) : Res := opq (run (X d) NN (cd 6 [1, 1, 0, 1, 0]) (law17_KeysFinds_k111 d) [] (retK (rs 6))) [(1, .int .i64 x1), (5, x5.v), (21, .bool x21)] H
noncomputable def law17_KeysFinds_p11111010 (d : Nat) (m0 : Nat) (x5 : Sl) (x6 : Nat) (x7 : Bool) (x8 : Int) (H : Heap) : Res := opq (law17_KeysFinds_l11111010 d m0) [(5, x5.v), (6, P0 x6), (7, .bool x7), (8, .int .i64 x8)] H
noncomputable def law17_KeysFinds_p111110100100101 (d : Nat) (m0 : Nat) (x5 : Sl) (x6 : Nat) (x7 : Bool) (x8 : Int) (x52 : Bool) (H : Heap) : Res := opq (run (X d) NN (cd 6 [1, 1, 1, 1, 1, 0, 1, 0, 0, 1, 0, 0, 1, 0, 1, 0]) (law17_KeysFinds_k11111010010011 d m0) [(1, (law17_KeysFinds_k11111010011 d m0)), (0, (law17_KeysFinds_k111111 d))] (retK (rs 6))) [(5, x5.v), (6, P0 x6), (7, .bool x7), (8, .int .i64 x8), (52, .bool x52)] H
noncomputable def law17_KeysFinds_p11111010011 (d : Nat) (m0 : Nat) (x5 : Sl) (x6 : Nat) (x7 : Bool) (x8 : Int) (H : Heap) : Res := opq (run (X d) NN (cd 6 [1, 1, 1, 1, 1, 0, 1, 0, 0, 1, 1, 0]) (backK [(5, .sl), (6, .any), (7, .bool), (8, .int .i64)] (opq (law17_KeysFinds_l11111010 d m0))) [(0, (law17_KeysFinds_k111111 d))] (retK (rs 6))) [(5, x5.v), (6, P0 x6), (7, .bool x7), (8, .int .i64 x8)] H
theorem law17_KeysFinds_p1101_eq (d : Nat) (x1 : Int) (x5 : Sl) (x21 : Bool) (H : Heap) : law17_KeysFinds_p1101 d x1 x5 x21 H =
  if x21 = true then
  (callK (X d n_law17_known [] H) fun v1 H2 =>
    asB v1 fun b3 =>
    some (.bool b3, H2))
  else
  (callK (X d n_hand_Pick [.int .i64 x1, .int .i64 1000] H) fun v4 H5 =>
    asI .i64 v4 fun n6 =>
    callK (X d n_hand_Secret [.int .i64 (IntKind.wrap .i64 (7000000 + n6))] H5) fun v7 H8 =>
    asA v7 fun c9 =>
    newK H8 (.cells [.int .u8 0, .int .u8 0, .int .u8 0, .int .u8 0, .int .u8 0, .int .u8 0, .int .u8 0, .int .u8 0, .int .u8 0, .int .u8 0, .int .u8 0, .int .u8 0, .int .u8 0, .int .u8 0, .int .u8 0, .int .u8 0, .int .u8 0, .int .u8 0, .int .u8 0, .int .u8 0, .int .u8 0, .int .u8 0, .int .u8 0, .int .u8 0, .int .u8 0, .int .u8 0, .int .u8 0, .int .u8 0, .int .u8 0, .int .u8 0, .int .u8 0, .int .u8 0] t_32_uint8 false 0 false) fun p10 H11 =>
    effK (.store 32) [P0 p10, .agg c9] H11 fun _ H13 =>
    law17_KeysFinds_p11111010 d NN x5 p10 true 0 H13) := (opq_app _ _ _).trans <| by kernel_rfl
theorem law17_KeysFinds_p11111010_s (d : Nat) (m0 : Nat) (x5 : Sl) (x6 : Nat) (x7 : Bool) (x8 : Int) (H : Heap) : law17_KeysFinds_p11111010 d (m0 + 1) x5 x6 x7 x8 H =
  if (decide (x8 < (x5.n : Int))) = true then
  (optK x5.a fun a1 =>
    if 0 ≤ x8 ∧ x8 < (x5.n : Int) then
    optK (ldA H (ap (ap a1 (((x8).toNat) * 35)) 1) 32) fun v2 =>
    asA v2 fun c3 =>
    callK (X d n_keys_Find [x5.v, .agg c3] H) fun v4 H5 =>
    castT [.agg, .bool] v4 fun l6 =>
    castT [.agg, .bool] (.tuple ⟨l6⟩) fun l7 =>
    optK l7[0]? fun v8 =>
    asA v8 fun c9 =>
    optK l7[1]? fun v10 =>
    asB v10 fun b11 =>
    newK H5 (.cells [.string (S []), .int .u8 0, .int .u8 0, .int .u8 0, .int .u8 0, .int .u8 0, .int .u8 0, .int .u8 0, .int .u8 0, .int .u8 0, .int .u8 0, .int .u8 0, .int .u8 0, .int .u8 0, .int .u8 0, .int .u8 0, .int .u8 0, .int .u8 0, .int .u8 0, .int .u8 0, .int .u8 0, .int .u8 0, .int .u8 0, .int .u8 0, .int .u8 0, .int .u8 0, .int .u8 0, .int .u8 0, .int .u8 0, .int .u8 0, .int .u8 0, .int .u8 0, .int .u8 0, .int .i64 0, .string (S [])] t_api_Key false 0 false) fun p12 H13 =>
    effK (.store 35) [P0 p12, .agg c9] H13 fun _ H15 =>
    if (!b11) = true then
    (law17_KeysFinds_p111110100100101 d m0 x5 x6 x7 x8 true H15)
    else
    (optK (ldA H15 ⟨p12, 0, none⟩ 35) fun v16 =>
      asA v16 fun c17 =>
      optK x5.a fun a18 =>
      if 0 ≤ x8 ∧ x8 < (x5.n : Int) then
      optK (ldA H15 (ap a18 (((x8).toNat) * 35)) 35) fun v19 =>
      asA v19 fun c20 =>
      chk (Array.size c17 == 35 && Array.size c20 == 35) (optK (eqL [.str, .int .u8, .int .u8, .int .u8, .int .u8, .int .u8, .int .u8, .int .u8, .int .u8, .int .u8, .int .u8, .int .u8, .int .u8, .int .u8, .int .u8, .int .u8, .int .u8, .int .u8, .int .u8, .int .u8, .int .u8, .int .u8, .int .u8, .int .u8, .int .u8, .int .u8, .int .u8, .int .u8, .int .u8, .int .u8, .int .u8, .int .u8, .int .u8, .int .i64, .str] c17.toList c20.toList) fun b21 =>
        law17_KeysFinds_p111110100100101 d m0 x5 x6 x7 x8 (!b21) H15)
      else none)
    else none)
  else
  (optK (ldA H ⟨x6, 0, none⟩ 32) fun v22 =>
    asA v22 fun c23 =>
    callK (X d n_keys_Find [x5.v, .agg c23] H) fun v24 H25 =>
    castT [.agg, .bool] v24 fun l26 =>
    castT [.agg, .bool] (.tuple ⟨l26⟩) fun l27 =>
    optK l27[0]? fun v28 =>
    asA v28 fun c29 =>
    optK l27[1]? fun v30 =>
    asB v30 fun b31 =>
    newK H25 (.cells [.string (S []), .int .u8 0, .int .u8 0, .int .u8 0, .int .u8 0, .int .u8 0, .int .u8 0, .int .u8 0, .int .u8 0, .int .u8 0, .int .u8 0, .int .u8 0, .int .u8 0, .int .u8 0, .int .u8 0, .int .u8 0, .int .u8 0, .int .u8 0, .int .u8 0, .int .u8 0, .int .u8 0, .int .u8 0, .int .u8 0, .int .u8 0, .int .u8 0, .int .u8 0, .int .u8 0, .int .u8 0, .int .u8 0, .int .u8 0, .int .u8 0, .int .u8 0, .int .u8 0, .int .i64 0, .string (S [])] t_api_Key false 0 false) fun p32 H33 =>
    effK (.store 35) [P0 p32, .agg c29] H33 fun _ H35 =>
    some (.bool (b31 == (!x7)), H35)) := (opq_app _ _ _).trans <| by kernel_rfl
theorem law17_KeysFinds_p111110100100101_eq (d : Nat) (m0 : Nat) (x5 : Sl) (x6 : Nat) (x7 : Bool) (x8 : Int) (x52 : Bool) (H : Heap) : law17_KeysFinds_p111110100100101 d m0 x5 x6 x7 x8 x52 H =
  if x52 = true then
  (some (.bool false, H))
  else
  (if x7 = true then
    (optK x5.a fun a1 =>
      if 0 ≤ x8 ∧ x8 < (x5.n : Int) then
      optK (ldA H (ap (ap a1 (((x8).toNat) * 35)) 1) 32) fun v2 =>
      asA v2 fun c3 =>
      optK (ldA H ⟨x6, 0, none⟩ 32) fun v4 =>
      asA v4 fun c5 =>
      chk (Array.size c3 == 32 && Array.size c5 == 32) (optK (eqL [.int .u8, .int .u8, .int .u8, .int .u8, .int .u8, .int .u8, .int .u8, .int .u8, .int .u8, .int .u8, .int .u8, .int .u8, .int .u8, .int .u8, .int .u8, .int .u8, .int .u8, .int .u8, .int .u8, .int .u8, .int .u8, .int .u8, .int .u8, .int .u8, .int .u8, .int .u8, .int .u8, .int .u8, .int .u8, .int .u8, .int .u8, .int .u8] c3.toList c5.toList) fun b6 =>
        law17_KeysFinds_p11111010011 d m0 x5 x6 (!b6) x8 H)
      else none)
    else
    (law17_KeysFinds_p11111010011 d m0 x5 x6 false x8 H)) := (opq_app _ _ _).trans <| by kernel_rfl
theorem law17_KeysFinds_p11111010011_eq (d : Nat) (m0 : Nat) (x5 : Sl) (x6 : Nat) (x7 : Bool) (x8 : Int) (H : Heap) : law17_KeysFinds_p11111010011 d m0 x5 x6 x7 x8 H =
  law17_KeysFinds_p11111010 d m0 x5 x6 x7 (IntKind.wrap .i64 (x8 + 1)) H := (opq_app _ _ _).trans <| by kernel_rfl
theorem law17_KeysFinds_eq (d : Nat) (x0 : Sl) (x1 : Int) (H : Heap) : X (d + 1) n_law17_KeysFinds [x0.v, .int .i64 x1] H =
  callK (X d n_law17_list [x0.v] H) fun v1 H2 =>
  asSL v1 fun l3 =>
  callK (X d n_law17_known [] H2) fun v4 H5 =>
  asB v4 fun b6 =>
  if (!b6) = true then
  (law17_KeysFinds_p1101 d x1 l3 true H5)
  else
  (callK (X d n_keys_Right [l3.v] H5) fun v7 H8 =>
    asB v7 fun b9 =>
    law17_KeysFinds_p1101 d x1 l3 (!b9) H8) := by kernel_rfl
end Go.Proofs.YthphbdkhbaijlaaDoor.dec

namespace Go.Proofs.YthphbdkhbaijlaaDoor.dec
open Go Go.Cm
/-! porthole/keys.Right -/
noncomputable def keys_Right_k11 (d : Nat) : Kt := run (X d) NN (cd 22 [1, 1]) (retK (rs 22)) [] (retK (rs 22))
noncomputable def keys_Right_l1010 (d : Nat) (m0 : Nat) : Kt := iter (fun k => run (X d) NN (cd 22 [1, 0, 1, 0, 0]) (backK [(0, .sl), (5, .sl), (6, .int .i64), (7, .int .i64)] (opq k)) [(0, (keys_Right_k11 d))] (retK (rs 22))) m0
noncomputable def keys_Right_k10100111 (d : Nat) (m0 : Nat) : Kt := run (X d) NN (cd 22 [1, 0, 1, 0, 0, 1, 1, 1]) (backK [(0, .sl), (5, .sl), (6, .int .i64), (7, .int .i64)] (opq (keys_Right_l1010 d m0))) [(0, (keys_Right_k11 d))] (retK (rs 22))
noncomputable def keys_Right_p1010 (d : Nat) (m0 : Nat) (x0 : Sl) (x5 : Sl) (x6 : Int) (x7 : Int) (H : Heap) : Res := opq (keys_Right_l1010 d m0) [(0, x0.v), (5, x5.v), (6, .int .i64 x6), (7, .int .i64 x7)] H
noncomputable def keys_Right_p10100110011 (d : Nat) (m0 : Nat) (x0 : Sl) (x5 : Sl) (x6 : Int) (x7 : Int) (x21 : Bool) (H : Heap) : Res := opq (run (X d) NN (cd 22 [1, 0, 1, 0, 0, 1, 1, 0, 0, 1, 1, 0]) (keys_Right_k10100111 d m0) [(1, (keys_Right_k10100111 d m0)), (0, (keys_Right_k11 d))] (retK (rs 22))) [(0, x0.v), (5, x5.v), (6, .int .i64 x6), (7, .int .i64 x7), (21, .bool x21)] H
theorem keys_Right_p1010_s (d : Nat) (m0 : Nat) (x0 : Sl) (x5 : Sl) (x6 : Int) (x7 : Int) (H : Heap) : keys_Right_p1010 d (m0 + 1) x0 x5 x6 x7 H =
  if (decide (x7 < x6)) = true then
  (optK x5.a fun a1 =>
    if 0 ≤ x7 ∧ x7 < (x5.n : Int) then
    optK (ldA H (ap a1 (((x7).toNat) * 35)) 35) fun v2 =>
    asA v2 fun c3 =>
    newK H (.cells [.string (S []), .int .u8 0, .int .u8 0, .int .u8 0, .int .u8 0, .int .u8 0, .int .u8 0, .int .u8 0, .int .u8 0, .int .u8 0, .int .u8 0, .int .u8 0, .int .u8 0, .int .u8 0, .int .u8 0, .int .u8 0, .int .u8 0, .int .u8 0, .int .u8 0, .int .u8 0, .int .u8 0, .int .u8 0, .int .u8 0, .int .u8 0, .int .u8 0, .int .u8 0, .int .u8 0, .int .u8 0, .int .u8 0, .int .u8 0, .int .u8 0, .int .u8 0, .int .u8 0, .int .i64 0, .string (S [])] t_api_Key false 0 false) fun p4 H5 =>
    effK (.store 35) [P0 p4, .agg c3] H5 fun _ H7 =>
    optK (ldA H7 ⟨p4, 0, none⟩ 35) fun v8 =>
    asA v8 fun c9 =>
    callK (X d n_keys_one [.agg c9] H7) fun v10 H11 =>
    asB v10 fun b12 =>
    if (!b12) = true then
    (keys_Right_p10100110011 d m0 x0 x5 x6 x7 true H11)
    else
    (optK (readD (.subSl t_api_Key 35 false true false) [x0.v, .int .i64 x7] H11) fun v13 =>
      asSL v13 fun l14 =>
      optK (ldA H11 ⟨p4, 0, none⟩ 35) fun v15 =>
      asA v15 fun c16 =>
      callK (X d n_keys_twice [l14.v, .agg c16] H11) fun v17 H18 =>
      asB v17 fun b19 =>
      keys_Right_p10100110011 d m0 x0 x5 x6 x7 b19 H18)
    else none)
  else
  (some (.bool (decide ((x0.n : Int) ≤ 20)), H)) := (opq_app _ _ _).trans <| by kernel_rfl
theorem keys_Right_p10100110011_eq (d : Nat) (m0 : Nat) (x0 : Sl) (x5 : Sl) (x6 : Int) (x7 : Int) (x21 : Bool) (H : Heap) : keys_Right_p10100110011 d m0 x0 x5 x6 x7 x21 H =
  if x21 = true then
  (some (.bool false, H))
  else
  (keys_Right_p1010 d m0 x0 x5 x6 (IntKind.wrap .i64 (x7 + 1)) H) := (opq_app _ _ _).trans <| by kernel_rfl
theorem keys_Right_eq (d : Nat) (x0 : Sl) (H : Heap) : X (d + 1) n_keys_Right [x0.v] H =
  keys_Right_p1010 d NN x0 x0 (x0.n : Int) 0 H := by kernel_rfl
end Go.Proofs.YthphbdkhbaijlaaDoor.dec

namespace Go.Proofs.YthphbdkhbaijlaaDoor.dec
open Go Go.Cm
/-! porthole/keys.one -/
theorem keys_one_eq (d : Nat) (x0 : Array Value) (H : Heap) : X (d + 1) n_keys_one [.agg x0] H =
  effK (.box t_api_Key) [.agg x0] H fun v1 H2 =>
  asP v1 fun o3 =>
  optK o3 fun a4 =>
  optK (Heap.ld1 H2 (ap a4 0)) fun v5 =>
  asS v5 fun s6 =>
  callK (X d n_keys_word [.string s6, .int .i64 20, .string (S [])] H2) fun v7 H8 =>
  asB v7 fun b9 =>
  if b9 = true then
  (asP v1 fun o10 =>
    optK o10 fun a11 =>
    optK (Heap.ld1 H8 (ap a11 33)) fun v12 =>
    asI .i64 v12 fun n13 =>
    if (decide ((1 : Int) ≤ n13)) = true then
    (asP v1 fun o14 =>
      optK o14 fun a15 =>
      optK (Heap.ld1 H8 (ap a15 33)) fun v16 =>
      asI .i64 v16 fun n17 =>
      if (decide (n17 ≤ 7)) = true then
      (asP v1 fun o18 =>
        optK o18 fun a19 =>
        optK (Heap.ld1 H8 (ap a19 34)) fun v20 =>
        asS v20 fun s21 =>
        callK (X d n_keys_word [.string s21, .int .i64 40, .string (S [42, 63])] H8) fun v22 H23 =>
        asB v22 fun b24 =>
        some (.bool b24, H23))
      else
      (some (.bool false, H8)))
    else
    (some (.bool false, H8)))
  else
  (some (.bool false, H8)) := by kernel_rfl
end Go.Proofs.YthphbdkhbaijlaaDoor.dec

namespace Go.Proofs.YthphbdkhbaijlaaDoor.dec
open Go Go.Cm
/-! porthole/keys.twice -/
noncomputable def keys_twice_k11 (d : Nat) : Kt := run (X d) NN (cd 31 [1, 1]) (retK (rs 31)) [] (retK (rs 31))
noncomputable def keys_twice_l1010 (d : Nat) (m0 : Nat) : Kt := iter (fun k => run (X d) NN (cd 31 [1, 0, 1, 0, 0]) (backK [(3, .any), (7, .sl), (8, .int .i64), (9, .int .i64)] (opq k)) [(0, (keys_twice_k11 d))] (retK (rs 31))) m0
noncomputable def keys_twice_k10100111 (d : Nat) (m0 : Nat) : Kt := run (X d) NN (cd 31 [1, 0, 1, 0, 0, 1, 1, 1]) (backK [(3, .any), (7, .sl), (8, .int .i64), (9, .int .i64)] (opq (keys_twice_l1010 d m0))) [(0, (keys_twice_k11 d))] (retK (rs 31))
noncomputable def keys_twice_p1010 (d : Nat) (m0 : Nat) (x3 : Value) (x7 : Sl) (x8 : Int) (x9 : Int) (H : Heap) : Res := opq (keys_twice_l1010 d m0) [(3, x3), (7, x7.v), (8, .int .i64 x8), (9, .int .i64 x9)] H
noncomputable def keys_twice_p10100110011 (d : Nat) (m0 : Nat) (x3 : Value) (x7 : Sl) (x8 : Int) (x9 : Int) (x24 : Bool) (H : Heap) : Res := opq (run (X d) NN (cd 31 [1, 0, 1, 0, 0, 1, 1, 0, 0, 1, 1, 0]) (keys_twice_k10100111 d m0) [(1, (keys_twice_k10100111 d m0)), (0, (keys_twice_k11 d))] (retK (rs 31))) [(3, x3), (7, x7.v), (8, .int .i64 x8), (9, .int .i64 x9), (24, .bool x24)] H
theorem keys_twice_p1010_s (d : Nat) (m0 : Nat) (x3 : Value) (x7 : Sl) (x8 : Int) (x9 : Int) (H : Heap) : keys_twice_p1010 d (m0 + 1) x3 x7 x8 x9 H =
  if (decide (x9 < x8)) = true then
  (optK x7.a fun a1 =>
    if 0 ≤ x9 ∧ x9 < (x7.n : Int) then
    optK (ldA H (ap a1 (((x9).toNat) * 35)) 35) fun v2 =>
    asA v2 fun c3 =>
    newK H (.cells [.string (S []), .int .u8 0, .int .u8 0, .int .u8 0, .int .u8 0, .int .u8 0, .int .u8 0, .int .u8 0, .int .u8 0, .int .u8 0, .int .u8 0, .int .u8 0, .int .u8 0, .int .u8 0, .int .u8 0, .int .u8 0, .int .u8 0, .int .u8 0, .int .u8 0, .int .u8 0, .int .u8 0, .int .u8 0, .int .u8 0, .int .u8 0, .int .u8 0, .int .u8 0, .int .u8 0, .int .u8 0, .int .u8 0, .int .u8 0, .int .u8 0, .int .u8 0, .int .u8 0, .int .i64 0, .string (S [])] t_api_Key false 0 false) fun p4 H5 =>
    effK (.store 35) [P0 p4, .agg c3] H5 fun _ H7 =>
    optK (ldA H7 ⟨p4, 1, none⟩ 32) fun v8 =>
    asA v8 fun c9 =>
    asP x3 fun o10 =>
    optK o10 fun a11 =>
    optK (ldA H7 (ap a11 1) 32) fun v12 =>
    asA v12 fun c13 =>
    chk (Array.size c9 == 32 && Array.size c13 == 32) (optK (eqL [.int .u8, .int .u8, .int .u8, .int .u8, .int .u8, .int .u8, .int .u8, .int .u8, .int .u8, .int .u8, .int .u8, .int .u8, .int .u8, .int .u8, .int .u8, .int .u8, .int .u8, .int .u8, .int .u8, .int .u8, .int .u8, .int .u8, .int .u8, .int .u8, .int .u8, .int .u8, .int .u8, .int .u8, .int .u8, .int .u8, .int .u8, .int .u8] c9.toList c13.toList) fun b14 =>
      if b14 = true then
      (keys_twice_p10100110011 d m0 x3 x7 x8 x9 true H7)
      else
      (optK (Heap.ld1 H7 ⟨p4, 0, none⟩) fun v15 =>
        asS v15 fun s16 =>
        asP x3 fun o17 =>
        optK o17 fun a18 =>
        optK (Heap.ld1 H7 (ap a18 0)) fun v19 =>
        asS v19 fun s20 =>
        keys_twice_p10100110011 d m0 x3 x7 x8 x9 (sEq s16 s20) H7))
    else none)
  else
  (some (.bool false, H)) := (opq_app _ _ _).trans <| by kernel_rfl
theorem keys_twice_p10100110011_eq (d : Nat) (m0 : Nat) (x3 : Value) (x7 : Sl) (x8 : Int) (x9 : Int) (x24 : Bool) (H : Heap) : keys_twice_p10100110011 d m0 x3 x7 x8 x9 x24 H =
  if x24 = true then
  (some (.bool true, H))
  else
  (keys_twice_p1010 d m0 x3 x7 x8 (IntKind.wrap .i64 (x9 + 1)) H) := (opq_app _ _ _).trans <| by kernel_rfl
theorem keys_twice_eq (d : Nat) (x0 : Sl) (x1 : Array Value) (H : Heap) : X (d + 1) n_keys_twice [x0.v, .agg x1] H =
  effK (.box t_api_Key) [.agg x1] H fun v1 H2 =>
  keys_twice_p1010 d NN v1 x0 (x0.n : Int) 0 H2 := by kernel_rfl
end Go.Proofs.YthphbdkhbaijlaaDoor.dec

namespace Go.Proofs.YthphbdkhbaijlaaDoor.dec
open Go Go.Cm
/-! porthole/keys.word -/
noncomputable def keys_word_k11 (d : Nat) : Kt := run (X d) NN (cd 48 [1, 1]) (retK (rs 48)) [] (retK (rs 48))
noncomputable def keys_word_l1010 (d : Nat) (m0 : Nat) : Kt := iter (fun k => run (X d) NN (cd 48 [1, 0, 1, 0, 0]) (backK [(0, .str), (1, .int .i64), (2, .str), (7, .int .i64)] (opq k)) [(0, (keys_word_k11 d))] (retK (rs 48))) m0
noncomputable def keys_word_k1010011 (d : Nat) (m0 : Nat) : Kt := run (X d) NN (cd 48 [1, 0, 1, 0, 0, 1, 1]) (backK [(0, .str), (1, .int .i64), (2, .str), (7, .int .i64)] (opq (keys_word_l1010 d m0))) [(0, (keys_word_k11 d))] (retK (rs 48))
noncomputable def keys_word_p1010 (d : Nat) (m0 : Nat) (x0 : ByteArray) (x1 : Int) (x2 : ByteArray) (x7 : Int) (H : Heap) : Res := opq (keys_word_l1010 d m0) [(0, .string x0), (1, .int .i64 x1), (2, .string x2), (7, .int .i64 x7)] H
noncomputable def keys_word_p101001001 (d : Nat) (m0 : Nat) (x0 : ByteArray) (x1 : Int) (x2 : ByteArray) (x7 : Int) (x26 : Bool) (H : Heap) : Res := opq (run (X d) NN (cd 48 [1, 0, 1, 0, 0, 1, 0, 0, 1, 0]) (keys_word_k1010011 d m0) [(1, (keys_word_k1010011 d m0)), (0, (keys_word_k11 d))] (retK (rs 48))) [(0, .string x0), (1, .int .i64 x1), (2, .string x2), (7, .int .i64 x7), (26, .bool x26)] H
theorem keys_word_p1010_s (d : Nat) (m0 : Nat) (x0 : ByteArray) (x1 : Int) (x2 : ByteArray) (x7 : Int) (H : Heap) : keys_word_p1010 d (m0 + 1) x0 x1 x2 x7 H =
  if (decide (x7 < (slen x0 : Int))) = true then
  (if 0 ≤ x7 ∧ x7 < (slen x0 : Int) then
    callK (X d n_keys_letter [.int .u8 (bt x0 ((x7).toNat))] H) fun v1 H2 =>
    asB v1 fun b3 =>
    if (!b3) = true then
    (if 0 ≤ x7 ∧ x7 < (slen x0 : Int) then
      callK (X d n_strings_IndexByte [.string x2, .int .u8 (bt x0 ((x7).toNat))] H2) fun v4 H5 =>
      asI .i64 v4 fun n6 =>
      keys_word_p101001001 d m0 x0 x1 x2 x7 (decide (n6 < 0)) H5
      else none)
    else
    (keys_word_p101001001 d m0 x0 x1 x2 x7 false H2)
    else none)
  else
  (if (!sEq x0 (S [])) = true then
    (some (.bool (decide ((slen x0 : Int) ≤ x1)), H))
    else
    (some (.bool false, H))) := (opq_app _ _ _).trans <| by kernel_rfl
theorem keys_word_p101001001_eq (d : Nat) (m0 : Nat) (x0 : ByteArray) (x1 : Int) (x2 : ByteArray) (x7 : Int) (x26 : Bool) (H : Heap) : keys_word_p101001001 d m0 x0 x1 x2 x7 x26 H =
  if x26 = true then
  (some (.bool false, H))
  else
  (keys_word_p1010 d m0 x0 x1 x2 (IntKind.wrap .i64 (x7 + 1)) H) := (opq_app _ _ _).trans <| by kernel_rfl
theorem keys_word_eq (d : Nat) (x0 : ByteArray) (x1 : Int) (x2 : ByteArray) (H : Heap) : X (d + 1) n_keys_word [.string x0, .int .i64 x1, .string x2] H =
  keys_word_p1010 d NN x0 x1 x2 0 H := by kernel_rfl
end Go.Proofs.YthphbdkhbaijlaaDoor.dec

namespace Go.Proofs.YthphbdkhbaijlaaDoor.dec
open Go Go.Cm
/-! porthole/keys.letter -/
theorem keys_letter_eq (d : Nat) (x0 : Int) (H : Heap) : X (d + 1) n_keys_letter [.int .u8 x0] H =
  if (decide ((97 : Int) ≤ x0)) = true then
  (if (decide (x0 ≤ 122)) = true then
    (some (.bool true, H))
    else
    (if (decide ((48 : Int) ≤ x0)) = true then
      (if (decide (x0 ≤ 57)) = true then
        (some (.bool true, H))
        else
        (some (.bool (decide (x0 = 45)), H)))
      else
      (some (.bool (decide (x0 = 45)), H))))
  else
  (if (decide ((48 : Int) ≤ x0)) = true then
    (if (decide (x0 ≤ 57)) = true then
      (some (.bool true, H))
      else
      (some (.bool (decide (x0 = 45)), H)))
    else
    (some (.bool (decide (x0 = 45)), H))) := by kernel_rfl
end Go.Proofs.YthphbdkhbaijlaaDoor.dec

namespace Go.Proofs.YthphbdkhbaijlaaDoor.dec
open Go Go.Cm
/-! porthole/portholeref15.Right -/
noncomputable def ref15_Right_k111 (d : Nat) : Kt := run (X d) NN (cd 25 [1, 1, 1]) (retK (rs 25)) [] (retK (rs 25))
noncomputable def ref15_Right_l11010 (d : Nat) (m0 : Nat) : Kt := iter (fun k => run (X d) NN (cd 25 [1, 1, 0, 1, 0, 0]) (backK [(0, .sl), (3, .int .i64)] (opq k)) [(0, (ref15_Right_k111 d))] (retK (rs 25))) m0
noncomputable def ref15_Right_k11010011 (d : Nat) (m0 : Nat) : Kt := run (X d) NN (cd 25 [1, 1, 0, 1, 0, 0, 1, 1]) (backK [(0, .sl), (3, .int .i64)] (opq (ref15_Right_l11010 d m0))) [(0, (ref15_Right_k111 d))] (retK (rs 25))
noncomputable def ref15_Right_k1101001001 (d : Nat) (m0 : Nat) : Kt := run (X d) NN (cd 25 [1, 1, 0, 1, 0, 0, 1, 0, 0, 1]) (ref15_Right_k11010011 d m0) [(1, (ref15_Right_k11010011 d m0)), (0, (ref15_Right_k111 d))] (retK (rs 25))
noncomputable def ref15_Right_l110100100110 (d : Nat) (m0 : Nat) (m1 : Nat) : Kt := iter (fun k => run (X d) NN (cd 25 [1, 1, 0, 1, 0, 0, 1, 0, 0, 1, 1, 0, 0]) (backK [(0, .sl), (3, .int .i64), (4, .int .i64)] (opq k)) [(2, (ref15_Right_k11010011 d m0)), (1, (ref15_Right_k11010011 d m0)), (0, (ref15_Right_k111 d))] (retK (rs 25))) m1
noncomputable def ref15_Right_k110100100110011 (d : Nat) (m0 : Nat) (m1 : Nat) : Kt := run (X d) NN (cd 25 [1, 1, 0, 1, 0, 0, 1, 0, 0, 1, 1, 0, 0, 1, 1]) (backK [(0, .sl), (3, .int .i64), (4, .int .i64)] (opq (ref15_Right_l110100100110 d m0 m1))) [(2, (ref15_Right_k11010011 d m0)), (1, (ref15_Right_k11010011 d m0)), (0, (ref15_Right_k111 d))] (retK (rs 25))
noncomputable def ref15_Right_p11010 (d : Nat) (m0 : Nat) (x0 : Sl) (x3 : Int) (H : Heap) : Res := opq (ref15_Right_l11010 d m0) [(0, x0.v), (3, .int .i64 x3)] H
noncomputable def ref15_Right_p11010010001 (d : Nat) (m0 : Nat) (x0 : Sl) (x3 : Int) (x45 : Bool) (H : Heap) : Res := opq (run (X d) NN (cd 25 [1, 1, 0, 1, 0, 0, 1, 0, 0, 0, 1, 0]) (ref15_Right_k1101001001 d m0) [(1, (ref15_Right_k11010011 d m0)), (0, (ref15_Right_k111 d))] (retK (rs 25))) [(0, x0.v), (3, .int .i64 x3), (45, .bool x45)] H
noncomputable def ref15_Right_p110100100110 (d : Nat) (m0 : Nat) (m1 : Nat) (x0 : Sl) (x3 : Int) (x4 : Int) (H : Heap) : Res := opq (ref15_Right_l110100100110 d m0 m1) [(0, x0.v), (3, .int .i64 x3), (4, .int .i64 x4)] H
noncomputable def ref15_Right_p11010010011001001 (d : Nat) (m0 : Nat) (m1 : Nat) (x0 : Sl) (x3 : Int) (x4 : Int) (x74 : Bool) (H : Heap) : Res := opq (run (X d) NN (cd 25 [1, 1, 0, 1, 0, 0, 1, 0, 0, 1, 1, 0, 0, 1, 0, 0, 1, 0]) (ref15_Right_k110100100110011 d m0 m1) [(3, (ref15_Right_k110100100110011 d m0 m1)), (2, (ref15_Right_k11010011 d m0)), (1, (ref15_Right_k11010011 d m0)), (0, (ref15_Right_k111 d))] (retK (rs 25))) [(0, x0.v), (3, .int .i64 x3), (4, .int .i64 x4), (74, .bool x74)] H
theorem ref15_Right_p11010_s (d : Nat) (m0 : Nat) (x0 : Sl) (x3 : Int) (H : Heap) : ref15_Right_p11010 d (m0 + 1) x0 x3 H =
  if (decide (x3 < (x0.n : Int))) = true then
  (optK x0.a fun a1 =>
    if 0 ≤ x3 ∧ x3 < (x0.n : Int) then
    optK (Heap.ld1 H (ap (ap a1 (((x3).toNat) * 35)) 0)) fun v2 =>
    asS v2 fun s3 =>
    callK (X d n_ref15_IsName [.string s3] H) fun v4 H5 =>
    asB v4 fun b6 =>
    if (!b6) = true then
    (ref15_Right_p11010010001 d m0 x0 x3 true H5)
    else
    (optK x0.a fun a7 =>
      if 0 ≤ x3 ∧ x3 < (x0.n : Int) then
      optK (Heap.ld1 H5 (ap (ap a7 (((x3).toNat) * 35)) 34)) fun v8 =>
      asS v8 fun s9 =>
      callK (X d n_ref15_isPattern [.string s9] H5) fun v10 H11 =>
      asB v10 fun b12 =>
      if (!b12) = true then
      (ref15_Right_p11010010001 d m0 x0 x3 true H11)
      else
      (optK x0.a fun a13 =>
        if 0 ≤ x3 ∧ x3 < (x0.n : Int) then
        optK (Heap.ld1 H11 (ap (ap a13 (((x3).toNat) * 35)) 33)) fun v14 =>
        asI .i64 v14 fun n15 =>
        if (decide (n15 < 1)) = true then
        (ref15_Right_p11010010001 d m0 x0 x3 true H11)
        else
        (optK x0.a fun a16 =>
          if 0 ≤ x3 ∧ x3 < (x0.n : Int) then
          optK (Heap.ld1 H11 (ap (ap a16 (((x3).toNat) * 35)) 33)) fun v17 =>
          asI .i64 v17 fun n18 =>
          ref15_Right_p11010010001 d m0 x0 x3 (decide ((7 : Int) < n18)) H11
          else none)
        else none)
      else none)
    else none)
  else
  (some (.bool true, H)) := (opq_app _ _ _).trans <| by kernel_rfl
theorem ref15_Right_p11010010001_eq (d : Nat) (m0 : Nat) (x0 : Sl) (x3 : Int) (x45 : Bool) (H : Heap) : ref15_Right_p11010010001 d m0 x0 x3 x45 H =
  if x45 = true then
  (some (.bool false, H))
  else
  (ref15_Right_p110100100110 d m0 NN x0 x3 0 H) := (opq_app _ _ _).trans <| by kernel_rfl
theorem ref15_Right_p110100100110_s (d : Nat) (m0 : Nat) (m1 : Nat) (x0 : Sl) (x3 : Int) (x4 : Int) (H : Heap) : ref15_Right_p110100100110 d m0 (m1 + 1) x0 x3 x4 H =
  if (decide (x4 < x3)) = true then
  (optK x0.a fun a1 =>
    if 0 ≤ x4 ∧ x4 < (x0.n : Int) then
    optK (ldA H (ap (ap a1 (((x4).toNat) * 35)) 1) 32) fun v2 =>
    asA v2 fun c3 =>
    optK x0.a fun a4 =>
    if 0 ≤ x3 ∧ x3 < (x0.n : Int) then
    optK (ldA H (ap (ap a4 (((x3).toNat) * 35)) 1) 32) fun v5 =>
    asA v5 fun c6 =>
    chk (Array.size c3 == 32 && Array.size c6 == 32) (optK (eqL [.int .u8, .int .u8, .int .u8, .int .u8, .int .u8, .int .u8, .int .u8, .int .u8, .int .u8, .int .u8, .int .u8, .int .u8, .int .u8, .int .u8, .int .u8, .int .u8, .int .u8, .int .u8, .int .u8, .int .u8, .int .u8, .int .u8, .int .u8, .int .u8, .int .u8, .int .u8, .int .u8, .int .u8, .int .u8, .int .u8, .int .u8, .int .u8] c3.toList c6.toList) fun b7 =>
      if b7 = true then
      (ref15_Right_p11010010011001001 d m0 m1 x0 x3 x4 true H)
      else
      (optK x0.a fun a8 =>
        if 0 ≤ x4 ∧ x4 < (x0.n : Int) then
        optK (Heap.ld1 H (ap (ap a8 (((x4).toNat) * 35)) 0)) fun v9 =>
        asS v9 fun s10 =>
        optK x0.a fun a11 =>
        if 0 ≤ x3 ∧ x3 < (x0.n : Int) then
        optK (Heap.ld1 H (ap (ap a11 (((x3).toNat) * 35)) 0)) fun v12 =>
        asS v12 fun s13 =>
        ref15_Right_p11010010011001001 d m0 m1 x0 x3 x4 (sEq s10 s13) H
        else none
        else none))
    else none
    else none)
  else
  (ref15_Right_p11010 d m0 x0 (IntKind.wrap .i64 (x3 + 1)) H) := (opq_app _ _ _).trans <| by kernel_rfl
theorem ref15_Right_p11010010011001001_eq (d : Nat) (m0 : Nat) (m1 : Nat) (x0 : Sl) (x3 : Int) (x4 : Int) (x74 : Bool) (H : Heap) : ref15_Right_p11010010011001001 d m0 m1 x0 x3 x4 x74 H =
  if x74 = true then
  (some (.bool false, H))
  else
  (ref15_Right_p110100100110 d m0 m1 x0 x3 (IntKind.wrap .i64 (x4 + 1)) H) := (opq_app _ _ _).trans <| by kernel_rfl
theorem ref15_Right_eq (d : Nat) (x0 : Sl) (H : Heap) : X (d + 1) n_ref15_Right [x0.v] H =
  if (decide ((20 : Int) < (x0.n : Int))) = true then
  (some (.bool false, H))
  else
  (ref15_Right_p11010 d NN x0 0 H) := by kernel_rfl
end Go.Proofs.YthphbdkhbaijlaaDoor.dec

namespace Go.Proofs.YthphbdkhbaijlaaDoor.dec
open Go Go.Cm
/-! porthole/portholeref15.IsName -/
noncomputable def ref15_IsName_k11 (d : Nat) : Kt := run (X d) NN (cd 35 [1, 1]) (retK (rs 35)) [] (retK (rs 35))
noncomputable def ref15_IsName_l1010 (d : Nat) (m0 : Nat) : Kt := iter (fun k => run (X d) NN (cd 35 [1, 0, 1, 0, 0]) (backK [(0, .str), (3, .int .i64)] (opq k)) [(0, (ref15_IsName_k11 d))] (retK (rs 35))) m0
noncomputable def ref15_IsName_p1010 (d : Nat) (m0 : Nat) (x0 : ByteArray) (x3 : Int) (H : Heap) : Res := opq (ref15_IsName_l1010 d m0) [(0, .string x0), (3, .int .i64 x3)] H
theorem ref15_IsName_p1010_s (d : Nat) (m0 : Nat) (x0 : ByteArray) (x3 : Int) (H : Heap) : ref15_IsName_p1010 d (m0 + 1) x0 x3 H =
  if (decide (x3 < (slen x0 : Int))) = true then
  (if 0 ≤ x3 ∧ x3 < (slen x0 : Int) then
    callK (X d n_ref15_plain [.int .u8 (bt x0 ((x3).toNat))] H) fun v1 H2 =>
    asB v1 fun b3 =>
    if (!b3) = true then
    (some (.bool false, H2))
    else
    (ref15_IsName_p1010 d m0 x0 (IntKind.wrap .i64 (x3 + 1)) H2)
    else none)
  else
  (if (decide ((1 : Int) ≤ (slen x0 : Int))) = true then
    (some (.bool (decide ((slen x0 : Int) ≤ 20)), H))
    else
    (some (.bool false, H))) := (opq_app _ _ _).trans <| by kernel_rfl
theorem ref15_IsName_eq (d : Nat) (x0 : ByteArray) (H : Heap) : X (d + 1) n_ref15_IsName [.string x0] H =
  ref15_IsName_p1010 d NN x0 0 H := by kernel_rfl
end Go.Proofs.YthphbdkhbaijlaaDoor.dec

namespace Go.Proofs.YthphbdkhbaijlaaDoor.dec
open Go Go.Cm
/-! porthole/portholeref15.isPattern -/
noncomputable def ref15_isPattern_k11 (d : Nat) : Kt := run (X d) NN (cd 36 [1, 1]) (retK (rs 36)) [] (retK (rs 36))
noncomputable def ref15_isPattern_l1010 (d : Nat) (m0 : Nat) : Kt := iter (fun k => run (X d) NN (cd 36 [1, 0, 1, 0, 0]) (backK [(0, .str), (3, .int .i64)] (opq k)) [(0, (ref15_isPattern_k11 d))] (retK (rs 36))) m0
noncomputable def ref15_isPattern_k1010011 (d : Nat) (m0 : Nat) : Kt := run (X d) NN (cd 36 [1, 0, 1, 0, 0, 1, 1]) (backK [(0, .str), (3, .int .i64)] (opq (ref15_isPattern_l1010 d m0))) [(0, (ref15_isPattern_k11 d))] (retK (rs 36))
noncomputable def ref15_isPattern_p1010 (d : Nat) (m0 : Nat) (x0 : ByteArray) (x3 : Int) (H : Heap) : Res := opq (ref15_isPattern_l1010 d m0) [(0, .string x0), (3, .int .i64 x3)] H
noncomputable def ref15_isPattern_p101001001 (d : Nat) (m0 : Nat) (x0 : ByteArray) (x3 : Int) (x26 : Bool) (H : Heap) : Res := opq (run (X d) NN (cd 36 [1, 0, 1, 0, 0, 1, 0, 0, 1, 0]) (ref15_isPattern_k1010011 d m0) [(1, (ref15_isPattern_k1010011 d m0)), (0, (ref15_isPattern_k11 d))] (retK (rs 36))) [(0, .string x0), (3, .int .i64 x3), (26, .bool x26)] H
theorem ref15_isPattern_p1010_s (d : Nat) (m0 : Nat) (x0 : ByteArray) (x3 : Int) (H : Heap) : ref15_isPattern_p1010 d (m0 + 1) x0 x3 H =
  if (decide (x3 < (slen x0 : Int))) = true then
  (if 0 ≤ x3 ∧ x3 < (slen x0 : Int) then
    callK (X d n_ref15_plain [.int .u8 (bt x0 ((x3).toNat))] H) fun v1 H2 =>
    asB v1 fun b3 =>
    if (!b3) = true then
    (if 0 ≤ x3 ∧ x3 < (slen x0 : Int) then
      if (!decide (bt x0 ((x3).toNat) = 42)) = true then
      (if 0 ≤ x3 ∧ x3 < (slen x0 : Int) then
        ref15_isPattern_p101001001 d m0 x0 x3 (!decide (bt x0 ((x3).toNat) = 63)) H2
        else none)
      else
      (ref15_isPattern_p101001001 d m0 x0 x3 false H2)
      else none)
    else
    (ref15_isPattern_p101001001 d m0 x0 x3 false H2)
    else none)
  else
  (if (decide ((1 : Int) ≤ (slen x0 : Int))) = true then
    (some (.bool (decide ((slen x0 : Int) ≤ 40)), H))
    else
    (some (.bool false, H))) := (opq_app _ _ _).trans <| by kernel_rfl
theorem ref15_isPattern_p101001001_eq (d : Nat) (m0 : Nat) (x0 : ByteArray) (x3 : Int) (x26 : Bool) (H : Heap) : ref15_isPattern_p101001001 d m0 x0 x3 x26 H =
  if x26 = true then
  (some (.bool false, H))
  else
  (ref15_isPattern_p1010 d m0 x0 (IntKind.wrap .i64 (x3 + 1)) H) := (opq_app _ _ _).trans <| by kernel_rfl
theorem ref15_isPattern_eq (d : Nat) (x0 : ByteArray) (H : Heap) : X (d + 1) n_ref15_isPattern [.string x0] H =
  ref15_isPattern_p1010 d NN x0 0 H := by kernel_rfl
end Go.Proofs.YthphbdkhbaijlaaDoor.dec

namespace Go.Proofs.YthphbdkhbaijlaaDoor.dec
open Go Go.Cm
/-! porthole/portholeref15.plain -/
theorem ref15_plain_eq (d : Nat) (x0 : Int) (H : Heap) : X (d + 1) n_ref15_plain [.int .u8 x0] H =
  if (decide ((97 : Int) ≤ x0)) = true then
  (if (decide (x0 ≤ 122)) = true then
    (some (.bool true, H))
    else
    (if (decide ((48 : Int) ≤ x0)) = true then
      (if (decide (x0 ≤ 57)) = true then
        (some (.bool true, H))
        else
        (some (.bool (decide (x0 = 45)), H)))
      else
      (some (.bool (decide (x0 = 45)), H))))
  else
  (if (decide ((48 : Int) ≤ x0)) = true then
    (if (decide (x0 ≤ 57)) = true then
      (some (.bool true, H))
      else
      (some (.bool (decide (x0 = 45)), H)))
    else
    (some (.bool (decide (x0 = 45)), H))) := by kernel_rfl
end Go.Proofs.YthphbdkhbaijlaaDoor.dec

namespace Go.Proofs.YthphbdkhbaijlaaDoor.dec
open Go Go.Cm
/-! porthole/keys.Print -/
noncomputable def keys_Print_k1111 (d : Nat) : Kt := run (X d) NN (cd 23 [1, 1, 1, 1]) (retK (rs 23)) [] (retK (rs 23))
noncomputable def keys_Print_l111010 (d : Nat) (m0 : Nat) : Kt := iter (fun k => run (X d) NN (cd 23 [1, 1, 1, 0, 1, 0, 0]) (backK [(4, .any), (13, .sl), (14, .int .i64), (15, .int .i64)] (opq k)) [(0, (keys_Print_k1111 d))] (retK (rs 23))) m0
noncomputable def keys_Print_k1110100111 (d : Nat) (m0 : Nat) : Kt := run (X d) NN (cd 23 [1, 1, 1, 0, 1, 0, 0, 1, 1, 1]) (backK [(4, .any), (13, .sl), (14, .int .i64), (15, .int .i64)] (opq (keys_Print_l111010 d m0))) [(0, (keys_Print_k1111 d))] (retK (rs 23))
noncomputable def keys_Print_k1110100110011 (d : Nat) (m0 : Nat) : Kt := run (X d) NN (cd 23 [1, 1, 1, 0, 1, 0, 0, 1, 1, 0, 0, 1, 1]) (keys_Print_k1110100111 d m0) [(1, (keys_Print_k1110100111 d m0)), (0, (keys_Print_k1111 d))] (retK (rs 23))
noncomputable def keys_Print_k111010011001111 (d : Nat) (m0 : Nat) : Kt := run (X d) NN (cd 23 [1, 1, 1, 0, 1, 0, 0, 1, 1, 0, 0, 1, 1, 1, 1]) (keys_Print_k1110100111 d m0) [(1, (keys_Print_k1110100111 d m0)), (0, (keys_Print_k1111 d))] (retK (rs 23))
noncomputable def keys_Print_l11101001100111010 (d : Nat) (m0 : Nat) (m1 : Nat) : Kt := iter (fun k => run (X d) NN (cd 23 [1, 1, 1, 0, 1, 0, 0, 1, 1, 0, 0, 1, 1, 1, 0, 1, 0, 0]) (backK [(4, .any), (6, .any), (13, .sl), (14, .int .i64), (15, .int .i64), (34, .agg), (35, .int .i64)] (opq k)) [(4, (keys_Print_k111010011001111 d m0)), (1, (keys_Print_k1110100111 d m0)), (0, (keys_Print_k1111 d))] (retK (rs 23))) m1
noncomputable def keys_Print_l111010011001010 (d : Nat) (m0 : Nat) (m1 : Nat) : Kt := iter (fun k => run (X d) NN (cd 23 [1, 1, 1, 0, 1, 0, 0, 1, 1, 0, 0, 1, 0, 1, 0, 0]) (backK [(4, .any), (6, .any), (13, .sl), (14, .int .i64), (15, .int .i64), (19, .int .i64)] (opq k)) [(2, (keys_Print_k1110100110011 d m0)), (1, (keys_Print_k1110100111 d m0)), (0, (keys_Print_k1111 d))] (retK (rs 23))) m1
noncomputable def keys_Print_p111010 (d : Nat) (m0 : Nat) (x4 : Nat) (x13 : Sl) (x14 : Int) (x15 : Int) (H : Heap) : Res := opq (keys_Print_l111010 d m0) [(4, P0 x4), (13, x13.v), (14, .int .i64 x14), (15, .int .i64 x15)] H
noncomputable def keys_Print_p111010011001010 (d : Nat) (m0 : Nat) (m1 : Nat) (x4 : Nat) (x6 : Nat) (x13 : Sl) (x14 : Int) (x15 : Int) (x19 : Int) (H : Heap) : Res := opq (keys_Print_l111010011001010 d m0 m1) [(4, P0 x4), (6, P0 x6), (13, x13.v), (14, .int .i64 x14), (15, .int .i64 x15), (19, .int .i64 x19)] H
noncomputable def keys_Print_p1110100110010100111 (d : Nat) (m0 : Nat) (m1 : Nat) (x4 : Nat) (x6 : Nat) (x13 : Sl) (x14 : Int) (x15 : Int) (x19 : Int) (H : Heap) : Res := opq (run (X d) NN (cd 23 [1, 1, 1, 0, 1, 0, 0, 1, 1, 0, 0, 1, 0, 1, 0, 0, 1, 1, 1, 0]) (backK [(4, .any), (6, .any), (13, .sl), (14, .int .i64), (15, .int .i64), (19, .int .i64)] (opq (keys_Print_l111010011001010 d m0 m1))) [(2, (keys_Print_k1110100110011 d m0)), (1, (keys_Print_k1110100111 d m0)), (0, (keys_Print_k1111 d))] (retK (rs 23))) [(4, P0 x4), (6, P0 x6), (13, x13.v), (14, .int .i64 x14), (15, .int .i64 x15), (19, .int .i64 x19)] H
noncomputable def keys_Print_p11101001100111010 (d : Nat) (m0 : Nat) (m1 : Nat) (x4 : Nat) (x6 : Nat) (x13 : Sl) (x14 : Int) (x15 : Int) (x34 : Array Value) (x35 : Int) (H : Heap) : Res := opq (keys_Print_l11101001100111010 d m0 m1) [(4, P0 x4), (6, P0 x6), (13, x13.v), (14, .int .i64 x14), (15, .int .i64 x15), (34, .agg x34), (35, .int .i64 x35)] H
theorem keys_Print_p111010_s (d : Nat) (m0 : Nat) (x4 : Nat) (x13 : Sl) (x14 : Int) (x15 : Int) (H : Heap) : keys_Print_p111010 d (m0 + 1) x4 x13 x14 x15 H =
  if (decide (x15 < x14)) = true then
  (optK x13.a fun a1 =>
    if 0 ≤ x15 ∧ x15 < (x13.n : Int) then
    optK (ldA H (ap a1 (((x15).toNat) * 35)) 35) fun v2 =>
    asA v2 fun c3 =>
    newK H (.cells [.string (S []), .int .u8 0, .int .u8 0, .int .u8 0, .int .u8 0, .int .u8 0, .int .u8 0, .int .u8 0, .int .u8 0, .int .u8 0, .int .u8 0, .int .u8 0, .int .u8 0, .int .u8 0, .int .u8 0, .int .u8 0, .int .u8 0, .int .u8 0, .int .u8 0, .int .u8 0, .int .u8 0, .int .u8 0, .int .u8 0, .int .u8 0, .int .u8 0, .int .u8 0, .int .u8 0, .int .u8 0, .int .u8 0, .int .u8 0, .int .u8 0, .int .u8 0, .int .u8 0, .int .i64 0, .string (S [])] t_api_Key false 0 false) fun p4 H5 =>
    effK (.store 35) [P0 p4, .agg c3] H5 fun _ H7 =>
    keys_Print_p111010011001010 d m0 NN x4 p4 x13 x14 x15 0 H7
    else none)
  else
  (callK (X d n_strings_Builder_String [P0 x4] H) fun v8 H9 =>
    asS v8 fun s10 =>
    some (.tuple #[.string s10, .int .i64 0], H9)) := (opq_app _ _ _).trans <| by kernel_rfl
theorem keys_Print_p111010011001010_s (d : Nat) (m0 : Nat) (m1 : Nat) (x4 : Nat) (x6 : Nat) (x13 : Sl) (x14 : Int) (x15 : Int) (x19 : Int) (H : Heap) : keys_Print_p111010011001010 d m0 (m1 + 1) x4 x6 x13 x14 x15 x19 H =
  if (decide (x19 < 3)) = true then
  (optK (Heap.ld1 H ⟨x6, 33, none⟩) fun v1 =>
    asI .i64 v1 fun n2 =>
    if x19 < 0 then none else
    if (!decide (bitsI .and .i64 n2 (IntKind.wrap .i64 (1 * 2 ^ (min (x19).toNat (IntKind.bits .i64)))) = 0)) = true then
    (if 0 ≤ x19 ∧ x19 < (slen (S [115, 116, 114]) : Int) then
      callK (X d n_strings_Builder_WriteByte [P0 x4, .int .u8 (bt (S [115, 116, 114]) ((x19).toNat))] H) fun _ H4 =>
      keys_Print_p1110100110010100111 d m0 m1 x4 x6 x13 x14 x15 x19 H4
      else none)
    else
    (keys_Print_p1110100110010100111 d m0 m1 x4 x6 x13 x14 x15 x19 H))
  else
  (callK (X d n_strings_Builder_WriteByte [P0 x4, .int .u8 32] H) fun _ H6 =>
    optK (ldA H6 ⟨x6, 1, none⟩ 32) fun v7 =>
    asA v7 fun c8 =>
    keys_Print_p11101001100111010 d m0 NN x4 x6 x13 x14 x15 c8 0 H6) := (opq_app _ _ _).trans <| by kernel_rfl
theorem keys_Print_p1110100110010100111_eq (d : Nat) (m0 : Nat) (m1 : Nat) (x4 : Nat) (x6 : Nat) (x13 : Sl) (x14 : Int) (x15 : Int) (x19 : Int) (H : Heap) : keys_Print_p1110100110010100111 d m0 m1 x4 x6 x13 x14 x15 x19 H =
  keys_Print_p111010011001010 d m0 m1 x4 x6 x13 x14 x15 (IntKind.wrap .i64 (x19 + 1)) H := (opq_app _ _ _).trans <| by kernel_rfl
theorem keys_Print_p11101001100111010_s (d : Nat) (m0 : Nat) (m1 : Nat) (x4 : Nat) (x6 : Nat) (x13 : Sl) (x14 : Int) (x15 : Int) (x34 : Array Value) (x35 : Int) (H : Heap) : keys_Print_p11101001100111010 d m0 (m1 + 1) x4 x6 x13 x14 x15 x34 x35 H =
  if (decide (x35 < 32)) = true then
  (if 0 ≤ x35 ∧ x35 < 32 then
    optK (partL x34.toList (((x35).toNat) * 1) 1 false) fun v1 =>
    asI .u8 v1 fun n2 =>
    if 0 ≤ Int.fdiv n2 16 ∧ Int.fdiv n2 16 < (slen (S [48, 49, 50, 51, 52, 53, 54, 55, 56, 57, 97, 98, 99, 100, 101, 102]) : Int) then
    callK (X d n_strings_Builder_WriteByte [P0 x4, .int .u8 (bt (S [48, 49, 50, 51, 52, 53, 54, 55, 56, 57, 97, 98, 99, 100, 101, 102]) ((Int.fdiv n2 16).toNat))] H) fun _ H4 =>
    if 0 ≤ bitsI .and .u8 n2 15 ∧ bitsI .and .u8 n2 15 < (slen (S [48, 49, 50, 51, 52, 53, 54, 55, 56, 57, 97, 98, 99, 100, 101, 102]) : Int) then
    callK (X d n_strings_Builder_WriteByte [P0 x4, .int .u8 (bt (S [48, 49, 50, 51, 52, 53, 54, 55, 56, 57, 97, 98, 99, 100, 101, 102]) ((bitsI .and .u8 n2 15).toNat))] H4) fun _ H6 =>
    keys_Print_p11101001100111010 d m0 m1 x4 x6 x13 x14 x15 x34 (IntKind.wrap .i64 (x35 + 1)) H6
    else none
    else none
    else none)
  else
  (optK (Heap.ld1 H ⟨x6, 34, none⟩) fun v7 =>
    asS v7 fun s8 =>
    if slen (S [32]) + slen s8 ≤ 9223372036854775807 then
    if slen (sCat (S [32]) s8) + slen (S [32]) ≤ 9223372036854775807 then
    optK (Heap.ld1 H ⟨x6, 0, none⟩) fun v9 =>
    asS v9 fun s10 =>
    if slen (sCat (sCat (S [32]) s8) (S [32])) + slen s10 ≤ 9223372036854775807 then
    if slen (sCat (sCat (sCat (S [32]) s8) (S [32])) s10) + slen (S [10]) ≤ 9223372036854775807 then
    callK (X d n_strings_Builder_WriteString [P0 x4, .string (sCat (sCat (sCat (sCat (S [32]) s8) (S [32])) s10) (S [10]))] H) fun v11 H12 =>
    castT [.int .i64, .any] v11 fun _ =>
    keys_Print_p111010 d m0 x4 x13 x14 (IntKind.wrap .i64 (x15 + 1)) H12
    else none
    else none
    else none
    else none) := (opq_app _ _ _).trans <| by kernel_rfl
theorem keys_Print_eq (d : Nat) (x0 : Sl) (H : Heap) : X (d + 1) n_keys_Print [x0.v] H =
  callK (X d n_keys_Right [x0.v] H) fun v1 H2 =>
  asB v1 fun b3 =>
  if (!b3) = true then
  (some (.tuple #[.string (S []), .int .i64 1], H2))
  else
  (newK H2 (.cells [.pointer none, .slice none 0 0] t_strings_Builder false 0 false) fun p4 H5 =>
    keys_Print_p111010 d NN p4 x0 (x0.n : Int) 0 H5) := by kernel_rfl
end Go.Proofs.YthphbdkhbaijlaaDoor.dec

namespace Go.Proofs.YthphbdkhbaijlaaDoor.dec
open Go Go.Cm
/-! porthole/portholeref15.Print -/
noncomputable def ref15_Print_k1111 (d : Nat) : Kt := run (X d) NN (cd 24 [1, 1, 1, 1]) (retK (rs 24)) [] (retK (rs 24))
noncomputable def ref15_Print_l111010 (d : Nat) (m0 : Nat) : Kt := iter (fun k => run (X d) NN (cd 24 [1, 1, 1, 0, 1, 0, 0]) (backK [(0, .sl), (4, .str), (5, .int .i64)] (opq k)) [(0, (ref15_Print_k1111 d))] (retK (rs 24))) m0
noncomputable def ref15_Print_k111010011 (d : Nat) (m0 : Nat) : Kt := run (X d) NN (cd 24 [1, 1, 1, 0, 1, 0, 0, 1, 1]) (backK [(0, .sl), (4, .str), (5, .int .i64)] (opq (ref15_Print_l111010 d m0))) [(0, (ref15_Print_k1111 d))] (retK (rs 24))
noncomputable def ref15_Print_k111010010011 (d : Nat) (m0 : Nat) : Kt := run (X d) NN (cd 24 [1, 1, 1, 0, 1, 0, 0, 1, 0, 0, 1, 1]) (ref15_Print_k111010011 d m0) [(1, (ref15_Print_k111010011 d m0)), (0, (ref15_Print_k1111 d))] (retK (rs 24))
noncomputable def ref15_Print_l11101001001010 (d : Nat) (m0 : Nat) (m1 : Nat) : Kt := iter (fun k => run (X d) NN (cd 24 [1, 1, 1, 0, 1, 0, 0, 1, 0, 0, 1, 0, 1, 0, 0]) (backK [(0, .sl), (4, .str), (5, .int .i64), (6, .int .i64)] (opq k)) [(2, (ref15_Print_k111010010011 d m0)), (1, (ref15_Print_k111010011 d m0)), (0, (ref15_Print_k1111 d))] (retK (rs 24))) m1
noncomputable def ref15_Print_p111010 (d : Nat) (m0 : Nat) (x0 : Sl) (x4 : ByteArray) (x5 : Int) (H : Heap) : Res := opq (ref15_Print_l111010 d m0) [(0, x0.v), (4, .string x4), (5, .int .i64 x5)] H
noncomputable def ref15_Print_p11101001001010 (d : Nat) (m0 : Nat) (m1 : Nat) (x0 : Sl) (x4 : ByteArray) (x5 : Int) (x6 : Int) (H : Heap) : Res := opq (ref15_Print_l11101001001010 d m0 m1) [(0, x0.v), (4, .string x4), (5, .int .i64 x5), (6, .int .i64 x6)] H
theorem ref15_Print_p111010_s (d : Nat) (m0 : Nat) (x0 : Sl) (x4 : ByteArray) (x5 : Int) (H : Heap) : ref15_Print_p111010 d (m0 + 1) x0 x4 x5 H =
  if (decide (x5 < (x0.n : Int))) = true then
  (optK x0.a fun a1 =>
    if 0 ≤ x5 ∧ x5 < (x0.n : Int) then
    optK (Heap.ld1 H (ap (ap a1 (((x5).toNat) * 35)) 33)) fun v2 =>
    asI .i64 v2 fun n3 =>
    if 0 ≤ n3 ∧ n3 < 8 then
    optK (partL [.string (S []), .string (S [115]), .string (S [116]), .string (S [115, 116]), .string (S [114]), .string (S [115, 114]), .string (S [116, 114]), .string (S [115, 116, 114])] (((n3).toNat) * 1) 1 false) fun v4 =>
    asS v4 fun s5 =>
    if slen x4 + slen s5 ≤ 9223372036854775807 then
    if slen (sCat x4 s5) + slen (S [32]) ≤ 9223372036854775807 then
    ref15_Print_p11101001001010 d m0 NN x0 (sCat (sCat x4 s5) (S [32])) x5 0 H
    else none
    else none
    else none
    else none)
  else
  (some (.tuple #[.string x4, .int .i64 0], H)) := (opq_app _ _ _).trans <| by kernel_rfl
theorem ref15_Print_p11101001001010_s (d : Nat) (m0 : Nat) (m1 : Nat) (x0 : Sl) (x4 : ByteArray) (x5 : Int) (x6 : Int) (H : Heap) : ref15_Print_p11101001001010 d m0 (m1 + 1) x0 x4 x5 x6 H =
  if (decide (x6 < 32)) = true then
  (optK x0.a fun a1 =>
    if 0 ≤ x5 ∧ x5 < (x0.n : Int) then
    if 0 ≤ x6 ∧ x6 < 32 then
    optK (Heap.ld1 H (ap (ap (ap a1 (((x5).toNat) * 35)) 1) (((x6).toNat) * 1))) fun v2 =>
    asI .u8 v2 fun n3 =>
    if 0 ≤ IntKind.wrap .i64 (Int.tdiv (IntKind.wrap .i64 n3) 16) ∧ IntKind.wrap .i64 (Int.tdiv (IntKind.wrap .i64 n3) 16) ≤ IntKind.wrap .i64 ((IntKind.wrap .i64 (Int.tdiv (IntKind.wrap .i64 n3) 16)) + 1) ∧ IntKind.wrap .i64 ((IntKind.wrap .i64 (Int.tdiv (IntKind.wrap .i64 n3) 16)) + 1) ≤ (slen (S [48, 49, 50, 51, 52, 53, 54, 55, 56, 57, 97, 98, 99, 100, 101, 102]) : Int) then
    if slen x4 + slen (sSub (S [48, 49, 50, 51, 52, 53, 54, 55, 56, 57, 97, 98, 99, 100, 101, 102]) ((IntKind.wrap .i64 (Int.tdiv (IntKind.wrap .i64 n3) 16)).toNat) ((IntKind.wrap .i64 ((IntKind.wrap .i64 (Int.tdiv (IntKind.wrap .i64 n3) 16)) + 1)).toNat)) ≤ 9223372036854775807 then
    if 0 ≤ Int.tmod (IntKind.wrap .i64 n3) 16 ∧ Int.tmod (IntKind.wrap .i64 n3) 16 ≤ IntKind.wrap .i64 ((Int.tmod (IntKind.wrap .i64 n3) 16) + 1) ∧ IntKind.wrap .i64 ((Int.tmod (IntKind.wrap .i64 n3) 16) + 1) ≤ (slen (S [48, 49, 50, 51, 52, 53, 54, 55, 56, 57, 97, 98, 99, 100, 101, 102]) : Int) then
    if slen (sCat x4 (sSub (S [48, 49, 50, 51, 52, 53, 54, 55, 56, 57, 97, 98, 99, 100, 101, 102]) ((IntKind.wrap .i64 (Int.tdiv (IntKind.wrap .i64 n3) 16)).toNat) ((IntKind.wrap .i64 ((IntKind.wrap .i64 (Int.tdiv (IntKind.wrap .i64 n3) 16)) + 1)).toNat))) + slen (sSub (S [48, 49, 50, 51, 52, 53, 54, 55, 56, 57, 97, 98, 99, 100, 101, 102]) ((Int.tmod (IntKind.wrap .i64 n3) 16).toNat) ((IntKind.wrap .i64 ((Int.tmod (IntKind.wrap .i64 n3) 16) + 1)).toNat)) ≤ 9223372036854775807 then
    ref15_Print_p11101001001010 d m0 m1 x0 (sCat (sCat x4 (sSub (S [48, 49, 50, 51, 52, 53, 54, 55, 56, 57, 97, 98, 99, 100, 101, 102]) ((IntKind.wrap .i64 (Int.tdiv (IntKind.wrap .i64 n3) 16)).toNat) ((IntKind.wrap .i64 ((IntKind.wrap .i64 (Int.tdiv (IntKind.wrap .i64 n3) 16)) + 1)).toNat))) (sSub (S [48, 49, 50, 51, 52, 53, 54, 55, 56, 57, 97, 98, 99, 100, 101, 102]) ((Int.tmod (IntKind.wrap .i64 n3) 16).toNat) ((IntKind.wrap .i64 ((Int.tmod (IntKind.wrap .i64 n3) 16) + 1)).toNat))) x5 (IntKind.wrap .i64 (x6 + 1)) H
    else none
    else none
    else none
    else none
    else none
    else none)
  else
  (if slen x4 + slen (S [32]) ≤ 9223372036854775807 then
    optK x0.a fun a4 =>
    if 0 ≤ x5 ∧ x5 < (x0.n : Int) then
    optK (Heap.ld1 H (ap (ap a4 (((x5).toNat) * 35)) 34)) fun v5 =>
    asS v5 fun s6 =>
    if slen (sCat x4 (S [32])) + slen s6 ≤ 9223372036854775807 then
    if slen (sCat (sCat x4 (S [32])) s6) + slen (S [32]) ≤ 9223372036854775807 then
    optK x0.a fun a7 =>
    if 0 ≤ x5 ∧ x5 < (x0.n : Int) then
    optK (Heap.ld1 H (ap (ap a7 (((x5).toNat) * 35)) 0)) fun v8 =>
    asS v8 fun s9 =>
    if slen (sCat (sCat (sCat x4 (S [32])) s6) (S [32])) + slen s9 ≤ 9223372036854775807 then
    if slen (sCat (sCat (sCat (sCat x4 (S [32])) s6) (S [32])) s9) + slen (S [10]) ≤ 9223372036854775807 then
    ref15_Print_p111010 d m0 x0 (sCat (sCat (sCat (sCat (sCat x4 (S [32])) s6) (S [32])) s9) (S [10])) (IntKind.wrap .i64 (x5 + 1)) H
    else none
    else none
    else none
    else none
    else none
    else none
    else none) := (opq_app _ _ _).trans <| by kernel_rfl
theorem ref15_Print_eq (d : Nat) (x0 : Sl) (H : Heap) : X (d + 1) n_ref15_Print [x0.v] H =
  callK (X d n_ref15_Right [x0.v] H) fun v1 H2 =>
  asB v1 fun b3 =>
  if (!b3) = true then
  (some (.tuple #[.string (S []), .int .i64 1], H2))
  else
  (ref15_Print_p111010 d NN x0 (S []) 0 H2) := by kernel_rfl
end Go.Proofs.YthphbdkhbaijlaaDoor.dec

namespace Go.Proofs.YthphbdkhbaijlaaDoor.dec
open Go Go.Cm
/-! porthole/portholeref15.split -/
noncomputable def ref15_split_k1111 (d : Nat) : Kt := run (X d) NN (cd 39 [1, 1, 1, 1]) (retK (rs 39)) [] (retK (rs 39))
noncomputable def ref15_split_l111010 (d : Nat) (m0 : Nat) : Kt := iter (fun k => run (X d) NN (cd 39 [1, 1, 1, 0, 1, 0, 0]) (backK [(0, .str), (1, .int .u8), (5, .sl), (6, .int .i64), (7, .int .i64)] (opq k)) [(0, (ref15_split_k1111 d))] (retK (rs 39))) m0
noncomputable def ref15_split_k111010011 (d : Nat) (m0 : Nat) : Kt := run (X d) NN (cd 39 [1, 1, 1, 0, 1, 0, 0, 1, 1]) (backK [(0, .str), (1, .int .u8), (5, .sl), (6, .int .i64), (7, .int .i64)] (opq (ref15_split_l111010 d m0))) [(0, (ref15_split_k1111 d))] (retK (rs 39))
noncomputable def ref15_split_p111010 (d : Nat) (m0 : Nat) (x0 : ByteArray) (x1 : Int) (x5 : Sl) (x6 : Int) (x7 : Int) (H : Heap) : Res := opq (ref15_split_l111010 d m0) [(0, .string x0), (1, .int .u8 x1), (5, x5.v), (6, .int .i64 x6), (7, .int .i64 x7)] H
noncomputable def ref15_split_p11101001001 (d : Nat) (m0 : Nat) (x0 : ByteArray) (x1 : Int) (x5 : Sl) (x6 : Int) (x7 : Int) (x24 : Bool) (H : Heap) : Res := opq (run (X d) NN (cd 39 [1, 1, 1, 0, 1, 0, 0, 1, 0, 0, 1, 0]) (ref15_split_k111010011 d m0) [(1, (ref15_split_k111010011 d m0)), (0, (ref15_split_k1111 d))] (retK (rs 39))) [(0, .string x0), (1, .int .u8 x1), (5, x5.v), (6, .int .i64 x6), (7, .int .i64 x7), (24, .bool x24)] H
noncomputable def ref15_split_p111010011 (d : Nat) (m0 : Nat) (x0 : ByteArray) (x1 : Int) (x5 : Sl) (x6 : Int) (x7 : Int) (H : Heap) : Res := opq (run (X d) NN (cd 39 [1, 1, 1, 0, 1, 0, 0, 1, 1, 0]) (backK [(0, .str), (1, .int .u8), (5, .sl), (6, .int .i64), (7, .int .i64)] (opq (ref15_split_l111010 d m0))) [(0, (ref15_split_k1111 d))] (retK (rs 39))) [(0, .string x0), (1, .int .u8 x1), (5, x5.v), (6, .int .i64 x6), (7, .int .i64 x7)] H
theorem ref15_split_p111010_s (d : Nat) (m0 : Nat) (x0 : ByteArray) (x1 : Int) (x5 : Sl) (x6 : Int) (x7 : Int) (H : Heap) : ref15_split_p111010 d (m0 + 1) x0 x1 x5 x6 x7 H =
  if (decide (x7 ≤ (slen x0 : Int))) = true then
  (if (decide (x7 = (slen x0 : Int))) = true then
    (ref15_split_p11101001001 d m0 x0 x1 x5 x6 x7 true H)
    else
    (if 0 ≤ x7 ∧ x7 < (slen x0 : Int) then
      ref15_split_p11101001001 d m0 x0 x1 x5 x6 x7 (decide (bt x0 ((x7).toNat) = x1)) H
      else none))
  else
  (some (x5.v, H)) := (opq_app _ _ _).trans <| by kernel_rfl
theorem ref15_split_p11101001001_eq (d : Nat) (m0 : Nat) (x0 : ByteArray) (x1 : Int) (x5 : Sl) (x6 : Int) (x7 : Int) (x24 : Bool) (H : Heap) : ref15_split_p11101001001 d m0 x0 x1 x5 x6 x7 x24 H =
  if x24 = true then
  (if 0 ≤ x6 ∧ x6 ≤ x7 ∧ x7 ≤ (slen x0 : Int) then
    newK H (.cells [.string (sSub x0 ((x6).toNat) ((x7).toNat))] t_string false 0 false) fun p1 H2 =>
    appendK t_string 1 16 false x5.v (.slice (some ⟨p1, 0, none⟩) 1 1) H2 fun v3 H4 =>
    asSL v3 fun l5 =>
    ref15_split_p111010011 d m0 x0 x1 l5 (IntKind.wrap .i64 (x7 + 1)) x7 H4
    else none)
  else
  (ref15_split_p111010011 d m0 x0 x1 x5 x6 x7 H) := (opq_app _ _ _).trans <| by kernel_rfl
theorem ref15_split_p111010011_eq (d : Nat) (m0 : Nat) (x0 : ByteArray) (x1 : Int) (x5 : Sl) (x6 : Int) (x7 : Int) (H : Heap) : ref15_split_p111010011 d m0 x0 x1 x5 x6 x7 H =
  ref15_split_p111010 d m0 x0 x1 x5 x6 (IntKind.wrap .i64 (x7 + 1)) H := (opq_app _ _ _).trans <| by kernel_rfl
theorem ref15_split_eq (d : Nat) (x0 : ByteArray) (x1 : Int) (H : Heap) : X (d + 1) n_ref15_split [.string x0, .int .u8 x1] H =
  ref15_split_p111010 d NN x0 x1 Sl.nil 0 0 H := by kernel_rfl
end Go.Proofs.YthphbdkhbaijlaaDoor.dec

namespace Go.Proofs.YthphbdkhbaijlaaDoor.dec
open Go Go.Cm
/-! porthole/portholeref15.hex -/
noncomputable def ref15_hex_k11 (d : Nat) : Kt := run (X d) NN (cd 54 [1, 1]) (retK (rs 54)) [] (retK (rs 54))
noncomputable def ref15_hex_p1001 (d : Nat) (x0 : Int) (x3 : Bool) (H : Heap) : Res := opq (run (X d) NN (cd 54 [1, 0, 0, 1, 0]) (ref15_hex_k11 d) [(0, (ref15_hex_k11 d))] (retK (rs 54))) [(0, .int .u8 x0), (3, .bool x3)] H
noncomputable def ref15_hex_p1001011 (d : Nat) (x0 : Int) (x13 : Bool) (H : Heap) : Res := opq (run (X d) NN (cd 54 [1, 0, 0, 1, 0, 1, 1, 0]) (ref15_hex_k11 d) [(0, (ref15_hex_k11 d))] (retK (rs 54))) [(0, .int .u8 x0), (13, .bool x13)] H
theorem ref15_hex_p1001_eq (d : Nat) (x0 : Int) (x3 : Bool) (H : Heap) : ref15_hex_p1001 d x0 x3 H =
  if x3 = true then
  (some (.int .i64 (IntKind.wrap .i64 (IntKind.wrap .u8 (x0 - 48))), H))
  else
  (if (decide ((97 : Int) ≤ x0)) = true then
    (ref15_hex_p1001011 d x0 (decide (x0 ≤ 102)) H)
    else
    (ref15_hex_p1001011 d x0 false H)) := (opq_app _ _ _).trans <| by kernel_rfl
theorem ref15_hex_p1001011_eq (d : Nat) (x0 : Int) (x13 : Bool) (H : Heap) : ref15_hex_p1001011 d x0 x13 H =
  if x13 = true then
  (some (.int .i64 (IntKind.wrap .i64 ((IntKind.wrap .i64 (IntKind.wrap .u8 (x0 - 97))) + 10)), H))
  else
  (some (.int .i64 (-1), H)) := (opq_app _ _ _).trans <| by kernel_rfl
theorem ref15_hex_eq (d : Nat) (x0 : Int) (H : Heap) : X (d + 1) n_ref15_hex [.int .u8 x0] H =
  if (decide ((48 : Int) ≤ x0)) = true then
  (ref15_hex_p1001 d x0 (decide (x0 ≤ 57)) H)
  else
  (ref15_hex_p1001 d x0 false H) := by kernel_rfl
end Go.Proofs.YthphbdkhbaijlaaDoor.dec

namespace Go.Proofs.YthphbdkhbaijlaaDoor.dec
open Go Go.Cm
/-! porthole/keys.Parse -/
noncomputable def keys_Parse_k111 (d : Nat) : Kt := run (X d) NN (cd 26 [1, 1, 1]) (retK (rs 26)) [] (retK (rs 26))
noncomputable def keys_Parse_l11010 (d : Nat) (m0 : Nat) : Kt := iter (fun k => run (X d) NN (cd 26 [1, 1, 0, 1, 0, 0]) (backK [(5, .sl), (11, .sl), (12, .int .i64), (13, .int .i64)] (opq k)) [(0, (keys_Parse_k111 d))] (retK (rs 26))) m0
noncomputable def keys_Parse_k110100111 (d : Nat) (m0 : Nat) : Kt := run (X d) NN (cd 26 [1, 1, 0, 1, 0, 0, 1, 1, 1]) (backK [(5, .sl), (11, .sl), (12, .int .i64), (13, .int .i64)] (opq (keys_Parse_l11010 d m0))) [(0, (keys_Parse_k111 d))] (retK (rs 26))
noncomputable def keys_Parse_k110100110011 (d : Nat) (m0 : Nat) : Kt := run (X d) NN (cd 26 [1, 1, 0, 1, 0, 0, 1, 1, 0, 0, 1, 1]) (keys_Parse_k110100111 d m0) [(1, (keys_Parse_k110100111 d m0)), (0, (keys_Parse_k111 d))] (retK (rs 26))
noncomputable def keys_Parse_p11010 (d : Nat) (m0 : Nat) (x5 : Sl) (x11 : Sl) (x12 : Int) (x13 : Int) (H : Heap) : Res := opq (keys_Parse_l11010 d m0) [(5, x5.v), (11, x11.v), (12, .int .i64 x12), (13, .int .i64 x13)] H
noncomputable def keys_Parse_p1101001100101 (d : Nat) (m0 : Nat) (x5 : Sl) (x6 : Int) (x7 : ByteArray) (x11 : Sl) (x12 : Int) (x13 : Int) (x24 : Bool) (H : Heap) : Res := opq (run (X d) NN (cd 26 [1, 1, 0, 1, 0, 0, 1, 1, 0, 0, 1, 0, 1, 0]) (keys_Parse_k110100110011 d m0) [(1, (keys_Parse_k110100111 d m0)), (0, (keys_Parse_k111 d))] (retK (rs 26))) [(5, x5.v), (6, .int .i64 x6), (7, .string x7), (11, x11.v), (12, .int .i64 x12), (13, .int .i64 x13), (24, .bool x24)] H
noncomputable def keys_Parse_p110100111 (d : Nat) (m0 : Nat) (x5 : Sl) (x11 : Sl) (x12 : Int) (x13 : Int) (H : Heap) : Res := opq (run (X d) NN (cd 26 [1, 1, 0, 1, 0, 0, 1, 1, 1, 0]) (backK [(5, .sl), (11, .sl), (12, .int .i64), (13, .int .i64)] (opq (keys_Parse_l11010 d m0))) [(0, (keys_Parse_k111 d))] (retK (rs 26))) [(5, x5.v), (11, x11.v), (12, .int .i64 x12), (13, .int .i64 x13)] H
theorem keys_Parse_p11010_s (d : Nat) (m0 : Nat) (x5 : Sl) (x11 : Sl) (x12 : Int) (x13 : Int) (H : Heap) : keys_Parse_p11010 d (m0 + 1) x5 x11 x12 x13 H =
  if (decide (x13 < x12)) = true then
  (optK x11.a fun a1 =>
    if 0 ≤ x13 ∧ x13 < (x11.n : Int) then
    optK (Heap.ld1 H (ap a1 (((x13).toNat) * 1))) fun v2 =>
    asS v2 fun s3 =>
    if (sEq s3 (S [])) = true then
    (keys_Parse_p1101001100101 d m0 x5 x13 s3 x11 x12 x13 true H)
    else
    (if 0 ≤ (0 : Int) ∧ (0 : Int) < (slen s3 : Int) then
      keys_Parse_p1101001100101 d m0 x5 x13 s3 x11 x12 x13 (decide (bt s3 0 = 35)) H
      else none)
    else none)
  else
  (some (.tuple #[x5.v, .int .i64 0, .int .i64 0], H)) := (opq_app _ _ _).trans <| by kernel_rfl
theorem keys_Parse_p1101001100101_eq (d : Nat) (m0 : Nat) (x5 : Sl) (x6 : Int) (x7 : ByteArray) (x11 : Sl) (x12 : Int) (x13 : Int) (x24 : Bool) (H : Heap) : keys_Parse_p1101001100101 d m0 x5 x6 x7 x11 x12 x13 x24 H =
  if x24 = true then
  (keys_Parse_p110100111 d m0 x5 x11 x12 x13 H)
  else
  (callK (X d n_keys_line [.string x7] H) fun v1 H2 =>
    castT [.agg, .bool] v1 fun l3 =>
    castT [.agg, .bool] (.tuple ⟨l3⟩) fun l4 =>
    optK l4[0]? fun v5 =>
    asA v5 fun c6 =>
    optK l4[1]? fun v7 =>
    asB v7 fun b8 =>
    newK H2 (.cells [.string (S []), .int .u8 0, .int .u8 0, .int .u8 0, .int .u8 0, .int .u8 0, .int .u8 0, .int .u8 0, .int .u8 0, .int .u8 0, .int .u8 0, .int .u8 0, .int .u8 0, .int .u8 0, .int .u8 0, .int .u8 0, .int .u8 0, .int .u8 0, .int .u8 0, .int .u8 0, .int .u8 0, .int .u8 0, .int .u8 0, .int .u8 0, .int .u8 0, .int .u8 0, .int .u8 0, .int .u8 0, .int .u8 0, .int .u8 0, .int .u8 0, .int .u8 0, .int .u8 0, .int .i64 0, .string (S [])] t_api_Key false 0 false) fun p9 H10 =>
    effK (.store 35) [P0 p9, .agg c6] H10 fun _ H12 =>
    if (!b8) = true then
    (some (.tuple #[.slice none 0 0, .int .i64 (IntKind.wrap .i64 (x6 + 1)), .int .i64 5], H12))
    else
    (optK (ldA H12 ⟨p9, 0, none⟩ 35) fun v13 =>
      asA v13 fun c14 =>
      callK (X d n_keys_twice [x5.v, .agg c14] H12) fun v15 H16 =>
      asB v15 fun b17 =>
      if b17 = true then
      (some (.tuple #[.slice none 0 0, .int .i64 (IntKind.wrap .i64 (x6 + 1)), .int .i64 15], H16))
      else
      (if (decide ((20 : Int) ≤ (x5.n : Int))) = true then
        (some (.tuple #[.slice none 0 0, .int .i64 (IntKind.wrap .i64 (x6 + 1)), .int .i64 2], H16))
        else
        (optK (ldA H16 ⟨p9, 0, none⟩ 35) fun v18 =>
          asA v18 fun c19 =>
          optK (fillL [(0, 35)] [.agg c19] [.string (S []), .int .u8 0, .int .u8 0, .int .u8 0, .int .u8 0, .int .u8 0, .int .u8 0, .int .u8 0, .int .u8 0, .int .u8 0, .int .u8 0, .int .u8 0, .int .u8 0, .int .u8 0, .int .u8 0, .int .u8 0, .int .u8 0, .int .u8 0, .int .u8 0, .int .u8 0, .int .u8 0, .int .u8 0, .int .u8 0, .int .u8 0, .int .u8 0, .int .u8 0, .int .u8 0, .int .u8 0, .int .u8 0, .int .u8 0, .int .u8 0, .int .u8 0, .int .u8 0, .int .i64 0, .string (S [])]) fun l20 =>
          newK H16 (.cells l20 t_api_Key false 0 false) fun p21 H22 =>
          appendK t_api_Key 35 72 false x5.v (.slice (some ⟨p21, 0, none⟩) 1 1) H22 fun v23 H24 =>
          asSL v23 fun l25 =>
          keys_Parse_p110100111 d m0 l25 x11 x12 x13 H24)))) := (opq_app _ _ _).trans <| by kernel_rfl
theorem keys_Parse_p110100111_eq (d : Nat) (m0 : Nat) (x5 : Sl) (x11 : Sl) (x12 : Int) (x13 : Int) (H : Heap) : keys_Parse_p110100111 d m0 x5 x11 x12 x13 H =
  keys_Parse_p11010 d m0 x5 x11 x12 (IntKind.wrap .i64 (x13 + 1)) H := (opq_app _ _ _).trans <| by kernel_rfl
theorem keys_Parse_eq (d : Nat) (x0 : ByteArray) (H : Heap) : X (d + 1) n_keys_Parse [.string x0] H =
  callK (X d n_strings_Split [.string x0, .string (S [10])] H) fun v1 H2 =>
  asSL v1 fun l3 =>
  keys_Parse_p11010 d NN Sl.nil l3 (l3.n : Int) 0 H2 := by kernel_rfl
end Go.Proofs.YthphbdkhbaijlaaDoor.dec

namespace Go.Proofs.YthphbdkhbaijlaaDoor.dec
open Go Go.Cm
/-! porthole/keys.line -/
theorem keys_line_eq (d : Nat) (x0 : ByteArray) (H : Heap) : X (d + 1) n_keys_line [.string x0] H =
  newK H (.cells [.string (S []), .int .u8 0, .int .u8 0, .int .u8 0, .int .u8 0, .int .u8 0, .int .u8 0, .int .u8 0, .int .u8 0, .int .u8 0, .int .u8 0, .int .u8 0, .int .u8 0, .int .u8 0, .int .u8 0, .int .u8 0, .int .u8 0, .int .u8 0, .int .u8 0, .int .u8 0, .int .u8 0, .int .u8 0, .int .u8 0, .int .u8 0, .int .u8 0, .int .u8 0, .int .u8 0, .int .u8 0, .int .u8 0, .int .u8 0, .int .u8 0, .int .u8 0, .int .u8 0, .int .i64 0, .string (S [])] t_api_Key false 0 false) fun p1 H2 =>
  callK (X d n_strings_Split [.string x0, .string (S [32])] H2) fun v3 H4 =>
  asSL v3 fun l5 =>
  if (!decide ((l5.n : Int) = 4)) = true then
  (optK (Heap.stN H4 ⟨p1, 0, none⟩ [.string (S []), .int .u8 0, .int .u8 0, .int .u8 0, .int .u8 0, .int .u8 0, .int .u8 0, .int .u8 0, .int .u8 0, .int .u8 0, .int .u8 0, .int .u8 0, .int .u8 0, .int .u8 0, .int .u8 0, .int .u8 0, .int .u8 0, .int .u8 0, .int .u8 0, .int .u8 0, .int .u8 0, .int .u8 0, .int .u8 0, .int .u8 0, .int .u8 0, .int .u8 0, .int .u8 0, .int .u8 0, .int .u8 0, .int .u8 0, .int .u8 0, .int .u8 0, .int .u8 0, .int .i64 0, .string (S [])]) fun H6 =>
    retK [.cell 2 35 true, .tmp 3] [(2, P0 p1), (3, .bool false)] H6)
  else
  (optK l5.a fun a8 =>
    if 0 ≤ (0 : Int) ∧ (0 : Int) < (l5.n : Int) then
    optK (Heap.ld1 H4 (ap a8 0)) fun v9 =>
    asS v9 fun s10 =>
    callK (X d n_keys_rights [.string s10] H4) fun v11 H12 =>
    castT [.int .i64, .bool] v11 fun l13 =>
    castT [.int .i64, .bool] (.tuple ⟨l13⟩) fun l14 =>
    optK l14[0]? fun v15 =>
    asI .i64 v15 fun n16 =>
    optK l14[1]? fun v17 =>
    asB v17 fun b18 =>
    optK l5.a fun a19 =>
    if 0 ≤ (1 : Int) ∧ (1 : Int) < (l5.n : Int) then
    optK (Heap.ld1 H12 (ap a19 1)) fun v20 =>
    asS v20 fun s21 =>
    callK (X d n_keys_public [.string s21] H12) fun v22 H23 =>
    castT [.agg, .bool] v22 fun l24 =>
    castT [.agg, .bool] (.tuple ⟨l24⟩) fun l25 =>
    optK l25[0]? fun v26 =>
    asA v26 fun c27 =>
    optK l25[1]? fun v28 =>
    asB v28 fun b29 =>
    newK H23 (.cells [.int .u8 0, .int .u8 0, .int .u8 0, .int .u8 0, .int .u8 0, .int .u8 0, .int .u8 0, .int .u8 0, .int .u8 0, .int .u8 0, .int .u8 0, .int .u8 0, .int .u8 0, .int .u8 0, .int .u8 0, .int .u8 0, .int .u8 0, .int .u8 0, .int .u8 0, .int .u8 0, .int .u8 0, .int .u8 0, .int .u8 0, .int .u8 0, .int .u8 0, .int .u8 0, .int .u8 0, .int .u8 0, .int .u8 0, .int .u8 0, .int .u8 0, .int .u8 0] t_32_uint8 false 0 false) fun p30 H31 =>
    effK (.store 32) [P0 p30, .agg c27] H31 fun _ H33 =>
    newK H33 (.cells [.string (S []), .int .u8 0, .int .u8 0, .int .u8 0, .int .u8 0, .int .u8 0, .int .u8 0, .int .u8 0, .int .u8 0, .int .u8 0, .int .u8 0, .int .u8 0, .int .u8 0, .int .u8 0, .int .u8 0, .int .u8 0, .int .u8 0, .int .u8 0, .int .u8 0, .int .u8 0, .int .u8 0, .int .u8 0, .int .u8 0, .int .u8 0, .int .u8 0, .int .u8 0, .int .u8 0, .int .u8 0, .int .u8 0, .int .u8 0, .int .u8 0, .int .u8 0, .int .u8 0, .int .i64 0, .string (S [])] t_api_Key false 0 false) fun p34 H35 =>
    optK l5.a fun a36 =>
    if 0 ≤ (3 : Int) ∧ (3 : Int) < (l5.n : Int) then
    optK (Heap.ld1 H35 (ap a36 3)) fun v37 =>
    asS v37 fun s38 =>
    optK (ldA H35 ⟨p30, 0, none⟩ 32) fun v39 =>
    asA v39 fun c40 =>
    optK l5.a fun a41 =>
    if 0 ≤ (2 : Int) ∧ (2 : Int) < (l5.n : Int) then
    optK (Heap.ld1 H35 (ap a41 2)) fun v42 =>
    asS v42 fun s43 =>
    optK (fillL [(0, 1), (1, 32), (33, 1), (34, 1)] [.string s38, .agg c40, .int .i64 n16, .string s43] [.string (S []), .int .u8 0, .int .u8 0, .int .u8 0, .int .u8 0, .int .u8 0, .int .u8 0, .int .u8 0, .int .u8 0, .int .u8 0, .int .u8 0, .int .u8 0, .int .u8 0, .int .u8 0, .int .u8 0, .int .u8 0, .int .u8 0, .int .u8 0, .int .u8 0, .int .u8 0, .int .u8 0, .int .u8 0, .int .u8 0, .int .u8 0, .int .u8 0, .int .u8 0, .int .u8 0, .int .u8 0, .int .u8 0, .int .u8 0, .int .u8 0, .int .u8 0, .int .u8 0, .int .i64 0, .string (S [])]) fun l44 =>
    effK (.store 35) [P0 p34, .agg ⟨l44⟩] H35 fun _ H46 =>
    optK (ldA H46 ⟨p34, 0, none⟩ 35) fun v47 =>
    asA v47 fun c48 =>
    if b18 = true then
    (if b29 = true then
      (optK (ldA H46 ⟨p34, 0, none⟩ 35) fun v49 =>
        asA v49 fun c50 =>
        callK (X d n_keys_one [.agg c50] H46) fun v51 H52 =>
        asB v51 fun b53 =>
        effK (.store 35) [P0 p1, .agg c48] H52 fun _ H55 =>
        chk (rdsOk [H46, H52, H55] [⟨.load 35 true, [P0 p34], v47, 0, 1⟩]) (
          retK [.cell 2 35 true, .tmp 3] [(2, P0 p1), (3, .bool b53)] H55))
      else
      (effK (.store 35) [P0 p1, .agg c48] H46 fun _ H58 =>
        chk (rdsOk [H46, H46, H58] [⟨.load 35 true, [P0 p34], v47, 0, 1⟩]) (
          retK [.cell 2 35 true, .tmp 3] [(2, P0 p1), (3, .bool false)] H58)))
    else
    (effK (.store 35) [P0 p1, .agg c48] H46 fun _ H61 =>
      chk (rdsOk [H46, H46, H61] [⟨.load 35 true, [P0 p34], v47, 0, 1⟩]) (
        retK [.cell 2 35 true, .tmp 3] [(2, P0 p1), (3, .bool false)] H61))
    else none
    else none
    else none
    else none) := by kernel_rfl
end Go.Proofs.YthphbdkhbaijlaaDoor.dec

namespace Go.Proofs.YthphbdkhbaijlaaDoor.dec
open Go Go.Cm
/-! porthole/keys.rights -/
noncomputable def keys_rights_k111 (d : Nat) : Kt := run (X d) NN (cd 52 [1, 1, 1]) (retK (rs 52)) [] (retK (rs 52))
noncomputable def keys_rights_l11010 (d : Nat) (m0 : Nat) : Kt := iter (fun k => run (X d) NN (cd 52 [1, 1, 0, 1, 0, 0]) (backK [(0, .str), (4, .int .i64), (6, .int .i64)] (opq k)) [(0, (keys_rights_k111 d))] (retK (rs 52))) m0
noncomputable def keys_rights_p11010 (d : Nat) (m0 : Nat) (x0 : ByteArray) (x4 : Int) (x6 : Int) (H : Heap) : Res := opq (keys_rights_l11010 d m0) [(0, .string x0), (4, .int .i64 x4), (6, .int .i64 x6)] H
noncomputable def keys_rights_p110100111 (d : Nat) (m0 : Nat) (x0 : ByteArray) (x4 : Int) (x6 : Int) (H : Heap) : Res := opq (run (X d) NN (cd 52 [1, 1, 0, 1, 0, 0, 1, 1, 1, 0]) (backK [(0, .str), (4, .int .i64), (6, .int .i64)] (opq (keys_rights_l11010 d m0))) [(0, (keys_rights_k111 d))] (retK (rs 52))) [(0, .string x0), (4, .int .i64 x4), (6, .int .i64 x6)] H
theorem keys_rights_p11010_s (d : Nat) (m0 : Nat) (x0 : ByteArray) (x4 : Int) (x6 : Int) (H : Heap) : keys_rights_p11010 d (m0 + 1) x0 x4 x6 H =
  if (decide (x6 < 3)) = true then
  (if 0 ≤ x6 ∧ x6 ≤ IntKind.wrap .i64 (x6 + 1) ∧ IntKind.wrap .i64 (x6 + 1) ≤ (slen (S [115, 116, 114]) : Int) then
    callK (X d n_strings_HasPrefix [.string x0, .string (sSub (S [115, 116, 114]) ((x6).toNat) ((IntKind.wrap .i64 (x6 + 1)).toNat))] H) fun v1 H2 =>
    asB v1 fun b3 =>
    if b3 = true then
    (if x6 < 0 then none else
      if 0 ≤ (1 : Int) ∧ 1 ≤ (slen x0 : Int) then
      keys_rights_p110100111 d m0 (sSub x0 1 (slen x0)) (bitsI .or .i64 x4 (IntKind.wrap .i64 (1 * 2 ^ (min (x6).toNat (IntKind.bits .i64))))) x6 H2
      else none)
    else
    (keys_rights_p110100111 d m0 x0 x4 x6 H2)
    else none)
  else
  (if (sEq x0 (S [])) = true then
    (some (.tuple #[.int .i64 x4, .bool (decide ((0 : Int) < x4))], H))
    else
    (some (.tuple #[.int .i64 x4, .bool false], H))) := (opq_app _ _ _).trans <| by kernel_rfl
theorem keys_rights_p110100111_eq (d : Nat) (m0 : Nat) (x0 : ByteArray) (x4 : Int) (x6 : Int) (H : Heap) : keys_rights_p110100111 d m0 x0 x4 x6 H =
  keys_rights_p11010 d m0 x0 x4 (IntKind.wrap .i64 (x6 + 1)) H := (opq_app _ _ _).trans <| by kernel_rfl
theorem keys_rights_eq (d : Nat) (x0 : ByteArray) (H : Heap) : X (d + 1) n_keys_rights [.string x0] H =
  keys_rights_p11010 d NN x0 0 0 H := by kernel_rfl
end Go.Proofs.YthphbdkhbaijlaaDoor.dec

namespace Go.Proofs.YthphbdkhbaijlaaDoor.dec
open Go Go.Cm
/-! porthole/keys.public -/
noncomputable def keys_public_k1111 (d : Nat) : Kt := run (X d) NN (cd 53 [1, 1, 1, 1]) (retK (rs 53)) [] (retK (rs 53))
noncomputable def keys_public_l111010 (d : Nat) (m0 : Nat) : Kt := iter (fun k => run (X d) NN (cd 53 [1, 1, 1, 0, 1, 0, 0]) (backK [(0, .str), (2, .any), (4, .any), (5, .int .i64)] (opq k)) [(0, (keys_public_k1111 d))] (retK (rs 53))) m0
noncomputable def keys_public_p111010 (d : Nat) (m0 : Nat) (x0 : ByteArray) (x2 : Nat) (x4 : Nat) (x5 : Int) (H : Heap) : Res := opq (keys_public_l111010 d m0) [(0, .string x0), (2, P0 x2), (4, P0 x4), (5, .int .i64 x5)] H
theorem keys_public_p111010_s (d : Nat) (m0 : Nat) (x0 : ByteArray) (x2 : Nat) (x4 : Nat) (x5 : Int) (H : Heap) : keys_public_p111010 d (m0 + 1) x0 x2 x4 x5 H =
  if (decide (x5 < (slen x0 : Int))) = true then
  (if 0 ≤ x5 ∧ x5 < (slen x0 : Int) then
    callK (X d n_strings_IndexByte [.string (S [48, 49, 50, 51, 52, 53, 54, 55, 56, 57, 97, 98, 99, 100, 101, 102]), .int .u8 (bt x0 ((x5).toNat))] H) fun v1 H2 =>
    asI .i64 v1 fun n3 =>
    if (decide (n3 < 0)) = true then
    (optK (Heap.stN H2 ⟨x2, 0, none⟩ [.int .u8 0, .int .u8 0, .int .u8 0, .int .u8 0, .int .u8 0, .int .u8 0, .int .u8 0, .int .u8 0, .int .u8 0, .int .u8 0, .int .u8 0, .int .u8 0, .int .u8 0, .int .u8 0, .int .u8 0, .int .u8 0, .int .u8 0, .int .u8 0, .int .u8 0, .int .u8 0, .int .u8 0, .int .u8 0, .int .u8 0, .int .u8 0, .int .u8 0, .int .u8 0, .int .u8 0, .int .u8 0, .int .u8 0, .int .u8 0, .int .u8 0, .int .u8 0]) fun H4 =>
      retK [.cell 2 32 true, .tmp 3] [(2, P0 x2), (3, .bool false)] H4)
    else
    (if 0 ≤ IntKind.wrap .i64 (Int.tdiv x5 2) ∧ IntKind.wrap .i64 (Int.tdiv x5 2) < 32 then
      optK (Heap.ld1 H2 ⟨x4, 0 + ((IntKind.wrap .i64 (Int.tdiv x5 2)).toNat) * 1, none⟩) fun v6 =>
      asI .u8 v6 fun n7 =>
      if 0 ≤ IntKind.wrap .i64 (Int.tdiv x5 2) ∧ IntKind.wrap .i64 (Int.tdiv x5 2) < 32 then
      optK (Heap.st1 H2 ⟨x4, 0 + ((IntKind.wrap .i64 (Int.tdiv x5 2)).toNat) * 1, none⟩ (.int .u8 (bitsI .or .u8 (IntKind.wrap .u8 (n7 * 16)) (IntKind.wrap .u8 n3)))) fun H8 =>
      keys_public_p111010 d m0 x0 x2 x4 (IntKind.wrap .i64 (x5 + 1)) H8
      else none
      else none)
    else none)
  else
  (optK (ldA H ⟨x4, 0, none⟩ 32) fun v9 =>
    asA v9 fun c10 =>
    effK (.store 32) [P0 x2, .agg c10] H fun _ H12 =>
    retK [.cell 2 32 true, .tmp 3] [(2, P0 x2), (3, .bool true)] H12) := (opq_app _ _ _).trans <| by kernel_rfl
theorem keys_public_eq (d : Nat) (x0 : ByteArray) (H : Heap) : X (d + 1) n_keys_public [.string x0] H =
  newK H (.cells [.int .u8 0, .int .u8 0, .int .u8 0, .int .u8 0, .int .u8 0, .int .u8 0, .int .u8 0, .int .u8 0, .int .u8 0, .int .u8 0, .int .u8 0, .int .u8 0, .int .u8 0, .int .u8 0, .int .u8 0, .int .u8 0, .int .u8 0, .int .u8 0, .int .u8 0, .int .u8 0, .int .u8 0, .int .u8 0, .int .u8 0, .int .u8 0, .int .u8 0, .int .u8 0, .int .u8 0, .int .u8 0, .int .u8 0, .int .u8 0, .int .u8 0, .int .u8 0] t_32_uint8 false 0 false) fun p1 H2 =>
  newK H2 (.cells [.int .u8 0, .int .u8 0, .int .u8 0, .int .u8 0, .int .u8 0, .int .u8 0, .int .u8 0, .int .u8 0, .int .u8 0, .int .u8 0, .int .u8 0, .int .u8 0, .int .u8 0, .int .u8 0, .int .u8 0, .int .u8 0, .int .u8 0, .int .u8 0, .int .u8 0, .int .u8 0, .int .u8 0, .int .u8 0, .int .u8 0, .int .u8 0, .int .u8 0, .int .u8 0, .int .u8 0, .int .u8 0, .int .u8 0, .int .u8 0, .int .u8 0, .int .u8 0] t_32_uint8 false 0 false) fun p3 H4 =>
  if (!decide ((slen x0 : Int) = 64)) = true then
  (optK (ldA H4 ⟨p3, 0, none⟩ 32) fun v5 =>
    asA v5 fun c6 =>
    effK (.store 32) [P0 p1, .agg c6] H4 fun _ H8 =>
    retK [.cell 2 32 true, .tmp 3] [(2, P0 p1), (3, .bool false)] H8)
  else
  (keys_public_p111010 d NN x0 p1 p3 0 H4) := by kernel_rfl
end Go.Proofs.YthphbdkhbaijlaaDoor.dec

namespace Go.Proofs.YthphbdkhbaijlaaDoor.dec
open Go Go.Cm
/-! strings.HasPrefix -/
theorem strings_HasPrefix_eq (d : Nat) (x0 : ByteArray) (x1 : ByteArray) (H : Heap) : X (d + 1) n_strings_HasPrefix [.string x0, .string x1] H =
  callK (X d n_stringslite_HasPrefix [.string x0, .string x1] H) fun v1 H2 =>
  asB v1 fun b3 =>
  some (.bool b3, H2) := by kernel_rfl
end Go.Proofs.YthphbdkhbaijlaaDoor.dec

namespace Go.Proofs.YthphbdkhbaijlaaDoor.dec
open Go Go.Cm
/-! internal/stringslite.HasPrefix -/
theorem stringslite_HasPrefix_eq (d : Nat) (x0 : ByteArray) (x1 : ByteArray) (H : Heap) : X (d + 1) n_stringslite_HasPrefix [.string x0, .string x1] H =
  if (decide ((slen x1 : Int) ≤ (slen x0 : Int))) = true then
  (if 0 ≤ (slen x1 : Int) ∧ (slen x1 : Int) ≤ (slen x0 : Int) then
    some (.bool (sEq (sSub x0 0 (((slen x1 : Int)).toNat)) x1), H)
    else none)
  else
  (some (.bool false, H)) := by kernel_rfl
end Go.Proofs.YthphbdkhbaijlaaDoor.dec

namespace Go.Proofs.YthphbdkhbaijlaaDoor.dec
open Go Go.Cm
/-! porthole/portholeref15.Parse -/
noncomputable def ref15_Parse_k1111 (d : Nat) : Kt := run (X d) NN (cd 27 [1, 1, 1, 1]) (retK (rs 27)) [] (retK (rs 27))
noncomputable def ref15_Parse_l111010 (d : Nat) (m0 : Nat) : Kt := iter (fun k => run (X d) NN (cd 27 [1, 1, 1, 0, 1, 0, 0]) (backK [(5, .sl), (6, .sl), (7, .int .i64)] (opq k)) [(0, (ref15_Parse_k1111 d))] (retK (rs 27))) m0
noncomputable def ref15_Parse_k111010011 (d : Nat) (m0 : Nat) : Kt := run (X d) NN (cd 27 [1, 1, 1, 0, 1, 0, 0, 1, 1]) (backK [(5, .sl), (6, .sl), (7, .int .i64)] (opq (ref15_Parse_l111010 d m0))) [(0, (ref15_Parse_k1111 d))] (retK (rs 27))
noncomputable def ref15_Parse_k11101001001 (d : Nat) (m0 : Nat) : Kt := run (X d) NN (cd 27 [1, 1, 1, 0, 1, 0, 0, 1, 0, 0, 1]) (ref15_Parse_k111010011 d m0) [(1, (ref15_Parse_k111010011 d m0)), (0, (ref15_Parse_k1111 d))] (retK (rs 27))
noncomputable def ref15_Parse_k11101001001111 (d : Nat) (m0 : Nat) : Kt := run (X d) NN (cd 27 [1, 1, 1, 0, 1, 0, 0, 1, 0, 0, 1, 1, 1, 1]) (ref15_Parse_k111010011 d m0) [(1, (ref15_Parse_k111010011 d m0)), (0, (ref15_Parse_k1111 d))] (retK (rs 27))
noncomputable def ref15_Parse_l1110100100111010 (d : Nat) (m0 : Nat) (m1 : Nat) : Kt := iter (fun k => run (X d) NN (cd 27 [1, 1, 1, 0, 1, 0, 0, 1, 0, 0, 1, 1, 1, 0, 1, 0, 0]) (backK [(5, .sl), (6, .sl), (7, .int .i64), (8, .any), (10, .int .i64)] (opq k)) [(2, (ref15_Parse_k11101001001111 d m0)), (1, (ref15_Parse_k111010011 d m0)), (0, (ref15_Parse_k1111 d))] (retK (rs 27))) m1
noncomputable def ref15_Parse_k1110100100111010011 (d : Nat) (m0 : Nat) (m1 : Nat) : Kt := run (X d) NN (cd 27 [1, 1, 1, 0, 1, 0, 0, 1, 0, 0, 1, 1, 1, 0, 1, 0, 0, 1, 1]) (backK [(5, .sl), (6, .sl), (7, .int .i64), (8, .any), (10, .int .i64)] (opq (ref15_Parse_l1110100100111010 d m0 m1))) [(2, (ref15_Parse_k11101001001111 d m0)), (1, (ref15_Parse_k111010011 d m0)), (0, (ref15_Parse_k1111 d))] (retK (rs 27))
noncomputable def ref15_Parse_p111010 (d : Nat) (m0 : Nat) (x5 : Sl) (x6 : Sl) (x7 : Int) (H : Heap) : Res := opq (ref15_Parse_l111010 d m0) [(5, x5.v), (6, x6.v), (7, .int .i64 x7)] H
noncomputable def ref15_Parse_p111010010001 (d : Nat) (m0 : Nat) (x5 : Sl) (x6 : Sl) (x7 : Int) (x31 : Bool) (H : Heap) : Res := opq (run (X d) NN (cd 27 [1, 1, 1, 0, 1, 0, 0, 1, 0, 0, 0, 1, 0]) (ref15_Parse_k11101001001 d m0) [(1, (ref15_Parse_k111010011 d m0)), (0, (ref15_Parse_k1111 d))] (retK (rs 27))) [(5, x5.v), (6, x6.v), (7, .int .i64 x7), (31, .bool x31)] H
noncomputable def ref15_Parse_p111010011 (d : Nat) (m0 : Nat) (x5 : Sl) (x6 : Sl) (x7 : Int) (H : Heap) : Res := opq (run (X d) NN (cd 27 [1, 1, 1, 0, 1, 0, 0, 1, 1, 0]) (backK [(5, .sl), (6, .sl), (7, .int .i64)] (opq (ref15_Parse_l111010 d m0))) [(0, (ref15_Parse_k1111 d))] (retK (rs 27))) [(5, x5.v), (6, x6.v), (7, .int .i64 x7)] H
noncomputable def ref15_Parse_p1110100100111010 (d : Nat) (m0 : Nat) (m1 : Nat) (x5 : Sl) (x6 : Sl) (x7 : Int) (x8 : Nat) (x10 : Int) (H : Heap) : Res := opq (ref15_Parse_l1110100100111010 d m0 m1) [(5, x5.v), (6, x6.v), (7, .int .i64 x7), (8, P0 x8), (10, .int .i64 x10)] H
noncomputable def ref15_Parse_p111010010011101001001 (d : Nat) (m0 : Nat) (m1 : Nat) (x5 : Sl) (x6 : Sl) (x7 : Int) (x8 : Nat) (x10 : Int) (x67 : Bool) (H : Heap) : Res := opq (run (X d) NN (cd 27 [1, 1, 1, 0, 1, 0, 0, 1, 0, 0, 1, 1, 1, 0, 1, 0, 0, 1, 0, 0, 1, 0]) (ref15_Parse_k1110100100111010011 d m0 m1) [(3, (ref15_Parse_k1110100100111010011 d m0 m1)), (2, (ref15_Parse_k11101001001111 d m0)), (1, (ref15_Parse_k111010011 d m0)), (0, (ref15_Parse_k1111 d))] (retK (rs 27))) [(5, x5.v), (6, x6.v), (7, .int .i64 x7), (8, P0 x8), (10, .int .i64 x10), (67, .bool x67)] H
theorem ref15_Parse_p111010_s (d : Nat) (m0 : Nat) (x5 : Sl) (x6 : Sl) (x7 : Int) (H : Heap) : ref15_Parse_p111010 d (m0 + 1) x5 x6 x7 H =
  if (decide (x7 < (x6.n : Int))) = true then
  (optK x6.a fun a1 =>
    if 0 ≤ x7 ∧ x7 < (x6.n : Int) then
    optK (Heap.ld1 H (ap a1 (((x7).toNat) * 1))) fun v2 =>
    asS v2 fun s3 =>
    if (sEq s3 (S [])) = true then
    (ref15_Parse_p111010010001 d m0 x5 x6 x7 true H)
    else
    (optK x6.a fun a4 =>
      if 0 ≤ x7 ∧ x7 < (x6.n : Int) then
      optK (Heap.ld1 H (ap a4 (((x7).toNat) * 1))) fun v5 =>
      asS v5 fun s6 =>
      if 0 ≤ (0 : Int) ∧ (0 : Int) < (slen s6 : Int) then
      ref15_Parse_p111010010001 d m0 x5 x6 x7 (decide (bt s6 0 = 35)) H
      else none
      else none)
    else none)
  else
  (some (.tuple #[x5.v, .int .i64 0, .int .i64 0], H)) := (opq_app _ _ _).trans <| by kernel_rfl
theorem ref15_Parse_p111010010001_eq (d : Nat) (m0 : Nat) (x5 : Sl) (x6 : Sl) (x7 : Int) (x31 : Bool) (H : Heap) : ref15_Parse_p111010010001 d m0 x5 x6 x7 x31 H =
  if x31 = true then
  (ref15_Parse_p111010011 d m0 x5 x6 x7 H)
  else
  (optK x6.a fun a1 =>
    if 0 ≤ x7 ∧ x7 < (x6.n : Int) then
    optK (Heap.ld1 H (ap a1 (((x7).toNat) * 1))) fun v2 =>
    asS v2 fun s3 =>
    callK (X d n_ref15_line [.string s3] H) fun v4 H5 =>
    castT [.agg, .bool] v4 fun l6 =>
    castT [.agg, .bool] (.tuple ⟨l6⟩) fun l7 =>
    optK l7[0]? fun v8 =>
    asA v8 fun c9 =>
    optK l7[1]? fun v10 =>
    asB v10 fun b11 =>
    newK H5 (.cells [.string (S []), .int .u8 0, .int .u8 0, .int .u8 0, .int .u8 0, .int .u8 0, .int .u8 0, .int .u8 0, .int .u8 0, .int .u8 0, .int .u8 0, .int .u8 0, .int .u8 0, .int .u8 0, .int .u8 0, .int .u8 0, .int .u8 0, .int .u8 0, .int .u8 0, .int .u8 0, .int .u8 0, .int .u8 0, .int .u8 0, .int .u8 0, .int .u8 0, .int .u8 0, .int .u8 0, .int .u8 0, .int .u8 0, .int .u8 0, .int .u8 0, .int .u8 0, .int .u8 0, .int .i64 0, .string (S [])] t_api_Key false 0 false) fun p12 H13 =>
    effK (.store 35) [P0 p12, .agg c9] H13 fun _ H15 =>
    if (!b11) = true then
    (some (.tuple #[.slice none 0 0, .int .i64 (IntKind.wrap .i64 (x7 + 1)), .int .i64 5], H15))
    else
    (ref15_Parse_p1110100100111010 d m0 NN x5 x6 x7 p12 0 H15)
    else none) := (opq_app _ _ _).trans <| by kernel_rfl
theorem ref15_Parse_p111010011_eq (d : Nat) (m0 : Nat) (x5 : Sl) (x6 : Sl) (x7 : Int) (H : Heap) : ref15_Parse_p111010011 d m0 x5 x6 x7 H =
  ref15_Parse_p111010 d m0 x5 x6 (IntKind.wrap .i64 (x7 + 1)) H := (opq_app _ _ _).trans <| by kernel_rfl
theorem ref15_Parse_p1110100100111010_s (d : Nat) (m0 : Nat) (m1 : Nat) (x5 : Sl) (x6 : Sl) (x7 : Int) (x8 : Nat) (x10 : Int) (H : Heap) : ref15_Parse_p1110100100111010 d m0 (m1 + 1) x5 x6 x7 x8 x10 H =
  if (decide (x10 < (x5.n : Int))) = true then
  (optK x5.a fun a1 =>
    if 0 ≤ x10 ∧ x10 < (x5.n : Int) then
    optK (ldA H (ap (ap a1 (((x10).toNat) * 35)) 1) 32) fun v2 =>
    asA v2 fun c3 =>
    optK (ldA H ⟨x8, 1, none⟩ 32) fun v4 =>
    asA v4 fun c5 =>
    chk (Array.size c3 == 32 && Array.size c5 == 32) (optK (eqL [.int .u8, .int .u8, .int .u8, .int .u8, .int .u8, .int .u8, .int .u8, .int .u8, .int .u8, .int .u8, .int .u8, .int .u8, .int .u8, .int .u8, .int .u8, .int .u8, .int .u8, .int .u8, .int .u8, .int .u8, .int .u8, .int .u8, .int .u8, .int .u8, .int .u8, .int .u8, .int .u8, .int .u8, .int .u8, .int .u8, .int .u8, .int .u8] c3.toList c5.toList) fun b6 =>
      if b6 = true then
      (ref15_Parse_p111010010011101001001 d m0 m1 x5 x6 x7 x8 x10 true H)
      else
      (optK x5.a fun a7 =>
        if 0 ≤ x10 ∧ x10 < (x5.n : Int) then
        optK (Heap.ld1 H (ap (ap a7 (((x10).toNat) * 35)) 0)) fun v8 =>
        asS v8 fun s9 =>
        optK (Heap.ld1 H ⟨x8, 0, none⟩) fun v10 =>
        asS v10 fun s11 =>
        ref15_Parse_p111010010011101001001 d m0 m1 x5 x6 x7 x8 x10 (sEq s9 s11) H
        else none))
    else none)
  else
  (if (decide ((20 : Int) ≤ (x5.n : Int))) = true then
    (some (.tuple #[.slice none 0 0, .int .i64 (IntKind.wrap .i64 (x7 + 1)), .int .i64 2], H))
    else
    (optK (ldA H ⟨x8, 0, none⟩ 35) fun v12 =>
      asA v12 fun c13 =>
      optK (fillL [(0, 35)] [.agg c13] [.string (S []), .int .u8 0, .int .u8 0, .int .u8 0, .int .u8 0, .int .u8 0, .int .u8 0, .int .u8 0, .int .u8 0, .int .u8 0, .int .u8 0, .int .u8 0, .int .u8 0, .int .u8 0, .int .u8 0, .int .u8 0, .int .u8 0, .int .u8 0, .int .u8 0, .int .u8 0, .int .u8 0, .int .u8 0, .int .u8 0, .int .u8 0, .int .u8 0, .int .u8 0, .int .u8 0, .int .u8 0, .int .u8 0, .int .u8 0, .int .u8 0, .int .u8 0, .int .u8 0, .int .i64 0, .string (S [])]) fun l14 =>
      newK H (.cells l14 t_api_Key false 0 false) fun p15 H16 =>
      appendK t_api_Key 35 72 false x5.v (.slice (some ⟨p15, 0, none⟩) 1 1) H16 fun v17 H18 =>
      asSL v17 fun l19 =>
      ref15_Parse_p111010011 d m0 l19 x6 x7 H18)) := (opq_app _ _ _).trans <| by kernel_rfl
theorem ref15_Parse_p111010010011101001001_eq (d : Nat) (m0 : Nat) (m1 : Nat) (x5 : Sl) (x6 : Sl) (x7 : Int) (x8 : Nat) (x10 : Int) (x67 : Bool) (H : Heap) : ref15_Parse_p111010010011101001001 d m0 m1 x5 x6 x7 x8 x10 x67 H =
  if x67 = true then
  (some (.tuple #[.slice none 0 0, .int .i64 (IntKind.wrap .i64 (x7 + 1)), .int .i64 15], H))
  else
  (ref15_Parse_p1110100100111010 d m0 m1 x5 x6 x7 x8 (IntKind.wrap .i64 (x10 + 1)) H) := (opq_app _ _ _).trans <| by kernel_rfl
theorem ref15_Parse_eq (d : Nat) (x0 : ByteArray) (H : Heap) : X (d + 1) n_ref15_Parse [.string x0] H =
  callK (X d n_ref15_split [.string x0, .int .u8 10] H) fun v1 H2 =>
  asSL v1 fun l3 =>
  ref15_Parse_p111010 d NN Sl.nil l3 0 H2 := by kernel_rfl
end Go.Proofs.YthphbdkhbaijlaaDoor.dec

namespace Go.Proofs.YthphbdkhbaijlaaDoor.dec
open Go Go.Cm
/-! porthole/portholeref15.line -/
noncomputable def ref15_line_k1111 (d : Nat) : Kt := run (X d) NN (cd 40 [1, 1, 1, 1]) (retK (rs 40)) [] (retK (rs 40))
noncomputable def ref15_line_k1111101 (d : Nat) : Kt := run (X d) NN (cd 40 [1, 1, 1, 1, 1, 0, 1]) (retK (rs 40)) [] (retK (rs 40))
noncomputable def ref15_line_l111110010 (d : Nat) (m0 : Nat) : Kt := iter (fun k => run (X d) NN (cd 40 [1, 1, 1, 1, 1, 0, 0, 1, 0, 0]) (backK [(2, .any), (4, .sl), (5, .any), (6, .int .i64)] (opq k)) [(1, (ref15_line_k1111101 d))] (retK (rs 40))) m0
noncomputable def ref15_line_k111110010011 (d : Nat) (m0 : Nat) : Kt := run (X d) NN (cd 40 [1, 1, 1, 1, 1, 0, 0, 1, 0, 0, 1, 1]) (backK [(2, .any), (4, .sl), (5, .any), (6, .int .i64)] (opq (ref15_line_l111110010 d m0))) [(1, (ref15_line_k1111101 d))] (retK (rs 40))
noncomputable def ref15_line_k1111100100100111 (d : Nat) (m0 : Nat) : Kt := run (X d) NN (cd 40 [1, 1, 1, 1, 1, 0, 0, 1, 0, 0, 1, 0, 0, 1, 1, 1]) (ref15_line_k111110010011 d m0) [(2, (ref15_line_k111110010011 d m0)), (1, (ref15_line_k1111101 d))] (retK (rs 40))
noncomputable def ref15_line_p11101 (d : Nat) (x2 : Nat) (x4 : Sl) (x5 : Nat) (x34 : Bool) (H : Heap) : Res := opq (run (X d) NN (cd 40 [1, 1, 1, 0, 1, 0]) (ref15_line_k1111 d) [] (retK (rs 40))) [(2, P0 x2), (4, x4.v), (5, P0 x5), (34, .bool x34)] H
noncomputable def ref15_line_p11111 (d : Nat) (x2 : Nat) (x4 : Sl) (x5 : Nat) (H : Heap) : Res := opq (run (X d) NN (cd 40 [1, 1, 1, 1, 1, 0]) (retK (rs 40)) [] (retK (rs 40))) [(2, P0 x2), (4, x4.v), (5, P0 x5)] H
noncomputable def ref15_line_p111110010 (d : Nat) (m0 : Nat) (x2 : Nat) (x4 : Sl) (x5 : Nat) (x6 : Int) (H : Heap) : Res := opq (ref15_line_l111110010 d m0) [(2, P0 x2), (4, x4.v), (5, P0 x5), (6, .int .i64 x6)] H
noncomputable def ref15_line_p11111001001001101 (d : Nat) (m0 : Nat) (x2 : Nat) (x4 : Sl) (x5 : Nat) (x6 : Int) (x7 : Int) (x8 : Int) (x85 : Bool) (H : Heap) : Res := opq (run (X d) NN (cd 40 [1, 1, 1, 1, 1, 0, 0, 1, 0, 0, 1, 0, 0, 1, 1, 0, 1, 0]) (ref15_line_k1111100100100111 d m0) [(2, (ref15_line_k111110010011 d m0)), (1, (ref15_line_k1111101 d))] (retK (rs 40))) [(2, P0 x2), (4, x4.v), (5, P0 x5), (6, .int .i64 x6), (7, .int .i64 x7), (8, .int .i64 x8), (85, .bool x85)] H
theorem ref15_line_p11101_eq (d : Nat) (x2 : Nat) (x4 : Sl) (x5 : Nat) (x34 : Bool) (H : Heap) : ref15_line_p11101 d x2 x4 x5 x34 H =
  if x34 = true then
  (optK (ldA H ⟨x5, 0, none⟩ 35) fun v1 =>
    asA v1 fun c2 =>
    effK (.store 35) [P0 x2, .agg c2] H fun _ H4 =>
    retK [.cell 2 35 true, .tmp 3] [(2, P0 x2), (3, .bool false)] H4)
  else
  (optK x4.a fun a6 =>
    if 0 ≤ (0 : Int) ∧ (0 : Int) < (x4.n : Int) then
    optK (Heap.ld1 H (ap a6 0)) fun v7 =>
    asS v7 fun s8 =>
    if (sEq s8 (S [115])) = true then
    (optK (Heap.st1 H ⟨x5, 33, none⟩ (.int .i64 1)) fun H9 =>
      ref15_line_p11111 d x2 x4 x5 H9)
    else
    (if (sEq s8 (S [116])) = true then
      (optK (Heap.st1 H ⟨x5, 33, none⟩ (.int .i64 2)) fun H10 =>
        ref15_line_p11111 d x2 x4 x5 H10)
      else
      (if (sEq s8 (S [115, 116])) = true then
        (optK (Heap.st1 H ⟨x5, 33, none⟩ (.int .i64 3)) fun H11 =>
          ref15_line_p11111 d x2 x4 x5 H11)
        else
        (if (sEq s8 (S [114])) = true then
          (optK (Heap.st1 H ⟨x5, 33, none⟩ (.int .i64 4)) fun H12 =>
            ref15_line_p11111 d x2 x4 x5 H12)
          else
          (if (sEq s8 (S [115, 114])) = true then
            (optK (Heap.st1 H ⟨x5, 33, none⟩ (.int .i64 5)) fun H13 =>
              ref15_line_p11111 d x2 x4 x5 H13)
            else
            (if (sEq s8 (S [116, 114])) = true then
              (optK (Heap.st1 H ⟨x5, 33, none⟩ (.int .i64 6)) fun H14 =>
                ref15_line_p11111 d x2 x4 x5 H14)
              else
              (if (sEq s8 (S [115, 116, 114])) = true then
                (optK (Heap.st1 H ⟨x5, 33, none⟩ (.int .i64 7)) fun H15 =>
                  ref15_line_p11111 d x2 x4 x5 H15)
                else
                (optK (ldA H ⟨x5, 0, none⟩ 35) fun v16 =>
                  asA v16 fun c17 =>
                  effK (.store 35) [P0 x2, .agg c17] H fun _ H19 =>
                  retK [.cell 2 35 true, .tmp 3] [(2, P0 x2), (3, .bool false)] H19)))))))
    else none) := (opq_app _ _ _).trans <| by kernel_rfl
theorem ref15_line_p11111_eq (d : Nat) (x2 : Nat) (x4 : Sl) (x5 : Nat) (H : Heap) : ref15_line_p11111 d x2 x4 x5 H =
  ref15_line_p111110010 d NN x2 x4 x5 0 H := (opq_app _ _ _).trans <| by kernel_rfl
theorem ref15_line_p111110010_s (d : Nat) (m0 : Nat) (x2 : Nat) (x4 : Sl) (x5 : Nat) (x6 : Int) (H : Heap) : ref15_line_p111110010 d (m0 + 1) x2 x4 x5 x6 H =
  if (decide (x6 < 32)) = true then
  (optK x4.a fun a1 =>
    if 0 ≤ (1 : Int) ∧ (1 : Int) < (x4.n : Int) then
    optK (Heap.ld1 H (ap a1 1)) fun v2 =>
    asS v2 fun s3 =>
    if 0 ≤ IntKind.wrap .i64 (2 * x6) ∧ IntKind.wrap .i64 (2 * x6) < (slen s3 : Int) then
    callK (X d n_ref15_hex [.int .u8 (bt s3 ((IntKind.wrap .i64 (2 * x6)).toNat))] H) fun v4 H5 =>
    asI .i64 v4 fun n6 =>
    optK x4.a fun a7 =>
    if 0 ≤ (1 : Int) ∧ (1 : Int) < (x4.n : Int) then
    optK (Heap.ld1 H5 (ap a7 1)) fun v8 =>
    asS v8 fun s9 =>
    if 0 ≤ IntKind.wrap .i64 ((IntKind.wrap .i64 (2 * x6)) + 1) ∧ IntKind.wrap .i64 ((IntKind.wrap .i64 (2 * x6)) + 1) < (slen s9 : Int) then
    callK (X d n_ref15_hex [.int .u8 (bt s9 ((IntKind.wrap .i64 ((IntKind.wrap .i64 (2 * x6)) + 1)).toNat))] H5) fun v10 H11 =>
    asI .i64 v10 fun n12 =>
    if (decide (n6 < 0)) = true then
    (ref15_line_p11111001001001101 d m0 x2 x4 x5 x6 n6 n12 true H11)
    else
    (ref15_line_p11111001001001101 d m0 x2 x4 x5 x6 n6 n12 (decide (n12 < 0)) H11)
    else none
    else none
    else none
    else none)
  else
  (optK x4.a fun a13 =>
    if 0 ≤ (2 : Int) ∧ (2 : Int) < (x4.n : Int) then
    optK (Heap.ld1 H (ap a13 2)) fun v14 =>
    asS v14 fun s15 =>
    optK (Heap.st1 H ⟨x5, 34, none⟩ (.string s15)) fun H16 =>
    optK x4.a fun a17 =>
    if 0 ≤ (3 : Int) ∧ (3 : Int) < (x4.n : Int) then
    optK (Heap.ld1 H16 (ap a17 3)) fun v18 =>
    asS v18 fun s19 =>
    optK (Heap.st1 H16 ⟨x5, 0, none⟩ (.string s19)) fun H20 =>
    optK (ldA H20 ⟨x5, 0, none⟩ 35) fun v21 =>
    asA v21 fun c22 =>
    effK (.store 35) [P0 x2, .agg c22] H20 fun _ H24 =>
    retK [.cell 2 35 true, .tmp 3] [(2, P0 x2), (3, .bool true)] H24
    else none
    else none) := (opq_app _ _ _).trans <| by kernel_rfl
theorem ref15_line_p11111001001001101_eq (d : Nat) (m0 : Nat) (x2 : Nat) (x4 : Sl) (x5 : Nat) (x6 : Int) (x7 : Int) (x8 : Int) (x85 : Bool) (H : Heap) : ref15_line_p11111001001001101 d m0 x2 x4 x5 x6 x7 x8 x85 H =
  if x85 = true then
  (optK (ldA H ⟨x5, 0, none⟩ 35) fun v1 =>
    asA v1 fun c2 =>
    effK (.store 35) [P0 x2, .agg c2] H fun _ H4 =>
    retK [.cell 2 35 true, .tmp 3] [(2, P0 x2), (3, .bool false)] H4)
  else
  (if 0 ≤ x6 ∧ x6 < 32 then
    optK (Heap.st1 H ⟨x5, 1 + ((x6).toNat) * 1, none⟩ (.int .u8 (IntKind.wrap .u8 (IntKind.wrap .i64 ((IntKind.wrap .i64 (16 * x7)) + x8))))) fun H6 =>
    ref15_line_p111110010 d m0 x2 x4 x5 (IntKind.wrap .i64 (x6 + 1)) H6
    else none) := (opq_app _ _ _).trans <| by kernel_rfl
theorem ref15_line_eq (d : Nat) (x0 : ByteArray) (H : Heap) : X (d + 1) n_ref15_line [.string x0] H =
  newK H (.cells [.string (S []), .int .u8 0, .int .u8 0, .int .u8 0, .int .u8 0, .int .u8 0, .int .u8 0, .int .u8 0, .int .u8 0, .int .u8 0, .int .u8 0, .int .u8 0, .int .u8 0, .int .u8 0, .int .u8 0, .int .u8 0, .int .u8 0, .int .u8 0, .int .u8 0, .int .u8 0, .int .u8 0, .int .u8 0, .int .u8 0, .int .u8 0, .int .u8 0, .int .u8 0, .int .u8 0, .int .u8 0, .int .u8 0, .int .u8 0, .int .u8 0, .int .u8 0, .int .u8 0, .int .i64 0, .string (S [])] t_api_Key false 0 false) fun p1 H2 =>
  callK (X d n_ref15_split [.string x0, .int .u8 32] H2) fun v3 H4 =>
  asSL v3 fun l5 =>
  newK H4 (.cells [.string (S []), .int .u8 0, .int .u8 0, .int .u8 0, .int .u8 0, .int .u8 0, .int .u8 0, .int .u8 0, .int .u8 0, .int .u8 0, .int .u8 0, .int .u8 0, .int .u8 0, .int .u8 0, .int .u8 0, .int .u8 0, .int .u8 0, .int .u8 0, .int .u8 0, .int .u8 0, .int .u8 0, .int .u8 0, .int .u8 0, .int .u8 0, .int .u8 0, .int .u8 0, .int .u8 0, .int .u8 0, .int .u8 0, .int .u8 0, .int .u8 0, .int .u8 0, .int .u8 0, .int .i64 0, .string (S [])] t_api_Key false 0 false) fun p6 H7 =>
  if (!decide ((l5.n : Int) = 4)) = true then
  (ref15_line_p11101 d p1 l5 p6 true H7)
  else
  (optK l5.a fun a8 =>
    if 0 ≤ (1 : Int) ∧ (1 : Int) < (l5.n : Int) then
    optK (Heap.ld1 H7 (ap a8 1)) fun v9 =>
    asS v9 fun s10 =>
    if (!decide ((slen s10 : Int) = 64)) = true then
    (ref15_line_p11101 d p1 l5 p6 true H7)
    else
    (optK l5.a fun a11 =>
      if 0 ≤ (2 : Int) ∧ (2 : Int) < (l5.n : Int) then
      optK (Heap.ld1 H7 (ap a11 2)) fun v12 =>
      asS v12 fun s13 =>
      callK (X d n_ref15_isPattern [.string s13] H7) fun v14 H15 =>
      asB v14 fun b16 =>
      if (!b16) = true then
      (ref15_line_p11101 d p1 l5 p6 true H15)
      else
      (optK l5.a fun a17 =>
        if 0 ≤ (3 : Int) ∧ (3 : Int) < (l5.n : Int) then
        optK (Heap.ld1 H15 (ap a17 3)) fun v18 =>
        asS v18 fun s19 =>
        callK (X d n_ref15_IsName [.string s19] H15) fun v20 H21 =>
        asB v20 fun b22 =>
        ref15_line_p11101 d p1 l5 p6 (!b22) H21
        else none)
      else none)
    else none) := by kernel_rfl
end Go.Proofs.YthphbdkhbaijlaaDoor.dec

namespace Go.Proofs.YthphbdkhbaijlaaDoor.dec
open Go Go.Cm
/-! porthole/portholelaw17.KeysParses -/
noncomputable def law17_KeysParses_p11 (d : Nat) (x0 : ByteArray) (H : Heap) : Res := opq (run (X d) NN (cd 8 [1, 1, 0]) (retK (rs 8)) [] (retK (rs 8))) [(0, .string x0)] H
theorem law17_KeysParses_p11_eq (d : Nat) (x0 : ByteArray) (H : Heap) : law17_KeysParses_p11 d x0 H =
  callK (X d n_keys_Parse [.string x0] H) fun v1 H2 =>
  castT [.sl, .int .i64, .int .i64] v1 fun l3 =>
  castT [.sl, .int .i64, .int .i64] (.tuple ⟨l3⟩) fun l4 =>
  optK l4[0]? fun v5 =>
  asSL v5 fun l6 =>
  optK l4[1]? fun v7 =>
  asI .i64 v7 fun n8 =>
  optK l4[2]? fun v9 =>
  asI .i64 v9 fun n10 =>
  callK (X d n_ref15_Parse [.string x0] H2) fun v11 H12 =>
  castT [.sl, .int .i64, .int .i64] v11 fun l13 =>
  castT [.sl, .int .i64, .int .i64] (.tuple ⟨l13⟩) fun l14 =>
  optK l14[0]? fun v15 =>
  asSL v15 fun l16 =>
  optK l14[1]? fun v17 =>
  asI .i64 v17 fun n18 =>
  optK l14[2]? fun v19 =>
  asI .i64 v19 fun n20 =>
  callK (X d n_law17_known [] H12) fun v21 H22 =>
  asB v21 fun b23 =>
  if b23 = true then
  (callK (X d n_law17_same [l6.v, l16.v] H22) fun v24 H25 =>
    asB v24 fun b26 =>
    if b26 = true then
    (if (decide (n8 = n18)) = true then
      (some (.bool (decide (n10 = n20)), H25))
      else
      (some (.bool false, H25)))
    else
    (some (.bool false, H25)))
  else
  (some (.bool false, H22)) := (opq_app _ _ _).trans <| by kernel_rfl
theorem law17_KeysParses_eq (d : Nat) (x0 : ByteArray) (x1 : Sl) (x2 : Int) (x3 : Int) (x4 : Int) (H : Heap) : X (d + 1) n_law17_KeysParses [.string x0, x1.v, .int .i64 x2, .int .u8 x3, .int .i64 x4] H =
  if (decide ((0 : Int) < Int.tmod x4 4)) = true then
  (callK (X d n_law17_list [x1.v] H) fun v1 H2 =>
    asSL v1 fun l3 =>
    callK (X d n_ref15_Print [l3.v] H2) fun v4 H5 =>
    castT [.str, .int .i64] v4 fun l6 =>
    castT [.str, .int .i64] (.tuple ⟨l6⟩) fun l7 =>
    optK l7[0]? fun v8 =>
    asS v8 fun s9 =>
    optK l7[1]? fun v10 =>
    asI .i64 v10 fun n11 =>
    if (decide (n11 = 0)) = true then
    (callK (X d n_hand_Pick [.int .i64 x4, .int .i64 6] H5) fun v12 H13 =>
      asI .i64 v12 fun n14 =>
      if (decide (n14 = 0)) = true then
      (if (decide ((0 : Int) < (slen s9 : Int))) = true then
        (callK (X d n_hand_Pick [.int .i64 x2, .int .i64 (slen s9 : Int)] H13) fun v15 H16 =>
          asI .i64 v15 fun n17 =>
          if 0 ≤ n17 ∧ n17 ≤ (slen s9 : Int) then
          newK H16 (.cells [.int .u8 x3] t_uint8 false 0 false) fun p18 H19 =>
          optK (readD (.bytesStr) [.slice (some ⟨p18, 0, none⟩) 1 1] H19) fun v20 =>
          asS v20 fun s21 =>
          if slen (sSub s9 0 ((n17).toNat)) + slen s21 ≤ 9223372036854775807 then
          if 0 ≤ IntKind.wrap .i64 (n17 + 1) ∧ IntKind.wrap .i64 (n17 + 1) ≤ (slen s9 : Int) then
          if slen (sCat (sSub s9 0 ((n17).toNat)) s21) + slen (sSub s9 ((IntKind.wrap .i64 (n17 + 1)).toNat) (slen s9)) ≤ 9223372036854775807 then
          law17_KeysParses_p11 d (sCat (sCat (sSub s9 0 ((n17).toNat)) s21) (sSub s9 ((IntKind.wrap .i64 (n17 + 1)).toNat) (slen s9))) H19
          else none
          else none
          else none
          else none)
        else
        (law17_KeysParses_p11 d s9 H13))
      else
      (if (decide (n14 = 1)) = true then
        (if slen s9 + slen (S [35, 120, 10, 10]) ≤ 9223372036854775807 then
          if slen (sCat s9 (S [35, 120, 10, 10])) + slen s9 ≤ 9223372036854775807 then
          law17_KeysParses_p11 d (sCat (sCat s9 (S [35, 120, 10, 10])) s9) H13
          else none
          else none)
        else
        (if (decide (n14 = 2)) = true then
          (if (decide ((0 : Int) < (slen s9 : Int))) = true then
            (callK (X d n_hand_Pick [.int .i64 x2, .int .i64 (slen s9 : Int)] H13) fun v22 H23 =>
              asI .i64 v22 fun n24 =>
              if 0 ≤ n24 ∧ n24 ≤ (slen s9 : Int) then
              if 0 ≤ IntKind.wrap .i64 (n24 + 1) ∧ IntKind.wrap .i64 (n24 + 1) ≤ (slen s9 : Int) then
              if slen (sSub s9 0 ((n24).toNat)) + slen (sSub s9 ((IntKind.wrap .i64 (n24 + 1)).toNat) (slen s9)) ≤ 9223372036854775807 then
              law17_KeysParses_p11 d (sCat (sSub s9 0 ((n24).toNat)) (sSub s9 ((IntKind.wrap .i64 (n24 + 1)).toNat) (slen s9))) H23
              else none
              else none
              else none)
            else
            (law17_KeysParses_p11 d s9 H13))
          else
          (law17_KeysParses_p11 d s9 H13))))
    else
    (law17_KeysParses_p11 d x0 H5))
  else
  (law17_KeysParses_p11 d x0 H) := by kernel_rfl
end Go.Proofs.YthphbdkhbaijlaaDoor.dec

namespace Go.Proofs.YthphbdkhbaijlaaDoor.dec
open Go Go.Cm
/-! porthole/portholelaw17.same -/
noncomputable def law17_same_k111 (d : Nat) : Kt := run (X d) NN (cd 28 [1, 1, 1]) (retK (rs 28)) [] (retK (rs 28))
noncomputable def law17_same_l11010 (d : Nat) (m0 : Nat) : Kt := iter (fun k => run (X d) NN (cd 28 [1, 1, 0, 1, 0, 0]) (backK [(0, .sl), (1, .sl), (5, .int .i64)] (opq k)) [(0, (law17_same_k111 d))] (retK (rs 28))) m0
noncomputable def law17_same_p11010 (d : Nat) (m0 : Nat) (x0 : Sl) (x1 : Sl) (x5 : Int) (H : Heap) : Res := opq (law17_same_l11010 d m0) [(0, x0.v), (1, x1.v), (5, .int .i64 x5)] H
theorem law17_same_p11010_s (d : Nat) (m0 : Nat) (x0 : Sl) (x1 : Sl) (x5 : Int) (H : Heap) : law17_same_p11010 d (m0 + 1) x0 x1 x5 H =
  if (decide (x5 < (x0.n : Int))) = true then
  (optK x0.a fun a1 =>
    if 0 ≤ x5 ∧ x5 < (x0.n : Int) then
    optK (ldA H (ap a1 (((x5).toNat) * 35)) 35) fun v2 =>
    asA v2 fun c3 =>
    optK x1.a fun a4 =>
    if 0 ≤ x5 ∧ x5 < (x1.n : Int) then
    optK (ldA H (ap a4 (((x5).toNat) * 35)) 35) fun v5 =>
    asA v5 fun c6 =>
    chk (Array.size c3 == 35 && Array.size c6 == 35) (optK (eqL [.str, .int .u8, .int .u8, .int .u8, .int .u8, .int .u8, .int .u8, .int .u8, .int .u8, .int .u8, .int .u8, .int .u8, .int .u8, .int .u8, .int .u8, .int .u8, .int .u8, .int .u8, .int .u8, .int .u8, .int .u8, .int .u8, .int .u8, .int .u8, .int .u8, .int .u8, .int .u8, .int .u8, .int .u8, .int .u8, .int .u8, .int .u8, .int .u8, .int .i64, .str] c3.toList c6.toList) fun b7 =>
      if (!b7) = true then
      (some (.bool false, H))
      else
      (law17_same_p11010 d m0 x0 x1 (IntKind.wrap .i64 (x5 + 1)) H))
    else none
    else none)
  else
  (some (.bool true, H)) := (opq_app _ _ _).trans <| by kernel_rfl
theorem law17_same_eq (d : Nat) (x0 : Sl) (x1 : Sl) (H : Heap) : X (d + 1) n_law17_same [x0.v, x1.v] H =
  if (!decide ((x0.n : Int) = (x1.n : Int))) = true then
  (some (.bool false, H))
  else
  (law17_same_p11010 d NN x0 x1 0 H) := by kernel_rfl
end Go.Proofs.YthphbdkhbaijlaaDoor.dec

namespace Go.Proofs.YthphbdkhbaijlaaDoor.dec
open Go Go.Cm
/-! porthole/portholelaw17.KeysBack -/
noncomputable def law17_KeysBack_k1111 (d : Nat) : Kt := run (X d) NN (cd 9 [1, 1, 1, 1]) (retK (rs 9)) [] (retK (rs 9))
noncomputable def law17_KeysBack_p11101 (d : Nat) (x3 : Sl) (x4 : ByteArray) (x21 : Bool) (H : Heap) : Res := opq (run (X d) NN (cd 9 [1, 1, 1, 0, 1, 0]) (law17_KeysBack_k1111 d) [] (retK (rs 9))) [(3, x3.v), (4, .string x4), (21, .bool x21)] H
theorem law17_KeysBack_p11101_eq (d : Nat) (x3 : Sl) (x4 : ByteArray) (x21 : Bool) (H : Heap) : law17_KeysBack_p11101 d x3 x4 x21 H =
  if x21 = true then
  (callK (X d n_law17_known [] H) fun v1 H2 =>
    asB v1 fun b3 =>
    if b3 = true then
    (callK (X d n_keys_Right [x3.v] H2) fun v4 H5 =>
      asB v4 fun b6 =>
      if (!b6) = true then
      (some (.bool (sEq x4 (S [])), H5))
      else
      (some (.bool false, H5)))
    else
    (some (.bool false, H2)))
  else
  (callK (X d n_keys_Parse [.string x4] H) fun v7 H8 =>
    castT [.sl, .int .i64, .int .i64] v7 fun l9 =>
    castT [.sl, .int .i64, .int .i64] (.tuple ⟨l9⟩) fun l10 =>
    optK l10[0]? fun v11 =>
    asSL v11 fun l12 =>
    optK l10[1]? fun v13 =>
    asI .i64 v13 fun n14 =>
    optK l10[2]? fun v15 =>
    asI .i64 v15 fun n16 =>
    callK (X d n_keys_Right [x3.v] H8) fun v17 H18 =>
    asB v17 fun b19 =>
    if b19 = true then
    (callK (X d n_law17_same [l12.v, x3.v] H18) fun v20 H21 =>
      asB v20 fun b22 =>
      if b22 = true then
      (if (decide (n14 = 0)) = true then
        (some (.bool (decide (n16 = 0)), H21))
        else
        (some (.bool false, H21)))
      else
      (some (.bool false, H21)))
    else
    (some (.bool false, H18))) := (opq_app _ _ _).trans <| by kernel_rfl
theorem law17_KeysBack_eq (d : Nat) (x0 : Sl) (H : Heap) : X (d + 1) n_law17_KeysBack [x0.v] H =
  callK (X d n_law17_list [x0.v] H) fun v1 H2 =>
  asSL v1 fun l3 =>
  callK (X d n_keys_Print [l3.v] H2) fun v4 H5 =>
  castT [.str, .int .i64] v4 fun l6 =>
  castT [.str, .int .i64] (.tuple ⟨l6⟩) fun l7 =>
  optK l7[0]? fun v8 =>
  asS v8 fun s9 =>
  optK l7[1]? fun v10 =>
  asI .i64 v10 fun n11 =>
  callK (X d n_law17_known [] H5) fun v12 H13 =>
  asB v12 fun b14 =>
  if (!b14) = true then
  (law17_KeysBack_p11101 d l3 s9 true H13)
  else
  (law17_KeysBack_p11101 d l3 s9 (!decide (n11 = 0)) H13) := by kernel_rfl
end Go.Proofs.YthphbdkhbaijlaaDoor.dec

namespace Go.Proofs.YthphbdkhbaijlaaDoor.dec
open Go Go.Cm
/-! porthole/portholelaw17.KeysLines -/
noncomputable def law17_KeysLines_k111 (d : Nat) : Kt := run (X d) NN (cd 10 [1, 1, 1]) (retK (rs 10)) [] (retK (rs 10))
noncomputable def law17_KeysLines_k11111 (d : Nat) : Kt := run (X d) NN (cd 10 [1, 1, 1, 1, 1]) (retK (rs 10)) [] (retK (rs 10))
noncomputable def law17_KeysLines_k11111111 (d : Nat) : Kt := run (X d) NN (cd 10 [1, 1, 1, 1, 1, 1, 1, 1]) (retK (rs 10)) [] (retK (rs 10))
noncomputable def law17_KeysLines_l1111111010 (d : Nat) (m0 : Nat) : Kt := iter (fun k => run (X d) NN (cd 10 [1, 1, 1, 1, 1, 1, 1, 0, 1, 0, 0]) (backK [(5, .sl), (6, .str), (10, .sl), (11, .int .i64), (12, .int .i64), (13, .int .i64), (14, .int .i64)] (opq k)) [(2, (law17_KeysLines_k11111111 d))] (retK (rs 10))) m0
noncomputable def law17_KeysLines_l1111010 (d : Nat) (m0 : Nat) : Kt := iter (fun k => run (X d) NN (cd 10 [1, 1, 1, 1, 0, 1, 0, 0]) (backK [(1, .sl), (5, .sl), (6, .str), (7, .int .i64)] (opq k)) [(0, (law17_KeysLines_k11111 d))] (retK (rs 10))) m0
noncomputable def law17_KeysLines_k1111010011 (d : Nat) (m0 : Nat) : Kt := run (X d) NN (cd 10 [1, 1, 1, 1, 0, 1, 0, 0, 1, 1]) (backK [(1, .sl), (5, .sl), (6, .str), (7, .int .i64)] (opq (law17_KeysLines_l1111010 d m0))) [(0, (law17_KeysLines_k11111 d))] (retK (rs 10))
noncomputable def law17_KeysLines_p1101 (d : Nat) (x1 : Sl) (x5 : Sl) (x26 : Bool) (H : Heap) : Res := opq (run (X d) NN (cd 10 [1, 1, 0, 1, 0]) (law17_KeysLines_k111 d) [] (retK (rs 10))) [(1, x1.v), (5, x5.v), (26, .bool x26)] H
noncomputable def law17_KeysLines_p1111010 (d : Nat) (m0 : Nat) (x1 : Sl) (x5 : Sl) (x6 : ByteArray) (x7 : Int) (H : Heap) : Res := opq (law17_KeysLines_l1111010 d m0) [(1, x1.v), (5, x5.v), (6, .string x6), (7, .int .i64 x7)] H
noncomputable def law17_KeysLines_p111101001001 (d : Nat) (m0 : Nat) (x1 : Sl) (x5 : Sl) (x6 : ByteArray) (x7 : Int) (H : Heap) : Res := opq (run (X d) NN (cd 10 [1, 1, 1, 1, 0, 1, 0, 0, 1, 0, 0, 1, 0]) (law17_KeysLines_k1111010011 d m0) [(1, (law17_KeysLines_k1111010011 d m0)), (0, (law17_KeysLines_k11111 d))] (retK (rs 10))) [(1, x1.v), (5, x5.v), (6, .string x6), (7, .int .i64 x7)] H
noncomputable def law17_KeysLines_p1111111010 (d : Nat) (m0 : Nat) (x5 : Sl) (x6 : ByteArray) (x10 : Sl) (x11 : Int) (x12 : Int) (x13 : Int) (x14 : Int) (H : Heap) : Res := opq (law17_KeysLines_l1111111010 d m0) [(5, x5.v), (6, .string x6), (10, x10.v), (11, .int .i64 x11), (12, .int .i64 x12), (13, .int .i64 x13), (14, .int .i64 x14)] H
noncomputable def law17_KeysLines_p1111111010011 (d : Nat) (m0 : Nat) (x5 : Sl) (x6 : ByteArray) (x10 : Sl) (x11 : Int) (x12 : Int) (x13 : Int) (x14 : Int) (H : Heap) : Res := opq (run (X d) NN (cd 10 [1, 1, 1, 1, 1, 1, 1, 0, 1, 0, 0, 1, 1, 0]) (backK [(5, .sl), (6, .str), (10, .sl), (11, .int .i64), (12, .int .i64), (13, .int .i64), (14, .int .i64)] (opq (law17_KeysLines_l1111111010 d m0))) [(2, (law17_KeysLines_k11111111 d))] (retK (rs 10))) [(5, x5.v), (6, .string x6), (10, x10.v), (11, .int .i64 x11), (12, .int .i64 x12), (13, .int .i64 x13), (14, .int .i64 x14)] H
theorem law17_KeysLines_p1101_eq (d : Nat) (x1 : Sl) (x5 : Sl) (x26 : Bool) (H : Heap) : law17_KeysLines_p1101 d x1 x5 x26 H =
  if x26 = true then
  (callK (X d n_law17_known [] H) fun v1 H2 =>
    asB v1 fun b3 =>
    some (.bool b3, H2))
  else
  (law17_KeysLines_p1111010 d NN x1 x5 (S []) 0 H) := (opq_app _ _ _).trans <| by kernel_rfl
theorem law17_KeysLines_p1111010_s (d : Nat) (m0 : Nat) (x1 : Sl) (x5 : Sl) (x6 : ByteArray) (x7 : Int) (H : Heap) : law17_KeysLines_p1111010 d (m0 + 1) x1 x5 x6 x7 H =
  if (decide (x7 < (x5.n : Int))) = true then
  (if (decide (x7 < (x1.n : Int))) = true then
    (optK x1.a fun a1 =>
      if 0 ≤ x7 ∧ x7 < (x1.n : Int) then
      optK (Heap.ld1 H (ap a1 (((x7).toNat) * 1))) fun v2 =>
      asI .i64 v2 fun n3 =>
      callK (X d n_hand_Pick [.int .i64 n3, .int .i64 4] H) fun v4 H5 =>
      asI .i64 v4 fun n6 =>
      if 0 ≤ n6 ∧ n6 < 4 then
      optK (partL [.string (S []), .string (S [10]), .string (S [35, 32, 97, 32, 110, 111, 116, 101, 10]), .string (S [35, 10, 10])] (((n6).toNat) * 1) 1 false) fun v7 =>
      asS v7 fun s8 =>
      if slen x6 + slen s8 ≤ 9223372036854775807 then
      law17_KeysLines_p111101001001 d m0 x1 x5 (sCat x6 s8) x7 H5
      else none
      else none
      else none)
    else
    (law17_KeysLines_p111101001001 d m0 x1 x5 x6 x7 H))
  else
  (callK (X d n_keys_Parse [.string x6] H) fun v9 H10 =>
    castT [.sl, .int .i64, .int .i64] v9 fun l11 =>
    castT [.sl, .int .i64, .int .i64] (.tuple ⟨l11⟩) fun l12 =>
    optK l12[0]? fun v13 =>
    asSL v13 fun l14 =>
    optK l12[1]? fun v15 =>
    asI .i64 v15 fun n16 =>
    optK l12[2]? fun v17 =>
    asI .i64 v17 fun n18 =>
    law17_KeysLines_p1111111010 d NN x5 x6 l14 n16 n18 1 0 H10) := (opq_app _ _ _).trans <| by kernel_rfl
theorem law17_KeysLines_p111101001001_eq (d : Nat) (m0 : Nat) (x1 : Sl) (x5 : Sl) (x6 : ByteArray) (x7 : Int) (H : Heap) : law17_KeysLines_p111101001001 d m0 x1 x5 x6 x7 H =
  optK (readD (.subSl t_api_Key 35 true true false) [x5.v, .int .i64 x7, .int .i64 (IntKind.wrap .i64 (x7 + 1))] H) fun v1 =>
  asSL v1 fun l2 =>
  callK (X d n_keys_Print [l2.v] H) fun v3 H4 =>
  castT [.str, .int .i64] v3 fun l5 =>
  castT [.str, .int .i64] (.tuple ⟨l5⟩) fun l6 =>
  optK l6[0]? fun v7 =>
  asS v7 fun s8 =>
  optK l6[1]? fun v9 =>
  asI .i64 v9 fun n10 =>
  if (!decide (n10 = 0)) = true then
  (some (.bool false, H4))
  else
  (if slen x6 + slen s8 ≤ 9223372036854775807 then
    law17_KeysLines_p1111010 d m0 x1 x5 (sCat x6 s8) (IntKind.wrap .i64 (x7 + 1)) H4
    else none) := (opq_app _ _ _).trans <| by kernel_rfl
theorem law17_KeysLines_p1111111010_s (d : Nat) (m0 : Nat) (x5 : Sl) (x6 : ByteArray) (x10 : Sl) (x11 : Int) (x12 : Int) (x13 : Int) (x14 : Int) (H : Heap) : law17_KeysLines_p1111111010 d (m0 + 1) x5 x6 x10 x11 x12 x13 x14 H =
  if (decide (x14 < (slen x6 : Int))) = true then
  (if 0 ≤ x14 ∧ x14 < (slen x6 : Int) then
    if (decide (bt x6 ((x14).toNat) = 10)) = true then
    (law17_KeysLines_p1111111010011 d m0 x5 x6 x10 x11 x12 (IntKind.wrap .i64 (x13 + 1)) x14 H)
    else
    (law17_KeysLines_p1111111010011 d m0 x5 x6 x10 x11 x12 x13 x14 H)
    else none)
  else
  (if slen x6 + slen (S [110, 111, 32, 107, 101, 121]) ≤ 9223372036854775807 then
    callK (X d n_keys_Parse [.string (sCat x6 (S [110, 111, 32, 107, 101, 121]))] H) fun v1 H2 =>
    castT [.sl, .int .i64, .int .i64] v1 fun l3 =>
    castT [.sl, .int .i64, .int .i64] (.tuple ⟨l3⟩) fun l4 =>
    optK l4[0]? fun v5 =>
    asSL v5 fun _ =>
    optK l4[1]? fun v7 =>
    asI .i64 v7 fun n8 =>
    optK l4[2]? fun v9 =>
    asI .i64 v9 fun n10 =>
    callK (X d n_law17_same [x10.v, x5.v] H2) fun v11 H12 =>
    asB v11 fun b13 =>
    if b13 = true then
    (if (decide (x11 = 0)) = true then
      (if (decide (x12 = 0)) = true then
        (if (decide (n8 = x13)) = true then
          (some (.bool (decide (n10 = 5)), H12))
          else
          (some (.bool false, H12)))
        else
        (some (.bool false, H12)))
      else
      (some (.bool false, H12)))
    else
    (some (.bool false, H12))
    else none) := (opq_app _ _ _).trans <| by kernel_rfl
theorem law17_KeysLines_p1111111010011_eq (d : Nat) (m0 : Nat) (x5 : Sl) (x6 : ByteArray) (x10 : Sl) (x11 : Int) (x12 : Int) (x13 : Int) (x14 : Int) (H : Heap) : law17_KeysLines_p1111111010011 d m0 x5 x6 x10 x11 x12 x13 x14 H =
  law17_KeysLines_p1111111010 d m0 x5 x6 x10 x11 x12 x13 (IntKind.wrap .i64 (x14 + 1)) H := (opq_app _ _ _).trans <| by kernel_rfl
theorem law17_KeysLines_eq (d : Nat) (x0 : Sl) (x1 : Sl) (H : Heap) : X (d + 1) n_law17_KeysLines [x0.v, x1.v] H =
  callK (X d n_law17_list [x0.v] H) fun v1 H2 =>
  asSL v1 fun l3 =>
  callK (X d n_law17_known [] H2) fun v4 H5 =>
  asB v4 fun b6 =>
  if (!b6) = true then
  (law17_KeysLines_p1101 d x1 l3 true H5)
  else
  (callK (X d n_keys_Right [l3.v] H5) fun v7 H8 =>
    asB v7 fun b9 =>
    law17_KeysLines_p1101 d x1 l3 (!b9) H8) := by kernel_rfl
end Go.Proofs.YthphbdkhbaijlaaDoor.dec
