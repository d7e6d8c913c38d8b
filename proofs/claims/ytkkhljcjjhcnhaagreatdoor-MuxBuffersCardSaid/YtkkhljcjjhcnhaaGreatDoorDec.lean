/-
  The functions' numbers, their code with cuts.
  And: What calls compute, piece by piece. What calls compute, piece by piece. What calls compute, piece by piece. What calls compute, piece by piece. What calls compute, piece by piece. What calls compute, piece by piece. What calls compute, piece by piece. What calls compute, piece by piece. What calls compute, piece by piece. What calls compute, piece by piece. What calls compute, piece by piece. What calls compute, piece by piece. What calls compute, piece by piece. What calls compute, piece by piece. What calls compute, piece by piece. What calls compute, piece by piece. What calls compute, piece by piece. What calls compute, piece by piece. What calls compute, piece by piece. What calls compute, piece by piece. What calls compute, piece by piece. What calls compute, piece by piece. What calls compute, piece by piece. What calls compute, piece by piece. What calls compute, piece by piece. What calls compute, piece by piece. What calls compute, piece by piece. What calls compute, piece by piece. What calls compute, piece by piece. What calls compute, piece by piece. What calls compute, piece by piece. What calls compute, piece by piece. What calls compute, piece by piece. What calls compute, piece by piece. What calls compute, piece by piece. What calls compute, piece by piece. What calls compute, piece by piece. What calls compute, piece by piece. What calls compute, piece by piece. What calls compute, piece by piece. What calls compute, piece by piece. What calls compute, piece by piece. What calls compute, piece by piece. What calls compute, piece by piece. What calls compute, piece by piece. What calls compute, piece by piece. What calls compute, piece by piece. What calls compute, piece by piece. What calls compute, piece by piece. What calls compute, piece by piece. What calls compute, piece by piece. What calls compute, piece by piece. What calls compute, piece by piece. What calls compute, piece by piece. What calls compute, piece by piece. What calls compute, piece by piece. What calls compute, piece by piece. What calls compute, piece by piece. What calls compute, piece by piece. What calls compute, piece by piece. What calls compute, piece by piece. What calls compute, piece by piece. What calls compute, piece by piece. What calls compute, piece by piece. What calls compute, piece by piece. What calls compute, piece by piece. What calls compute, piece by piece. What calls compute, piece by piece. What calls compute, piece by piece. What calls compute, piece by piece. What calls compute, piece by piece. What calls compute, piece by piece. What calls compute, piece by piece. What calls compute, piece by piece. What calls compute, piece by piece. What calls compute, piece by piece. What calls compute, piece by piece. What calls compute, piece by piece. What calls compute, piece by piece. What calls compute, piece by piece.
-/
import Derived.Test.YtkkhljcjjhcnhaaGreatDoorCmH
import Derived.Test.YtkkhljcjjhcnhaaGreatDoorChecked
namespace Go.Proofs.YtkkhljcjjhcnhaaGreatDoor.dec
open Go Go.Cm
abbrev n_law23_MuxBuffers : Nat := 5
abbrev n_mux_New : Nat := 9
abbrev n_law23_known : Nat := 10
abbrev n_hand_Pick : Nat := 11
abbrev n_mux_Mux_NewSession : Nat := 12
abbrev n_mux_Mux_Output : Nat := 19
abbrev n_mux_Mux_Copy : Nat := 20
abbrev n_mux_Mux_Buffers : Nat := 21
abbrev n_mux_Mux_Paste : Nat := 22
abbrev n_mux_Mux_Take : Nat := 23
abbrev n_grid_New : Nat := 30
abbrev n_mux_Right : Nat := 31
abbrev n_mux_Mux_fresh : Nat := 32
abbrev n_layout_Tree_Panes : Nat := 36
abbrev n_grid_Grid_Write : Nat := 39
abbrev n_mux_Mux_window : Nat := 40
abbrev n_grid_Grid_Past : Nat := 41
abbrev n_grid_Grid_Screen : Nat := 42
abbrev n_grid_Text : Nat := 43
abbrev n_strings_Join : Nat := 44
abbrev n_mux_Mux_Input : Nat := 45
abbrev n_mux_Mux_make : Nat := 47
abbrev n_mux_Mux_fit : Nat := 48
abbrev n_layout_Tree_Places : Nat := 49
abbrev n_grid_size : Nat := 55
abbrev n_vt_New : Nat := 56
abbrev n_grid_Grid_reset : Nat := 57
abbrev n_layout_New : Nat := 58
abbrev n_layout_node_walk : Nat := 62
abbrev n_layout_Tree_Panes_1 : Nat := 63
abbrev n_layout_node_leaf : Nat := 64
abbrev n_vt_Parser_Feed : Nat := 66
abbrev n_grid_Grid_Do : Nat := 67
abbrev n_grid_copied : Nat := 68
abbrev n_strings_TrimRight : Nat := 69
abbrev n_utf_Text : Nat := 70
abbrev n_grid_Grid_Resize : Nat := 77
abbrev n_layout_all : Nat := 78
abbrev n_layout_Tree_Places_1 : Nat := 79
abbrev n_utf_Runes : Nat := 83
abbrev n_utf_New : Nat := 84
abbrev n_grid_sheet : Nat := 85
abbrev n_layout_node_parts : Nat := 89
abbrev n_utf_Decoder_Feed : Nat := 91
abbrev n_vt_Parser_Rune : Nat := 92
abbrev n_grid_Grid_print : Nat := 93
abbrev n_grid_Grid_control : Nat := 94
abbrev n_grid_Grid_esc : Nat := 95
abbrev n_grid_Grid_modes : Nat := 96
abbrev n_grid_Grid_csi : Nat := 97
abbrev n_slices_Clone_S_api_Cell_api_Cell : Nat := 98
abbrev n_strings_trimRightByte : Nat := 99
abbrev n_strings_makeASCIISet : Nat := 100
abbrev n_strings_trimRightASCII : Nat := 101
abbrev n_strings_trimRightUnicode : Nat := 102
abbrev n_slices_Contains_S_int_int : Nat := 105
abbrev n_grid_line : Nat := 108
abbrev n_grid_Grid_keep : Nat := 109
abbrev n_unicode_utf8_RuneStart : Nat := 122
abbrev n_unicode_utf8_FullRune : Nat := 123
abbrev n_vt_Parser_escaped : Nat := 124
abbrev n_vt_Parser_csi : Nat := 125
abbrev n_vt_Parser_plain : Nat := 126
abbrev n_grid_Grid_index : Nat := 127
abbrev n_grid_Grid_cell : Nat := 128
abbrev n_grid_Grid_move : Nat := 129
abbrev n_grid_Grid_down : Nat := 130
abbrev n_grid_Grid_alternate : Nat := 131
abbrev n_vt_Params : Nat := 132
abbrev n_grid_Grid_style : Nat := 133
abbrev n_grid_Grid_edit : Nat := 134
abbrev n_slices_Index_S_int_int : Nat := 140
abbrev n_slices_Repeat_S_api_Cell_api_Cell : Nat := 141
abbrev n_grid_blank : Nat := 142
abbrev n_vt_control : Nat := 150
abbrev n_grid_Grid_up : Nat := 151
abbrev n_grid_Grid_put : Nat := 152
abbrev n_grid_Grid_erase : Nat := 153
abbrev n_grid_Grid_eraseLine : Nat := 154
abbrev n_grid_Grid_take : Nat := 155
abbrev n_grid_Grid_cut : Nat := 156
abbrev n_math_bits_Mul : Nat := 159
abbrev n_grid_Grid_wipe : Nat := 165
abbrev n_slices_Clone_S_S_api_Cell_S_api_Cell : Nat := 166
abbrev n_math_bits_Mul64 : Nat := 173
abbrev t_int : Nat := 3
abbrev t_bool : Nat := 4
abbrev t_uint8 : Nat := 5
abbrev t_string : Nat := 9
abbrev t_int32 : Nat := 21
abbrev t_S_int : Nat := 22
abbrev t_api_Screen : Nat := 56
abbrev t_mux_Mux : Nat := 71
abbrev t_S_api_Cell : Nat := 72
abbrev t_api_Cell : Nat := 74
abbrev t_P_mux_window : Nat := 78
abbrev t_mux_session : Nat := 82
abbrev t_mux_window : Nat := 90
abbrev t_mux_pane : Nat := 97
abbrev t_S_api_Rect : Nat := 106
abbrev t_api_Rect : Nat := 110
abbrev t_grid_Grid : Nat := 126
abbrev t_layout_Tree : Nat := 131
abbrev t_layout_node : Nat := 134
abbrev t_vt_Act : Nat := 139
abbrev t_vt_Parser : Nat := 166
abbrev t_strings_asciiSet : Nat := 181
abbrev t_utf_Decoder : Nat := 195
abbrev t_utf8_acceptRange : Nat := 234
def cutsL : List (Nat × CT) := [(3, (.two .no (.two .no (.two (.two .no (.cut [(0, .sl), (3, .ptr), (29, .bool)] .no)) (.two .no (.two .no (.two (.two .no (.one (.lp [(0, .sl), (3, .ptr), (5, .any), (6, .int .i64), (7, .int .i64)] (.two (.two .no (.cut [(0, .sl), (3, .ptr), (5, .any), (6, .int .i64), (7, .int .i64), (37, .bool)] .no)) (.two (.one (.two .no (.two .no (.two (.two .no (.one (.two .no (.cut [(0, .sl), (3, .ptr), (5, .any), (6, .int .i64), (7, .int .i64), (8, .int .i64), (9, .int .i64), (56, .int .i64), (74, .bool)] (.two (.two .no (.two .no (.two .no (.cut [(0, .sl), (3, .ptr), (5, .any), (6, .int .i64), (7, .int .i64), (8, .int .i64), (10, .int .i64), (11, .int .i64)] .no)))) (.two .no (.two (.two .no (.two (.two .no (.cut [(0, .sl), (3, .ptr), (5, .any), (6, .int .i64), (7, .int .i64), (8, .int .i64), (9, .int .i64), (12, .int .i64), (117, .bool)] .no)) .no)) .no))))))) (.cut [(0, .sl), (3, .ptr), (5, .any), (6, .int .i64), (7, .int .i64)] (.two .no (.two .no (.two .no (.two .no (.one (.lp [(0, .sl), (3, .ptr), (5, .any), (6, .int .i64), (7, .int .i64), (13, .sl), (14, .int .i64), (15, .int .i64)] (.two .no (.two .no (.cut [(0, .sl), (3, .ptr), (5, .any), (6, .int .i64), (7, .int .i64), (13, .sl), (14, .int .i64), (15, .int .i64)] .no)))))))))))))) .no))))) .no))))))),
  (4, (.two .no (.two .no (.two (.two .no (.cut [(0, .sl), (3, .ptr), (32, .bool)] .no)) (.two .no (.two .no (.two .no (.two (.two .no (.one (.lp [(0, .sl), (3, .ptr), (5, .sl), (6, .int .i64), (7, .int .i64), (8, .int .i64)] (.two (.two .no (.cut [(0, .sl), (3, .ptr), (5, .sl), (6, .int .i64), (7, .int .i64), (8, .int .i64), (41, .bool)] .no)) (.two (.one (.two .no (.two .no (.cut [(0, .sl), (3, .ptr), (5, .sl), (6, .int .i64), (7, .int .i64), (8, .int .i64)] (.two .no (.two (.two .no (.cut [(0, .sl), (3, .ptr), (5, .sl), (6, .int .i64), (7, .int .i64), (8, .int .i64), (12, .sl), (143, .bool)] .no)) (.two .no (.one (.lp [(0, .sl), (3, .ptr), (5, .sl), (6, .int .i64), (7, .int .i64), (8, .int .i64), (12, .sl), (13, .int .i64)] .no))))))))) .no))))) .no)))))))),
  (5, (.two .no (.two .no (.two (.two .no (.cut [(0, .sl), (1, .int .i64), (5, .ptr), (38, .bool)] .no)) (.two .no (.two (.two .no (.one (.lp [(0, .sl), (1, .int .i64), (5, .ptr), (7, .sl), (8, .int .i64)] (.two (.two .no (.cut [(0, .sl), (1, .int .i64), (5, .ptr), (7, .sl), (8, .int .i64), (46, .bool)] .no)) (.two (.one (.two .no (.two .no (.cut [(0, .sl), (1, .int .i64), (5, .ptr), (7, .sl), (8, .int .i64), (9, .str)] .no)))) .no))))) (.two .no (.two (.two .no (.one (.lp [(1, .int .i64), (5, .ptr), (7, .sl), (10, .sl), (11, .int .i64)] (.two (.two .no (.cut [(1, .int .i64), (5, .ptr), (7, .sl), (10, .sl), (11, .int .i64), (78, .bool)] .no)) (.two (.one (.two .no (.two .no (.two .no (.two .no (.two (.two .no (.one (.lp [(1, .int .i64), (5, .ptr), (7, .sl), (10, .sl), (11, .int .i64), (13, .int .i64), (14, .str), (15, .int .i64)] .no))) .no)))))) .no))))) (.two .no (.two .no (.two .no (.two (.two .no (.one (.lp [(5, .ptr), (10, .sl), (16, .sl), (17, .int .i64)] (.two .no (.two (.one (.two (.two .no (.cut [(5, .ptr), (10, .sl), (16, .sl), (17, .int .i64), (153, .bool)] .no)) .no)) .no))))) .no)))))))))))),
  (6, (.two .no (.two .no (.two (.two .no (.cut [(0, .sl), (1, .sl), (2, .int .i64), (7, .ptr), (48, .bool)] .no)) (.two (.two .no (.one (.lp [(0, .sl), (1, .sl), (2, .int .i64), (7, .ptr), (9, .int .i64)] (.two (.two .no (.cut [(0, .sl), (1, .sl), (2, .int .i64), (7, .ptr), (9, .int .i64), (56, .bool)] .no)) .no)))) (.two .no (.two .no (.two .no (.two (.two .no (.one (.lp [(1, .sl), (7, .ptr), (11, .int .i64), (12, .sl), (13, .int .i64)] .no))) (.two .no (.two .no (.two (.two .no (.one (.lp [(7, .ptr), (11, .int .i64), (12, .sl), (17, .any), (19, .int .i64)] (.two .no (.two (.one (.two .no (.two .no (.cut [(7, .ptr), (11, .int .i64), (12, .sl), (17, .any), (19, .int .i64), (135, .bool)] .no)))) .no))))) .no)))))))))))),
  (7, (.two .no (.two .no (.two .no (.two .no (.two (.two .no (.cut [(0, .int .i64), (1, .int .i64), (2, .sl), (3, .sl), (9, .ptr), (47, .bool)] .no)) (.two (.two .no (.one (.lp [(0, .int .i64), (1, .int .i64), (2, .sl), (3, .sl), (9, .ptr), (11, .int .i64)] (.two (.two .no (.cut [(0, .int .i64), (1, .int .i64), (2, .sl), (3, .sl), (9, .ptr), (11, .int .i64), (55, .bool)] .no)) .no)))) (.two .no (.two .no (.two .no (.two .no (.two .no (.two (.two .no (.cut [(0, .int .i64), (1, .int .i64), (9, .ptr), (12, .any), (123, .bool)] .no)) .no))))))))))))),
  (8, (.two .no (.two .no (.two .no (.two (.two .no (.cut [(3, .ptr), (39, .bool)] .no)) .no))))),
  (14, (.two .no (.two .no (.two .no (.two (.two .no (.one (.lp [(0, .ptr), (1, .str), (23, .sl), (24, .int .i64), (25, .int .i64)] .no))) .no))))),
  (15, (.two .no (.two .no (.two (.two .no (.one (.lp [(0, .ptr), (3, .sl), (15, .sl), (16, .int .i64), (17, .int .i64)] (.two .no (.two .no (.two (.one (.two .no (.two .no (.two .no (.two (.two .no (.one (.lp [(0, .ptr), (3, .sl), (7, .any), (15, .sl), (16, .int .i64), (17, .int .i64), (36, .sl), (37, .int .i64), (38, .int .i64)] .no))) .no))))) .no)))))) .no)))),
  (17, (.two .no (.two .no (.two (.one (.two .no (.two .no (.two .no (.cut [(2, .int .i64), (7, .ptr), (21, .bool)] .no))))) .no)))),
  (20, (.two .no (.two .no (.two .no (.two .no (.two .no (.two .no (.two .no (.two (.two .no (.one (.lp [(0, .ptr), (12, .sl), (59, .sl), (60, .int .i64), (61, .int .i64)] .no))) .no))))))))),
  (22, (.two .no (.two (.one (.two .no (.two .no (.two .no (.cut [(0, .ptr), (1, .str), (2, .int .i64), (12, .bool)] .no))))) .no))),
  (26, (.two .no (.two .no (.two .no (.two .no (.two .no (.two .no (.two .no (.two (.two .no (.one (.lp [(0, .ptr), (4, .any), (6, .ptr), (9, .any), (10, .sl), (72, .sl), (73, .int .i64), (74, .int .i64)] (.two .no (.two .no (.two .no (.cut [(0, .ptr), (4, .any), (6, .ptr), (9, .any), (10, .sl), (72, .sl), (73, .int .i64), (74, .int .i64)] .no))))))) (.two (.two .no (.one (.lp [(4, .any), (9, .any), (164, .sl), (165, .int .i64), (166, .int .i64)] (.two .no (.two .no (.two (.one (.two .no (.two .no (.one (.lp [(4, .any), (9, .any), (15, .any), (164, .sl), (165, .int .i64), (166, .int .i64), (172, .int .i64), (173, .int .i64)] (.two .no (.two .no (.two (.one (.two .no (.two .no (.one (.lp [(4, .any), (9, .any), (15, .any), (16, .int .i64), (164, .sl), (165, .int .i64), (166, .int .i64), (172, .int .i64), (173, .int .i64), (178, .int .i64), (179, .int .i64)] .no))))) .no)))))))) .no)))))) .no)))))))))),
  (27, (.two .no (.two .no (.two (.two .no (.one (.lp [(0, .sl), (1, .int .i64), (5, .str), (6, .int .i64)] (.two (.two .no (.cut [(0, .sl), (1, .int .i64), (5, .str), (6, .int .i64), (16, .bool)] .no)) (.two .no (.cut [(0, .sl), (1, .int .i64), (5, .str), (6, .int .i64)] .no)))))) .no)))),
  (31, (.two .no (.two (.two .no (.one (.lp [(0, .str), (3, .int .i64)] (.two .no (.two (.one (.two .no (.two .no (.cut [(0, .str), (3, .int .i64), (31, .bool)] .no)))) .no))))) .no))),
  (33, (.two .no (.one (.lp [(0, .ptr), (10, .sl), (11, .int .i64), (12, .int .i64)] .no)))),
  (39, (.two .no (.one (.lp [(0, .ptr), (11, .sl), (12, .int .i64), (13, .int .i64)] .no)))),
  (43, (.two .no (.two .no (.two (.two .no (.one (.lp [(3, .sl), (6, .sl), (7, .int .i64), (8, .int .i64)] .no))) .no)))),
  (48, (.two .no (.two .no (.one (.lp [(0, .ptr), (1, .ptr), (4, .sl), (28, .sl), (29, .int .i64), (30, .int .i64)] (.two .no (.two .no (.two (.one (.two .no (.two .no (.two (.two .no (.cut [(0, .ptr), (1, .ptr), (4, .sl), (6, .int .i64), (7, .int .i64), (8, .int .i64), (28, .sl), (29, .int .i64), (30, .int .i64), (58, .bool)] .no)) (.cut [(0, .ptr), (1, .ptr), (4, .sl), (6, .int .i64), (7, .int .i64), (8, .int .i64), (28, .sl), (29, .int .i64), (30, .int .i64)] (.two .no (.two .no (.two .no (.cut [(0, .ptr), (1, .ptr), (4, .sl), (7, .int .i64), (8, .int .i64), (9, .ptr), (28, .sl), (29, .int .i64), (30, .int .i64), (87, .bool)] .no))))))))) (.cut [(0, .ptr), (1, .ptr), (4, .sl), (28, .sl), (29, .int .i64), (30, .int .i64)] .no))))))))),
  (50, (.two .no (.two .no (.one (.lp [(3, .any), (4, .any), (5, .any), (12, .int .i64), (13, .int .i64)] (.two .no (.two .no (.two (.one (.two .no (.two .no (.cut [(3, .any), (4, .any), (5, .any), (6, .int .i64), (12, .int .i64), (13, .int .i64), (29, .bool)] .no)))) (.cut [(3, .any), (4, .any), (5, .any), (12, .int .i64), (13, .int .i64)] .no))))))))),
  (52, (.two .no (.two (.two .no (.one (.lp [(0, .bool), (5, .any)] .no))) .no))),
  (54, (.two .no (.two .no (.two (.two .no (.one (.lp [(0, .sl), (1, .sl), (5, .int .i64)] (.two .no (.two (.one (.two .no (.two .no (.one (.lp [(0, .sl), (1, .sl), (5, .int .i64), (6, .int .i64)] .no))))) .no))))) .no)))),
  (57, (.two .no (.two .no (.two .no (.two .no (.two (.two .no (.one (.lp [(0, .ptr), (48, .int .i64), (49, .int .i64)] (.two .no (.two .no (.two .no (.cut [(0, .ptr), (48, .int .i64), (49, .int .i64)] .no))))))) .no)))))),
  (65, (.two .no (.two .no (.two .no (.two .no (.cut [(0, .ptr), (3, .str)] .no)))))),
  (66, (.two .no (.two .no (.two (.two .no (.one (.lp [(0, .ptr), (5, .sl), (15, .sl), (16, .int .i64), (17, .int .i64)] (.two .no (.two .no (.two .no (.cut [(0, .ptr), (5, .sl), (15, .sl), (16, .int .i64), (17, .int .i64)] .no))))))) .no)))),
  (68, (.two .no (.two .no (.two (.two .no (.one (.lp [(3, .sl), (6, .sl), (7, .int .i64), (8, .int .i64)] .no))) .no)))),
  (69, (.two .no (.two (.two .no (.cut [(0, .str), (1, .str), (12, .bool)] .no)) (.two (.two .no (.cut [(0, .str), (1, .str), (21, .bool)] .no)) .no)))),
  (75, (.two .no (.two .no (.two (.one (.lp [(8, .ptr), (9, .any), (10, .sl), (11, .sl)] .no)) .no)))),
  (77, (.two .no (.two .no (.two .no (.two .no (.cut [(0, .ptr), (1, .int .i64), (2, .int .i64), (7, .ptr), (8, .ptr)] (.two .no (.two (.two .no (.one (.lp [(0, .ptr), (1, .int .i64), (2, .int .i64), (7, .ptr), (8, .ptr), (11, .sl), (12, .int .i64), (86, .sl), (87, .int .i64), (88, .int .i64)] .no))) (.two .no (.two .no (.two .no (.two (.two .no (.one (.lp [(0, .ptr), (1, .int .i64), (2, .int .i64), (126, .sl), (127, .int .i64), (128, .int .i64)] .no))) (.two .no (.two (.two .no (.one (.lp [(0, .ptr), (2, .int .i64), (18, .int .i64)] .no))) .no)))))))))))))),
  (80, (.two .no (.two .no (.two .no (.cut [(0, .ptr), (2, .ptr), (4, .any), (5, .int .i64), (15, .bool)] .no))))),
  (83, (.two .no (.two .no (.two (.two .no (.one (.lp [(3, .sl), (7, .any)] .no))) .no)))),
  (85, (.two .no (.two .no (.two (.two .no (.one (.lp [(1, .int .i64), (5, .sl), (6, .int .i64), (7, .int .i64)] .no))) .no)))),
  (91, (.two .no (.two .no (.two .no (.two (.two .no (.one (.lp [(0, .ptr), (5, .sl), (6, .int .i64), (7, .int .i64)] (.two .no (.two (.one (.two .no (.cut [(0, .ptr), (5, .sl), (6, .int .i64), (7, .int .i64), (38, .bool)] .no))) (.cut [(0, .ptr), (5, .sl), (6, .int .i64), (7, .int .i64)] .no)))))) .no))))),
  (92, (.two .no (.two (.one (.two .no (.cut [(0, .ptr), (1, .int .i32), (4, .any), (6, .bool)] .no))) (.two (.two .no (.one (.two .no (.two .no (.two .no (.two .no (.two .no (.two .no (.two .no (.two (.two (.two .no (.cut [(0, .ptr), (4, .any), (62, .bool)] .no)) .no) .no)))))))))) .no)))),
  (93, (.two (.two .no (.cut [(0, .ptr), (1, .int .i32), (15, .bool)] .no)) (.cut [(0, .ptr), (1, .int .i32)] (.two .no (.cut [(0, .ptr), (1, .int .i32)] .no))))),
  (94, (.two .no (.one (.two .no (.two .no (.two .no (.two (.two .no (.two (.one (.lp [(0, .ptr), (4, .int .i64)] (.two (.two .no (.cut [(0, .ptr), (4, .int .i64), (45, .bool)] .no)) .no))) .no)) (.two .no (.cut [(0, .ptr), (5, .int .i32), (56, .bool)] .no))))))))),
  (96, (.two .no (.two (.two .no (.cut [(0, .ptr), (3, .any), (14, .bool)] .no)) (.two .no (.two .no (.one (.lp [(0, .ptr), (4, .bool), (19, .sl), (20, .int .i64), (21, .int .i64)] (.two .no (.two .no (.two .no (.cut [(0, .ptr), (4, .bool), (19, .sl), (20, .int .i64), (21, .int .i64)] .no))))))))))),
  (97, (.two .no (.two .no (.two .no (.two .no (.one (.two .no (.cut [(0, .ptr), (3, .any), (4, .int .i64), (5, .int .i64), (6, .int .i64), (24, .int .i32), (29, .bool)] (.two (.two .no (.two .no (.cut [(0, .ptr), (3, .any), (4, .int .i64), (5, .int .i64), (6, .int .i64), (7, .int .i64)] (.two .no (.two .no (.cut [(0, .ptr), (5, .int .i64), (6, .int .i64)] .no)))))) (.two .no (.cut [(0, .ptr), (3, .any), (4, .int .i64), (5, .int .i64), (6, .int .i64), (24, .int .i32), (54, .bool)] (.two (.two .no (.two .no (.cut [(0, .ptr), (3, .any), (4, .int .i64), (5, .int .i64), (6, .int .i64), (8, .int .i64)] (.two .no (.two .no (.cut [(0, .ptr), (5, .int .i64), (6, .int .i64)] .no)))))) (.two .no (.two .no (.two .no (.two .no (.two .no (.two .no (.two .no (.two .no (.two .no (.cut [(0, .ptr), (3, .any), (4, .int .i64), (24, .int .i32), (114, .bool)] (.two .no (.two .no (.two (.two .no (.one (.lp [(0, .ptr), (127, .sl), (128, .int .i64), (129, .int .i64)] .no))) (.two .no (.cut [(0, .ptr), (3, .any), (4, .int .i64), (137, .bool)] .no))))))))))))))))))))))))))),
  (99, (.two .no (.two (.one (.lp [(0, .str), (1, .int .u8)] (.two (.two .no (.cut [(0, .str), (1, .int .u8), (16, .bool)] .no)) .no))) .no))),
  (107, (.two .no (.two .no (.two (.two .no (.one (.lp [(2, .int .i64), (3, .int .i64), (8, .sl), (9, .int .i64), (26, .sl), (27, .int .i64), (28, .int .i64)] .no))) .no)))),
  (123, (.two .no (.two .no (.two .no (.two .no (.two .no (.two .no (.two (.two .no (.cut [(0, .sl), (3, .int .i64), (41, .bool)] (.two .no (.two .no (.cut [(55, .bool)] .no))))) .no)))))))),
  (124, (.two .no (.two .no (.two (.two .no (.one (.two .no (.two .no (.two .no (.cut [(0, .ptr), (1, .int .i32), (4, .any), (9, .int .i32), (32, .bool)] (.two .no (.two .no (.cut [(0, .ptr), (1, .int .i32), (4, .any), (42, .bool)] .no))))))))) (.two (.one (.two .no (.two .no (.two .no (.cut [(1, .int .i32), (4, .any), (60, .bool)] .no))))) .no))))),
  (125, (.two .no (.two .no (.two (.one (.two .no (.two .no (.two .no (.cut [(0, .ptr), (1, .int .i32), (4, .any), (6, .bool), (18, .bool)] (.two .no (.two .no (.cut [(0, .ptr), (1, .int .i32), (4, .any), (6, .bool), (32, .bool)] (.two .no (.two .no (.two (.two .no (.two .no (.cut [(0, .ptr), (4, .any)] .no))) (.two .no (.cut [(0, .ptr), (1, .int .i32), (4, .any), (104, .bool)] (.two .no (.two .no (.cut [(0, .ptr), (1, .int .i32), (4, .any), (116, .bool)] (.two .no (.two .no (.cut [(0, .ptr), (1, .int .i32), (4, .any), (129, .bool)] .no))))))))))))))))))) .no)))),
  (126, (.two .no (.two (.one (.two .no (.two .no (.two .no (.cut [(1, .int .i32), (4, .any), (11, .bool)] .no))))) .no))),
  (131, (.one (.two .no (.cut [(0, .ptr), (1, .bool), (4, .bool)] (.two .no (.two .no (.cut [(0, .ptr), (39, .bool)] .no))))))),
  (132, (.two .no (.two (.two .no (.cut [(1, .int .i64), (2, .int .i64), (3, .any), (23, .bool)] .no)) .no))),
  (133, (.two .no (.one (.two .no (.two .no (.two .no (.two .no (.two .no (.two .no (.two .no (.two .no (.two .no (.two .no (.two .no (.two .no (.two .no (.two .no (.two .no (.cut [(1, .int .i64), (4, .ptr), (75, .bool)] (.two .no (.two .no (.two .no (.two .no (.cut [(1, .int .i64), (4, .ptr), (93, .bool)] .no)))))))))))))))))))))))),
  (134, (.two .no (.two .no (.two .no (.one (.two .no (.two .no (.two .no (.two .no (.two .no (.cut [(0, .ptr), (2, .int .i64), (4, .any), (6, .int .i64), (12, .int .i32), (23, .bool)] (.two (.two (.two .no (.cut [(0, .ptr), (2, .int .i64), (4, .any), (47, .bool)] .no)) (.two .no (.cut [(0, .ptr)] .no))) (.two .no (.cut [(0, .ptr), (2, .int .i64), (4, .any), (6, .int .i64), (12, .int .i32), (74, .bool)] (.two .no (.two .no (.two .no (.two .no (.two .no (.two .no (.two .no (.two .no (.two (.two .no (.cut [(0, .ptr), (6, .int .i64)] .no)) .no))))))))))))))))))))))),
  (140, (.two .no (.two (.two .no (.one (.lp [(0, .sl), (1, .int .i64), (7, .int .i64), (8, .int .i64)] .no))) .no))),
  (141, (.two .no (.two .no (.cut [(0, .sl), (1, .int .i64)] (.two .no (.two (.two .no (.cut [(0, .sl), (6, .int .u64), (26, .bool)] .no)) (.cut [(0, .sl), (6, .int .u64)] (.two .no (.two .no (.two (.one (.lp [(7, .sl), (8, .int .i64)] .no)) .no)))))))))),
  (149, (.two .no (.two (.two .no (.two (.two (.two .no (.cut [(0, .int .i64), (17, .bool)] .no)) (.two .no (.two .no (.two .no (.cut [(0, .int .i64), (5, .any), (6, .int .u64)] .no))))) .no)) .no))),
  (151, (.two .no (.two (.two .no (.cut [(0, .ptr), (1, .int .i64), (29, .bool)] (.two (.two .no (.one (.lp [(0, .ptr), (1, .int .i64), (35, .sl), (36, .int .i64), (37, .int .i64)] .no))) .no))) (.cut [(0, .ptr), (1, .int .i64)] .no)))),
  (153, (.two .no (.cut [(0, .ptr), (1, .int .i64)] (.two (.two .no (.cut [(0, .ptr), (1, .int .i64), (15, .bool)] .no)) (.two .no (.two .no (.one (.lp [(0, .ptr), (1, .int .i64), (22, .int .i64), (23, .int .i64)] (.two .no (.two .no (.two (.one (.two .no (.two .no (.cut [(0, .ptr), (1, .int .i64), (4, .int .i64), (22, .int .i64), (23, .int .i64), (53, .bool)] .no)))) (.cut [(0, .ptr), (1, .int .i64), (22, .int .i64), (23, .int .i64)] .no)))))))))))),
  (157, (.two .no (.two (.two .no (.cut [(0, .str), (10, .bool)] .no)) .no))),
  (167, (.two .no (.two .no (.two .no (.two .no (.two .no (.two .no (.two .no (.two .no (.two .no (.two .no (.two (.two .no (.cut [(0, .str), (5, .int .u8), (8, .int .i64), (10, .int .u8), (57, .bool)] .no)) (.two .no (.two .no (.two (.two .no (.cut [(0, .str), (5, .int .u8), (8, .int .i64), (10, .int .u8), (11, .int .u8), (75, .bool)] .no)) (.two .no (.two .no (.two (.two .no (.cut [(5, .int .u8), (10, .int .u8), (11, .int .u8), (12, .int .u8), (98, .bool)] .no)) .no)))))))))))))))))),
  (169, (.two .no (.two (.one (.two .no (.cut [(0, .int .i32), (3, .bool)] (.two .no (.two .no (.cut [(10, .bool)] .no)))))) .no)))]

/-- a pointer that is not nil -/
def nilP (o : Option Addr) (K : Addr → Res) : Res := nilK (.pointer o) fun v => asP v fun o => optK o K
theorem nilP_s (a : Addr) (K : Addr → Res) : nilP (some a) K = K a := rfl
/-- a call of a function value -/
def callvK (call : CallF) (g : Value) (vs : List Value) (H : Heap) (K : Value → Heap → Res) : Res := match g with
  | .func (.func f) first cap => callK (call f (first.toList ++ vs ++ cap.toList) H) K
  | _ => none
theorem callvK_s {call : CallF} {f : Nat} {first cap : Array Value} {vs : List Value} {H : Heap} {K : Value → Heap → Res} : callvK call (.func (.func f) first cap) vs H K = callK (call f (first.toList ++ vs ++ cap.toList) H) K := rfl
noncomputable def C : CProg := ⟨autoC (lookCT cutsL) [0, 1, 2, 3, 4] Tryz.prog, fun f => if f = n_law23_known then some (sure n_law23_known n_law23_known) else if f = 35 then some (keysP 61 68) else if f = 34 then some (sortedP 61 9) else if f = 44 then some joinP else none⟩
theorem exNN : ∃ n : Nat, n = 4000000000000 := ⟨_, rfl⟩
noncomputable def NN : Nat := Classical.choose exNN
theorem NN_eq : NN = 4000000000000 := Classical.choose_spec exNN
noncomputable def X (d : Nat) : CallF := callD C NN d
noncomputable def cd (f : Nat) (p : List Nat) : CCode := cdC (lookCT cutsL) [0, 1, 2, 3, 4] Tryz.prog f p
noncomputable def rs (f : Nat) : List CRes := rsC [0, 1, 2, 3, 4] Tryz.prog f
end Go.Proofs.YtkkhljcjjhcnhaaGreatDoor.dec

namespace Go.Proofs.YtkkhljcjjhcnhaaGreatDoor.dec
open Go Go.Cm
/-! porthole/grid.copied -/
noncomputable def grid_copied_k111 (d : Nat) : Kt := run (X d) NN (cd 68 [1, 1, 1]) (retK (rs 68)) [] (retK (rs 68))
noncomputable def grid_copied_l11010 (d : Nat) (m0 : Nat) : Kt := iter (fun k => run (X d) NN (cd 68 [1, 1, 0, 1, 0, 0]) (backK [(3, .sl), (6, .sl), (7, .int .i64), (8, .int .i64)] (opq k)) [(0, (grid_copied_k111 d))] (retK (rs 68))) m0
noncomputable def grid_copied_p11010 (d : Nat) (m0 : Nat) (x3 : Sl) (x6 : Sl) (x7 : Int) (x8 : Int) (H : Heap) : Res := opq (grid_copied_l11010 d m0) [(3, x3.v), (6, x6.v), (7, .int .i64 x7), (8, .int .i64 x8)] H
theorem grid_copied_p11010_s (d : Nat) (m0 : Nat) (x3 : Sl) (x6 : Sl) (x7 : Int) (x8 : Int) (H : Heap) : grid_copied_p11010 d (m0 + 1) x3 x6 x7 x8 H =
  if (decide (x8 < x7)) = true then
  (optK x6.a fun a1 =>
    if 0 ≤ x8 ∧ x8 < (x6.n : Int) then
    optK (Heap.ld1 H (ap a1 (((x8).toNat) * 1))) fun v2 =>
    asSL v2 fun l3 =>
    callK (X d n_slices_Clone_S_api_Cell_api_Cell [l3.v] H) fun v4 H5 =>
    asSL v4 fun l6 =>
    newK H5 (.cells [l6.v] t_S_api_Cell false 0 false) fun p7 H8 =>
    appendK t_S_api_Cell 1 24 false x3.v (.slice (some ⟨p7, 0, none⟩) 1 1) H8 fun v9 H10 =>
    asSL v9 fun l11 =>
    grid_copied_p11010 d m0 l11 x6 x7 (IntKind.wrap .i64 (x8 + 1)) H10
    else none)
  else
  (some (x3.v, H)) := (opq_app _ _ _).trans <| by kernel_rfl
theorem grid_copied_eq (d : Nat) (x0 : Sl) (H : Heap) : X (d + 1) n_grid_copied [x0.v] H =
  grid_copied_p11010 d NN Sl.nil x0 (x0.n : Int) 0 H := by kernel_rfl
end Go.Proofs.YtkkhljcjjhcnhaaGreatDoor.dec

namespace Go.Proofs.YtkkhljcjjhcnhaaGreatDoor.dec
open Go Go.Cm
/-! porthole/grid.line -/
theorem grid_line_eq (d : Nat) (x0 : Int) (H : Heap) : X (d + 1) n_grid_line [.int .i64 x0] H =
  callK (X d n_grid_blank [] H) fun v1 H2 =>
  asA v1 fun c3 =>
  optK (fillL [(0, 4)] [.agg c3] [.int .i32 0, .int .i64 0, .int .i64 0, .int .i64 0]) fun l4 =>
  newK H2 (.cells l4 t_api_Cell false 0 false) fun p5 H6 =>
  callK (X d n_slices_Repeat_S_api_Cell_api_Cell [.slice (some ⟨p5, 0, none⟩) 1 1, .int .i64 x0] H6) fun v7 H8 =>
  asSL v7 fun l9 =>
  some (l9.v, H8) := by kernel_rfl
end Go.Proofs.YtkkhljcjjhcnhaaGreatDoor.dec

namespace Go.Proofs.YtkkhljcjjhcnhaaGreatDoor.dec
open Go Go.Cm
/-! porthole/grid.sheet -/
noncomputable def grid_sheet_k111 (d : Nat) : Kt := run (X d) NN (cd 85 [1, 1, 1]) (retK (rs 85)) [] (retK (rs 85))
noncomputable def grid_sheet_l11010 (d : Nat) (m0 : Nat) : Kt := iter (fun k => run (X d) NN (cd 85 [1, 1, 0, 1, 0, 0]) (backK [(1, .int .i64), (5, .sl), (6, .int .i64), (7, .int .i64)] (opq k)) [(0, (grid_sheet_k111 d))] (retK (rs 85))) m0
noncomputable def grid_sheet_p11010 (d : Nat) (m0 : Nat) (x1 : Int) (x5 : Sl) (x6 : Int) (x7 : Int) (H : Heap) : Res := opq (grid_sheet_l11010 d m0) [(1, .int .i64 x1), (5, x5.v), (6, .int .i64 x6), (7, .int .i64 x7)] H
theorem grid_sheet_p11010_s (d : Nat) (m0 : Nat) (x1 : Int) (x5 : Sl) (x6 : Int) (x7 : Int) (H : Heap) : grid_sheet_p11010 d (m0 + 1) x1 x5 x6 x7 H =
  if (decide (x7 < x6)) = true then
  (callK (X d n_grid_line [.int .i64 x1] H) fun v1 H2 =>
    asSL v1 fun l3 =>
    newK H2 (.cells [l3.v] t_S_api_Cell false 0 false) fun p4 H5 =>
    appendK t_S_api_Cell 1 24 false x5.v (.slice (some ⟨p4, 0, none⟩) 1 1) H5 fun v6 H7 =>
    asSL v6 fun l8 =>
    grid_sheet_p11010 d m0 x1 l8 x6 (IntKind.wrap .i64 (x7 + 1)) H7)
  else
  (some (x5.v, H)) := (opq_app _ _ _).trans <| by kernel_rfl
theorem grid_sheet_eq (d : Nat) (x0 : Int) (x1 : Int) (H : Heap) : X (d + 1) n_grid_sheet [.int .i64 x0, .int .i64 x1] H =
  grid_sheet_p11010 d NN x1 Sl.nil x0 0 H := by kernel_rfl
end Go.Proofs.YtkkhljcjjhcnhaaGreatDoor.dec

namespace Go.Proofs.YtkkhljcjjhcnhaaGreatDoor.dec
open Go Go.Cm
/-! slices.Clone[[]porthole/api.Cell,porthole/api.Cell] -/
theorem slices_Clone_S_api_Cell_api_Cell_eq (d : Nat) (x0 : Sl) (H : Heap) : X (d + 1) n_slices_Clone_S_api_Cell_api_Cell [x0.v] H =
  if x0.a.isNone = true then
  (some (.slice none 0 0, H))
  else
  (newK H (.cells [] t_api_Cell false 0 false) fun p1 H2 =>
    appendK t_api_Cell 4 32 false (.slice (some ⟨p1, 0, none⟩) 0 0) x0.v H2 fun v3 H4 =>
    asSL v3 fun l5 =>
    some (l5.v, H4)) := by kernel_rfl
end Go.Proofs.YtkkhljcjjhcnhaaGreatDoor.dec

namespace Go.Proofs.YtkkhljcjjhcnhaaGreatDoor.dec
open Go Go.Cm
/-! slices.Repeat[[]porthole/api.Cell,porthole/api.Cell] -/
noncomputable def slices_Repeat_S_api_Cell_api_Cell_k11011 (d : Nat) : Kt := run (X d) NN (cd 141 [1, 1, 0, 1, 1]) (retK (rs 141)) [] (retK (rs 141))
noncomputable def slices_Repeat_S_api_Cell_api_Cell_k110110111 (d : Nat) : Kt := run (X d) NN (cd 141 [1, 1, 0, 1, 1, 0, 1, 1, 1]) (retK (rs 141)) [] (retK (rs 141))
noncomputable def slices_Repeat_S_api_Cell_api_Cell_l1101101100 (d : Nat) (m0 : Nat) : Kt := iter (fun k => run (X d) NN (cd 141 [1, 1, 0, 1, 1, 0, 1, 1, 0, 0, 0]) (backK [(7, .sl), (8, .int .i64)] (opq k)) [(0, (slices_Repeat_S_api_Cell_api_Cell_k110110111 d))] (retK (rs 141))) m0
noncomputable def slices_Repeat_S_api_Cell_api_Cell_p11 (d : Nat) (x0 : Sl) (x1 : Int) (H : Heap) : Res := opq (run (X d) NN (cd 141 [1, 1, 0]) (retK (rs 141)) [] (retK (rs 141))) [(0, x0.v), (1, .int .i64 x1)] H
noncomputable def slices_Repeat_S_api_Cell_api_Cell_p110101 (d : Nat) (x0 : Sl) (x6 : Int) (x26 : Bool) (H : Heap) : Res := opq (run (X d) NN (cd 141 [1, 1, 0, 1, 0, 1, 0]) (slices_Repeat_S_api_Cell_api_Cell_k11011 d) [] (retK (rs 141))) [(0, x0.v), (6, .int .u64 x6), (26, .bool x26)] H
noncomputable def slices_Repeat_S_api_Cell_api_Cell_p11011 (d : Nat) (x0 : Sl) (x6 : Int) (H : Heap) : Res := opq (run (X d) NN (cd 141 [1, 1, 0, 1, 1, 0]) (retK (rs 141)) [] (retK (rs 141))) [(0, x0.v), (6, .int .u64 x6)] H
noncomputable def slices_Repeat_S_api_Cell_api_Cell_p1101101100 (d : Nat) (m0 : Nat) (x7 : Sl) (x8 : Int) (H : Heap) : Res := opq (slices_Repeat_S_api_Cell_api_Cell_l1101101100 d m0) [(7, x7.v), (8, .int .i64 x8)] H
theorem slices_Repeat_S_api_Cell_api_Cell_p11_eq (d : Nat) (x0 : Sl) (x1 : Int) (H : Heap) : slices_Repeat_S_api_Cell_api_Cell_p11 d x0 x1 H =
  callK (X d n_math_bits_Mul [.int .u64 (IntKind.wrap .u64 (x0.n : Int)), .int .u64 (IntKind.wrap .u64 x1)] H) fun v1 H2 =>
  castT [.int .u64, .int .u64] v1 fun l3 =>
  castT [.int .u64, .int .u64] (.tuple ⟨l3⟩) fun l4 =>
  optK l4[0]? fun v5 =>
  asI .u64 v5 fun n6 =>
  optK l4[1]? fun v7 =>
  asI .u64 v7 fun n8 =>
  if (decide ((0 : Int) < n6)) = true then
  (slices_Repeat_S_api_Cell_api_Cell_p110101 d x0 n8 true H2)
  else
  (slices_Repeat_S_api_Cell_api_Cell_p110101 d x0 n8 (decide ((9223372036854775807 : Int) < n8)) H2) := (opq_app _ _ _).trans <| by kernel_rfl
theorem slices_Repeat_S_api_Cell_api_Cell_p110101_eq (d : Nat) (x0 : Sl) (x6 : Int) (x26 : Bool) (H : Heap) : slices_Repeat_S_api_Cell_api_Cell_p110101 d x0 x6 x26 H =
  if x26 = true then
  (none)
  else
  (slices_Repeat_S_api_Cell_api_Cell_p11011 d x0 x6 H) := (opq_app _ _ _).trans <| by kernel_rfl
theorem slices_Repeat_S_api_Cell_api_Cell_p11011_eq (d : Nat) (x0 : Sl) (x6 : Int) (H : Heap) : slices_Repeat_S_api_Cell_api_Cell_p11011 d x0 x6 H =
  effK (.mkSl t_api_Cell 4 32 [.int .i32 0, .int .i64 0, .int .i64 0, .int .i64 0]) [.int .i64 (IntKind.wrap .i64 x6), .int .i64 (IntKind.wrap .i64 x6)] H fun v1 H2 =>
  asSL v1 fun l3 =>
  effK (.copy 4 false) [l3.v, x0.v] H2 fun v4 H5 =>
  asI .i64 v4 fun n6 =>
  slices_Repeat_S_api_Cell_api_Cell_p1101101100 d NN l3 n6 H5 := (opq_app _ _ _).trans <| by kernel_rfl
theorem slices_Repeat_S_api_Cell_api_Cell_p1101101100_s (d : Nat) (m0 : Nat) (x7 : Sl) (x8 : Int) (H : Heap) : slices_Repeat_S_api_Cell_api_Cell_p1101101100 d (m0 + 1) x7 x8 H =
  if (decide (x8 < (x7.n : Int))) = true then
  (optK (readD (.subSl t_api_Cell 4 true false false) [x7.v, .int .i64 x8] H) fun v1 =>
    asSL v1 fun l2 =>
    optK (readD (.subSl t_api_Cell 4 false true false) [x7.v, .int .i64 x8] H) fun v3 =>
    asSL v3 fun l4 =>
    effK (.copy 4 false) [l2.v, l4.v] H fun v5 H6 =>
    asI .i64 v5 fun n7 =>
    slices_Repeat_S_api_Cell_api_Cell_p1101101100 d m0 x7 (IntKind.wrap .i64 (x8 + n7)) H6)
  else
  (some (x7.v, H)) := (opq_app _ _ _).trans <| by kernel_rfl
theorem slices_Repeat_S_api_Cell_api_Cell_eq (d : Nat) (x0 : Sl) (x1 : Int) (H : Heap) : X (d + 1) n_slices_Repeat_S_api_Cell_api_Cell [x0.v, .int .i64 x1] H =
  if (decide (x1 < 0)) = true then
  (none)
  else
  (slices_Repeat_S_api_Cell_api_Cell_p11 d x0 x1 H) := by kernel_rfl
end Go.Proofs.YtkkhljcjjhcnhaaGreatDoor.dec

namespace Go.Proofs.YtkkhljcjjhcnhaaGreatDoor.dec
open Go Go.Cm
/-! porthole/grid.blank -/
theorem grid_blank_eq (d : Nat) (H : Heap) : X (d + 1) n_grid_blank [] H =
  newK H (.cells [.int .i32 0, .int .i64 0, .int .i64 0, .int .i64 0] t_api_Cell false 0 false) fun p1 H2 =>
  optK (Heap.stN H2 ⟨p1, 0, none⟩ [.int .i32 32, .int .i64 0, .int .i64 0, .int .i64 0]) fun H3 =>
  retK [.cell 0 4 true] [(0, P0 p1)] H3 := by kernel_rfl
end Go.Proofs.YtkkhljcjjhcnhaaGreatDoor.dec

namespace Go.Proofs.YtkkhljcjjhcnhaaGreatDoor.dec
open Go Go.Cm
/-! math/bits.Mul -/
theorem math_bits_Mul_eq (d : Nat) (x0 : Int) (x1 : Int) (H : Heap) : X (d + 1) n_math_bits_Mul [.int .u64 x0, .int .u64 x1] H =
  callK (X d n_math_bits_Mul64 [.int .u64 x0, .int .u64 x1] H) fun v1 H2 =>
  castT [.int .u64, .int .u64] v1 fun l3 =>
  castT [.int .u64, .int .u64] (.tuple ⟨l3⟩) fun l4 =>
  optK l4[0]? fun v5 =>
  asI .u64 v5 fun n6 =>
  optK l4[1]? fun v7 =>
  asI .u64 v7 fun n8 =>
  some (.tuple #[.int .u64 n6, .int .u64 n8], H2) := by kernel_rfl
end Go.Proofs.YtkkhljcjjhcnhaaGreatDoor.dec

namespace Go.Proofs.YtkkhljcjjhcnhaaGreatDoor.dec
open Go Go.Cm
/-! math/bits.Mul64 -/
theorem math_bits_Mul64_eq (d : Nat) (x0 : Int) (x1 : Int) (H : Heap) : X (d + 1) n_math_bits_Mul64 [.int .u64 x0, .int .u64 x1] H =
  some (.tuple #[.int .u64 (IntKind.wrap .u64 ((IntKind.wrap .u64 ((IntKind.wrap .u64 ((Int.fdiv x0 4294967296) * (Int.fdiv x1 4294967296))) + (Int.fdiv (IntKind.wrap .u64 ((IntKind.wrap .u64 ((Int.fdiv x0 4294967296) * (bitsI .and .u64 x1 4294967295))) + (Int.fdiv (IntKind.wrap .u64 ((bitsI .and .u64 x0 4294967295) * (bitsI .and .u64 x1 4294967295))) 4294967296))) 4294967296))) + (Int.fdiv (IntKind.wrap .u64 ((bitsI .and .u64 (IntKind.wrap .u64 ((IntKind.wrap .u64 ((Int.fdiv x0 4294967296) * (bitsI .and .u64 x1 4294967295))) + (Int.fdiv (IntKind.wrap .u64 ((bitsI .and .u64 x0 4294967295) * (bitsI .and .u64 x1 4294967295))) 4294967296))) 4294967295) + (IntKind.wrap .u64 ((bitsI .and .u64 x0 4294967295) * (Int.fdiv x1 4294967296))))) 4294967296))), .int .u64 (IntKind.wrap .u64 (x0 * x1))], H) := by kernel_rfl
end Go.Proofs.YtkkhljcjjhcnhaaGreatDoor.dec

namespace Go.Proofs.YtkkhljcjjhcnhaaGreatDoor.dec
open Go Go.Cm
/-! slices.Clone[[][]porthole/api.Cell,[]porthole/api.Cell] -/
theorem slices_Clone_S_S_api_Cell_S_api_Cell_eq (d : Nat) (x0 : Sl) (H : Heap) : X (d + 1) n_slices_Clone_S_S_api_Cell_S_api_Cell [x0.v] H =
  if x0.a.isNone = true then
  (some (.slice none 0 0, H))
  else
  (newK H (.cells [] t_S_api_Cell false 0 false) fun p1 H2 =>
    appendK t_S_api_Cell 1 24 false (.slice (some ⟨p1, 0, none⟩) 0 0) x0.v H2 fun v3 H4 =>
    asSL v3 fun l5 =>
    some (l5.v, H4)) := by kernel_rfl
end Go.Proofs.YtkkhljcjjhcnhaaGreatDoor.dec

namespace Go.Proofs.YtkkhljcjjhcnhaaGreatDoor.dec
open Go Go.Cm
/-! (*porthole/grid.Grid).move -/
theorem grid_Grid_move_eq (d : Nat) (x0 : Nat) (x1 : Int) (x2 : Int) (H : Heap) : X (d + 1) n_grid_Grid_move [P0 x0, .int .i64 x1, .int .i64 x2] H =
  optK (Heap.ld1 H ⟨x0, 0, none⟩) fun v1 =>
  asI .i64 v1 fun n2 =>
  optK (Heap.ld1 H ⟨x0, 1, none⟩) fun v3 =>
  asI .i64 v3 fun n4 =>
  optK (Heap.st1 H ⟨x0, 3, none⟩ (.int .i64 (if (IntKind.wrap .i64 (n2 - 1)) < (if x1 < 0 then 0 else x1) then (IntKind.wrap .i64 (n2 - 1)) else (if x1 < 0 then 0 else x1)))) fun H5 =>
  optK (Heap.st1 H5 ⟨x0, 4, none⟩ (.int .i64 (if (IntKind.wrap .i64 (n4 - 1)) < (if x2 < 0 then 0 else x2) then (IntKind.wrap .i64 (n4 - 1)) else (if x2 < 0 then 0 else x2)))) fun H6 =>
  optK (Heap.st1 H6 ⟨x0, 5, none⟩ (.bool false)) fun H7 =>
  some (.tuple #[], H7) := by kernel_rfl
end Go.Proofs.YtkkhljcjjhcnhaaGreatDoor.dec

namespace Go.Proofs.YtkkhljcjjhcnhaaGreatDoor.dec
open Go Go.Cm
/-! (*porthole/grid.Grid).keep -/
theorem grid_Grid_keep_eq (d : Nat) (x0 : Nat) (x1 : Sl) (H : Heap) : X (d + 1) n_grid_Grid_keep [P0 x0, x1.v] H =
  optK (Heap.ld1 H ⟨x0, 31, none⟩) fun v1 =>
  asSL v1 fun l2 =>
  callK (X d n_slices_Clone_S_api_Cell_api_Cell [x1.v] H) fun v3 H4 =>
  asSL v3 fun l5 =>
  newK H4 (.cells [l5.v] t_S_api_Cell false 0 false) fun p6 H7 =>
  appendK t_S_api_Cell 1 24 false l2.v (.slice (some ⟨p6, 0, none⟩) 1 1) H7 fun v8 H9 =>
  asSL v8 fun l10 =>
  optK (Heap.st1 H9 ⟨x0, 31, none⟩ l10.v) fun H11 =>
  chk (rdsOk [H, H4, H7, H9, H11] [⟨.load 1 false, [.pointer (some ⟨x0, 31, none⟩)], v1, 0, 2⟩]) (
    optK (Heap.ld1 H11 ⟨x0, 31, none⟩) fun v12 =>
    asSL v12 fun l13 =>
    if (decide ((200 : Int) < (l13.n : Int))) = true then
    (optK (Heap.ld1 H11 ⟨x0, 31, none⟩) fun v14 =>
      asSL v14 fun l15 =>
      optK (Heap.ld1 H11 ⟨x0, 31, none⟩) fun v16 =>
      asSL v16 fun l17 =>
      optK (readD (.subSl t_S_api_Cell 1 true false false) [l15.v, .int .i64 (IntKind.wrap .i64 ((l17.n : Int) - 200))] H11) fun v18 =>
      asSL v18 fun l19 =>
      optK (Heap.st1 H11 ⟨x0, 31, none⟩ l19.v) fun H20 =>
      some (.tuple #[], H20))
    else
    (some (.tuple #[], H11))) := by kernel_rfl
end Go.Proofs.YtkkhljcjjhcnhaaGreatDoor.dec

namespace Go.Proofs.YtkkhljcjjhcnhaaGreatDoor.dec
open Go Go.Cm
/-! (*porthole/grid.Grid).index -/
theorem grid_Grid_index_eq (d : Nat) (x0 : Nat) (H : Heap) : X (d + 1) n_grid_Grid_index [P0 x0] H =
  optK (Heap.st1 H ⟨x0, 5, none⟩ (.bool false)) fun H1 =>
  optK (Heap.ld1 H1 ⟨x0, 3, none⟩) fun v2 =>
  asI .i64 v2 fun n3 =>
  optK (Heap.ld1 H1 ⟨x0, 18, none⟩) fun v4 =>
  asI .i64 v4 fun n5 =>
  if (decide (n3 = n5)) = true then
  (callK (X d n_grid_Grid_up [P0 x0, .int .i64 1] H1) fun _ H7 =>
    some (.tuple #[], H7))
  else
  (optK (Heap.ld1 H1 ⟨x0, 3, none⟩) fun v8 =>
    asI .i64 v8 fun n9 =>
    optK (Heap.ld1 H1 ⟨x0, 0, none⟩) fun v10 =>
    asI .i64 v10 fun n11 =>
    if (decide (n9 < IntKind.wrap .i64 (n11 - 1))) = true then
    (optK (Heap.ld1 H1 ⟨x0, 3, none⟩) fun v12 =>
      asI .i64 v12 fun n13 =>
      optK (Heap.st1 H1 ⟨x0, 3, none⟩ (.int .i64 (IntKind.wrap .i64 (n13 + 1)))) fun H14 =>
      some (.tuple #[], H14))
    else
    (some (.tuple #[], H1))) := by kernel_rfl
end Go.Proofs.YtkkhljcjjhcnhaaGreatDoor.dec

namespace Go.Proofs.YtkkhljcjjhcnhaaGreatDoor.dec
open Go Go.Cm
/-! (*porthole/grid.Grid).down -/
theorem grid_Grid_down_eq (d : Nat) (x0 : Nat) (x1 : Int) (H : Heap) : X (d + 1) n_grid_Grid_down [P0 x0, .int .i64 x1] H =
  optK (Heap.ld1 H ⟨x0, 17, none⟩) fun v1 =>
  asI .i64 v1 fun n2 =>
  callK (X d n_grid_Grid_put [P0 x0, .int .i64 n2, .int .i64 x1] H) fun _ H4 =>
  some (.tuple #[], H4) := by kernel_rfl
end Go.Proofs.YtkkhljcjjhcnhaaGreatDoor.dec

namespace Go.Proofs.YtkkhljcjjhcnhaaGreatDoor.dec
open Go Go.Cm
/-! (*porthole/grid.Grid).up -/
noncomputable def grid_Grid_up_k11 (d : Nat) : Kt := run (X d) NN (cd 151 [1, 1]) (retK (rs 151)) [] (retK (rs 151))
noncomputable def grid_Grid_up_l1010010 (d : Nat) (m0 : Nat) : Kt := iter (fun k => run (X d) NN (cd 151 [1, 0, 1, 0, 0, 1, 0, 0]) (backK [(0, .ptr), (1, .int .i64), (35, .sl), (36, .int .i64), (37, .int .i64)] (opq k)) [(0, (grid_Grid_up_k11 d))] (retK (rs 151))) m0
noncomputable def grid_Grid_up_p101 (d : Nat) (x0 : Nat) (x1 : Int) (x29 : Bool) (H : Heap) : Res := opq (run (X d) NN (cd 151 [1, 0, 1, 0]) (grid_Grid_up_k11 d) [] (retK (rs 151))) [(0, P0 x0), (1, .int .i64 x1), (29, .bool x29)] H
noncomputable def grid_Grid_up_p1010010 (d : Nat) (m0 : Nat) (x0 : Nat) (x1 : Int) (x35 : Sl) (x36 : Int) (x37 : Int) (H : Heap) : Res := opq (grid_Grid_up_l1010010 d m0) [(0, P0 x0), (1, .int .i64 x1), (35, x35.v), (36, .int .i64 x36), (37, .int .i64 x37)] H
noncomputable def grid_Grid_up_p11 (d : Nat) (x0 : Nat) (x1 : Int) (H : Heap) : Res := opq (run (X d) NN (cd 151 [1, 1, 0]) (retK (rs 151)) [] (retK (rs 151))) [(0, P0 x0), (1, .int .i64 x1)] H
theorem grid_Grid_up_p101_eq (d : Nat) (x0 : Nat) (x1 : Int) (x29 : Bool) (H : Heap) : grid_Grid_up_p101 d x0 x1 x29 H =
  if x29 = true then
  (optK (Heap.ld1 H ⟨x0, 2, none⟩) fun v1 =>
    asSL v1 fun l2 =>
    optK (readD (.subSl t_S_api_Cell 1 false true false) [l2.v, .int .i64 x1] H) fun v3 =>
    asSL v3 fun l4 =>
    grid_Grid_up_p1010010 d NN x0 x1 l4 (l4.n : Int) 0 H)
  else
  (grid_Grid_up_p11 d x0 x1 H) := (opq_app _ _ _).trans <| by kernel_rfl
theorem grid_Grid_up_p1010010_s (d : Nat) (m0 : Nat) (x0 : Nat) (x1 : Int) (x35 : Sl) (x36 : Int) (x37 : Int) (H : Heap) : grid_Grid_up_p1010010 d (m0 + 1) x0 x1 x35 x36 x37 H =
  if (decide (x37 < x36)) = true then
  (optK x35.a fun a1 =>
    if 0 ≤ x37 ∧ x37 < (x35.n : Int) then
    optK (Heap.ld1 H (ap a1 (((x37).toNat) * 1))) fun v2 =>
    asSL v2 fun l3 =>
    callK (X d n_grid_Grid_keep [P0 x0, l3.v] H) fun _ H5 =>
    grid_Grid_up_p1010010 d m0 x0 x1 x35 x36 (IntKind.wrap .i64 (x37 + 1)) H5
    else none)
  else
  (grid_Grid_up_p11 d x0 x1 H) := (opq_app _ _ _).trans <| by kernel_rfl
theorem grid_Grid_up_p11_eq (d : Nat) (x0 : Nat) (x1 : Int) (H : Heap) : grid_Grid_up_p11 d x0 x1 H =
  optK (Heap.ld1 H ⟨x0, 17, none⟩) fun v1 =>
  asI .i64 v1 fun n2 =>
  callK (X d n_grid_Grid_take [P0 x0, .int .i64 n2, .int .i64 x1] H) fun _ H4 =>
  some (.tuple #[], H4) := (opq_app _ _ _).trans <| by kernel_rfl
theorem grid_Grid_up_eq (d : Nat) (x0 : Nat) (x1 : Int) (H : Heap) : X (d + 1) n_grid_Grid_up [P0 x0, .int .i64 x1] H =
  optK (Heap.ld1 H ⟨x0, 18, none⟩) fun v1 =>
  asI .i64 v1 fun n2 =>
  optK (Heap.ld1 H ⟨x0, 17, none⟩) fun v3 =>
  asI .i64 v3 fun n4 =>
  optK (Heap.ld1 H ⟨x0, 17, none⟩) fun v5 =>
  asI .i64 v5 fun n6 =>
  if (decide (n6 = 0)) = true then
  (optK (Heap.ld1 H ⟨x0, 23, none⟩) fun v7 =>
    asSL v7 fun l8 =>
    grid_Grid_up_p101 d x0 (if (IntKind.wrap .i64 ((IntKind.wrap .i64 (n2 - n4)) + 1)) < x1 then (IntKind.wrap .i64 ((IntKind.wrap .i64 (n2 - n4)) + 1)) else x1) l8.a.isNone H)
  else
  (grid_Grid_up_p101 d x0 (if (IntKind.wrap .i64 ((IntKind.wrap .i64 (n2 - n4)) + 1)) < x1 then (IntKind.wrap .i64 ((IntKind.wrap .i64 (n2 - n4)) + 1)) else x1) false H) := by kernel_rfl
end Go.Proofs.YtkkhljcjjhcnhaaGreatDoor.dec

namespace Go.Proofs.YtkkhljcjjhcnhaaGreatDoor.dec
open Go Go.Cm
/-! (*porthole/grid.Grid).put -/
theorem grid_Grid_put_eq (d : Nat) (x0 : Nat) (x1 : Int) (x2 : Int) (H : Heap) : X (d + 1) n_grid_Grid_put [P0 x0, .int .i64 x1, .int .i64 x2] H =
  optK (Heap.ld1 H ⟨x0, 2, none⟩) fun v1 =>
  asSL v1 fun l2 =>
  optK (Heap.ld1 H ⟨x0, 18, none⟩) fun v3 =>
  asI .i64 v3 fun n4 =>
  optK (readD (.subSl t_S_api_Cell 1 true true false) [l2.v, .int .i64 x1, .int .i64 (IntKind.wrap .i64 (n4 + 1))] H) fun v5 =>
  asSL v5 fun l6 =>
  optK (Heap.ld1 H ⟨x0, 1, none⟩) fun v7 =>
  asI .i64 v7 fun n8 =>
  callK (X d n_grid_sheet [.int .i64 (if (l6.n : Int) < x2 then (l6.n : Int) else x2), .int .i64 n8] H) fun v9 H10 =>
  asSL v9 fun l11 =>
  optK (readD (.subSl t_S_api_Cell 1 false true false) [l6.v, .int .i64 (IntKind.wrap .i64 ((l6.n : Int) - (if (l6.n : Int) < x2 then (l6.n : Int) else x2)))] H10) fun v12 =>
  asSL v12 fun l13 =>
  appendK t_S_api_Cell 1 24 false l11.v l13.v H10 fun v14 H15 =>
  asSL v14 fun l16 =>
  effK (.copy 1 false) [l6.v, l16.v] H15 fun v17 H18 =>
  asI .i64 v17 fun _ =>
  chk (rdsOk [H, H10, H15, H18] [⟨.subSl t_S_api_Cell 1 false true false, [l6.v, .int .i64 (IntKind.wrap .i64 ((l6.n : Int) - (if (l6.n : Int) < x2 then (l6.n : Int) else x2)))], v12, 0, 1⟩]) (
    some (.tuple #[], H18)) := by kernel_rfl
end Go.Proofs.YtkkhljcjjhcnhaaGreatDoor.dec

namespace Go.Proofs.YtkkhljcjjhcnhaaGreatDoor.dec
open Go Go.Cm
/-! (*porthole/grid.Grid).take -/
theorem grid_Grid_take_eq (d : Nat) (x0 : Nat) (x1 : Int) (x2 : Int) (H : Heap) : X (d + 1) n_grid_Grid_take [P0 x0, .int .i64 x1, .int .i64 x2] H =
  optK (Heap.ld1 H ⟨x0, 2, none⟩) fun v1 =>
  asSL v1 fun l2 =>
  optK (Heap.ld1 H ⟨x0, 18, none⟩) fun v3 =>
  asI .i64 v3 fun n4 =>
  optK (readD (.subSl t_S_api_Cell 1 true true false) [l2.v, .int .i64 x1, .int .i64 (IntKind.wrap .i64 (n4 + 1))] H) fun v5 =>
  asSL v5 fun l6 =>
  optK (readD (.subSl t_S_api_Cell 1 true false false) [l6.v, .int .i64 (if (l6.n : Int) < x2 then (l6.n : Int) else x2)] H) fun v7 =>
  asSL v7 fun l8 =>
  callK (X d n_slices_Clone_S_S_api_Cell_S_api_Cell [l8.v] H) fun v9 H10 =>
  asSL v9 fun l11 =>
  optK (Heap.ld1 H10 ⟨x0, 1, none⟩) fun v12 =>
  asI .i64 v12 fun n13 =>
  callK (X d n_grid_sheet [.int .i64 (if (l6.n : Int) < x2 then (l6.n : Int) else x2), .int .i64 n13] H10) fun v14 H15 =>
  asSL v14 fun l16 =>
  appendK t_S_api_Cell 1 24 false l11.v l16.v H15 fun v17 H18 =>
  asSL v17 fun l19 =>
  effK (.copy 1 false) [l6.v, l19.v] H18 fun v20 H21 =>
  asI .i64 v20 fun _ =>
  chk (rdsOk [H, H10, H15, H18, H21] [⟨.load 1 false, [.pointer (some ⟨x0, 1, none⟩)], v12, 0, 1⟩]) (
    some (.tuple #[], H21)) := by kernel_rfl
end Go.Proofs.YtkkhljcjjhcnhaaGreatDoor.dec

namespace Go.Proofs.YtkkhljcjjhcnhaaGreatDoor.dec
open Go Go.Cm
/-! (*porthole/grid.Grid).print -/
noncomputable def grid_Grid_print_k1 (d : Nat) : Kt := run (X d) NN (cd 93 [1]) (retK (rs 93)) [] (retK (rs 93))
noncomputable def grid_Grid_print_p01 (d : Nat) (x0 : Nat) (x1 : Int) (x15 : Bool) (H : Heap) : Res := opq (run (X d) NN (cd 93 [0, 1, 0]) (grid_Grid_print_k1 d) [] (retK (rs 93))) [(0, P0 x0), (1, .int .i32 x1), (15, .bool x15)] H
noncomputable def grid_Grid_print_p1 (d : Nat) (x0 : Nat) (x1 : Int) (H : Heap) : Res := opq (run (X d) NN (cd 93 [1, 0]) (retK (rs 93)) [] (retK (rs 93))) [(0, P0 x0), (1, .int .i32 x1)] H
noncomputable def grid_Grid_print_p101 (d : Nat) (x0 : Nat) (x1 : Int) (H : Heap) : Res := opq (run (X d) NN (cd 93 [1, 0, 1, 0]) (retK (rs 93)) [] (retK (rs 93))) [(0, P0 x0), (1, .int .i32 x1)] H
theorem grid_Grid_print_p01_eq (d : Nat) (x0 : Nat) (x1 : Int) (x15 : Bool) (H : Heap) : grid_Grid_print_p01 d x0 x1 x15 H =
  if x15 = true then
  (optK (Heap.st1 H ⟨x0, 4, none⟩ (.int .i64 0)) fun H1 =>
    callK (X d n_grid_Grid_index [P0 x0] H1) fun _ H3 =>
    grid_Grid_print_p1 d x0 x1 H3)
  else
  (grid_Grid_print_p1 d x0 x1 H) := (opq_app _ _ _).trans <| by kernel_rfl
theorem grid_Grid_print_p1_eq (d : Nat) (x0 : Nat) (x1 : Int) (H : Heap) : grid_Grid_print_p1 d x0 x1 H =
  optK (Heap.ld1 H ⟨x0, 20, none⟩) fun v1 =>
  asB v1 fun b2 =>
  if b2 = true then
  (optK (Heap.ld1 H ⟨x0, 2, none⟩) fun v3 =>
    asSL v3 fun l4 =>
    optK (Heap.ld1 H ⟨x0, 3, none⟩) fun v5 =>
    asI .i64 v5 fun n6 =>
    optK l4.a fun a7 =>
    if 0 ≤ n6 ∧ n6 < (l4.n : Int) then
    optK (Heap.ld1 H (ap a7 (((n6).toNat) * 1))) fun v8 =>
    asSL v8 fun l9 =>
    optK (Heap.ld1 H ⟨x0, 4, none⟩) fun v10 =>
    asI .i64 v10 fun n11 =>
    optK (readD (.subSl t_api_Cell 4 true false false) [l9.v, .int .i64 (IntKind.wrap .i64 (n11 + 1))] H) fun v12 =>
    asSL v12 fun l13 =>
    optK (Heap.ld1 H ⟨x0, 4, none⟩) fun v14 =>
    asI .i64 v14 fun n15 =>
    optK (readD (.subSl t_api_Cell 4 true false false) [l9.v, .int .i64 n15] H) fun v16 =>
    asSL v16 fun l17 =>
    effK (.copy 4 false) [l13.v, l17.v] H fun v18 H19 =>
    asI .i64 v18 fun _ =>
    grid_Grid_print_p101 d x0 x1 H19
    else none)
  else
  (grid_Grid_print_p101 d x0 x1 H) := (opq_app _ _ _).trans <| by kernel_rfl
theorem grid_Grid_print_p101_eq (d : Nat) (x0 : Nat) (x1 : Int) (H : Heap) : grid_Grid_print_p101 d x0 x1 H =
  optK (Heap.ld1 H ⟨x0, 2, none⟩) fun v1 =>
  asSL v1 fun l2 =>
  optK (Heap.ld1 H ⟨x0, 3, none⟩) fun v3 =>
  asI .i64 v3 fun n4 =>
  optK l2.a fun a5 =>
  if 0 ≤ n4 ∧ n4 < (l2.n : Int) then
  optK (Heap.ld1 H (ap a5 (((n4).toNat) * 1))) fun v6 =>
  asSL v6 fun l7 =>
  optK (Heap.ld1 H ⟨x0, 4, none⟩) fun v8 =>
  asI .i64 v8 fun n9 =>
  callK (X d n_grid_Grid_cell [P0 x0, .int .i32 x1] H) fun v10 H11 =>
  asA v10 fun c12 =>
  optK l7.a fun a13 =>
  if 0 ≤ n9 ∧ n9 < (l7.n : Int) then
  effK (.store 4) [.pointer (some (ap a13 (((n9).toNat) * 4))), .agg c12] H11 fun _ H15 =>
  chk (rdsOk [H, H11, H15] [⟨.load 1 false, [.pointer (some ⟨x0, 4, none⟩)], v8, 0, 1⟩, ⟨.load 1 false, [.pointer (some (ap a5 (((n4).toNat) * 1)))], v6, 0, 1⟩, ⟨.load 1 false, [.pointer (some ⟨x0, 3, none⟩)], v3, 0, 1⟩, ⟨.load 1 false, [.pointer (some ⟨x0, 2, none⟩)], v1, 0, 1⟩]) (
    optK (Heap.ld1 H15 ⟨x0, 4, none⟩) fun v16 =>
    asI .i64 v16 fun n17 =>
    optK (Heap.ld1 H15 ⟨x0, 1, none⟩) fun v18 =>
    asI .i64 v18 fun n19 =>
    if (decide (n17 = IntKind.wrap .i64 (n19 - 1))) = true then
    (optK (Heap.ld1 H15 ⟨x0, 19, none⟩) fun v20 =>
      asB v20 fun b21 =>
      optK (Heap.st1 H15 ⟨x0, 5, none⟩ (.bool b21)) fun H22 =>
      some (.tuple #[], H22))
    else
    (optK (Heap.ld1 H15 ⟨x0, 4, none⟩) fun v23 =>
      asI .i64 v23 fun n24 =>
      optK (Heap.st1 H15 ⟨x0, 4, none⟩ (.int .i64 (IntKind.wrap .i64 (n24 + 1)))) fun H25 =>
      some (.tuple #[], H25)))
  else none
  else none := (opq_app _ _ _).trans <| by kernel_rfl
theorem grid_Grid_print_eq (d : Nat) (x0 : Nat) (x1 : Int) (H : Heap) : X (d + 1) n_grid_Grid_print [P0 x0, .int .i32 x1] H =
  optK (Heap.ld1 H ⟨x0, 5, none⟩) fun v1 =>
  asB v1 fun b2 =>
  if b2 = true then
  (optK (Heap.ld1 H ⟨x0, 19, none⟩) fun v3 =>
    asB v3 fun b4 =>
    grid_Grid_print_p01 d x0 x1 b4 H)
  else
  (grid_Grid_print_p01 d x0 x1 false H) := by kernel_rfl
end Go.Proofs.YtkkhljcjjhcnhaaGreatDoor.dec

namespace Go.Proofs.YtkkhljcjjhcnhaaGreatDoor.dec
open Go Go.Cm
/-! (*porthole/grid.Grid).cell -/
theorem grid_Grid_cell_eq (d : Nat) (x0 : Nat) (x1 : Int) (H : Heap) : X (d + 1) n_grid_Grid_cell [P0 x0, .int .i32 x1] H =
  newK H (.cells [.int .i32 0, .int .i64 0, .int .i64 0, .int .i64 0] t_api_Cell false 0 false) fun p1 H2 =>
  optK (ldA H2 ⟨x0, 6, none⟩ 4) fun v3 =>
  asA v3 fun c4 =>
  newK H2 (.cells [.int .i32 0, .int .i64 0, .int .i64 0, .int .i64 0] t_api_Cell false 0 false) fun p5 H6 =>
  effK (.store 4) [P0 p5, .agg c4] H6 fun _ H8 =>
  optK (Heap.st1 H8 ⟨p5, 0, none⟩ (.int .i32 x1)) fun H9 =>
  optK (ldA H9 ⟨p5, 0, none⟩ 4) fun v10 =>
  asA v10 fun c11 =>
  effK (.store 4) [P0 p1, .agg c11] H9 fun _ H13 =>
  retK [.cell 4 4 true] [(4, P0 p1)] H13 := by kernel_rfl
end Go.Proofs.YtkkhljcjjhcnhaaGreatDoor.dec

namespace Go.Proofs.YtkkhljcjjhcnhaaGreatDoor.dec
open Go Go.Cm
/-! (*porthole/vt.Parser).Rune -/
noncomputable def vt_Parser_Rune_k11 (d : Nat) : Kt := run (X d) NN (cd 92 [1, 1]) (retK (rs 92)) [] (retK (rs 92))
noncomputable def vt_Parser_Rune_k111 (d : Nat) : Kt := run (X d) NN (cd 92 [1, 1, 1]) (retK (rs 92)) [] (retK (rs 92))
noncomputable def vt_Parser_Rune_k11010111111101 (d : Nat) : Kt := run (X d) NN (cd 92 [1, 1, 0, 1, 0, 1, 1, 1, 1, 1, 1, 1, 0, 1]) (vt_Parser_Rune_k111 d) [(1, (vt_Parser_Rune_k111 d))] (retK (rs 92))
noncomputable def vt_Parser_Rune_p1001 (d : Nat) (x0 : Nat) (x1 : Int) (x4 : Nat) (x6 : Bool) (H : Heap) : Res := opq (run (X d) NN (cd 92 [1, 0, 0, 1, 0]) (vt_Parser_Rune_k11 d) [(0, (vt_Parser_Rune_k11 d))] (retK (rs 92))) [(0, P0 x0), (1, .int .i32 x1), (4, P0 x4), (6, .bool x6)] H
noncomputable def vt_Parser_Rune_p110101111111001 (d : Nat) (x0 : Nat) (x4 : Nat) (x62 : Bool) (H : Heap) : Res := opq (run (X d) NN (cd 92 [1, 1, 0, 1, 0, 1, 1, 1, 1, 1, 1, 1, 0, 0, 1, 0]) (vt_Parser_Rune_k11010111111101 d) [(1, (vt_Parser_Rune_k111 d))] (retK (rs 92))) [(0, P0 x0), (4, P0 x4), (62, .bool x62)] H
theorem vt_Parser_Rune_p1001_eq (d : Nat) (x0 : Nat) (x1 : Int) (x4 : Nat) (x6 : Bool) (H : Heap) : vt_Parser_Rune_p1001 d x0 x1 x4 x6 H =
  if x6 = true then
  (optK (Heap.st1 H ⟨x0, 1, none⟩ (.int .i64 1)) fun H1 =>
    optK (Heap.stN H1 ⟨x4, 0, none⟩ [.int .i64 0, .int .i32 0, .bool false, .slice none 0 0]) fun H2 =>
    retK [.cell 4 4 true, .tmp 5] [(4, P0 x4), (5, .bool false)] H2)
  else
  (if (decide (x1 = 27)) = true then
    (optK (Heap.st1 H ⟨x0, 1, none⟩ (.int .i64 5)) fun H4 =>
      optK (Heap.stN H4 ⟨x4, 0, none⟩ [.int .i64 0, .int .i32 0, .bool false, .slice none 0 0]) fun H5 =>
      retK [.cell 4 4 true, .tmp 5] [(4, P0 x4), (5, .bool false)] H5)
    else
    (optK (Heap.ld1 H ⟨x0, 1, none⟩) fun v7 =>
      asI .i64 v7 fun n8 =>
      if (decide (n8 = 1)) = true then
      (callK (X d n_vt_Parser_escaped [P0 x0, .int .i32 x1] H) fun v9 H10 =>
        castT [.agg, .bool] v9 fun l11 =>
        optK l11[0]? fun v12 =>
        asA v12 fun c13 =>
        optK l11[1]? fun v14 =>
        asB v14 fun b15 =>
        effK (.store 4) [P0 x4, .agg c13] H10 fun _ H17 =>
        retK [.cell 4 4 true, .tmp 5] [(4, P0 x4), (5, .bool b15)] H17)
      else
      (if (decide (n8 = 2)) = true then
        (optK (Heap.st1 H ⟨x0, 1, none⟩ (.int .i64 0)) fun H19 =>
          optK (Heap.stN H19 ⟨x4, 0, none⟩ [.int .i64 0, .int .i32 0, .bool false, .slice none 0 0]) fun H20 =>
          retK [.cell 4 4 true, .tmp 5] [(4, P0 x4), (5, .bool false)] H20)
        else
        (if (decide (n8 = 3)) = true then
          (callK (X d n_vt_Parser_csi [P0 x0, .int .i32 x1] H) fun v22 H23 =>
            castT [.agg, .bool] v22 fun l24 =>
            optK l24[0]? fun v25 =>
            asA v25 fun c26 =>
            optK l24[1]? fun v27 =>
            asB v27 fun b28 =>
            effK (.store 4) [P0 x4, .agg c26] H23 fun _ H30 =>
            retK [.cell 4 4 true, .tmp 5] [(4, P0 x4), (5, .bool b28)] H30)
          else
          (if (decide (n8 = 4)) = true then
            (if (decide (x1 = 7)) = true then
              (vt_Parser_Rune_p110101111111001 d x0 x4 true H)
              else
              (if (decide (x1 = 24)) = true then
                (vt_Parser_Rune_p110101111111001 d x0 x4 true H)
                else
                (vt_Parser_Rune_p110101111111001 d x0 x4 (decide (x1 = 26)) H)))
            else
            (if (decide (n8 = 5)) = true then
              (if (decide (x1 = 92)) = true then
                (optK (Heap.st1 H ⟨x0, 1, none⟩ (.int .i64 0)) fun H32 =>
                  optK (Heap.stN H32 ⟨x4, 0, none⟩ [.int .i64 0, .int .i32 0, .bool false, .slice none 0 0]) fun H33 =>
                  retK [.cell 4 4 true, .tmp 5] [(4, P0 x4), (5, .bool false)] H33)
                else
                (callK (X d n_vt_Parser_escaped [P0 x0, .int .i32 x1] H) fun v35 H36 =>
                  castT [.agg, .bool] v35 fun l37 =>
                  optK l37[0]? fun v38 =>
                  asA v38 fun c39 =>
                  optK l37[1]? fun v40 =>
                  asB v40 fun b41 =>
                  effK (.store 4) [P0 x4, .agg c39] H36 fun _ H43 =>
                  retK [.cell 4 4 true, .tmp 5] [(4, P0 x4), (5, .bool b41)] H43))
              else
              (callK (X d n_vt_Parser_plain [P0 x0, .int .i32 x1] H) fun v45 H46 =>
                castT [.agg, .bool] v45 fun l47 =>
                optK l47[0]? fun v48 =>
                asA v48 fun c49 =>
                optK l47[1]? fun v50 =>
                asB v50 fun b51 =>
                effK (.store 4) [P0 x4, .agg c49] H46 fun _ H53 =>
                retK [.cell 4 4 true, .tmp 5] [(4, P0 x4), (5, .bool b51)] H53))))))) := (opq_app _ _ _).trans <| by kernel_rfl
theorem vt_Parser_Rune_p110101111111001_eq (d : Nat) (x0 : Nat) (x4 : Nat) (x62 : Bool) (H : Heap) : vt_Parser_Rune_p110101111111001 d x0 x4 x62 H =
  if x62 = true then
  (optK (Heap.st1 H ⟨x0, 1, none⟩ (.int .i64 0)) fun H1 =>
    optK (Heap.stN H1 ⟨x4, 0, none⟩ [.int .i64 0, .int .i32 0, .bool false, .slice none 0 0]) fun H2 =>
    retK [.cell 4 4 true, .tmp 5] [(4, P0 x4), (5, .bool false)] H2)
  else
  (optK (Heap.stN H ⟨x4, 0, none⟩ [.int .i64 0, .int .i32 0, .bool false, .slice none 0 0]) fun H4 =>
    retK [.cell 4 4 true, .tmp 5] [(4, P0 x4), (5, .bool false)] H4) := (opq_app _ _ _).trans <| by kernel_rfl
theorem vt_Parser_Rune_eq (d : Nat) (x0 : Nat) (x1 : Int) (H : Heap) : X (d + 1) n_vt_Parser_Rune [P0 x0, .int .i32 x1] H =
  newK H (.cells [.int .i64 0, .int .i32 0, .bool false, .slice none 0 0] t_vt_Act false 0 false) fun p1 H2 =>
  if (decide (x1 = 27)) = true then
  (optK (Heap.ld1 H2 ⟨x0, 1, none⟩) fun v3 =>
    asI .i64 v3 fun n4 =>
    vt_Parser_Rune_p1001 d x0 x1 p1 (!decide (n4 = 4)) H2)
  else
  (vt_Parser_Rune_p1001 d x0 x1 p1 false H2) := by kernel_rfl
end Go.Proofs.YtkkhljcjjhcnhaaGreatDoor.dec

namespace Go.Proofs.YtkkhljcjjhcnhaaGreatDoor.dec
open Go Go.Cm
/-! (*porthole/vt.Parser).escaped -/
noncomputable def vt_Parser_escaped_k111 (d : Nat) : Kt := run (X d) NN (cd 124 [1, 1, 1]) (retK (rs 124)) [] (retK (rs 124))
noncomputable def vt_Parser_escaped_k1111 (d : Nat) : Kt := run (X d) NN (cd 124 [1, 1, 1, 1]) (retK (rs 124)) [] (retK (rs 124))
noncomputable def vt_Parser_escaped_p11010111 (d : Nat) (x0 : Nat) (x1 : Int) (x4 : Nat) (x9 : Int) (x32 : Bool) (H : Heap) : Res := opq (run (X d) NN (cd 124 [1, 1, 0, 1, 0, 1, 1, 1, 0]) (vt_Parser_escaped_k111 d) [(0, (vt_Parser_escaped_k111 d))] (retK (rs 124))) [(0, P0 x0), (1, .int .i32 x1), (4, P0 x4), (9, .int .i32 x9), (32, .bool x32)] H
noncomputable def vt_Parser_escaped_p11010111011 (d : Nat) (x0 : Nat) (x1 : Int) (x4 : Nat) (x42 : Bool) (H : Heap) : Res := opq (run (X d) NN (cd 124 [1, 1, 0, 1, 0, 1, 1, 1, 0, 1, 1, 0]) (vt_Parser_escaped_k111 d) [(0, (vt_Parser_escaped_k111 d))] (retK (rs 124))) [(0, P0 x0), (1, .int .i32 x1), (4, P0 x4), (42, .bool x42)] H
noncomputable def vt_Parser_escaped_p11100111 (d : Nat) (x1 : Int) (x4 : Nat) (x60 : Bool) (H : Heap) : Res := opq (run (X d) NN (cd 124 [1, 1, 1, 0, 0, 1, 1, 1, 0]) (vt_Parser_escaped_k1111 d) [(1, (vt_Parser_escaped_k1111 d))] (retK (rs 124))) [(1, .int .i32 x1), (4, P0 x4), (60, .bool x60)] H
theorem vt_Parser_escaped_p11010111_eq (d : Nat) (x0 : Nat) (x1 : Int) (x4 : Nat) (x9 : Int) (x32 : Bool) (H : Heap) : vt_Parser_escaped_p11010111 d x0 x1 x4 x9 x32 H =
  if x32 = true then
  (optK (Heap.st1 H ⟨x0, 1, none⟩ (.int .i64 4)) fun H1 =>
    optK (Heap.stN H1 ⟨x4, 0, none⟩ [.int .i64 0, .int .i32 0, .bool false, .slice none 0 0]) fun H2 =>
    retK [.cell 4 4 true, .tmp 5] [(4, P0 x4), (5, .bool false)] H2)
  else
  (if (decide (x9 = 40)) = true then
    (vt_Parser_escaped_p11010111011 d x0 x1 x4 (decide (x9 = 40)) H)
    else
    (if (decide (x9 = 41)) = true then
      (vt_Parser_escaped_p11010111011 d x0 x1 x4 (decide (x9 = 41)) H)
      else
      (if (decide (x9 = 42)) = true then
        (vt_Parser_escaped_p11010111011 d x0 x1 x4 (decide (x9 = 42)) H)
        else
        (if (decide (x9 = 43)) = true then
          (vt_Parser_escaped_p11010111011 d x0 x1 x4 (decide (x9 = 43)) H)
          else
          (vt_Parser_escaped_p11010111011 d x0 x1 x4 (decide (x9 = 35)) H))))) := (opq_app _ _ _).trans <| by kernel_rfl
theorem vt_Parser_escaped_p11010111011_eq (d : Nat) (x0 : Nat) (x1 : Int) (x4 : Nat) (x42 : Bool) (H : Heap) : vt_Parser_escaped_p11010111011 d x0 x1 x4 x42 H =
  if x42 = true then
  (optK (Heap.st1 H ⟨x0, 1, none⟩ (.int .i64 2)) fun H1 =>
    optK (Heap.stN H1 ⟨x4, 0, none⟩ [.int .i64 0, .int .i32 0, .bool false, .slice none 0 0]) fun H2 =>
    retK [.cell 4 4 true, .tmp 5] [(4, P0 x4), (5, .bool false)] H2)
  else
  (callK (X d n_vt_control [.int .i32 x1] H) fun v4 H5 =>
    asB v4 fun b6 =>
    if b6 = true then
    (optK (Heap.st1 H5 ⟨x0, 1, none⟩ (.int .i64 1)) fun H7 =>
      optK (Heap.stN H7 ⟨x4, 0, none⟩ [.int .i64 2, .int .i32 x1, .bool false, .slice none 0 0]) fun H8 =>
      retK [.cell 4 4 true, .tmp 5] [(4, P0 x4), (5, .bool true)] H8)
    else
    (if (decide ((48 : Int) ≤ x1)) = true then
      (vt_Parser_escaped_p11100111 d x1 x4 (decide (x1 ≤ 126)) H5)
      else
      (vt_Parser_escaped_p11100111 d x1 x4 false H5))) := (opq_app _ _ _).trans <| by kernel_rfl
theorem vt_Parser_escaped_p11100111_eq (d : Nat) (x1 : Int) (x4 : Nat) (x60 : Bool) (H : Heap) : vt_Parser_escaped_p11100111 d x1 x4 x60 H =
  if x60 = true then
  (optK (Heap.stN H ⟨x4, 0, none⟩ [.int .i64 3, .int .i32 x1, .bool false, .slice none 0 0]) fun H1 =>
    retK [.cell 4 4 true, .tmp 5] [(4, P0 x4), (5, .bool true)] H1)
  else
  (optK (Heap.stN H ⟨x4, 0, none⟩ [.int .i64 0, .int .i32 0, .bool false, .slice none 0 0]) fun H3 =>
    retK [.cell 4 4 true, .tmp 5] [(4, P0 x4), (5, .bool false)] H3) := (opq_app _ _ _).trans <| by kernel_rfl
theorem vt_Parser_escaped_eq (d : Nat) (x0 : Nat) (x1 : Int) (H : Heap) : X (d + 1) n_vt_Parser_escaped [P0 x0, .int .i32 x1] H =
  newK H (.cells [.int .i64 0, .int .i32 0, .bool false, .slice none 0 0] t_vt_Act false 0 false) fun p1 H2 =>
  optK (Heap.st1 H2 ⟨x0, 1, none⟩ (.int .i64 0)) fun H3 =>
  if (decide (x1 = 91)) = true then
  (newK H3 (.cells [.int .i64 0] t_int false 0 false) fun p4 H5 =>
    optK (Heap.st1 H5 ⟨x0, 1, none⟩ (.int .i64 3)) fun H6 =>
    optK (Heap.st1 H6 ⟨x0, 2, none⟩ (.bool false)) fun H7 =>
    optK (Heap.st1 H7 ⟨x0, 3, none⟩ (.bool false)) fun H8 =>
    optK (Heap.st1 H8 ⟨x0, 4, none⟩ (.bool false)) fun H9 =>
    optK (Heap.st1 H9 ⟨x0, 5, none⟩ (.bool false)) fun H10 =>
    optK (Heap.st1 H10 ⟨x0, 6, none⟩ (.slice (some ⟨p4, 0, none⟩) 1 1)) fun H11 =>
    optK (Heap.stN H11 ⟨p1, 0, none⟩ [.int .i64 0, .int .i32 0, .bool false, .slice none 0 0]) fun H12 =>
    retK [.cell 4 4 true, .tmp 5] [(4, P0 p1), (5, .bool false)] H12)
  else
  (if (decide (x1 = 93)) = true then
    (vt_Parser_escaped_p11010111 d x0 x1 p1 x1 (decide (x1 = 93)) H3)
    else
    (if (decide (x1 = 80)) = true then
      (vt_Parser_escaped_p11010111 d x0 x1 p1 x1 (decide (x1 = 80)) H3)
      else
      (if (decide (x1 = 88)) = true then
        (vt_Parser_escaped_p11010111 d x0 x1 p1 x1 (decide (x1 = 88)) H3)
        else
        (if (decide (x1 = 94)) = true then
          (vt_Parser_escaped_p11010111 d x0 x1 p1 x1 (decide (x1 = 94)) H3)
          else
          (vt_Parser_escaped_p11010111 d x0 x1 p1 x1 (decide (x1 = 95)) H3))))) := by kernel_rfl
end Go.Proofs.YtkkhljcjjhcnhaaGreatDoor.dec

namespace Go.Proofs.YtkkhljcjjhcnhaaGreatDoor.dec
open Go Go.Cm
/-! (*porthole/vt.Parser).csi -/
noncomputable def vt_Parser_csi_k111 (d : Nat) : Kt := run (X d) NN (cd 125 [1, 1, 1]) (retK (rs 125)) [] (retK (rs 125))
noncomputable def vt_Parser_csi_p1100111 (d : Nat) (x0 : Nat) (x1 : Int) (x4 : Nat) (x6 : Bool) (x18 : Bool) (H : Heap) : Res := opq (run (X d) NN (cd 125 [1, 1, 0, 0, 1, 1, 1, 0]) (vt_Parser_csi_k111 d) [(0, (vt_Parser_csi_k111 d))] (retK (rs 125))) [(0, P0 x0), (1, .int .i32 x1), (4, P0 x4), (6, .bool x6), (18, .bool x18)] H
noncomputable def vt_Parser_csi_p1100111011 (d : Nat) (x0 : Nat) (x1 : Int) (x4 : Nat) (x6 : Bool) (x32 : Bool) (H : Heap) : Res := opq (run (X d) NN (cd 125 [1, 1, 0, 0, 1, 1, 1, 0, 1, 1, 0]) (vt_Parser_csi_k111 d) [(0, (vt_Parser_csi_k111 d))] (retK (rs 125))) [(0, P0 x0), (1, .int .i32 x1), (4, P0 x4), (6, .bool x6), (32, .bool x32)] H
noncomputable def vt_Parser_csi_p1100111011011011 (d : Nat) (x0 : Nat) (x4 : Nat) (H : Heap) : Res := opq (run (X d) NN (cd 125 [1, 1, 0, 0, 1, 1, 1, 0, 1, 1, 0, 1, 1, 0, 1, 1, 0]) (vt_Parser_csi_k111 d) [(0, (vt_Parser_csi_k111 d))] (retK (rs 125))) [(0, P0 x0), (4, P0 x4)] H
noncomputable def vt_Parser_csi_p110011101101111 (d : Nat) (x0 : Nat) (x1 : Int) (x4 : Nat) (x104 : Bool) (H : Heap) : Res := opq (run (X d) NN (cd 125 [1, 1, 0, 0, 1, 1, 1, 0, 1, 1, 0, 1, 1, 1, 1, 0]) (vt_Parser_csi_k111 d) [(0, (vt_Parser_csi_k111 d))] (retK (rs 125))) [(0, P0 x0), (1, .int .i32 x1), (4, P0 x4), (104, .bool x104)] H
noncomputable def vt_Parser_csi_p110011101101111011 (d : Nat) (x0 : Nat) (x1 : Int) (x4 : Nat) (x116 : Bool) (H : Heap) : Res := opq (run (X d) NN (cd 125 [1, 1, 0, 0, 1, 1, 1, 0, 1, 1, 0, 1, 1, 1, 1, 0, 1, 1, 0]) (vt_Parser_csi_k111 d) [(0, (vt_Parser_csi_k111 d))] (retK (rs 125))) [(0, P0 x0), (1, .int .i32 x1), (4, P0 x4), (116, .bool x116)] H
noncomputable def vt_Parser_csi_p110011101101111011011 (d : Nat) (x0 : Nat) (x1 : Int) (x4 : Nat) (x129 : Bool) (H : Heap) : Res := opq (run (X d) NN (cd 125 [1, 1, 0, 0, 1, 1, 1, 0, 1, 1, 0, 1, 1, 1, 1, 0, 1, 1, 0, 1, 1, 0]) (vt_Parser_csi_k111 d) [(0, (vt_Parser_csi_k111 d))] (retK (rs 125))) [(0, P0 x0), (1, .int .i32 x1), (4, P0 x4), (129, .bool x129)] H
theorem vt_Parser_csi_p1100111_eq (d : Nat) (x0 : Nat) (x1 : Int) (x4 : Nat) (x6 : Bool) (x18 : Bool) (H : Heap) : vt_Parser_csi_p1100111 d x0 x1 x4 x6 x18 H =
  if x18 = true then
  (optK (Heap.st1 H ⟨x0, 1, none⟩ (.int .i64 0)) fun H1 =>
    optK (Heap.stN H1 ⟨x4, 0, none⟩ [.int .i64 0, .int .i32 0, .bool false, .slice none 0 0]) fun H2 =>
    retK [.cell 4 4 true, .tmp 5] [(4, P0 x4), (5, .bool false)] H2)
  else
  (if (decide ((48 : Int) ≤ x1)) = true then
    (vt_Parser_csi_p1100111011 d x0 x1 x4 x6 (decide (x1 ≤ 57)) H)
    else
    (vt_Parser_csi_p1100111011 d x0 x1 x4 x6 false H)) := (opq_app _ _ _).trans <| by kernel_rfl
theorem vt_Parser_csi_p1100111011_eq (d : Nat) (x0 : Nat) (x1 : Int) (x4 : Nat) (x6 : Bool) (x32 : Bool) (H : Heap) : vt_Parser_csi_p1100111011 d x0 x1 x4 x6 x32 H =
  if x32 = true then
  (optK (Heap.st1 H ⟨x0, 4, none⟩ (.bool true)) fun H1 =>
    optK (Heap.ld1 H1 ⟨x0, 6, none⟩) fun v2 =>
    asSL v2 fun l3 =>
    optK (Heap.ld1 H1 ⟨x0, 6, none⟩) fun v4 =>
    asSL v4 fun l5 =>
    optK l3.a fun a6 =>
    if 0 ≤ IntKind.wrap .i64 ((l5.n : Int) - 1) ∧ IntKind.wrap .i64 ((l5.n : Int) - 1) < (l3.n : Int) then
    optK (Heap.ld1 H1 ⟨x0, 5, none⟩) fun v7 =>
    asB v7 fun b8 =>
    if (!b8) = true then
    (optK (Heap.ld1 H1 (ap a6 (((IntKind.wrap .i64 ((l5.n : Int) - 1)).toNat) * 1))) fun v9 =>
      asI .i64 v9 fun n10 =>
      optK (Heap.st1 H1 (ap a6 (((IntKind.wrap .i64 ((l5.n : Int) - 1)).toNat) * 1)) (.int .i64 (if 9999 < (IntKind.wrap .i64 ((IntKind.wrap .i64 (10 * n10)) + (IntKind.wrap .i64 (IntKind.wrap .i32 (x1 - 48))))) then 9999 else (IntKind.wrap .i64 ((IntKind.wrap .i64 (10 * n10)) + (IntKind.wrap .i64 (IntKind.wrap .i32 (x1 - 48)))))))) fun H11 =>
      optK (Heap.stN H11 ⟨x4, 0, none⟩ [.int .i64 0, .int .i32 0, .bool false, .slice none 0 0]) fun H12 =>
      retK [.cell 4 4 true, .tmp 5] [(4, P0 x4), (5, .bool false)] H12)
    else
    (optK (Heap.stN H1 ⟨x4, 0, none⟩ [.int .i64 0, .int .i32 0, .bool false, .slice none 0 0]) fun H14 =>
      retK [.cell 4 4 true, .tmp 5] [(4, P0 x4), (5, .bool false)] H14)
    else none)
  else
  (if (decide (x1 = 59)) = true then
    (optK (Heap.st1 H ⟨x0, 4, none⟩ (.bool true)) fun H16 =>
      optK (Heap.ld1 H16 ⟨x0, 5, none⟩) fun v17 =>
      asB v17 fun b18 =>
      if b18 = true then
      (optK (Heap.st1 H16 ⟨x0, 5, none⟩ (.bool true)) fun H19 =>
        vt_Parser_csi_p1100111011011011 d x0 x4 H19)
      else
      (optK (Heap.ld1 H16 ⟨x0, 6, none⟩) fun v20 =>
        asSL v20 fun l21 =>
        optK (Heap.st1 H16 ⟨x0, 5, none⟩ (.bool (decide ((l21.n : Int) = 16)))) fun H22 =>
        vt_Parser_csi_p1100111011011011 d x0 x4 H22))
    else
    (if (decide (x1 = 63)) = true then
      (vt_Parser_csi_p110011101101111 d x0 x1 x4 x6 H)
      else
      (vt_Parser_csi_p110011101101111 d x0 x1 x4 false H))) := (opq_app _ _ _).trans <| by kernel_rfl
theorem vt_Parser_csi_p1100111011011011_eq (d : Nat) (x0 : Nat) (x4 : Nat) (H : Heap) : vt_Parser_csi_p1100111011011011 d x0 x4 H =
  optK (Heap.ld1 H ⟨x0, 5, none⟩) fun v1 =>
  asB v1 fun b2 =>
  if (!b2) = true then
  (optK (Heap.ld1 H ⟨x0, 6, none⟩) fun v3 =>
    asSL v3 fun l4 =>
    newK H (.cells [.int .i64 0] t_int false 0 false) fun p5 H6 =>
    appendK t_int 1 8 false l4.v (.slice (some ⟨p5, 0, none⟩) 1 1) H6 fun v7 H8 =>
    asSL v7 fun l9 =>
    optK (Heap.st1 H8 ⟨x0, 6, none⟩ l9.v) fun H10 =>
    optK (Heap.stN H10 ⟨x4, 0, none⟩ [.int .i64 0, .int .i32 0, .bool false, .slice none 0 0]) fun H11 =>
    retK [.cell 4 4 true, .tmp 5] [(4, P0 x4), (5, .bool false)] H11)
  else
  (optK (Heap.stN H ⟨x4, 0, none⟩ [.int .i64 0, .int .i32 0, .bool false, .slice none 0 0]) fun H13 =>
    retK [.cell 4 4 true, .tmp 5] [(4, P0 x4), (5, .bool false)] H13) := (opq_app _ _ _).trans <| by kernel_rfl
theorem vt_Parser_csi_p110011101101111_eq (d : Nat) (x0 : Nat) (x1 : Int) (x4 : Nat) (x104 : Bool) (H : Heap) : vt_Parser_csi_p110011101101111 d x0 x1 x4 x104 H =
  if x104 = true then
  (optK (Heap.st1 H ⟨x0, 4, none⟩ (.bool true)) fun H1 =>
    optK (Heap.st1 H1 ⟨x0, 2, none⟩ (.bool true)) fun H2 =>
    optK (Heap.stN H2 ⟨x4, 0, none⟩ [.int .i64 0, .int .i32 0, .bool false, .slice none 0 0]) fun H3 =>
    retK [.cell 4 4 true, .tmp 5] [(4, P0 x4), (5, .bool false)] H3)
  else
  (if (decide ((32 : Int) ≤ x1)) = true then
    (vt_Parser_csi_p110011101101111011 d x0 x1 x4 (decide (x1 ≤ 63)) H)
    else
    (vt_Parser_csi_p110011101101111011 d x0 x1 x4 false H)) := (opq_app _ _ _).trans <| by kernel_rfl
theorem vt_Parser_csi_p110011101101111011_eq (d : Nat) (x0 : Nat) (x1 : Int) (x4 : Nat) (x116 : Bool) (H : Heap) : vt_Parser_csi_p110011101101111011 d x0 x1 x4 x116 H =
  if x116 = true then
  (optK (Heap.st1 H ⟨x0, 4, none⟩ (.bool true)) fun H1 =>
    optK (Heap.st1 H1 ⟨x0, 3, none⟩ (.bool true)) fun H2 =>
    optK (Heap.stN H2 ⟨x4, 0, none⟩ [.int .i64 0, .int .i32 0, .bool false, .slice none 0 0]) fun H3 =>
    retK [.cell 4 4 true, .tmp 5] [(4, P0 x4), (5, .bool false)] H3)
  else
  (if (decide ((64 : Int) ≤ x1)) = true then
    (vt_Parser_csi_p110011101101111011011 d x0 x1 x4 (decide (x1 ≤ 126)) H)
    else
    (vt_Parser_csi_p110011101101111011011 d x0 x1 x4 false H)) := (opq_app _ _ _).trans <| by kernel_rfl
theorem vt_Parser_csi_p110011101101111011011_eq (d : Nat) (x0 : Nat) (x1 : Int) (x4 : Nat) (x129 : Bool) (H : Heap) : vt_Parser_csi_p110011101101111011011 d x0 x1 x4 x129 H =
  if x129 = true then
  (optK (Heap.st1 H ⟨x0, 1, none⟩ (.int .i64 0)) fun H1 =>
    optK (Heap.ld1 H1 ⟨x0, 3, none⟩) fun v2 =>
    asB v2 fun b3 =>
    if b3 = true then
    (optK (Heap.stN H1 ⟨x4, 0, none⟩ [.int .i64 0, .int .i32 0, .bool false, .slice none 0 0]) fun H4 =>
      retK [.cell 4 4 true, .tmp 5] [(4, P0 x4), (5, .bool false)] H4)
    else
    (optK (Heap.ld1 H1 ⟨x0, 2, none⟩) fun v6 =>
      asB v6 fun b7 =>
      newK H1 (.cells [] t_int false 0 false) fun p8 H9 =>
      optK (Heap.ld1 H9 ⟨x0, 6, none⟩) fun v10 =>
      asSL v10 fun l11 =>
      appendK t_int 1 8 false (.slice (some ⟨p8, 0, none⟩) 0 0) l11.v H9 fun v12 H13 =>
      asSL v12 fun l14 =>
      optK (Heap.stN H13 ⟨x4, 0, none⟩ [.int .i64 4, .int .i32 x1, .bool b7, l14.v]) fun H15 =>
      chk (rdsOk [H1, H9, H13, H15] [⟨.load 1 false, [.pointer (some ⟨x0, 6, none⟩)], v10, 0, 1⟩, ⟨.load 1 false, [.pointer (some ⟨x0, 2, none⟩)], v6, 0, 2⟩]) (
        retK [.cell 4 4 true, .tmp 5] [(4, P0 x4), (5, .bool true)] H15)))
  else
  (optK (Heap.stN H ⟨x4, 0, none⟩ [.int .i64 0, .int .i32 0, .bool false, .slice none 0 0]) fun H17 =>
    retK [.cell 4 4 true, .tmp 5] [(4, P0 x4), (5, .bool false)] H17) := (opq_app _ _ _).trans <| by kernel_rfl
theorem vt_Parser_csi_eq (d : Nat) (x0 : Nat) (x1 : Int) (H : Heap) : X (d + 1) n_vt_Parser_csi [P0 x0, .int .i32 x1] H =
  newK H (.cells [.int .i64 0, .int .i32 0, .bool false, .slice none 0 0] t_vt_Act false 0 false) fun p1 H2 =>
  optK (Heap.ld1 H2 ⟨x0, 4, none⟩) fun v3 =>
  asB v3 fun b4 =>
  callK (X d n_vt_control [.int .i32 x1] H2) fun v5 H6 =>
  asB v5 fun b7 =>
  if b7 = true then
  (optK (Heap.stN H6 ⟨p1, 0, none⟩ [.int .i64 2, .int .i32 x1, .bool false, .slice none 0 0]) fun H8 =>
    retK [.cell 4 4 true, .tmp 5] [(4, P0 p1), (5, .bool true)] H8)
  else
  (if (decide (x1 = 24)) = true then
    (vt_Parser_csi_p1100111 d x0 x1 p1 (!b4) true H6)
    else
    (if (decide (x1 = 26)) = true then
      (vt_Parser_csi_p1100111 d x0 x1 p1 (!b4) true H6)
      else
      (vt_Parser_csi_p1100111 d x0 x1 p1 (!b4) (decide ((127 : Int) < x1)) H6))) := by kernel_rfl
end Go.Proofs.YtkkhljcjjhcnhaaGreatDoor.dec

namespace Go.Proofs.YtkkhljcjjhcnhaaGreatDoor.dec
open Go Go.Cm
/-! (*porthole/vt.Parser).plain -/
noncomputable def vt_Parser_plain_k11 (d : Nat) : Kt := run (X d) NN (cd 126 [1, 1]) (retK (rs 126)) [] (retK (rs 126))
noncomputable def vt_Parser_plain_p100111 (d : Nat) (x1 : Int) (x4 : Nat) (x11 : Bool) (H : Heap) : Res := opq (run (X d) NN (cd 126 [1, 0, 0, 1, 1, 1, 0]) (vt_Parser_plain_k11 d) [(0, (vt_Parser_plain_k11 d))] (retK (rs 126))) [(1, .int .i32 x1), (4, P0 x4), (11, .bool x11)] H
theorem vt_Parser_plain_p100111_eq (d : Nat) (x1 : Int) (x4 : Nat) (x11 : Bool) (H : Heap) : vt_Parser_plain_p100111 d x1 x4 x11 H =
  if x11 = true then
  (optK (Heap.stN H ⟨x4, 0, none⟩ [.int .i64 0, .int .i32 0, .bool false, .slice none 0 0]) fun H1 =>
    retK [.cell 4 4 true, .tmp 5] [(4, P0 x4), (5, .bool false)] H1)
  else
  (optK (Heap.stN H ⟨x4, 0, none⟩ [.int .i64 1, .int .i32 x1, .bool false, .slice none 0 0]) fun H3 =>
    retK [.cell 4 4 true, .tmp 5] [(4, P0 x4), (5, .bool true)] H3) := (opq_app _ _ _).trans <| by kernel_rfl
theorem vt_Parser_plain_eq (d : Nat) (x0 : Nat) (x1 : Int) (H : Heap) : X (d + 1) n_vt_Parser_plain [P0 x0, .int .i32 x1] H =
  newK H (.cells [.int .i64 0, .int .i32 0, .bool false, .slice none 0 0] t_vt_Act false 0 false) fun p1 H2 =>
  callK (X d n_vt_control [.int .i32 x1] H2) fun v3 H4 =>
  asB v3 fun b5 =>
  if b5 = true then
  (optK (Heap.stN H4 ⟨p1, 0, none⟩ [.int .i64 2, .int .i32 x1, .bool false, .slice none 0 0]) fun H6 =>
    retK [.cell 4 4 true, .tmp 5] [(4, P0 p1), (5, .bool true)] H6)
  else
  (if (decide (x1 < 32)) = true then
    (vt_Parser_plain_p100111 d x1 p1 true H4)
    else
    (vt_Parser_plain_p100111 d x1 p1 (decide (x1 = 127)) H4)) := by kernel_rfl
end Go.Proofs.YtkkhljcjjhcnhaaGreatDoor.dec

namespace Go.Proofs.YtkkhljcjjhcnhaaGreatDoor.dec
open Go Go.Cm
/-! porthole/vt.control -/
theorem vt_control_eq (d : Nat) (x0 : Int) (H : Heap) : X (d + 1) n_vt_control [.int .i32 x0] H =
  if (decide ((7 : Int) ≤ x0)) = true then
  (some (.bool (decide (x0 ≤ 13)), H))
  else
  (some (.bool false, H)) := by kernel_rfl
end Go.Proofs.YtkkhljcjjhcnhaaGreatDoor.dec

namespace Go.Proofs.YtkkhljcjjhcnhaaGreatDoor.dec
open Go Go.Cm
/-! (*porthole/utf.Decoder).Feed -/
noncomputable def utf_Decoder_Feed_k1111 (d : Nat) : Kt := run (X d) NN (cd 91 [1, 1, 1, 1]) (retK (rs 91)) [] (retK (rs 91))
noncomputable def utf_Decoder_Feed_l111010 (d : Nat) (m0 : Nat) : Kt := iter (fun k => run (X d) NN (cd 91 [1, 1, 1, 0, 1, 0, 0]) (backK [(0, .ptr), (5, .sl), (6, .int .i64), (7, .int .i64)] (opq k)) [(0, (utf_Decoder_Feed_k1111 d))] (retK (rs 91))) m0
noncomputable def utf_Decoder_Feed_k111010011 (d : Nat) (m0 : Nat) : Kt := run (X d) NN (cd 91 [1, 1, 1, 0, 1, 0, 0, 1, 1]) (backK [(0, .ptr), (5, .sl), (6, .int .i64), (7, .int .i64)] (opq (utf_Decoder_Feed_l111010 d m0))) [(0, (utf_Decoder_Feed_k1111 d))] (retK (rs 91))
noncomputable def utf_Decoder_Feed_p111010 (d : Nat) (m0 : Nat) (x0 : Nat) (x5 : Sl) (x6 : Int) (x7 : Int) (H : Heap) : Res := opq (utf_Decoder_Feed_l111010 d m0) [(0, P0 x0), (5, x5.v), (6, .int .i64 x6), (7, .int .i64 x7)] H
noncomputable def utf_Decoder_Feed_p11101001001 (d : Nat) (m0 : Nat) (x0 : Nat) (x5 : Sl) (x6 : Int) (x7 : Int) (x38 : Bool) (H : Heap) : Res := opq (run (X d) NN (cd 91 [1, 1, 1, 0, 1, 0, 0, 1, 0, 0, 1, 0]) (utf_Decoder_Feed_k111010011 d m0) [(1, (utf_Decoder_Feed_k111010011 d m0)), (0, (utf_Decoder_Feed_k1111 d))] (retK (rs 91))) [(0, P0 x0), (5, x5.v), (6, .int .i64 x6), (7, .int .i64 x7), (38, .bool x38)] H
noncomputable def utf_Decoder_Feed_p111010011 (d : Nat) (m0 : Nat) (x0 : Nat) (x5 : Sl) (x6 : Int) (x7 : Int) (H : Heap) : Res := opq (run (X d) NN (cd 91 [1, 1, 1, 0, 1, 0, 0, 1, 1, 0]) (backK [(0, .ptr), (5, .sl), (6, .int .i64), (7, .int .i64)] (opq (utf_Decoder_Feed_l111010 d m0))) [(0, (utf_Decoder_Feed_k1111 d))] (retK (rs 91))) [(0, P0 x0), (5, x5.v), (6, .int .i64 x6), (7, .int .i64 x7)] H
theorem utf_Decoder_Feed_p111010_s (d : Nat) (m0 : Nat) (x0 : Nat) (x5 : Sl) (x6 : Int) (x7 : Int) (H : Heap) : utf_Decoder_Feed_p111010 d (m0 + 1) x0 x5 x6 x7 H =
  if (decide (x7 < x6)) = true then
  (optK x5.a fun a1 =>
    if 0 ≤ x7 ∧ x7 < (x5.n : Int) then
    optK (Heap.ld1 H (ap a1 (((x7).toNat) * 1))) fun v2 =>
    asI .u8 v2 fun n3 =>
    callK (X d n_unicode_utf8_RuneStart [.int .u8 n3] H) fun v4 H5 =>
    asB v4 fun b6 =>
    if b6 = true then
    (optK (readD (.subSl t_uint8 1 true false false) [x5.v, .int .i64 x7] H5) fun v7 =>
      asSL v7 fun l8 =>
      callK (X d n_unicode_utf8_FullRune [l8.v] H5) fun v9 H10 =>
      asB v9 fun b11 =>
      utf_Decoder_Feed_p11101001001 d m0 x0 x5 x6 x7 (!b11) H10)
    else
    (utf_Decoder_Feed_p11101001001 d m0 x0 x5 x6 x7 false H5)
    else none)
  else
  (optK (readD (.subSl t_uint8 1 true false false) [x5.v, .int .i64 x6] H) fun v12 =>
    asSL v12 fun l13 =>
    optK (Heap.st1 H ⟨x0, 0, none⟩ l13.v) fun H14 =>
    optK (readD (.subSl t_uint8 1 false true false) [x5.v, .int .i64 x6] H14) fun v15 =>
    asSL v15 fun l16 =>
    optK (readD (.bytesStr) [l16.v] H14) fun v17 =>
    asS v17 fun s18 =>
    callK (X d n_utf_Runes [.string s18] H14) fun v19 H20 =>
    asSL v19 fun l21 =>
    some (l21.v, H20)) := (opq_app _ _ _).trans <| by kernel_rfl
theorem utf_Decoder_Feed_p11101001001_eq (d : Nat) (m0 : Nat) (x0 : Nat) (x5 : Sl) (x6 : Int) (x7 : Int) (x38 : Bool) (H : Heap) : utf_Decoder_Feed_p11101001001 d m0 x0 x5 x6 x7 x38 H =
  if x38 = true then
  (utf_Decoder_Feed_p111010011 d m0 x0 x5 x7 x7 H)
  else
  (utf_Decoder_Feed_p111010011 d m0 x0 x5 x6 x7 H) := (opq_app _ _ _).trans <| by kernel_rfl
theorem utf_Decoder_Feed_p111010011_eq (d : Nat) (m0 : Nat) (x0 : Nat) (x5 : Sl) (x6 : Int) (x7 : Int) (H : Heap) : utf_Decoder_Feed_p111010011 d m0 x0 x5 x6 x7 H =
  utf_Decoder_Feed_p111010 d m0 x0 x5 x6 (IntKind.wrap .i64 (x7 + 1)) H := (opq_app _ _ _).trans <| by kernel_rfl
theorem utf_Decoder_Feed_eq (d : Nat) (x0 : Nat) (x1 : Sl) (H : Heap) : X (d + 1) n_utf_Decoder_Feed [P0 x0, x1.v] H =
  newK H (.cells [] t_uint8 false 0 false) fun p1 H2 =>
  optK (Heap.ld1 H2 ⟨x0, 0, none⟩) fun v3 =>
  asSL v3 fun l4 =>
  appendK t_uint8 1 1 false (.slice (some ⟨p1, 0, none⟩) 0 0) l4.v H2 fun v5 H6 =>
  asSL v5 fun l7 =>
  appendK t_uint8 1 1 false l7.v x1.v H6 fun v8 H9 =>
  asSL v8 fun l10 =>
  utf_Decoder_Feed_p111010 d NN x0 l10 (l10.n : Int) (if 0 < (IntKind.wrap .i64 ((IntKind.wrap .i64 ((l10.n : Int) - 4)) + 1)) then (IntKind.wrap .i64 ((IntKind.wrap .i64 ((l10.n : Int) - 4)) + 1)) else 0) H9 := by kernel_rfl
end Go.Proofs.YtkkhljcjjhcnhaaGreatDoor.dec

namespace Go.Proofs.YtkkhljcjjhcnhaaGreatDoor.dec
open Go Go.Cm
/-! unicode/utf8.RuneStart -/
theorem unicode_utf8_RuneStart_eq (d : Nat) (x0 : Int) (H : Heap) : X (d + 1) n_unicode_utf8_RuneStart [.int .u8 x0] H =
  some (.bool (!decide (bitsI .and .u8 x0 192 = 128)), H) := by kernel_rfl
end Go.Proofs.YtkkhljcjjhcnhaaGreatDoor.dec

namespace Go.Proofs.YtkkhljcjjhcnhaaGreatDoor.dec
open Go Go.Cm
/-! unicode/utf8.FullRune -/
noncomputable def unicode_utf8_FullRune_k1111111 (d : Nat) : Kt := run (X d) NN (cd 123 [1, 1, 1, 1, 1, 1, 1]) (retK (rs 123)) [] (retK (rs 123))
noncomputable def unicode_utf8_FullRune_p11111101 (d : Nat) (x0 : Sl) (x3 : Int) (x41 : Bool) (H : Heap) : Res := opq (run (X d) NN (cd 123 [1, 1, 1, 1, 1, 1, 0, 1, 0]) (unicode_utf8_FullRune_k1111111 d) [] (retK (rs 123))) [(0, x0.v), (3, .int .i64 x3), (41, .bool x41)] H
noncomputable def unicode_utf8_FullRune_p11111101011 (d : Nat) (x55 : Bool) (H : Heap) : Res := opq (run (X d) NN (cd 123 [1, 1, 1, 1, 1, 1, 0, 1, 0, 1, 1, 0]) (unicode_utf8_FullRune_k1111111 d) [] (retK (rs 123))) [(55, .bool x55)] H
theorem unicode_utf8_FullRune_p11111101_eq (d : Nat) (x0 : Sl) (x3 : Int) (x41 : Bool) (H : Heap) : unicode_utf8_FullRune_p11111101 d x0 x3 x41 H =
  if x41 = true then
  (some (.bool true, H))
  else
  (if (decide ((2 : Int) < x3)) = true then
    (optK x0.a fun a1 =>
      if 0 ≤ (2 : Int) ∧ (2 : Int) < (x0.n : Int) then
      optK (Heap.ld1 H (ap a1 2)) fun v2 =>
      asI .u8 v2 fun n3 =>
      if (decide (n3 < 128)) = true then
      (unicode_utf8_FullRune_p11111101011 d true H)
      else
      (optK x0.a fun a4 =>
        if 0 ≤ (2 : Int) ∧ (2 : Int) < (x0.n : Int) then
        optK (Heap.ld1 H (ap a4 2)) fun v5 =>
        asI .u8 v5 fun n6 =>
        unicode_utf8_FullRune_p11111101011 d (decide ((191 : Int) < n6)) H
        else none)
      else none)
    else
    (unicode_utf8_FullRune_p11111101011 d false H)) := (opq_app _ _ _).trans <| by kernel_rfl
theorem unicode_utf8_FullRune_p11111101011_eq (d : Nat) (x55 : Bool) (H : Heap) : unicode_utf8_FullRune_p11111101011 d x55 H =
  if x55 = true then
  (some (.bool true, H))
  else
  (some (.bool false, H)) := (opq_app _ _ _).trans <| by kernel_rfl
theorem unicode_utf8_FullRune_eq (d : Nat) (x0 : Sl) (H : Heap) : X (d + 1) n_unicode_utf8_FullRune [x0.v] H =
  if (decide ((x0.n : Int) = 0)) = true then
  (some (.bool false, H))
  else
  (optK x0.a fun a1 =>
    if 0 ≤ (0 : Int) ∧ (0 : Int) < (x0.n : Int) then
    optK (Heap.ld1 H (ap a1 0)) fun v2 =>
    asI .u8 v2 fun n3 =>
    if 0 ≤ n3 ∧ n3 < 256 then
    optK (Heap.ld1 H ⟨3, 0 + ((n3).toNat) * 1, none⟩) fun v4 =>
    asI .u8 v4 fun n5 =>
    if (decide (IntKind.wrap .i64 (bitsI .and .u8 n5 7) ≤ (x0.n : Int))) = true then
    (some (.bool true, H))
    else
    (if 0 ≤ Int.fdiv n5 16 ∧ Int.fdiv n5 16 < 16 then
      optK (ldA H ⟨4, 0 + ((Int.fdiv n5 16).toNat) * 2, none⟩ 2) fun v6 =>
      asA v6 fun c7 =>
      newK H (.cells [.int .u8 0, .int .u8 0] t_utf8_acceptRange false 0 false) fun p8 H9 =>
      effK (.store 2) [P0 p8, .agg c7] H9 fun _ H11 =>
      if (decide ((1 : Int) < (x0.n : Int))) = true then
      (optK x0.a fun a12 =>
        if 0 ≤ (1 : Int) ∧ (1 : Int) < (x0.n : Int) then
        optK (Heap.ld1 H11 (ap a12 1)) fun v13 =>
        asI .u8 v13 fun n14 =>
        optK (Heap.ld1 H11 ⟨p8, 0, none⟩) fun v15 =>
        asI .u8 v15 fun n16 =>
        if (decide (n14 < n16)) = true then
        (unicode_utf8_FullRune_p11111101 d x0 (x0.n : Int) true H11)
        else
        (optK (Heap.ld1 H11 ⟨p8, 1, none⟩) fun v17 =>
          asI .u8 v17 fun n18 =>
          optK x0.a fun a19 =>
          if 0 ≤ (1 : Int) ∧ (1 : Int) < (x0.n : Int) then
          optK (Heap.ld1 H11 (ap a19 1)) fun v20 =>
          asI .u8 v20 fun n21 =>
          unicode_utf8_FullRune_p11111101 d x0 (x0.n : Int) (decide (n18 < n21)) H11
          else none)
        else none)
      else
      (unicode_utf8_FullRune_p11111101 d x0 (x0.n : Int) false H11)
      else none)
    else none
    else none) := by kernel_rfl
end Go.Proofs.YtkkhljcjjhcnhaaGreatDoor.dec

namespace Go.Proofs.YtkkhljcjjhcnhaaGreatDoor.dec
open Go Go.Cm
/-! porthole/utf.Runes -/
noncomputable def utf_Runes_k111 (d : Nat) : Kt := run (X d) NN (cd 83 [1, 1, 1]) (retK (rs 83)) [] (retK (rs 83))
noncomputable def utf_Runes_l11010 (d : Nat) (m0 : Nat) : Kt := iter (fun k => run (X d) NN (cd 83 [1, 1, 0, 1, 0, 0]) (backK [(3, .sl), (7, .any)] (opq k)) [(0, (utf_Runes_k111 d))] (retK (rs 83))) m0
noncomputable def utf_Runes_p11010 (d : Nat) (m0 : Nat) (x3 : Sl) (x7 : Nat) (H : Heap) : Res := opq (utf_Runes_l11010 d m0) [(3, x3.v), (7, P0 x7)] H
theorem utf_Runes_p11010_s (d : Nat) (m0 : Nat) (x3 : Sl) (x7 : Nat) (H : Heap) : utf_Runes_p11010 d (m0 + 1) x3 x7 H =
  nextK H (⟨x7, 0, none⟩) (fun H1 _ r3 =>
    newK H1 (.cells [.int .i32 r3] t_int32 false 0 false) fun p5 H6 =>
    appendK t_int32 1 4 false x3.v (.slice (some ⟨p5, 0, none⟩) 1 1) H6 fun v7 H8 =>
    asSL v7 fun l9 =>
    utf_Runes_p11010 d m0 l9 x7 H8)
  (fun H4 =>
    some (x3.v, H4)) := (opq_app _ _ _).trans <| by kernel_rfl
theorem utf_Runes_eq (d : Nat) (x0 : ByteArray) (H : Heap) : X (d + 1) n_utf_Runes [.string x0] H =
  newK H (.iter x0 0) fun p1 H2 =>
  utf_Runes_p11010 d NN Sl.nil p1 H2 := by kernel_rfl
end Go.Proofs.YtkkhljcjjhcnhaaGreatDoor.dec

namespace Go.Proofs.YtkkhljcjjhcnhaaGreatDoor.dec
open Go Go.Cm
/-! (*porthole/vt.Parser).Feed -/
noncomputable def vt_Parser_Feed_k111 (d : Nat) : Kt := run (X d) NN (cd 66 [1, 1, 1]) (retK (rs 66)) [] (retK (rs 66))
noncomputable def vt_Parser_Feed_l11010 (d : Nat) (m0 : Nat) : Kt := iter (fun k => run (X d) NN (cd 66 [1, 1, 0, 1, 0, 0]) (backK [(0, .ptr), (5, .sl), (15, .sl), (16, .int .i64), (17, .int .i64)] (opq k)) [(0, (vt_Parser_Feed_k111 d))] (retK (rs 66))) m0
noncomputable def vt_Parser_Feed_p11010 (d : Nat) (m0 : Nat) (x0 : Nat) (x5 : Sl) (x15 : Sl) (x16 : Int) (x17 : Int) (H : Heap) : Res := opq (vt_Parser_Feed_l11010 d m0) [(0, P0 x0), (5, x5.v), (15, x15.v), (16, .int .i64 x16), (17, .int .i64 x17)] H
noncomputable def vt_Parser_Feed_p110100111 (d : Nat) (m0 : Nat) (x0 : Nat) (x5 : Sl) (x15 : Sl) (x16 : Int) (x17 : Int) (H : Heap) : Res := opq (run (X d) NN (cd 66 [1, 1, 0, 1, 0, 0, 1, 1, 1, 0]) (backK [(0, .ptr), (5, .sl), (15, .sl), (16, .int .i64), (17, .int .i64)] (opq (vt_Parser_Feed_l11010 d m0))) [(0, (vt_Parser_Feed_k111 d))] (retK (rs 66))) [(0, P0 x0), (5, x5.v), (15, x15.v), (16, .int .i64 x16), (17, .int .i64 x17)] H
theorem vt_Parser_Feed_p11010_s (d : Nat) (m0 : Nat) (x0 : Nat) (x5 : Sl) (x15 : Sl) (x16 : Int) (x17 : Int) (H : Heap) : vt_Parser_Feed_p11010 d (m0 + 1) x0 x5 x15 x16 x17 H =
  if (decide (x17 < x16)) = true then
  (optK x15.a fun a1 =>
    if 0 ≤ x17 ∧ x17 < (x15.n : Int) then
    optK (Heap.ld1 H (ap a1 (((x17).toNat) * 1))) fun v2 =>
    asI .i32 v2 fun n3 =>
    callK (X d n_vt_Parser_Rune [P0 x0, .int .i32 n3] H) fun v4 H5 =>
    castT [.agg, .bool] v4 fun l6 =>
    castT [.agg, .bool] (.tuple ⟨l6⟩) fun l7 =>
    optK l7[0]? fun v8 =>
    asA v8 fun c9 =>
    optK l7[1]? fun v10 =>
    asB v10 fun b11 =>
    newK H5 (.cells [.int .i64 0, .int .i32 0, .bool false, .slice none 0 0] t_vt_Act false 0 false) fun p12 H13 =>
    effK (.store 4) [P0 p12, .agg c9] H13 fun _ H15 =>
    if b11 = true then
    (optK (ldA H15 ⟨p12, 0, none⟩ 4) fun v16 =>
      asA v16 fun c17 =>
      optK (fillL [(0, 4)] [.agg c17] [.int .i64 0, .int .i32 0, .bool false, .slice none 0 0]) fun l18 =>
      newK H15 (.cells l18 t_vt_Act false 0 false) fun p19 H20 =>
      appendK t_vt_Act 4 40 false x5.v (.slice (some ⟨p19, 0, none⟩) 1 1) H20 fun v21 H22 =>
      asSL v21 fun l23 =>
      vt_Parser_Feed_p110100111 d m0 x0 l23 x15 x16 x17 H22)
    else
    (vt_Parser_Feed_p110100111 d m0 x0 x5 x15 x16 x17 H15)
    else none)
  else
  (some (x5.v, H)) := (opq_app _ _ _).trans <| by kernel_rfl
theorem vt_Parser_Feed_p110100111_eq (d : Nat) (m0 : Nat) (x0 : Nat) (x5 : Sl) (x15 : Sl) (x16 : Int) (x17 : Int) (H : Heap) : vt_Parser_Feed_p110100111 d m0 x0 x5 x15 x16 x17 H =
  vt_Parser_Feed_p11010 d m0 x0 x5 x15 x16 (IntKind.wrap .i64 (x17 + 1)) H := (opq_app _ _ _).trans <| by kernel_rfl
theorem vt_Parser_Feed_eq (d : Nat) (x0 : Nat) (x1 : Sl) (H : Heap) : X (d + 1) n_vt_Parser_Feed [P0 x0, x1.v] H =
  optK (Heap.ld1 H ⟨x0, 0, none⟩) fun v1 =>
  asP v1 fun o2 =>
  callK (X d n_utf_Decoder_Feed [.pointer o2, x1.v] H) fun v3 H4 =>
  asSL v3 fun l5 =>
  vt_Parser_Feed_p11010 d NN x0 Sl.nil l5 (l5.n : Int) 0 H4 := by kernel_rfl
end Go.Proofs.YtkkhljcjjhcnhaaGreatDoor.dec

namespace Go.Proofs.YtkkhljcjjhcnhaaGreatDoor.dec
open Go Go.Cm
/-! (*porthole/grid.Grid).Write -/
noncomputable def grid_Grid_Write_l10 (d : Nat) (m0 : Nat) : Kt := iter (fun k => run (X d) NN (cd 39 [1, 0, 0]) (backK [(0, .ptr), (11, .sl), (12, .int .i64), (13, .int .i64)] (opq k)) [(0, (retK (rs 39)))] (retK (rs 39))) m0
noncomputable def grid_Grid_Write_p10 (d : Nat) (m0 : Nat) (x0 : Nat) (x11 : Sl) (x12 : Int) (x13 : Int) (H : Heap) : Res := opq (grid_Grid_Write_l10 d m0) [(0, P0 x0), (11, x11.v), (12, .int .i64 x12), (13, .int .i64 x13)] H
theorem grid_Grid_Write_p10_s (d : Nat) (m0 : Nat) (x0 : Nat) (x11 : Sl) (x12 : Int) (x13 : Int) (H : Heap) : grid_Grid_Write_p10 d (m0 + 1) x0 x11 x12 x13 H =
  if (decide (x13 < x12)) = true then
  (optK x11.a fun a1 =>
    if 0 ≤ x13 ∧ x13 < (x11.n : Int) then
    optK (ldA H (ap a1 (((x13).toNat) * 4)) 4) fun v2 =>
    asA v2 fun c3 =>
    newK H (.cells [.int .i64 0, .int .i32 0, .bool false, .slice none 0 0] t_vt_Act false 0 false) fun p4 H5 =>
    effK (.store 4) [P0 p4, .agg c3] H5 fun _ H7 =>
    optK (ldA H7 ⟨p4, 0, none⟩ 4) fun v8 =>
    asA v8 fun c9 =>
    callK (X d n_grid_Grid_Do [P0 x0, .agg c9] H7) fun _ H11 =>
    grid_Grid_Write_p10 d m0 x0 x11 x12 (IntKind.wrap .i64 (x13 + 1)) H11
    else none)
  else
  (some (.tuple #[], H)) := (opq_app _ _ _).trans <| by kernel_rfl
theorem grid_Grid_Write_eq (d : Nat) (x0 : Nat) (x1 : Sl) (H : Heap) : X (d + 1) n_grid_Grid_Write [P0 x0, x1.v] H =
  optK (Heap.ld1 H ⟨x0, 32, none⟩) fun v1 =>
  asP v1 fun o2 =>
  callK (X d n_vt_Parser_Feed [.pointer o2, x1.v] H) fun v3 H4 =>
  asSL v3 fun l5 =>
  grid_Grid_Write_p10 d NN x0 l5 (l5.n : Int) 0 H4 := by kernel_rfl
end Go.Proofs.YtkkhljcjjhcnhaaGreatDoor.dec

namespace Go.Proofs.YtkkhljcjjhcnhaaGreatDoor.dec
open Go Go.Cm
/-! (*porthole/grid.Grid).Do -/
theorem grid_Grid_Do_eq (d : Nat) (x0 : Nat) (x1 : Array Value) (H : Heap) : X (d + 1) n_grid_Grid_Do [P0 x0, .agg x1] H =
  effK (.box t_vt_Act) [.agg x1] H fun v1 H2 =>
  asP v1 fun o3 =>
  optK o3 fun a4 =>
  optK (Heap.ld1 H2 (ap a4 0)) fun v5 =>
  asI .i64 v5 fun n6 =>
  if (decide (n6 = 1)) = true then
  (asP v1 fun o7 =>
    optK o7 fun a8 =>
    optK (Heap.ld1 H2 (ap a8 1)) fun v9 =>
    asI .i32 v9 fun n10 =>
    callK (X d n_grid_Grid_print [P0 x0, .int .i32 n10] H2) fun _ H12 =>
    some (.tuple #[], H12))
  else
  (if (decide (n6 = 2)) = true then
    (asP v1 fun o13 =>
      optK o13 fun a14 =>
      optK (Heap.ld1 H2 (ap a14 1)) fun v15 =>
      asI .i32 v15 fun n16 =>
      callK (X d n_grid_Grid_control [P0 x0, .int .i32 n16] H2) fun _ H18 =>
      some (.tuple #[], H18))
    else
    (if (decide (n6 = 3)) = true then
      (asP v1 fun o19 =>
        optK o19 fun a20 =>
        optK (Heap.ld1 H2 (ap a20 1)) fun v21 =>
        asI .i32 v21 fun n22 =>
        callK (X d n_grid_Grid_esc [P0 x0, .int .i32 n22] H2) fun _ H24 =>
        some (.tuple #[], H24))
      else
      (if (decide (n6 = 4)) = true then
        (asP v1 fun o25 =>
          optK o25 fun a26 =>
          optK (Heap.ld1 H2 (ap a26 2)) fun v27 =>
          asB v27 fun b28 =>
          if b28 = true then
          (optK (readD (.load 4 true) [v1] H2) fun v29 =>
            asA v29 fun c30 =>
            callK (X d n_grid_Grid_modes [P0 x0, .agg c30] H2) fun _ H32 =>
            some (.tuple #[], H32))
          else
          (optK (readD (.load 4 true) [v1] H2) fun v33 =>
            asA v33 fun c34 =>
            callK (X d n_grid_Grid_csi [P0 x0, .agg c34] H2) fun _ H36 =>
            some (.tuple #[], H36)))
        else
        (some (.tuple #[], H2))))) := by kernel_rfl
end Go.Proofs.YtkkhljcjjhcnhaaGreatDoor.dec

namespace Go.Proofs.YtkkhljcjjhcnhaaGreatDoor.dec
open Go Go.Cm
/-! (*porthole/grid.Grid).control -/
noncomputable def grid_Grid_control_k10111011 (d : Nat) : Kt := run (X d) NN (cd 94 [1, 0, 1, 1, 1, 0, 1, 1]) (retK (rs 94)) [(0, (retK (rs 94)))] (retK (rs 94))
noncomputable def grid_Grid_control_l101110100 (d : Nat) (m0 : Nat) : Kt := iter (fun k => run (X d) NN (cd 94 [1, 0, 1, 1, 1, 0, 1, 0, 0, 0]) (backK [(0, .ptr), (4, .int .i64)] (opq k)) [(1, (grid_Grid_control_k10111011 d)), (0, (retK (rs 94)))] (retK (rs 94))) m0
noncomputable def grid_Grid_control_k10111010001 (d : Nat) (m0 : Nat) : Kt := run (X d) NN (cd 94 [1, 0, 1, 1, 1, 0, 1, 0, 0, 0, 1]) (backK [(0, .ptr), (4, .int .i64)] (opq (grid_Grid_control_l101110100 d m0))) [(1, (grid_Grid_control_k10111011 d)), (0, (retK (rs 94)))] (retK (rs 94))
noncomputable def grid_Grid_control_p101110100 (d : Nat) (m0 : Nat) (x0 : Nat) (x4 : Int) (H : Heap) : Res := opq (grid_Grid_control_l101110100 d m0) [(0, P0 x0), (4, .int .i64 x4)] H
noncomputable def grid_Grid_control_p1011111 (d : Nat) (x0 : Nat) (x5 : Int) (x56 : Bool) (H : Heap) : Res := opq (run (X d) NN (cd 94 [1, 0, 1, 1, 1, 1, 1, 0]) (retK (rs 94)) [(0, (retK (rs 94)))] (retK (rs 94))) [(0, P0 x0), (5, .int .i32 x5), (56, .bool x56)] H
noncomputable def grid_Grid_control_p101110100001 (d : Nat) (m0 : Nat) (x0 : Nat) (x4 : Int) (x45 : Bool) (H : Heap) : Res := opq (run (X d) NN (cd 94 [1, 0, 1, 1, 1, 0, 1, 0, 0, 0, 0, 1, 0]) (grid_Grid_control_k10111010001 d m0) [(1, (grid_Grid_control_k10111011 d)), (0, (retK (rs 94)))] (retK (rs 94))) [(0, P0 x0), (4, .int .i64 x4), (45, .bool x45)] H
theorem grid_Grid_control_p101110100_s (d : Nat) (m0 : Nat) (x0 : Nat) (x4 : Int) (H : Heap) : grid_Grid_control_p101110100 d (m0 + 1) x0 x4 H =
  optK (Heap.ld1 H ⟨x0, 1, none⟩) fun v1 =>
  asI .i64 v1 fun n2 =>
  if (decide (x4 < IntKind.wrap .i64 (n2 - 1))) = true then
  (optK (Heap.ld1 H ⟨x0, 22, none⟩) fun v3 =>
    asSL v3 fun l4 =>
    optK l4.a fun a5 =>
    if 0 ≤ x4 ∧ x4 < (l4.n : Int) then
    optK (Heap.ld1 H (ap a5 (((x4).toNat) * 1))) fun v6 =>
    asB v6 fun b7 =>
    grid_Grid_control_p101110100001 d m0 x0 x4 (!b7) H
    else none)
  else
  (grid_Grid_control_p101110100001 d m0 x0 x4 false H) := (opq_app _ _ _).trans <| by kernel_rfl
theorem grid_Grid_control_p1011111_eq (d : Nat) (x0 : Nat) (x5 : Int) (x56 : Bool) (H : Heap) : grid_Grid_control_p1011111 d x0 x5 x56 H =
  if x56 = true then
  (callK (X d n_grid_Grid_index [P0 x0] H) fun _ H2 =>
    some (.tuple #[], H2))
  else
  (if (decide (x5 = 13)) = true then
    (optK (Heap.ld1 H ⟨x0, 3, none⟩) fun v3 =>
      asI .i64 v3 fun n4 =>
      callK (X d n_grid_Grid_move [P0 x0, .int .i64 n4, .int .i64 0] H) fun _ H6 =>
      some (.tuple #[], H6))
    else
    (some (.tuple #[], H))) := (opq_app _ _ _).trans <| by kernel_rfl
theorem grid_Grid_control_p101110100001_eq (d : Nat) (m0 : Nat) (x0 : Nat) (x4 : Int) (x45 : Bool) (H : Heap) : grid_Grid_control_p101110100001 d m0 x0 x4 x45 H =
  if x45 = true then
  (grid_Grid_control_p101110100 d m0 x0 (IntKind.wrap .i64 (x4 + 1)) H)
  else
  (optK (Heap.ld1 H ⟨x0, 3, none⟩) fun v1 =>
    asI .i64 v1 fun n2 =>
    callK (X d n_grid_Grid_move [P0 x0, .int .i64 n2, .int .i64 x4] H) fun _ H4 =>
    some (.tuple #[], H4)) := (opq_app _ _ _).trans <| by kernel_rfl
theorem grid_Grid_control_eq (d : Nat) (x0 : Nat) (x1 : Int) (H : Heap) : X (d + 1) n_grid_Grid_control [P0 x0, .int .i32 x1] H =
  if (decide (x1 = 8)) = true then
  (optK (Heap.ld1 H ⟨x0, 3, none⟩) fun v1 =>
    asI .i64 v1 fun n2 =>
    optK (Heap.ld1 H ⟨x0, 4, none⟩) fun v3 =>
    asI .i64 v3 fun n4 =>
    callK (X d n_grid_Grid_move [P0 x0, .int .i64 n2, .int .i64 (IntKind.wrap .i64 (n4 - 1))] H) fun _ H6 =>
    some (.tuple #[], H6))
  else
  (if (decide (x1 = 9)) = true then
    (optK (Heap.ld1 H ⟨x0, 4, none⟩) fun v7 =>
      asI .i64 v7 fun n8 =>
      grid_Grid_control_p101110100 d NN x0 (IntKind.wrap .i64 (n8 + 1)) H)
    else
    (if (decide (x1 = 10)) = true then
      (grid_Grid_control_p1011111 d x0 x1 (decide (x1 = 10)) H)
      else
      (if (decide (x1 = 11)) = true then
        (grid_Grid_control_p1011111 d x0 x1 (decide (x1 = 11)) H)
        else
        (grid_Grid_control_p1011111 d x0 x1 (decide (x1 = 12)) H)))) := by kernel_rfl
end Go.Proofs.YtkkhljcjjhcnhaaGreatDoor.dec

namespace Go.Proofs.YtkkhljcjjhcnhaaGreatDoor.dec
open Go Go.Cm
/-! (*porthole/grid.Grid).esc -/
theorem grid_Grid_esc_eq (d : Nat) (x0 : Nat) (x1 : Int) (H : Heap) : X (d + 1) n_grid_Grid_esc [P0 x0, .int .i32 x1] H =
  if (decide (x1 = 68)) = true then
  (callK (X d n_grid_Grid_index [P0 x0] H) fun _ H2 =>
    some (.tuple #[], H2))
  else
  (if (decide (x1 = 69)) = true then
    (optK (Heap.st1 H ⟨x0, 4, none⟩ (.int .i64 0)) fun H3 =>
      callK (X d n_grid_Grid_index [P0 x0] H3) fun _ H5 =>
      some (.tuple #[], H5))
    else
    (if (decide (x1 = 77)) = true then
      (optK (Heap.st1 H ⟨x0, 5, none⟩ (.bool false)) fun H6 =>
        optK (Heap.ld1 H6 ⟨x0, 3, none⟩) fun v7 =>
        asI .i64 v7 fun n8 =>
        optK (Heap.ld1 H6 ⟨x0, 17, none⟩) fun v9 =>
        asI .i64 v9 fun n10 =>
        if (decide (n8 = n10)) = true then
        (callK (X d n_grid_Grid_down [P0 x0, .int .i64 1] H6) fun _ H12 =>
          some (.tuple #[], H12))
        else
        (optK (Heap.ld1 H6 ⟨x0, 3, none⟩) fun v13 =>
          asI .i64 v13 fun n14 =>
          optK (Heap.ld1 H6 ⟨x0, 4, none⟩) fun v15 =>
          asI .i64 v15 fun n16 =>
          callK (X d n_grid_Grid_move [P0 x0, .int .i64 (IntKind.wrap .i64 (n14 - 1)), .int .i64 n16] H6) fun _ H18 =>
          some (.tuple #[], H18)))
      else
      (if (decide (x1 = 55)) = true then
        (optK (ldA H ⟨x0, 3, none⟩ 7) fun v19 =>
          asA v19 fun c20 =>
          effK (.store 7) [.pointer (some ⟨x0, 10, none⟩), .agg c20] H fun _ H22 =>
          some (.tuple #[], H22))
        else
        (if (decide (x1 = 56)) = true then
          (optK (Heap.ld1 H ⟨x0, 12, none⟩) fun v23 =>
            asB v23 fun b24 =>
            optK (ldA H ⟨x0, 10, none⟩ 7) fun v25 =>
            asA v25 fun c26 =>
            effK (.store 7) [.pointer (some ⟨x0, 3, none⟩), .agg c26] H fun _ H28 =>
            optK (Heap.ld1 H28 ⟨x0, 3, none⟩) fun v29 =>
            asI .i64 v29 fun n30 =>
            optK (Heap.ld1 H28 ⟨x0, 4, none⟩) fun v31 =>
            asI .i64 v31 fun n32 =>
            callK (X d n_grid_Grid_move [P0 x0, .int .i64 n30, .int .i64 n32] H28) fun _ H34 =>
            optK (Heap.st1 H34 ⟨x0, 5, none⟩ (.bool b24)) fun H35 =>
            some (.tuple #[], H35))
          else
          (if (decide (x1 = 99)) = true then
            (callK (X d n_grid_Grid_reset [P0 x0] H) fun _ H37 =>
              some (.tuple #[], H37))
            else
            (if (decide (x1 = 72)) = true then
              (optK (Heap.ld1 H ⟨x0, 22, none⟩) fun v38 =>
                asSL v38 fun l39 =>
                optK (Heap.ld1 H ⟨x0, 4, none⟩) fun v40 =>
                asI .i64 v40 fun n41 =>
                optK l39.a fun a42 =>
                if 0 ≤ n41 ∧ n41 < (l39.n : Int) then
                optK (Heap.st1 H (ap a42 (((n41).toNat) * 1)) (.bool true)) fun H43 =>
                some (.tuple #[], H43)
                else none)
              else
              (some (.tuple #[], H)))))))) := by kernel_rfl
end Go.Proofs.YtkkhljcjjhcnhaaGreatDoor.dec

namespace Go.Proofs.YtkkhljcjjhcnhaaGreatDoor.dec
open Go Go.Cm
/-! porthole/vt.Params -/
noncomputable def vt_Params_k11 (d : Nat) : Kt := run (X d) NN (cd 132 [1, 1]) (retK (rs 132)) [] (retK (rs 132))
noncomputable def vt_Params_p101 (d : Nat) (x1 : Int) (x2 : Int) (x3 : Value) (x23 : Bool) (H : Heap) : Res := opq (run (X d) NN (cd 132 [1, 0, 1, 0]) (vt_Params_k11 d) [] (retK (rs 132))) [(1, .int .i64 x1), (2, .int .i64 x2), (3, x3), (23, .bool x23)] H
theorem vt_Params_p101_eq (d : Nat) (x1 : Int) (x2 : Int) (x3 : Value) (x23 : Bool) (H : Heap) : vt_Params_p101 d x1 x2 x3 x23 H =
  if x23 = true then
  (some (.int .i64 x2, H))
  else
  (asP x3 fun o1 =>
    optK o1 fun a2 =>
    optK (Heap.ld1 H (ap a2 3)) fun v3 =>
    asSL v3 fun l4 =>
    optK l4.a fun a5 =>
    if 0 ≤ x1 ∧ x1 < (l4.n : Int) then
    optK (Heap.ld1 H (ap a5 (((x1).toNat) * 1))) fun v6 =>
    asI .i64 v6 fun n7 =>
    some (.int .i64 n7, H)
    else none) := (opq_app _ _ _).trans <| by kernel_rfl
theorem vt_Params_eq (d : Nat) (x0 : Array Value) (x1 : Int) (x2 : Int) (H : Heap) : X (d + 1) n_vt_Params [.agg x0, .int .i64 x1, .int .i64 x2] H =
  effK (.box t_vt_Act) [.agg x0] H fun v1 H2 =>
  if (decide (x1 < 0)) = true then
  (vt_Params_p101 d x1 x2 v1 true H2)
  else
  (asP v1 fun o3 =>
    optK o3 fun a4 =>
    optK (Heap.ld1 H2 (ap a4 3)) fun v5 =>
    asSL v5 fun l6 =>
    if (decide ((l6.n : Int) ≤ x1)) = true then
    (vt_Params_p101 d x1 x2 v1 true H2)
    else
    (asP v1 fun o7 =>
      optK o7 fun a8 =>
      optK (Heap.ld1 H2 (ap a8 3)) fun v9 =>
      asSL v9 fun l10 =>
      optK l10.a fun a11 =>
      if 0 ≤ x1 ∧ x1 < (l10.n : Int) then
      optK (Heap.ld1 H2 (ap a11 (((x1).toNat) * 1))) fun v12 =>
      asI .i64 v12 fun n13 =>
      vt_Params_p101 d x1 x2 v1 (decide (n13 = 0)) H2
      else none)) := by kernel_rfl
end Go.Proofs.YtkkhljcjjhcnhaaGreatDoor.dec

namespace Go.Proofs.YtkkhljcjjhcnhaaGreatDoor.dec
open Go Go.Cm
/-! (*porthole/grid.Grid).style -/
noncomputable def grid_Grid_style_p10111111111111111 (d : Nat) (x1 : Int) (x4 : Addr) (x75 : Bool) (H : Heap) : Res := opq (run (X d) NN (cd 133 [1, 0, 1, 1, 1, 1, 1, 1, 1, 1, 1, 1, 1, 1, 1, 1, 1, 0]) (retK (rs 133)) [(0, (retK (rs 133)))] (retK (rs 133))) [(1, .int .i64 x1), (4, .pointer (some x4)), (75, .bool x75)] H
noncomputable def grid_Grid_style_p1011111111111111101111 (d : Nat) (x1 : Int) (x4 : Addr) (x93 : Bool) (H : Heap) : Res := opq (run (X d) NN (cd 133 [1, 0, 1, 1, 1, 1, 1, 1, 1, 1, 1, 1, 1, 1, 1, 1, 1, 0, 1, 1, 1, 1, 0]) (retK (rs 133)) [(0, (retK (rs 133)))] (retK (rs 133))) [(1, .int .i64 x1), (4, .pointer (some x4)), (93, .bool x93)] H
theorem grid_Grid_style_p10111111111111111_eq (d : Nat) (x1 : Int) (x4 : Addr) (x75 : Bool) (H : Heap) : grid_Grid_style_p10111111111111111 d x1 x4 x75 H =
  if x75 = true then
  (optK (Heap.st1 H (ap x4 1) (.int .i64 (IntKind.wrap .i64 (x1 - 29)))) fun H1 =>
    some (.tuple #[], H1))
  else
  (if (decide (x1 = 39)) = true then
    (optK (Heap.st1 H (ap x4 1) (.int .i64 0)) fun H2 =>
      some (.tuple #[], H2))
    else
    (if (decide ((40 : Int) ≤ x1)) = true then
      (grid_Grid_style_p1011111111111111101111 d x1 x4 (decide (x1 ≤ 47)) H)
      else
      (grid_Grid_style_p1011111111111111101111 d x1 x4 false H))) := (opq_app _ _ _).trans <| by kernel_rfl
theorem grid_Grid_style_p1011111111111111101111_eq (d : Nat) (x1 : Int) (x4 : Addr) (x93 : Bool) (H : Heap) : grid_Grid_style_p1011111111111111101111 d x1 x4 x93 H =
  if x93 = true then
  (optK (Heap.st1 H (ap x4 2) (.int .i64 (IntKind.wrap .i64 (x1 - 39)))) fun H1 =>
    some (.tuple #[], H1))
  else
  (if (decide (x1 = 49)) = true then
    (optK (Heap.st1 H (ap x4 2) (.int .i64 0)) fun H2 =>
      some (.tuple #[], H2))
    else
    (some (.tuple #[], H))) := (opq_app _ _ _).trans <| by kernel_rfl
theorem grid_Grid_style_eq (d : Nat) (x0 : Nat) (x1 : Int) (H : Heap) : X (d + 1) n_grid_Grid_style [P0 x0, .int .i64 x1] H =
  if (decide (x1 = 0)) = true then
  (optK (Heap.stN H ⟨x0, 6, none⟩ [.int .i32 0, .int .i64 0, .int .i64 0, .int .i64 0]) fun H1 =>
    some (.tuple #[], H1))
  else
  (if (decide (x1 = 1)) = true then
    (optK (Heap.ld1 H ⟨x0, 9, none⟩) fun v2 =>
      asI .i64 v2 fun n3 =>
      optK (Heap.st1 H ⟨x0, 9, none⟩ (.int .i64 (bitsI .or .i64 n3 1))) fun H4 =>
      some (.tuple #[], H4))
    else
    (if (decide (x1 = 4)) = true then
      (optK (Heap.ld1 H ⟨x0, 9, none⟩) fun v5 =>
        asI .i64 v5 fun n6 =>
        optK (Heap.st1 H ⟨x0, 9, none⟩ (.int .i64 (bitsI .or .i64 n6 2))) fun H7 =>
        some (.tuple #[], H7))
      else
      (if (decide (x1 = 7)) = true then
        (optK (Heap.ld1 H ⟨x0, 9, none⟩) fun v8 =>
          asI .i64 v8 fun n9 =>
          optK (Heap.st1 H ⟨x0, 9, none⟩ (.int .i64 (bitsI .or .i64 n9 4))) fun H10 =>
          some (.tuple #[], H10))
        else
        (if (decide (x1 = 22)) = true then
          (optK (Heap.ld1 H ⟨x0, 9, none⟩) fun v11 =>
            asI .i64 v11 fun n12 =>
            optK (Heap.st1 H ⟨x0, 9, none⟩ (.int .i64 (bitsI .andNot .i64 n12 1))) fun H13 =>
            some (.tuple #[], H13))
          else
          (if (decide (x1 = 24)) = true then
            (optK (Heap.ld1 H ⟨x0, 9, none⟩) fun v14 =>
              asI .i64 v14 fun n15 =>
              optK (Heap.st1 H ⟨x0, 9, none⟩ (.int .i64 (bitsI .andNot .i64 n15 2))) fun H16 =>
              some (.tuple #[], H16))
            else
            (if (decide (x1 = 27)) = true then
              (optK (Heap.ld1 H ⟨x0, 9, none⟩) fun v17 =>
                asI .i64 v17 fun n18 =>
                optK (Heap.st1 H ⟨x0, 9, none⟩ (.int .i64 (bitsI .andNot .i64 n18 4))) fun H19 =>
                some (.tuple #[], H19))
              else
              (if (decide ((30 : Int) ≤ x1)) = true then
                (grid_Grid_style_p10111111111111111 d x1 (⟨x0, 6, none⟩) (decide (x1 ≤ 37)) H)
                else
                (grid_Grid_style_p10111111111111111 d x1 (⟨x0, 6, none⟩) false H)))))))) := by kernel_rfl
end Go.Proofs.YtkkhljcjjhcnhaaGreatDoor.dec

namespace Go.Proofs.YtkkhljcjjhcnhaaGreatDoor.dec
open Go Go.Cm
/-! slices.Contains[[]int,int] -/
theorem slices_Contains_S_int_int_eq (d : Nat) (x0 : Sl) (x1 : Int) (H : Heap) : X (d + 1) n_slices_Contains_S_int_int [x0.v, .int .i64 x1] H =
  callK (X d n_slices_Index_S_int_int [x0.v, .int .i64 x1] H) fun v1 H2 =>
  asI .i64 v1 fun n3 =>
  some (.bool (decide ((0 : Int) ≤ n3)), H2) := by kernel_rfl
end Go.Proofs.YtkkhljcjjhcnhaaGreatDoor.dec

namespace Go.Proofs.YtkkhljcjjhcnhaaGreatDoor.dec
open Go Go.Cm
/-! slices.Index[[]int,int] -/
noncomputable def slices_Index_S_int_int_k11 (d : Nat) : Kt := run (X d) NN (cd 140 [1, 1]) (retK (rs 140)) [] (retK (rs 140))
noncomputable def slices_Index_S_int_int_l1010 (d : Nat) (m0 : Nat) : Kt := iter (fun k => run (X d) NN (cd 140 [1, 0, 1, 0, 0]) (backK [(0, .sl), (1, .int .i64), (7, .int .i64), (8, .int .i64)] (opq k)) [(0, (slices_Index_S_int_int_k11 d))] (retK (rs 140))) m0
noncomputable def slices_Index_S_int_int_p1010 (d : Nat) (m0 : Nat) (x0 : Sl) (x1 : Int) (x7 : Int) (x8 : Int) (H : Heap) : Res := opq (slices_Index_S_int_int_l1010 d m0) [(0, x0.v), (1, .int .i64 x1), (7, .int .i64 x7), (8, .int .i64 x8)] H
theorem slices_Index_S_int_int_p1010_s (d : Nat) (m0 : Nat) (x0 : Sl) (x1 : Int) (x7 : Int) (x8 : Int) (H : Heap) : slices_Index_S_int_int_p1010 d (m0 + 1) x0 x1 x7 x8 H =
  if (decide (x8 < x7)) = true then
  (optK x0.a fun a1 =>
    if 0 ≤ x8 ∧ x8 < (x0.n : Int) then
    optK (Heap.ld1 H (ap a1 (((x8).toNat) * 1))) fun v2 =>
    asI .i64 v2 fun n3 =>
    if (decide (x1 = n3)) = true then
    (some (.int .i64 x8, H))
    else
    (slices_Index_S_int_int_p1010 d m0 x0 x1 x7 (IntKind.wrap .i64 (x8 + 1)) H)
    else none)
  else
  (some (.int .i64 (-1), H)) := (opq_app _ _ _).trans <| by kernel_rfl
theorem slices_Index_S_int_int_eq (d : Nat) (x0 : Sl) (x1 : Int) (H : Heap) : X (d + 1) n_slices_Index_S_int_int [x0.v, .int .i64 x1] H =
  slices_Index_S_int_int_p1010 d NN x0 x1 (x0.n : Int) 0 H := by kernel_rfl
end Go.Proofs.YtkkhljcjjhcnhaaGreatDoor.dec

namespace Go.Proofs.YtkkhljcjjhcnhaaGreatDoor.dec
open Go Go.Cm
/-! porthole/grid.New -/
theorem grid_New_eq (d : Nat) (x0 : Int) (x1 : Int) (H : Heap) : X (d + 1) n_grid_New [.int .i64 x0, .int .i64 x1] H =
  callK (X d n_grid_size [.int .i64 x0, .int .i64 x1] H) fun v1 H2 =>
  asB v1 fun b3 =>
  if (!b3) = true then
  (some (.tuple #[.pointer none, .int .i64 1], H2))
  else
  (callK (X d n_vt_New [] H2) fun v4 H5 =>
    asP v4 fun o6 =>
    newK H5 (.cells [.int .i64 x0, .int .i64 x1, .slice none 0 0, .int .i64 0, .int .i64 0, .bool false, .int .i32 0, .int .i64 0, .int .i64 0, .int .i64 0, .int .i64 0, .int .i64 0, .bool false, .int .i32 0, .int .i64 0, .int .i64 0, .int .i64 0, .int .i64 0, .int .i64 0, .bool false, .bool false, .bool false, .slice none 0 0, .slice none 0 0, .int .i64 0, .int .i64 0, .bool false, .int .i32 0, .int .i64 0, .int .i64 0, .int .i64 0, .slice none 0 0, .pointer o6] t_grid_Grid false 0 false) fun p7 H8 =>
    callK (X d n_grid_Grid_reset [P0 p7] H8) fun _ H10 =>
    some (.tuple #[P0 p7, .int .i64 0], H10)) := by kernel_rfl
end Go.Proofs.YtkkhljcjjhcnhaaGreatDoor.dec

namespace Go.Proofs.YtkkhljcjjhcnhaaGreatDoor.dec
open Go Go.Cm
/-! porthole/grid.size -/
theorem grid_size_eq (d : Nat) (x0 : Int) (x1 : Int) (H : Heap) : X (d + 1) n_grid_size [.int .i64 x0, .int .i64 x1] H =
  if (decide ((1 : Int) ≤ x0)) = true then
  (if (decide (x0 ≤ 60)) = true then
    (if (decide ((1 : Int) ≤ x1)) = true then
      (some (.bool (decide (x1 ≤ 120)), H))
      else
      (some (.bool false, H)))
    else
    (some (.bool false, H)))
  else
  (some (.bool false, H)) := by kernel_rfl
end Go.Proofs.YtkkhljcjjhcnhaaGreatDoor.dec

namespace Go.Proofs.YtkkhljcjjhcnhaaGreatDoor.dec
open Go Go.Cm
/-! porthole/vt.New -/
theorem vt_New_eq (d : Nat) (H : Heap) : X (d + 1) n_vt_New [] H =
  callK (X d n_utf_New [] H) fun v1 H2 =>
  asP v1 fun o3 =>
  newK H2 (.cells [.pointer o3, .int .i64 0, .bool false, .bool false, .bool false, .bool false, .slice none 0 0] t_vt_Parser false 0 false) fun p4 H5 =>
  some (P0 p4, H5) := by kernel_rfl
end Go.Proofs.YtkkhljcjjhcnhaaGreatDoor.dec

namespace Go.Proofs.YtkkhljcjjhcnhaaGreatDoor.dec
open Go Go.Cm
/-! (*porthole/grid.Grid).reset -/
noncomputable def grid_Grid_reset_k11111 (d : Nat) : Kt := run (X d) NN (cd 57 [1, 1, 1, 1, 1]) (retK (rs 57)) [] (retK (rs 57))
noncomputable def grid_Grid_reset_l1111010 (d : Nat) (m0 : Nat) : Kt := iter (fun k => run (X d) NN (cd 57 [1, 1, 1, 1, 0, 1, 0, 0]) (backK [(0, .ptr), (48, .int .i64), (49, .int .i64)] (opq k)) [(0, (grid_Grid_reset_k11111 d))] (retK (rs 57))) m0
noncomputable def grid_Grid_reset_p1111010 (d : Nat) (m0 : Nat) (x0 : Nat) (x48 : Int) (x49 : Int) (H : Heap) : Res := opq (grid_Grid_reset_l1111010 d m0) [(0, P0 x0), (48, .int .i64 x48), (49, .int .i64 x49)] H
noncomputable def grid_Grid_reset_p11110100111 (d : Nat) (m0 : Nat) (x0 : Nat) (x48 : Int) (x49 : Int) (H : Heap) : Res := opq (run (X d) NN (cd 57 [1, 1, 1, 1, 0, 1, 0, 0, 1, 1, 1, 0]) (backK [(0, .ptr), (48, .int .i64), (49, .int .i64)] (opq (grid_Grid_reset_l1111010 d m0))) [(0, (grid_Grid_reset_k11111 d))] (retK (rs 57))) [(0, P0 x0), (48, .int .i64 x48), (49, .int .i64 x49)] H
theorem grid_Grid_reset_p1111010_s (d : Nat) (m0 : Nat) (x0 : Nat) (x48 : Int) (x49 : Int) (H : Heap) : grid_Grid_reset_p1111010 d (m0 + 1) x0 x48 x49 H =
  if (decide (x49 < x48)) = true then
  (optK (Heap.ld1 H ⟨x0, 22, none⟩) fun v1 =>
    asSL v1 fun l2 =>
    if (decide ((0 : Int) < x49)) = true then
    (newK H (.cells [.bool (decide (Int.tmod x49 8 = 0))] t_bool false 0 false) fun p3 H4 =>
      appendK t_bool 1 1 false l2.v (.slice (some ⟨p3, 0, none⟩) 1 1) H4 fun v5 H6 =>
      asSL v5 fun l7 =>
      optK (Heap.st1 H6 ⟨x0, 22, none⟩ l7.v) fun H8 =>
      grid_Grid_reset_p11110100111 d m0 x0 x48 x49 H8)
    else
    (newK H (.cells [.bool false] t_bool false 0 false) fun p9 H10 =>
      appendK t_bool 1 1 false l2.v (.slice (some ⟨p9, 0, none⟩) 1 1) H10 fun v11 H12 =>
      asSL v11 fun l13 =>
      optK (Heap.st1 H12 ⟨x0, 22, none⟩ l13.v) fun H14 =>
      grid_Grid_reset_p11110100111 d m0 x0 x48 x49 H14))
  else
  (optK (Heap.stN H ⟨x0, 6, none⟩ [.int .i32 0, .int .i64 0, .int .i64 0, .int .i64 0]) fun H15 =>
    optK (Heap.stN H15 ⟨x0, 13, none⟩ [.int .i32 0, .int .i64 0, .int .i64 0, .int .i64 0]) fun H16 =>
    some (.tuple #[], H16)) := (opq_app _ _ _).trans <| by kernel_rfl
theorem grid_Grid_reset_p11110100111_eq (d : Nat) (m0 : Nat) (x0 : Nat) (x48 : Int) (x49 : Int) (H : Heap) : grid_Grid_reset_p11110100111 d m0 x0 x48 x49 H =
  grid_Grid_reset_p1111010 d m0 x0 x48 (IntKind.wrap .i64 (x49 + 1)) H := (opq_app _ _ _).trans <| by kernel_rfl
theorem grid_Grid_reset_eq (d : Nat) (x0 : Nat) (H : Heap) : X (d + 1) n_grid_Grid_reset [P0 x0] H =
  optK (Heap.ld1 H ⟨x0, 0, none⟩) fun v1 =>
  asI .i64 v1 fun n2 =>
  optK (Heap.ld1 H ⟨x0, 1, none⟩) fun v3 =>
  asI .i64 v3 fun n4 =>
  optK (Heap.ld1 H ⟨x0, 31, none⟩) fun v5 =>
  asSL v5 fun l6 =>
  optK (Heap.ld1 H ⟨x0, 32, none⟩) fun v7 =>
  asP v7 fun o8 =>
  optK (Heap.stN H ⟨x0, 0, none⟩ [.int .i64 n2, .int .i64 n4, .slice none 0 0, .int .i64 0, .int .i64 0, .bool false, .int .i32 0, .int .i64 0, .int .i64 0, .int .i64 0, .int .i64 0, .int .i64 0, .bool false, .int .i32 0, .int .i64 0, .int .i64 0, .int .i64 0, .int .i64 0, .int .i64 0, .bool false, .bool false, .bool false, .slice none 0 0, .slice none 0 0, .int .i64 0, .int .i64 0, .bool false, .int .i32 0, .int .i64 0, .int .i64 0, .int .i64 0, l6.v, .pointer o8]) fun H9 =>
  optK (Heap.ld1 H9 ⟨x0, 0, none⟩) fun v10 =>
  asI .i64 v10 fun n11 =>
  optK (Heap.ld1 H9 ⟨x0, 1, none⟩) fun v12 =>
  asI .i64 v12 fun n13 =>
  callK (X d n_grid_sheet [.int .i64 n11, .int .i64 n13] H9) fun v14 H15 =>
  asSL v14 fun l16 =>
  optK (Heap.st1 H15 ⟨x0, 2, none⟩ l16.v) fun H17 =>
  optK (Heap.ld1 H17 ⟨x0, 0, none⟩) fun v18 =>
  asI .i64 v18 fun n19 =>
  optK (Heap.st1 H17 ⟨x0, 18, none⟩ (.int .i64 (IntKind.wrap .i64 (n19 - 1)))) fun H20 =>
  optK (Heap.st1 H20 ⟨x0, 19, none⟩ (.bool true)) fun H21 =>
  optK (Heap.ld1 H21 ⟨x0, 1, none⟩) fun v22 =>
  asI .i64 v22 fun n23 =>
  grid_Grid_reset_p1111010 d NN x0 n23 0 H21 := by kernel_rfl
end Go.Proofs.YtkkhljcjjhcnhaaGreatDoor.dec

namespace Go.Proofs.YtkkhljcjjhcnhaaGreatDoor.dec
open Go Go.Cm
/-! porthole/utf.New -/
theorem utf_New_eq (d : Nat) (H : Heap) : X (d + 1) n_utf_New [] H =
  newK H (.cells [.slice none 0 0] t_utf_Decoder false 0 false) fun p1 H2 =>
  some (P0 p1, H2) := by kernel_rfl
end Go.Proofs.YtkkhljcjjhcnhaaGreatDoor.dec

namespace Go.Proofs.YtkkhljcjjhcnhaaGreatDoor.dec
open Go Go.Cm
/-! (*porthole/grid.Grid).modes -/
noncomputable def grid_Grid_modes_k11 (d : Nat) : Kt := run (X d) NN (cd 96 [1, 1]) (retK (rs 96)) [] (retK (rs 96))
noncomputable def grid_Grid_modes_l11110 (d : Nat) (m0 : Nat) : Kt := iter (fun k => run (X d) NN (cd 96 [1, 1, 1, 1, 0, 0]) (backK [(0, .ptr), (4, .bool), (19, .sl), (20, .int .i64), (21, .int .i64)] (opq k)) [(0, (retK (rs 96)))] (retK (rs 96))) m0
noncomputable def grid_Grid_modes_p101 (d : Nat) (x0 : Nat) (x3 : Value) (x14 : Bool) (H : Heap) : Res := opq (run (X d) NN (cd 96 [1, 0, 1, 0]) (grid_Grid_modes_k11 d) [] (retK (rs 96))) [(0, P0 x0), (3, x3), (14, .bool x14)] H
noncomputable def grid_Grid_modes_p11110 (d : Nat) (m0 : Nat) (x0 : Nat) (x4 : Bool) (x19 : Sl) (x20 : Int) (x21 : Int) (H : Heap) : Res := opq (grid_Grid_modes_l11110 d m0) [(0, P0 x0), (4, .bool x4), (19, x19.v), (20, .int .i64 x20), (21, .int .i64 x21)] H
noncomputable def grid_Grid_modes_p111100111 (d : Nat) (m0 : Nat) (x0 : Nat) (x4 : Bool) (x19 : Sl) (x20 : Int) (x21 : Int) (H : Heap) : Res := opq (run (X d) NN (cd 96 [1, 1, 1, 1, 0, 0, 1, 1, 1, 0]) (backK [(0, .ptr), (4, .bool), (19, .sl), (20, .int .i64), (21, .int .i64)] (opq (grid_Grid_modes_l11110 d m0))) [(0, (retK (rs 96)))] (retK (rs 96))) [(0, P0 x0), (4, .bool x4), (19, x19.v), (20, .int .i64 x20), (21, .int .i64 x21)] H
theorem grid_Grid_modes_p101_eq (d : Nat) (x0 : Nat) (x3 : Value) (x14 : Bool) (H : Heap) : grid_Grid_modes_p101 d x0 x3 x14 H =
  if x14 = true then
  (some (.tuple #[], H))
  else
  (asP x3 fun o1 =>
    optK o1 fun a2 =>
    optK (Heap.ld1 H (ap a2 1)) fun v3 =>
    asI .i32 v3 fun n4 =>
    asP x3 fun o5 =>
    optK o5 fun a6 =>
    optK (Heap.ld1 H (ap a6 3)) fun v7 =>
    asSL v7 fun l8 =>
    grid_Grid_modes_p11110 d NN x0 (decide (n4 = 104)) l8 (l8.n : Int) 0 H) := (opq_app _ _ _).trans <| by kernel_rfl
theorem grid_Grid_modes_p11110_s (d : Nat) (m0 : Nat) (x0 : Nat) (x4 : Bool) (x19 : Sl) (x20 : Int) (x21 : Int) (H : Heap) : grid_Grid_modes_p11110 d (m0 + 1) x0 x4 x19 x20 x21 H =
  if (decide (x21 < x20)) = true then
  (optK x19.a fun a1 =>
    if 0 ≤ x21 ∧ x21 < (x19.n : Int) then
    optK (Heap.ld1 H (ap a1 (((x21).toNat) * 1))) fun v2 =>
    asI .i64 v2 fun n3 =>
    if (decide (n3 = 7)) = true then
    (optK (Heap.st1 H ⟨x0, 19, none⟩ (.bool x4)) fun H4 =>
      optK (Heap.ld1 H4 ⟨x0, 5, none⟩) fun v5 =>
      asB v5 fun b6 =>
      if b6 = true then
      (optK (Heap.st1 H4 ⟨x0, 5, none⟩ (.bool x4)) fun H7 =>
        grid_Grid_modes_p111100111 d m0 x0 x4 x19 x20 x21 H7)
      else
      (optK (Heap.st1 H4 ⟨x0, 5, none⟩ (.bool false)) fun H8 =>
        grid_Grid_modes_p111100111 d m0 x0 x4 x19 x20 x21 H8))
    else
    (if (decide (n3 = 25)) = true then
      (optK (Heap.st1 H ⟨x0, 21, none⟩ (.bool (!x4))) fun H9 =>
        grid_Grid_modes_p111100111 d m0 x0 x4 x19 x20 x21 H9)
      else
      (if (decide (n3 = 1049)) = true then
        (callK (X d n_grid_Grid_alternate [P0 x0, .bool x4] H) fun _ H11 =>
          grid_Grid_modes_p111100111 d m0 x0 x4 x19 x20 x21 H11)
        else
        (grid_Grid_modes_p111100111 d m0 x0 x4 x19 x20 x21 H)))
    else none)
  else
  (some (.tuple #[], H)) := (opq_app _ _ _).trans <| by kernel_rfl
theorem grid_Grid_modes_p111100111_eq (d : Nat) (m0 : Nat) (x0 : Nat) (x4 : Bool) (x19 : Sl) (x20 : Int) (x21 : Int) (H : Heap) : grid_Grid_modes_p111100111 d m0 x0 x4 x19 x20 x21 H =
  grid_Grid_modes_p11110 d m0 x0 x4 x19 x20 (IntKind.wrap .i64 (x21 + 1)) H := (opq_app _ _ _).trans <| by kernel_rfl
theorem grid_Grid_modes_eq (d : Nat) (x0 : Nat) (x1 : Array Value) (H : Heap) : X (d + 1) n_grid_Grid_modes [P0 x0, .agg x1] H =
  effK (.box t_vt_Act) [.agg x1] H fun v1 H2 =>
  asP v1 fun o3 =>
  optK o3 fun a4 =>
  optK (Heap.ld1 H2 (ap a4 1)) fun v5 =>
  asI .i32 v5 fun n6 =>
  if (!decide (n6 = 104)) = true then
  (asP v1 fun o7 =>
    optK o7 fun a8 =>
    optK (Heap.ld1 H2 (ap a8 1)) fun v9 =>
    asI .i32 v9 fun n10 =>
    grid_Grid_modes_p101 d x0 v1 (!decide (n10 = 108)) H2)
  else
  (grid_Grid_modes_p101 d x0 v1 false H2) := by kernel_rfl
end Go.Proofs.YtkkhljcjjhcnhaaGreatDoor.dec

namespace Go.Proofs.YtkkhljcjjhcnhaaGreatDoor.dec
open Go Go.Cm
/-! (*porthole/grid.Grid).alternate -/
noncomputable def grid_Grid_alternate_p01 (d : Nat) (x0 : Nat) (x1 : Bool) (x4 : Bool) (H : Heap) : Res := opq (run (X d) NN (cd 131 [0, 1, 0]) (retK (rs 131)) [(0, (retK (rs 131)))] (retK (rs 131))) [(0, P0 x0), (1, .bool x1), (4, .bool x4)] H
noncomputable def grid_Grid_alternate_p01011 (d : Nat) (x0 : Nat) (x39 : Bool) (H : Heap) : Res := opq (run (X d) NN (cd 131 [0, 1, 0, 1, 1, 0]) (retK (rs 131)) [(0, (retK (rs 131)))] (retK (rs 131))) [(0, P0 x0), (39, .bool x39)] H
theorem grid_Grid_alternate_p01_eq (d : Nat) (x0 : Nat) (x1 : Bool) (x4 : Bool) (H : Heap) : grid_Grid_alternate_p01 d x0 x1 x4 H =
  if x4 = true then
  (optK (Heap.ld1 H ⟨x0, 2, none⟩) fun v1 =>
    asSL v1 fun l2 =>
    optK (ldA H ⟨x0, 3, none⟩ 7) fun v3 =>
    asA v3 fun c4 =>
    optK (Heap.st1 H ⟨x0, 23, none⟩ l2.v) fun H5 =>
    effK (.store 7) [.pointer (some ⟨x0, 24, none⟩), .agg c4] H5 fun _ H7 =>
    optK (Heap.ld1 H7 ⟨x0, 0, none⟩) fun v8 =>
    asI .i64 v8 fun n9 =>
    optK (Heap.ld1 H7 ⟨x0, 1, none⟩) fun v10 =>
    asI .i64 v10 fun n11 =>
    callK (X d n_grid_sheet [.int .i64 n9, .int .i64 n11] H7) fun v12 H13 =>
    asSL v12 fun l14 =>
    optK (Heap.st1 H13 ⟨x0, 2, none⟩ l14.v) fun H15 =>
    some (.tuple #[], H15))
  else
  (if (!x1) = true then
    (optK (Heap.ld1 H ⟨x0, 23, none⟩) fun v16 =>
      asSL v16 fun l17 =>
      grid_Grid_alternate_p01011 d x0 (!l17.a.isNone) H)
    else
    (grid_Grid_alternate_p01011 d x0 false H)) := (opq_app _ _ _).trans <| by kernel_rfl
theorem grid_Grid_alternate_p01011_eq (d : Nat) (x0 : Nat) (x39 : Bool) (H : Heap) : grid_Grid_alternate_p01011 d x0 x39 H =
  if x39 = true then
  (optK (Heap.ld1 H ⟨x0, 23, none⟩) fun v1 =>
    asSL v1 fun l2 =>
    optK (ldA H ⟨x0, 24, none⟩ 7) fun v3 =>
    asA v3 fun c4 =>
    optK (Heap.st1 H ⟨x0, 2, none⟩ l2.v) fun H5 =>
    effK (.store 7) [.pointer (some ⟨x0, 3, none⟩), .agg c4] H5 fun _ H7 =>
    optK (Heap.st1 H7 ⟨x0, 23, none⟩ (.slice none 0 0)) fun H8 =>
    optK (Heap.stN H8 ⟨x0, 24, none⟩ [.int .i64 0, .int .i64 0, .bool false, .int .i32 0, .int .i64 0, .int .i64 0, .int .i64 0]) fun H9 =>
    some (.tuple #[], H9))
  else
  (some (.tuple #[], H)) := (opq_app _ _ _).trans <| by kernel_rfl
theorem grid_Grid_alternate_eq (d : Nat) (x0 : Nat) (x1 : Bool) (H : Heap) : X (d + 1) n_grid_Grid_alternate [P0 x0, .bool x1] H =
  if x1 = true then
  (optK (Heap.ld1 H ⟨x0, 23, none⟩) fun v1 =>
    asSL v1 fun l2 =>
    grid_Grid_alternate_p01 d x0 x1 l2.a.isNone H)
  else
  (grid_Grid_alternate_p01 d x0 x1 false H) := by kernel_rfl
end Go.Proofs.YtkkhljcjjhcnhaaGreatDoor.dec

namespace Go.Proofs.YtkkhljcjjhcnhaaGreatDoor.dec
open Go Go.Cm
/-! (*porthole/grid.Grid).erase -/
noncomputable def grid_Grid_erase_k101 (d : Nat) : Kt := run (X d) NN (cd 153 [1, 0, 1]) (retK (rs 153)) [] (retK (rs 153))
noncomputable def grid_Grid_erase_l101110 (d : Nat) (m0 : Nat) : Kt := iter (fun k => run (X d) NN (cd 153 [1, 0, 1, 1, 1, 0, 0]) (backK [(0, .ptr), (1, .int .i64), (22, .int .i64), (23, .int .i64)] (opq k)) [(0, (retK (rs 153)))] (retK (rs 153))) m0
noncomputable def grid_Grid_erase_k1011100111 (d : Nat) (m0 : Nat) : Kt := run (X d) NN (cd 153 [1, 0, 1, 1, 1, 0, 0, 1, 1, 1]) (backK [(0, .ptr), (1, .int .i64), (22, .int .i64), (23, .int .i64)] (opq (grid_Grid_erase_l101110 d m0))) [(0, (retK (rs 153)))] (retK (rs 153))
noncomputable def grid_Grid_erase_p1 (d : Nat) (x0 : Nat) (x1 : Int) (H : Heap) : Res := opq (run (X d) NN (cd 153 [1, 0]) (retK (rs 153)) [] (retK (rs 153))) [(0, P0 x0), (1, .int .i64 x1)] H
noncomputable def grid_Grid_erase_p1001 (d : Nat) (x0 : Nat) (x1 : Int) (x15 : Bool) (H : Heap) : Res := opq (run (X d) NN (cd 153 [1, 0, 0, 1, 0]) (grid_Grid_erase_k101 d) [] (retK (rs 153))) [(0, P0 x0), (1, .int .i64 x1), (15, .bool x15)] H
noncomputable def grid_Grid_erase_p101110 (d : Nat) (m0 : Nat) (x0 : Nat) (x1 : Int) (x22 : Int) (x23 : Int) (H : Heap) : Res := opq (grid_Grid_erase_l101110 d m0) [(0, P0 x0), (1, .int .i64 x1), (22, .int .i64 x22), (23, .int .i64 x23)] H
noncomputable def grid_Grid_erase_p1011100110011 (d : Nat) (m0 : Nat) (x0 : Nat) (x1 : Int) (x4 : Int) (x22 : Int) (x23 : Int) (x53 : Bool) (H : Heap) : Res := opq (run (X d) NN (cd 153 [1, 0, 1, 1, 1, 0, 0, 1, 1, 0, 0, 1, 1, 0]) (grid_Grid_erase_k1011100111 d m0) [(1, (grid_Grid_erase_k1011100111 d m0)), (0, (retK (rs 153)))] (retK (rs 153))) [(0, P0 x0), (1, .int .i64 x1), (4, .int .i64 x4), (22, .int .i64 x22), (23, .int .i64 x23), (53, .bool x53)] H
noncomputable def grid_Grid_erase_p1011100111 (d : Nat) (m0 : Nat) (x0 : Nat) (x1 : Int) (x22 : Int) (x23 : Int) (H : Heap) : Res := opq (run (X d) NN (cd 153 [1, 0, 1, 1, 1, 0, 0, 1, 1, 1, 0]) (backK [(0, .ptr), (1, .int .i64), (22, .int .i64), (23, .int .i64)] (opq (grid_Grid_erase_l101110 d m0))) [(0, (retK (rs 153)))] (retK (rs 153))) [(0, P0 x0), (1, .int .i64 x1), (22, .int .i64 x22), (23, .int .i64 x23)] H
theorem grid_Grid_erase_p1_eq (d : Nat) (x0 : Nat) (x1 : Int) (H : Heap) : grid_Grid_erase_p1 d x0 x1 H =
  if (decide (x1 < 0)) = true then
  (grid_Grid_erase_p1001 d x0 x1 true H)
  else
  (grid_Grid_erase_p1001 d x0 x1 (decide ((2 : Int) < x1)) H) := (opq_app _ _ _).trans <| by kernel_rfl
theorem grid_Grid_erase_p1001_eq (d : Nat) (x0 : Nat) (x1 : Int) (x15 : Bool) (H : Heap) : grid_Grid_erase_p1001 d x0 x1 x15 H =
  if x15 = true then
  (some (.tuple #[], H))
  else
  (callK (X d n_grid_Grid_eraseLine [P0 x0, .int .i64 x1] H) fun _ H2 =>
    optK (Heap.ld1 H2 ⟨x0, 0, none⟩) fun v3 =>
    asI .i64 v3 fun n4 =>
    grid_Grid_erase_p101110 d NN x0 x1 n4 0 H2) := (opq_app _ _ _).trans <| by kernel_rfl
theorem grid_Grid_erase_p101110_s (d : Nat) (m0 : Nat) (x0 : Nat) (x1 : Int) (x22 : Int) (x23 : Int) (H : Heap) : grid_Grid_erase_p101110 d (m0 + 1) x0 x1 x22 x23 H =
  if (decide (x23 < x22)) = true then
  (if (decide (x1 = 2)) = true then
    (grid_Grid_erase_p1011100110011 d m0 x0 x1 x23 x22 x23 true H)
    else
    (if (decide (x1 = 0)) = true then
      (optK (Heap.ld1 H ⟨x0, 3, none⟩) fun v1 =>
        asI .i64 v1 fun n2 =>
        if (decide (n2 < x23)) = true then
        (grid_Grid_erase_p1011100110011 d m0 x0 x1 x23 x22 x23 true H)
        else
        (if (decide (x1 = 1)) = true then
          (optK (Heap.ld1 H ⟨x0, 3, none⟩) fun v3 =>
            asI .i64 v3 fun n4 =>
            grid_Grid_erase_p1011100110011 d m0 x0 x1 x23 x22 x23 (decide (x23 < n4)) H)
          else
          (grid_Grid_erase_p1011100110011 d m0 x0 x1 x23 x22 x23 false H)))
      else
      (if (decide (x1 = 1)) = true then
        (optK (Heap.ld1 H ⟨x0, 3, none⟩) fun v5 =>
          asI .i64 v5 fun n6 =>
          grid_Grid_erase_p1011100110011 d m0 x0 x1 x23 x22 x23 (decide (x23 < n6)) H)
        else
        (grid_Grid_erase_p1011100110011 d m0 x0 x1 x23 x22 x23 false H))))
  else
  (some (.tuple #[], H)) := (opq_app _ _ _).trans <| by kernel_rfl
theorem grid_Grid_erase_p1011100110011_eq (d : Nat) (m0 : Nat) (x0 : Nat) (x1 : Int) (x4 : Int) (x22 : Int) (x23 : Int) (x53 : Bool) (H : Heap) : grid_Grid_erase_p1011100110011 d m0 x0 x1 x4 x22 x23 x53 H =
  if x53 = true then
  (optK (Heap.ld1 H ⟨x0, 1, none⟩) fun v1 =>
    asI .i64 v1 fun n2 =>
    callK (X d n_grid_Grid_wipe [P0 x0, .int .i64 x4, .int .i64 0, .int .i64 n2] H) fun _ H4 =>
    grid_Grid_erase_p1011100111 d m0 x0 x1 x22 x23 H4)
  else
  (grid_Grid_erase_p1011100111 d m0 x0 x1 x22 x23 H) := (opq_app _ _ _).trans <| by kernel_rfl
theorem grid_Grid_erase_p1011100111_eq (d : Nat) (m0 : Nat) (x0 : Nat) (x1 : Int) (x22 : Int) (x23 : Int) (H : Heap) : grid_Grid_erase_p1011100111 d m0 x0 x1 x22 x23 H =
  grid_Grid_erase_p101110 d m0 x0 x1 x22 (IntKind.wrap .i64 (x23 + 1)) H := (opq_app _ _ _).trans <| by kernel_rfl
theorem grid_Grid_erase_eq (d : Nat) (x0 : Nat) (x1 : Int) (H : Heap) : X (d + 1) n_grid_Grid_erase [P0 x0, .int .i64 x1] H =
  if (decide (x1 = 3)) = true then
  (optK (Heap.st1 H ⟨x0, 31, none⟩ (.slice none 0 0)) fun H1 =>
    grid_Grid_erase_p1 d x0 x1 H1)
  else
  (grid_Grid_erase_p1 d x0 x1 H) := by kernel_rfl
end Go.Proofs.YtkkhljcjjhcnhaaGreatDoor.dec

namespace Go.Proofs.YtkkhljcjjhcnhaaGreatDoor.dec
open Go Go.Cm
/-! (*porthole/grid.Grid).eraseLine -/
theorem grid_Grid_eraseLine_eq (d : Nat) (x0 : Nat) (x1 : Int) (H : Heap) : X (d + 1) n_grid_Grid_eraseLine [P0 x0, .int .i64 x1] H =
  if (decide (x1 = 0)) = true then
  (optK (Heap.ld1 H ⟨x0, 3, none⟩) fun v1 =>
    asI .i64 v1 fun n2 =>
    optK (Heap.ld1 H ⟨x0, 4, none⟩) fun v3 =>
    asI .i64 v3 fun n4 =>
    optK (Heap.ld1 H ⟨x0, 1, none⟩) fun v5 =>
    asI .i64 v5 fun n6 =>
    callK (X d n_grid_Grid_wipe [P0 x0, .int .i64 n2, .int .i64 n4, .int .i64 n6] H) fun _ H8 =>
    some (.tuple #[], H8))
  else
  (if (decide (x1 = 1)) = true then
    (optK (Heap.ld1 H ⟨x0, 3, none⟩) fun v9 =>
      asI .i64 v9 fun n10 =>
      optK (Heap.ld1 H ⟨x0, 4, none⟩) fun v11 =>
      asI .i64 v11 fun n12 =>
      callK (X d n_grid_Grid_wipe [P0 x0, .int .i64 n10, .int .i64 0, .int .i64 (IntKind.wrap .i64 (n12 + 1))] H) fun _ H14 =>
      some (.tuple #[], H14))
    else
    (if (decide (x1 = 2)) = true then
      (optK (Heap.ld1 H ⟨x0, 3, none⟩) fun v15 =>
        asI .i64 v15 fun n16 =>
        optK (Heap.ld1 H ⟨x0, 1, none⟩) fun v17 =>
        asI .i64 v17 fun n18 =>
        callK (X d n_grid_Grid_wipe [P0 x0, .int .i64 n16, .int .i64 0, .int .i64 n18] H) fun _ H20 =>
        some (.tuple #[], H20))
      else
      (some (.tuple #[], H)))) := by kernel_rfl
end Go.Proofs.YtkkhljcjjhcnhaaGreatDoor.dec

namespace Go.Proofs.YtkkhljcjjhcnhaaGreatDoor.dec
open Go Go.Cm
/-! (*porthole/grid.Grid).wipe -/
theorem grid_Grid_wipe_eq (d : Nat) (x0 : Nat) (x1 : Int) (x2 : Int) (x3 : Int) (H : Heap) : X (d + 1) n_grid_Grid_wipe [P0 x0, .int .i64 x1, .int .i64 x2, .int .i64 x3] H =
  optK (Heap.ld1 H ⟨x0, 2, none⟩) fun v1 =>
  asSL v1 fun l2 =>
  optK l2.a fun a3 =>
  if 0 ≤ x1 ∧ x1 < (l2.n : Int) then
  optK (Heap.ld1 H (ap a3 (((x1).toNat) * 1))) fun v4 =>
  asSL v4 fun l5 =>
  optK (readD (.subSl t_api_Cell 4 true true false) [l5.v, .int .i64 x2, .int .i64 x3] H) fun v6 =>
  asSL v6 fun l7 =>
  callK (X d n_grid_line [.int .i64 (IntKind.wrap .i64 (x3 - x2))] H) fun v8 H9 =>
  asSL v8 fun l10 =>
  effK (.copy 4 false) [l7.v, l10.v] H9 fun v11 H12 =>
  asI .i64 v11 fun _ =>
  chk (rdsOk [H, H9, H12] [⟨.subSl t_api_Cell 4 true true false, [l5.v, .int .i64 x2, .int .i64 x3], v6, 0, 1⟩, ⟨.load 1 false, [.pointer (some (ap a3 (((x1).toNat) * 1)))], v4, 0, 1⟩, ⟨.load 1 false, [.pointer (some ⟨x0, 2, none⟩)], v1, 0, 1⟩]) (
    some (.tuple #[], H12))
  else none := by kernel_rfl
end Go.Proofs.YtkkhljcjjhcnhaaGreatDoor.dec

namespace Go.Proofs.YtkkhljcjjhcnhaaGreatDoor.dec
open Go Go.Cm
/-! (*porthole/grid.Grid).edit -/
noncomputable def grid_Grid_edit_k111011111001 (d : Nat) : Kt := run (X d) NN (cd 134 [1, 1, 1, 0, 1, 1, 1, 1, 1, 0, 0, 1]) (retK (rs 134)) [(0, (retK (rs 134)))] (retK (rs 134))
noncomputable def grid_Grid_edit_p111011111 (d : Nat) (x0 : Nat) (x2 : Int) (x4 : Value) (x6 : Int) (x12 : Int) (x23 : Bool) (H : Heap) : Res := opq (run (X d) NN (cd 134 [1, 1, 1, 0, 1, 1, 1, 1, 1, 0]) (retK (rs 134)) [(0, (retK (rs 134)))] (retK (rs 134))) [(0, P0 x0), (2, .int .i64 x2), (4, x4), (6, .int .i64 x6), (12, .int .i32 x12), (23, .bool x23)] H
noncomputable def grid_Grid_edit_p1110111110001 (d : Nat) (x0 : Nat) (x2 : Int) (x4 : Value) (x47 : Bool) (H : Heap) : Res := opq (run (X d) NN (cd 134 [1, 1, 1, 0, 1, 1, 1, 1, 1, 0, 0, 0, 1, 0]) (grid_Grid_edit_k111011111001 d) [(0, (retK (rs 134)))] (retK (rs 134))) [(0, P0 x0), (2, .int .i64 x2), (4, x4), (47, .bool x47)] H
noncomputable def grid_Grid_edit_p111011111011 (d : Nat) (x0 : Nat) (x2 : Int) (x4 : Value) (x6 : Int) (x12 : Int) (x74 : Bool) (H : Heap) : Res := opq (run (X d) NN (cd 134 [1, 1, 1, 0, 1, 1, 1, 1, 1, 0, 1, 1, 0]) (retK (rs 134)) [(0, (retK (rs 134)))] (retK (rs 134))) [(0, P0 x0), (2, .int .i64 x2), (4, x4), (6, .int .i64 x6), (12, .int .i32 x12), (74, .bool x74)] H
noncomputable def grid_Grid_edit_p1110111110011 (d : Nat) (x0 : Nat) (H : Heap) : Res := opq (run (X d) NN (cd 134 [1, 1, 1, 0, 1, 1, 1, 1, 1, 0, 0, 1, 1, 0]) (retK (rs 134)) [(0, (retK (rs 134)))] (retK (rs 134))) [(0, P0 x0)] H
noncomputable def grid_Grid_edit_p11101111101101111111101 (d : Nat) (x0 : Nat) (x6 : Int) (H : Heap) : Res := opq (run (X d) NN (cd 134 [1, 1, 1, 0, 1, 1, 1, 1, 1, 0, 1, 1, 0, 1, 1, 1, 1, 1, 1, 1, 1, 0, 1, 0]) (retK (rs 134)) [(0, (retK (rs 134)))] (retK (rs 134))) [(0, P0 x0), (6, .int .i64 x6)] H
theorem grid_Grid_edit_p111011111_eq (d : Nat) (x0 : Nat) (x2 : Int) (x4 : Value) (x6 : Int) (x12 : Int) (x23 : Bool) (H : Heap) : grid_Grid_edit_p111011111 d x0 x2 x4 x6 x12 x23 H =
  if x23 = true then
  (optK (Heap.ld1 H ⟨x0, 3, none⟩) fun v1 =>
    asI .i64 v1 fun n2 =>
    optK (Heap.ld1 H ⟨x0, 17, none⟩) fun v3 =>
    asI .i64 v3 fun n4 =>
    if (decide (n2 < n4)) = true then
    (grid_Grid_edit_p1110111110001 d x0 x2 x4 true H)
    else
    (optK (Heap.ld1 H ⟨x0, 3, none⟩) fun v5 =>
      asI .i64 v5 fun n6 =>
      optK (Heap.ld1 H ⟨x0, 18, none⟩) fun v7 =>
      asI .i64 v7 fun n8 =>
      grid_Grid_edit_p1110111110001 d x0 x2 x4 (decide (n8 < n6)) H))
  else
  (if (decide (x12 = 64)) = true then
    (grid_Grid_edit_p111011111011 d x0 x2 x4 x6 x12 (decide (x12 = 64)) H)
    else
    (if (decide (x12 = 80)) = true then
      (grid_Grid_edit_p111011111011 d x0 x2 x4 x6 x12 (decide (x12 = 80)) H)
      else
      (grid_Grid_edit_p111011111011 d x0 x2 x4 x6 x12 (decide (x12 = 88)) H))) := (opq_app _ _ _).trans <| by kernel_rfl
theorem grid_Grid_edit_p1110111110001_eq (d : Nat) (x0 : Nat) (x2 : Int) (x4 : Value) (x47 : Bool) (H : Heap) : grid_Grid_edit_p1110111110001 d x0 x2 x4 x47 H =
  if x47 = true then
  (some (.tuple #[], H))
  else
  (asP x4 fun o1 =>
    optK o1 fun a2 =>
    optK (Heap.ld1 H (ap a2 1)) fun v3 =>
    asI .i32 v3 fun n4 =>
    if (decide (n4 = 76)) = true then
    (optK (Heap.ld1 H ⟨x0, 3, none⟩) fun v5 =>
      asI .i64 v5 fun n6 =>
      callK (X d n_grid_Grid_put [P0 x0, .int .i64 n6, .int .i64 x2] H) fun _ H8 =>
      grid_Grid_edit_p1110111110011 d x0 H8)
    else
    (optK (Heap.ld1 H ⟨x0, 3, none⟩) fun v9 =>
      asI .i64 v9 fun n10 =>
      callK (X d n_grid_Grid_take [P0 x0, .int .i64 n10, .int .i64 x2] H) fun _ H12 =>
      grid_Grid_edit_p1110111110011 d x0 H12)) := (opq_app _ _ _).trans <| by kernel_rfl
theorem grid_Grid_edit_p111011111011_eq (d : Nat) (x0 : Nat) (x2 : Int) (x4 : Value) (x6 : Int) (x12 : Int) (x74 : Bool) (H : Heap) : grid_Grid_edit_p111011111011 d x0 x2 x4 x6 x12 x74 H =
  if x74 = true then
  (asP x4 fun o1 =>
    optK o1 fun a2 =>
    optK (Heap.ld1 H (ap a2 1)) fun v3 =>
    asI .i32 v3 fun n4 =>
    callK (X d n_grid_Grid_cut [P0 x0, .int .i32 n4, .int .i64 x2] H) fun _ H6 =>
    some (.tuple #[], H6))
  else
  (if (decide (x12 = 83)) = true then
    (callK (X d n_grid_Grid_up [P0 x0, .int .i64 x2] H) fun _ H8 =>
      some (.tuple #[], H8))
    else
    (if (decide (x12 = 84)) = true then
      (callK (X d n_grid_Grid_down [P0 x0, .int .i64 x2] H) fun _ H10 =>
        some (.tuple #[], H10))
      else
      (if (decide (x12 = 114)) = true then
        (optK (readD (.load 4 true) [x4] H) fun v11 =>
          asA v11 fun c12 =>
          callK (X d n_vt_Params [.agg c12, .int .i64 0, .int .i64 1] H) fun v13 H14 =>
          asI .i64 v13 fun n15 =>
          optK (readD (.load 4 true) [x4] H14) fun v16 =>
          asA v16 fun c17 =>
          optK (Heap.ld1 H14 ⟨x0, 0, none⟩) fun v18 =>
          asI .i64 v18 fun n19 =>
          callK (X d n_vt_Params [.agg c17, .int .i64 1, .int .i64 n19] H14) fun v20 H21 =>
          asI .i64 v20 fun n22 =>
          optK (Heap.ld1 H21 ⟨x0, 0, none⟩) fun v23 =>
          asI .i64 v23 fun n24 =>
          chk (rdsOk [H, H14, H21] [⟨.load 1 false, [P0 x0], v23, 0, 2⟩, ⟨.load 1 false, [P0 x0], v18, 0, 1⟩, ⟨.load 4 true, [x4], v16, 0, 1⟩]) (
            if (decide (IntKind.wrap .i64 (n15 - 1) < (if (IntKind.wrap .i64 (n24 - 1)) < (IntKind.wrap .i64 (n22 - 1)) then (IntKind.wrap .i64 (n24 - 1)) else (IntKind.wrap .i64 (n22 - 1))))) = true then
            (optK (Heap.st1 H21 ⟨x0, 17, none⟩ (.int .i64 (IntKind.wrap .i64 (n15 - 1)))) fun H25 =>
              optK (Heap.st1 H25 ⟨x0, 18, none⟩ (.int .i64 (if (IntKind.wrap .i64 (n24 - 1)) < (IntKind.wrap .i64 (n22 - 1)) then (IntKind.wrap .i64 (n24 - 1)) else (IntKind.wrap .i64 (n22 - 1))))) fun H26 =>
              callK (X d n_grid_Grid_move [P0 x0, .int .i64 0, .int .i64 0] H26) fun _ H28 =>
              some (.tuple #[], H28))
            else
            (some (.tuple #[], H21))))
        else
        (if (decide (x12 = 103)) = true then
          (if (decide (x6 = 0)) = true then
            (optK (Heap.ld1 H ⟨x0, 22, none⟩) fun v29 =>
              asSL v29 fun l30 =>
              optK (Heap.ld1 H ⟨x0, 4, none⟩) fun v31 =>
              asI .i64 v31 fun n32 =>
              optK l30.a fun a33 =>
              if 0 ≤ n32 ∧ n32 < (l30.n : Int) then
              optK (Heap.st1 H (ap a33 (((n32).toNat) * 1)) (.bool false)) fun H34 =>
              grid_Grid_edit_p11101111101101111111101 d x0 x6 H34
              else none)
            else
            (grid_Grid_edit_p11101111101101111111101 d x0 x6 H))
          else
          (some (.tuple #[], H)))))) := (opq_app _ _ _).trans <| by kernel_rfl
theorem grid_Grid_edit_p1110111110011_eq (d : Nat) (x0 : Nat) (H : Heap) : grid_Grid_edit_p1110111110011 d x0 H =
  optK (Heap.ld1 H ⟨x0, 3, none⟩) fun v1 =>
  asI .i64 v1 fun n2 =>
  callK (X d n_grid_Grid_move [P0 x0, .int .i64 n2, .int .i64 0] H) fun _ H4 =>
  some (.tuple #[], H4) := (opq_app _ _ _).trans <| by kernel_rfl
theorem grid_Grid_edit_p11101111101101111111101_eq (d : Nat) (x0 : Nat) (x6 : Int) (H : Heap) : grid_Grid_edit_p11101111101101111111101 d x0 x6 H =
  if (decide (x6 = 3)) = true then
  (optK (Heap.ld1 H ⟨x0, 1, none⟩) fun v1 =>
    asI .i64 v1 fun n2 =>
    effK (.mkSl t_bool 1 1 [.bool false]) [.int .i64 n2, .int .i64 n2] H fun v3 H4 =>
    asSL v3 fun l5 =>
    optK (Heap.st1 H4 ⟨x0, 22, none⟩ l5.v) fun H6 =>
    some (.tuple #[], H6))
  else
  (some (.tuple #[], H)) := (opq_app _ _ _).trans <| by kernel_rfl
theorem grid_Grid_edit_eq (d : Nat) (x0 : Nat) (x1 : Array Value) (x2 : Int) (H : Heap) : X (d + 1) n_grid_Grid_edit [P0 x0, .agg x1, .int .i64 x2] H =
  effK (.box t_vt_Act) [.agg x1] H fun v1 H2 =>
  optK (readD (.load 4 true) [v1] H2) fun v3 =>
  asA v3 fun c4 =>
  callK (X d n_vt_Params [.agg c4, .int .i64 0, .int .i64 0] H2) fun v5 H6 =>
  asI .i64 v5 fun n7 =>
  asP v1 fun o8 =>
  optK o8 fun a9 =>
  optK (Heap.ld1 H6 (ap a9 1)) fun v10 =>
  asI .i32 v10 fun n11 =>
  if (decide (n11 = 74)) = true then
  (callK (X d n_grid_Grid_erase [P0 x0, .int .i64 n7] H6) fun _ H13 =>
    some (.tuple #[], H13))
  else
  (if (decide (n11 = 75)) = true then
    (callK (X d n_grid_Grid_eraseLine [P0 x0, .int .i64 n7] H6) fun _ H15 =>
      some (.tuple #[], H15))
    else
    (if (decide (n11 = 76)) = true then
      (grid_Grid_edit_p111011111 d x0 x2 v1 n7 n11 (decide (n11 = 76)) H6)
      else
      (grid_Grid_edit_p111011111 d x0 x2 v1 n7 n11 (decide (n11 = 77)) H6))) := by kernel_rfl
end Go.Proofs.YtkkhljcjjhcnhaaGreatDoor.dec

namespace Go.Proofs.YtkkhljcjjhcnhaaGreatDoor.dec
open Go Go.Cm
/-! (*porthole/grid.Grid).cut -/
theorem grid_Grid_cut_eq (d : Nat) (x0 : Nat) (x1 : Int) (x2 : Int) (H : Heap) : X (d + 1) n_grid_Grid_cut [P0 x0, .int .i32 x1, .int .i64 x2] H =
  optK (Heap.ld1 H ⟨x0, 2, none⟩) fun v1 =>
  asSL v1 fun l2 =>
  optK (Heap.ld1 H ⟨x0, 3, none⟩) fun v3 =>
  asI .i64 v3 fun n4 =>
  optK l2.a fun a5 =>
  if 0 ≤ n4 ∧ n4 < (l2.n : Int) then
  optK (Heap.ld1 H (ap a5 (((n4).toNat) * 1))) fun v6 =>
  asSL v6 fun l7 =>
  optK (Heap.ld1 H ⟨x0, 4, none⟩) fun v8 =>
  asI .i64 v8 fun n9 =>
  optK (readD (.subSl t_api_Cell 4 true false false) [l7.v, .int .i64 n9] H) fun v10 =>
  asSL v10 fun l11 =>
  if (decide (x1 = 64)) = true then
  (callK (X d n_grid_line [.int .i64 (if (l11.n : Int) < x2 then (l11.n : Int) else x2)] H) fun v12 H13 =>
    asSL v12 fun l14 =>
    optK (readD (.subSl t_api_Cell 4 false true false) [l11.v, .int .i64 (IntKind.wrap .i64 ((l11.n : Int) - (if (l11.n : Int) < x2 then (l11.n : Int) else x2)))] H13) fun v15 =>
    asSL v15 fun l16 =>
    appendK t_api_Cell 4 32 false l14.v l16.v H13 fun v17 H18 =>
    asSL v17 fun l19 =>
    effK (.copy 4 false) [l11.v, l19.v] H18 fun v20 H21 =>
    asI .i64 v20 fun _ =>
    chk (rdsOk [H, H13, H18, H21] [⟨.subSl t_api_Cell 4 false true false, [l11.v, .int .i64 (IntKind.wrap .i64 ((l11.n : Int) - (if (l11.n : Int) < x2 then (l11.n : Int) else x2)))], v15, 0, 1⟩]) (
      some (.tuple #[], H21)))
  else
  (if (decide (x1 = 80)) = true then
    (optK (readD (.subSl t_api_Cell 4 true false false) [l11.v, .int .i64 (if (l11.n : Int) < x2 then (l11.n : Int) else x2)] H) fun v23 =>
      asSL v23 fun l24 =>
      callK (X d n_slices_Clone_S_api_Cell_api_Cell [l24.v] H) fun v25 H26 =>
      asSL v25 fun l27 =>
      callK (X d n_grid_line [.int .i64 (if (l11.n : Int) < x2 then (l11.n : Int) else x2)] H26) fun v28 H29 =>
      asSL v28 fun l30 =>
      appendK t_api_Cell 4 32 false l27.v l30.v H29 fun v31 H32 =>
      asSL v31 fun l33 =>
      effK (.copy 4 false) [l11.v, l33.v] H32 fun v34 H35 =>
      asI .i64 v34 fun _ =>
      some (.tuple #[], H35))
    else
    (callK (X d n_grid_line [.int .i64 (if (l11.n : Int) < x2 then (l11.n : Int) else x2)] H) fun v37 H38 =>
      asSL v37 fun l39 =>
      effK (.copy 4 false) [l11.v, l39.v] H38 fun v40 H41 =>
      asI .i64 v40 fun _ =>
      some (.tuple #[], H41)))
  else none := by kernel_rfl
end Go.Proofs.YtkkhljcjjhcnhaaGreatDoor.dec

namespace Go.Proofs.YtkkhljcjjhcnhaaGreatDoor.dec
open Go Go.Cm
/-! (*porthole/grid.Grid).Past -/
theorem grid_Grid_Past_eq (d : Nat) (x0 : Nat) (H : Heap) : X (d + 1) n_grid_Grid_Past [P0 x0] H =
  optK (Heap.ld1 H ⟨x0, 31, none⟩) fun v1 =>
  asSL v1 fun l2 =>
  callK (X d n_grid_copied [l2.v] H) fun v3 H4 =>
  asSL v3 fun l5 =>
  some (l5.v, H4) := by kernel_rfl
end Go.Proofs.YtkkhljcjjhcnhaaGreatDoor.dec

namespace Go.Proofs.YtkkhljcjjhcnhaaGreatDoor.dec
open Go Go.Cm
/-! porthole/grid.Text -/
noncomputable def grid_Text_k111 (d : Nat) : Kt := run (X d) NN (cd 43 [1, 1, 1]) (retK (rs 43)) [] (retK (rs 43))
noncomputable def grid_Text_l11010 (d : Nat) (m0 : Nat) : Kt := iter (fun k => run (X d) NN (cd 43 [1, 1, 0, 1, 0, 0]) (backK [(3, .sl), (6, .sl), (7, .int .i64), (8, .int .i64)] (opq k)) [(0, (grid_Text_k111 d))] (retK (rs 43))) m0
noncomputable def grid_Text_p11010 (d : Nat) (m0 : Nat) (x3 : Sl) (x6 : Sl) (x7 : Int) (x8 : Int) (H : Heap) : Res := opq (grid_Text_l11010 d m0) [(3, x3.v), (6, x6.v), (7, .int .i64 x7), (8, .int .i64 x8)] H
theorem grid_Text_p11010_s (d : Nat) (m0 : Nat) (x3 : Sl) (x6 : Sl) (x7 : Int) (x8 : Int) (H : Heap) : grid_Text_p11010 d (m0 + 1) x3 x6 x7 x8 H =
  if (decide (x8 < x7)) = true then
  (optK x6.a fun a1 =>
    if 0 ≤ x8 ∧ x8 < (x6.n : Int) then
    optK (ldA H (ap a1 (((x8).toNat) * 4)) 4) fun v2 =>
    asA v2 fun c3 =>
    newK H (.cells [.int .i32 0, .int .i64 0, .int .i64 0, .int .i64 0] t_api_Cell false 0 false) fun p4 H5 =>
    effK (.store 4) [P0 p4, .agg c3] H5 fun _ H7 =>
    optK (Heap.ld1 H7 ⟨p4, 0, none⟩) fun v8 =>
    asI .i32 v8 fun n9 =>
    newK H7 (.cells [.int .i32 n9] t_int32 false 0 false) fun p10 H11 =>
    appendK t_int32 1 4 false x3.v (.slice (some ⟨p10, 0, none⟩) 1 1) H11 fun v12 H13 =>
    asSL v12 fun l14 =>
    grid_Text_p11010 d m0 l14 x6 x7 (IntKind.wrap .i64 (x8 + 1)) H13
    else none)
  else
  (callK (X d n_utf_Text [x3.v] H) fun v15 H16 =>
    asS v15 fun s17 =>
    callK (X d n_strings_TrimRight [.string s17, .string (S [32])] H16) fun v18 H19 =>
    asS v18 fun s20 =>
    some (.string s20, H19)) := (opq_app _ _ _).trans <| by kernel_rfl
theorem grid_Text_eq (d : Nat) (x0 : Sl) (H : Heap) : X (d + 1) n_grid_Text [x0.v] H =
  grid_Text_p11010 d NN Sl.nil x0 (x0.n : Int) 0 H := by kernel_rfl
end Go.Proofs.YtkkhljcjjhcnhaaGreatDoor.dec

namespace Go.Proofs.YtkkhljcjjhcnhaaGreatDoor.dec
open Go Go.Cm
/-! strings.TrimRight -/
noncomputable def strings_TrimRight_k11 (d : Nat) : Kt := run (X d) NN (cd 69 [1, 1]) (retK (rs 69)) [] (retK (rs 69))
noncomputable def strings_TrimRight_k111 (d : Nat) : Kt := run (X d) NN (cd 69 [1, 1, 1]) (retK (rs 69)) [] (retK (rs 69))
noncomputable def strings_TrimRight_p101 (d : Nat) (x0 : ByteArray) (x1 : ByteArray) (x12 : Bool) (H : Heap) : Res := opq (run (X d) NN (cd 69 [1, 0, 1, 0]) (strings_TrimRight_k11 d) [] (retK (rs 69))) [(0, .string x0), (1, .string x1), (12, .bool x12)] H
noncomputable def strings_TrimRight_p1101 (d : Nat) (x0 : ByteArray) (x1 : ByteArray) (x21 : Bool) (H : Heap) : Res := opq (run (X d) NN (cd 69 [1, 1, 0, 1, 0]) (strings_TrimRight_k111 d) [] (retK (rs 69))) [(0, .string x0), (1, .string x1), (21, .bool x21)] H
theorem strings_TrimRight_p101_eq (d : Nat) (x0 : ByteArray) (x1 : ByteArray) (x12 : Bool) (H : Heap) : strings_TrimRight_p101 d x0 x1 x12 H =
  if x12 = true then
  (some (.string x0, H))
  else
  (if (decide ((slen x1 : Int) = 1)) = true then
    (if 0 ≤ (0 : Int) ∧ (0 : Int) < (slen x1 : Int) then
      strings_TrimRight_p1101 d x0 x1 (decide (bt x1 0 < 128)) H
      else none)
    else
    (strings_TrimRight_p1101 d x0 x1 false H)) := (opq_app _ _ _).trans <| by kernel_rfl
theorem strings_TrimRight_p1101_eq (d : Nat) (x0 : ByteArray) (x1 : ByteArray) (x21 : Bool) (H : Heap) : strings_TrimRight_p1101 d x0 x1 x21 H =
  if x21 = true then
  (if 0 ≤ (0 : Int) ∧ (0 : Int) < (slen x1 : Int) then
    callK (X d n_strings_trimRightByte [.string x0, .int .u8 (bt x1 0)] H) fun v1 H2 =>
    asS v1 fun s3 =>
    some (.string s3, H2)
    else none)
  else
  (callK (X d n_strings_makeASCIISet [.string x1] H) fun v4 H5 =>
    castT [.agg, .bool] v4 fun l6 =>
    castT [.agg, .bool] (.tuple ⟨l6⟩) fun l7 =>
    optK l7[0]? fun v8 =>
    asA v8 fun c9 =>
    optK l7[1]? fun v10 =>
    asB v10 fun b11 =>
    newK H5 (.cells [.bool false, .bool false, .bool false, .bool false, .bool false, .bool false, .bool false, .bool false, .bool false, .bool false, .bool false, .bool false, .bool false, .bool false, .bool false, .bool false, .bool false, .bool false, .bool false, .bool false, .bool false, .bool false, .bool false, .bool false, .bool false, .bool false, .bool false, .bool false, .bool false, .bool false, .bool false, .bool false, .bool false, .bool false, .bool false, .bool false, .bool false, .bool false, .bool false, .bool false, .bool false, .bool false, .bool false, .bool false, .bool false, .bool false, .bool false, .bool false, .bool false, .bool false, .bool false, .bool false, .bool false, .bool false, .bool false, .bool false, .bool false, .bool false, .bool false, .bool false, .bool false, .bool false, .bool false, .bool false, .bool false, .bool false, .bool false, .bool false, .bool false, .bool false, .bool false, .bool false, .bool false, .bool false, .bool false, .bool false, .bool false, .bool false, .bool false, .bool false, .bool false, .bool false, .bool false, .bool false, .bool false, .bool false, .bool false, .bool false, .bool false, .bool false, .bool false, .bool false, .bool false, .bool false, .bool false, .bool false, .bool false, .bool false, .bool false, .bool false, .bool false, .bool false, .bool false, .bool false, .bool false, .bool false, .bool false, .bool false, .bool false, .bool false, .bool false, .bool false, .bool false, .bool false, .bool false, .bool false, .bool false, .bool false, .bool false, .bool false, .bool false, .bool false, .bool false, .bool false, .bool false, .bool false, .bool false, .bool false, .bool false, .bool false, .bool false, .bool false, .bool false, .bool false, .bool false, .bool false, .bool false, .bool false, .bool false, .bool false, .bool false, .bool false, .bool false, .bool false, .bool false, .bool false, .bool false, .bool false, .bool false, .bool false, .bool false, .bool false, .bool false, .bool false, .bool false, .bool false, .bool false, .bool false, .bool false, .bool false, .bool false, .bool false, .bool false, .bool false, .bool false, .bool false, .bool false, .bool false, .bool false, .bool false, .bool false, .bool false, .bool false, .bool false, .bool false, .bool false, .bool false, .bool false, .bool false, .bool false, .bool false, .bool false, .bool false, .bool false, .bool false, .bool false, .bool false, .bool false, .bool false, .bool false, .bool false, .bool false, .bool false, .bool false, .bool false, .bool false, .bool false, .bool false, .bool false, .bool false, .bool false, .bool false, .bool false, .bool false, .bool false, .bool false, .bool false, .bool false, .bool false, .bool false, .bool false, .bool false, .bool false, .bool false, .bool false, .bool false, .bool false, .bool false, .bool false, .bool false, .bool false, .bool false, .bool false, .bool false, .bool false, .bool false, .bool false, .bool false, .bool false, .bool false, .bool false, .bool false, .bool false, .bool false, .bool false, .bool false, .bool false, .bool false, .bool false, .bool false, .bool false, .bool false, .bool false, .bool false, .bool false, .bool false, .bool false, .bool false, .bool false, .bool false, .bool false, .bool false, .bool false, .bool false, .bool false, .bool false] t_strings_asciiSet false 0 false) fun p12 H13 =>
    effK (.store 256) [P0 p12, .agg c9] H13 fun _ H15 =>
    if b11 = true then
    (callK (X d n_strings_trimRightASCII [.string x0, P0 p12] H15) fun v16 H17 =>
      asS v16 fun s18 =>
      some (.string s18, H17))
    else
    (callK (X d n_strings_trimRightUnicode [.string x0, .string x1] H15) fun v19 H20 =>
      asS v19 fun s21 =>
      some (.string s21, H20))) := (opq_app _ _ _).trans <| by kernel_rfl
theorem strings_TrimRight_eq (d : Nat) (x0 : ByteArray) (x1 : ByteArray) (H : Heap) : X (d + 1) n_strings_TrimRight [.string x0, .string x1] H =
  if (sEq x0 (S [])) = true then
  (strings_TrimRight_p101 d x0 x1 true H)
  else
  (strings_TrimRight_p101 d x0 x1 (sEq x1 (S [])) H) := by kernel_rfl
end Go.Proofs.YtkkhljcjjhcnhaaGreatDoor.dec

namespace Go.Proofs.YtkkhljcjjhcnhaaGreatDoor.dec
open Go Go.Cm
/-! porthole/utf.Text -/
theorem utf_Text_eq (d : Nat) (x0 : Sl) (H : Heap) : X (d + 1) n_utf_Text [x0.v] H =
  optK (readD (.runesStr) [x0.v] H) fun v1 =>
  asS v1 fun s2 =>
  some (.string s2, H) := by kernel_rfl
end Go.Proofs.YtkkhljcjjhcnhaaGreatDoor.dec

namespace Go.Proofs.YtkkhljcjjhcnhaaGreatDoor.dec
open Go Go.Cm
/-! strings.trimRightByte -/
noncomputable def strings_trimRightByte_k11 (d : Nat) : Kt := run (X d) NN (cd 99 [1, 1]) (retK (rs 99)) [] (retK (rs 99))
noncomputable def strings_trimRightByte_l100 (d : Nat) (m0 : Nat) : Kt := iter (fun k => run (X d) NN (cd 99 [1, 0, 0, 0]) (backK [(0, .str), (1, .int .u8)] (opq k)) [(0, (strings_trimRightByte_k11 d))] (retK (rs 99))) m0
noncomputable def strings_trimRightByte_k10001 (d : Nat) (m0 : Nat) : Kt := run (X d) NN (cd 99 [1, 0, 0, 0, 1]) (backK [(0, .str), (1, .int .u8)] (opq (strings_trimRightByte_l100 d m0))) [(0, (strings_trimRightByte_k11 d))] (retK (rs 99))
noncomputable def strings_trimRightByte_p100 (d : Nat) (m0 : Nat) (x0 : ByteArray) (x1 : Int) (H : Heap) : Res := opq (strings_trimRightByte_l100 d m0) [(0, .string x0), (1, .int .u8 x1)] H
noncomputable def strings_trimRightByte_p100001 (d : Nat) (m0 : Nat) (x0 : ByteArray) (x1 : Int) (x16 : Bool) (H : Heap) : Res := opq (run (X d) NN (cd 99 [1, 0, 0, 0, 0, 1, 0]) (strings_trimRightByte_k10001 d m0) [(0, (strings_trimRightByte_k11 d))] (retK (rs 99))) [(0, .string x0), (1, .int .u8 x1), (16, .bool x16)] H
theorem strings_trimRightByte_p100_s (d : Nat) (m0 : Nat) (x0 : ByteArray) (x1 : Int) (H : Heap) : strings_trimRightByte_p100 d (m0 + 1) x0 x1 H =
  if (decide ((0 : Int) < (slen x0 : Int))) = true then
  (if 0 ≤ IntKind.wrap .i64 ((slen x0 : Int) - 1) ∧ IntKind.wrap .i64 ((slen x0 : Int) - 1) < (slen x0 : Int) then
    strings_trimRightByte_p100001 d m0 x0 x1 (decide (bt x0 ((IntKind.wrap .i64 ((slen x0 : Int) - 1)).toNat) = x1)) H
    else none)
  else
  (strings_trimRightByte_p100001 d m0 x0 x1 false H) := (opq_app _ _ _).trans <| by kernel_rfl
theorem strings_trimRightByte_p100001_eq (d : Nat) (m0 : Nat) (x0 : ByteArray) (x1 : Int) (x16 : Bool) (H : Heap) : strings_trimRightByte_p100001 d m0 x0 x1 x16 H =
  if x16 = true then
  (if 0 ≤ IntKind.wrap .i64 ((slen x0 : Int) - 1) ∧ IntKind.wrap .i64 ((slen x0 : Int) - 1) ≤ (slen x0 : Int) then
    strings_trimRightByte_p100 d m0 (sSub x0 0 ((IntKind.wrap .i64 ((slen x0 : Int) - 1)).toNat)) x1 H
    else none)
  else
  (some (.string x0, H)) := (opq_app _ _ _).trans <| by kernel_rfl
theorem strings_trimRightByte_eq (d : Nat) (x0 : ByteArray) (x1 : Int) (H : Heap) : X (d + 1) n_strings_trimRightByte [.string x0, .int .u8 x1] H =
  strings_trimRightByte_p100 d NN x0 x1 H := by kernel_rfl
end Go.Proofs.YtkkhljcjjhcnhaaGreatDoor.dec

namespace Go.Proofs.YtkkhljcjjhcnhaaGreatDoor.dec
open Go Go.Cm
/-! (*porthole/grid.Grid).csi -/
noncomputable def grid_Grid_csi_l11110101101111111111011010 (d : Nat) (m0 : Nat) : Kt := iter (fun k => run (X d) NN (cd 97 [1, 1, 1, 1, 0, 1, 0, 1, 1, 0, 1, 1, 1, 1, 1, 1, 1, 1, 1, 1, 0, 1, 1, 0, 1, 0, 0]) (backK [(0, .ptr), (127, .sl), (128, .int .i64), (129, .int .i64)] (opq k)) [(1, (retK (rs 97))), (0, (retK (rs 97)))] (retK (rs 97))) m0
noncomputable def grid_Grid_csi_p111101 (d : Nat) (x0 : Nat) (x3 : Value) (x4 : Int) (x5 : Int) (x6 : Int) (x24 : Int) (x29 : Bool) (H : Heap) : Res := opq (run (X d) NN (cd 97 [1, 1, 1, 1, 0, 1, 0]) (retK (rs 97)) [(0, (retK (rs 97)))] (retK (rs 97))) [(0, P0 x0), (3, x3), (4, .int .i64 x4), (5, .int .i64 x5), (6, .int .i64 x6), (24, .int .i32 x24), (29, .bool x29)] H
noncomputable def grid_Grid_csi_p1111010011 (d : Nat) (x0 : Nat) (x3 : Value) (x4 : Int) (x5 : Int) (x6 : Int) (x7 : Int) (H : Heap) : Res := opq (run (X d) NN (cd 97 [1, 1, 1, 1, 0, 1, 0, 0, 1, 1, 0]) (retK (rs 97)) [(0, (retK (rs 97)))] (retK (rs 97))) [(0, P0 x0), (3, x3), (4, .int .i64 x4), (5, .int .i64 x5), (6, .int .i64 x6), (7, .int .i64 x7)] H
noncomputable def grid_Grid_csi_p111101011 (d : Nat) (x0 : Nat) (x3 : Value) (x4 : Int) (x5 : Int) (x6 : Int) (x24 : Int) (x54 : Bool) (H : Heap) : Res := opq (run (X d) NN (cd 97 [1, 1, 1, 1, 0, 1, 0, 1, 1, 0]) (retK (rs 97)) [(0, (retK (rs 97)))] (retK (rs 97))) [(0, P0 x0), (3, x3), (4, .int .i64 x4), (5, .int .i64 x5), (6, .int .i64 x6), (24, .int .i32 x24), (54, .bool x54)] H
noncomputable def grid_Grid_csi_p1111010011011 (d : Nat) (x0 : Nat) (x5 : Int) (x6 : Int) (H : Heap) : Res := opq (run (X d) NN (cd 97 [1, 1, 1, 1, 0, 1, 0, 0, 1, 1, 0, 1, 1, 0]) (retK (rs 97)) [(0, (retK (rs 97)))] (retK (rs 97))) [(0, P0 x0), (5, .int .i64 x5), (6, .int .i64 x6)] H
noncomputable def grid_Grid_csi_p1111010110011 (d : Nat) (x0 : Nat) (x3 : Value) (x4 : Int) (x5 : Int) (x6 : Int) (x8 : Int) (H : Heap) : Res := opq (run (X d) NN (cd 97 [1, 1, 1, 1, 0, 1, 0, 1, 1, 0, 0, 1, 1, 0]) (retK (rs 97)) [(0, (retK (rs 97)))] (retK (rs 97))) [(0, P0 x0), (3, x3), (4, .int .i64 x4), (5, .int .i64 x5), (6, .int .i64 x6), (8, .int .i64 x8)] H
noncomputable def grid_Grid_csi_p11110101101111111111 (d : Nat) (x0 : Nat) (x3 : Value) (x4 : Int) (x24 : Int) (x114 : Bool) (H : Heap) : Res := opq (run (X d) NN (cd 97 [1, 1, 1, 1, 0, 1, 0, 1, 1, 0, 1, 1, 1, 1, 1, 1, 1, 1, 1, 1, 0]) (retK (rs 97)) [(0, (retK (rs 97)))] (retK (rs 97))) [(0, P0 x0), (3, x3), (4, .int .i64 x4), (24, .int .i32 x24), (114, .bool x114)] H
noncomputable def grid_Grid_csi_p1111010110011011 (d : Nat) (x0 : Nat) (x5 : Int) (x6 : Int) (H : Heap) : Res := opq (run (X d) NN (cd 97 [1, 1, 1, 1, 0, 1, 0, 1, 1, 0, 0, 1, 1, 0, 1, 1, 0]) (retK (rs 97)) [(0, (retK (rs 97)))] (retK (rs 97))) [(0, P0 x0), (5, .int .i64 x5), (6, .int .i64 x6)] H
noncomputable def grid_Grid_csi_p11110101101111111111011010 (d : Nat) (m0 : Nat) (x0 : Nat) (x127 : Sl) (x128 : Int) (x129 : Int) (H : Heap) : Res := opq (grid_Grid_csi_l11110101101111111111011010 d m0) [(0, P0 x0), (127, x127.v), (128, .int .i64 x128), (129, .int .i64 x129)] H
noncomputable def grid_Grid_csi_p1111010110111111111101111 (d : Nat) (x0 : Nat) (x3 : Value) (x4 : Int) (x137 : Bool) (H : Heap) : Res := opq (run (X d) NN (cd 97 [1, 1, 1, 1, 0, 1, 0, 1, 1, 0, 1, 1, 1, 1, 1, 1, 1, 1, 1, 1, 0, 1, 1, 1, 1, 0]) (retK (rs 97)) [(0, (retK (rs 97)))] (retK (rs 97))) [(0, P0 x0), (3, x3), (4, .int .i64 x4), (137, .bool x137)] H
theorem grid_Grid_csi_p111101_eq (d : Nat) (x0 : Nat) (x3 : Value) (x4 : Int) (x5 : Int) (x6 : Int) (x24 : Int) (x29 : Bool) (H : Heap) : grid_Grid_csi_p111101 d x0 x3 x4 x5 x6 x24 x29 H =
  if x29 = true then
  (optK (Heap.ld1 H ⟨x0, 17, none⟩) fun v1 =>
    asI .i64 v1 fun n2 =>
    if (decide (n2 ≤ x5)) = true then
    (optK (Heap.ld1 H ⟨x0, 17, none⟩) fun v3 =>
      asI .i64 v3 fun n4 =>
      grid_Grid_csi_p1111010011 d x0 x3 x4 x5 x6 n4 H)
    else
    (grid_Grid_csi_p1111010011 d x0 x3 x4 x5 x6 0 H))
  else
  (if (decide (x24 = 66)) = true then
    (grid_Grid_csi_p111101011 d x0 x3 x4 x5 x6 x24 (decide (x24 = 66)) H)
    else
    (grid_Grid_csi_p111101011 d x0 x3 x4 x5 x6 x24 (decide (x24 = 69)) H)) := (opq_app _ _ _).trans <| by kernel_rfl
theorem grid_Grid_csi_p1111010011_eq (d : Nat) (x0 : Nat) (x3 : Value) (x4 : Int) (x5 : Int) (x6 : Int) (x7 : Int) (H : Heap) : grid_Grid_csi_p1111010011 d x0 x3 x4 x5 x6 x7 H =
  asP x3 fun o1 =>
  optK o1 fun a2 =>
  optK (Heap.ld1 H (ap a2 1)) fun v3 =>
  asI .i32 v3 fun n4 =>
  if (decide (n4 = 70)) = true then
  (grid_Grid_csi_p1111010011011 d x0 (if (IntKind.wrap .i64 (x5 - x4)) < x7 then x7 else (IntKind.wrap .i64 (x5 - x4))) 0 H)
  else
  (grid_Grid_csi_p1111010011011 d x0 (if (IntKind.wrap .i64 (x5 - x4)) < x7 then x7 else (IntKind.wrap .i64 (x5 - x4))) x6 H) := (opq_app _ _ _).trans <| by kernel_rfl
theorem grid_Grid_csi_p111101011_eq (d : Nat) (x0 : Nat) (x3 : Value) (x4 : Int) (x5 : Int) (x6 : Int) (x24 : Int) (x54 : Bool) (H : Heap) : grid_Grid_csi_p111101011 d x0 x3 x4 x5 x6 x24 x54 H =
  if x54 = true then
  (optK (Heap.ld1 H ⟨x0, 0, none⟩) fun v1 =>
    asI .i64 v1 fun n2 =>
    optK (Heap.ld1 H ⟨x0, 18, none⟩) fun v3 =>
    asI .i64 v3 fun n4 =>
    if (decide (x5 ≤ n4)) = true then
    (optK (Heap.ld1 H ⟨x0, 18, none⟩) fun v5 =>
      asI .i64 v5 fun n6 =>
      grid_Grid_csi_p1111010110011 d x0 x3 x4 x5 x6 n6 H)
    else
    (grid_Grid_csi_p1111010110011 d x0 x3 x4 x5 x6 (IntKind.wrap .i64 (n2 - 1)) H))
  else
  (if (decide (x24 = 67)) = true then
    (callK (X d n_grid_Grid_move [P0 x0, .int .i64 x5, .int .i64 (IntKind.wrap .i64 (x6 + x4))] H) fun _ H8 =>
      some (.tuple #[], H8))
    else
    (if (decide (x24 = 68)) = true then
      (callK (X d n_grid_Grid_move [P0 x0, .int .i64 x5, .int .i64 (IntKind.wrap .i64 (x6 - x4))] H) fun _ H10 =>
        some (.tuple #[], H10))
      else
      (if (decide (x24 = 71)) = true then
        (callK (X d n_grid_Grid_move [P0 x0, .int .i64 x5, .int .i64 (IntKind.wrap .i64 (x4 - 1))] H) fun _ H12 =>
          some (.tuple #[], H12))
        else
        (if (decide (x24 = 100)) = true then
          (callK (X d n_grid_Grid_move [P0 x0, .int .i64 (IntKind.wrap .i64 (x4 - 1)), .int .i64 x6] H) fun _ H14 =>
            some (.tuple #[], H14))
          else
          (if (decide (x24 = 72)) = true then
            (grid_Grid_csi_p11110101101111111111 d x0 x3 x4 x24 (decide (x24 = 72)) H)
            else
            (grid_Grid_csi_p11110101101111111111 d x0 x3 x4 x24 (decide (x24 = 102)) H)))))) := (opq_app _ _ _).trans <| by kernel_rfl
theorem grid_Grid_csi_p1111010011011_eq (d : Nat) (x0 : Nat) (x5 : Int) (x6 : Int) (H : Heap) : grid_Grid_csi_p1111010011011 d x0 x5 x6 H =
  callK (X d n_grid_Grid_move [P0 x0, .int .i64 x5, .int .i64 x6] H) fun _ H2 =>
  some (.tuple #[], H2) := (opq_app _ _ _).trans <| by kernel_rfl
theorem grid_Grid_csi_p1111010110011_eq (d : Nat) (x0 : Nat) (x3 : Value) (x4 : Int) (x5 : Int) (x6 : Int) (x8 : Int) (H : Heap) : grid_Grid_csi_p1111010110011 d x0 x3 x4 x5 x6 x8 H =
  asP x3 fun o1 =>
  optK o1 fun a2 =>
  optK (Heap.ld1 H (ap a2 1)) fun v3 =>
  asI .i32 v3 fun n4 =>
  if (decide (n4 = 69)) = true then
  (grid_Grid_csi_p1111010110011011 d x0 (if x8 < (IntKind.wrap .i64 (x5 + x4)) then x8 else (IntKind.wrap .i64 (x5 + x4))) 0 H)
  else
  (grid_Grid_csi_p1111010110011011 d x0 (if x8 < (IntKind.wrap .i64 (x5 + x4)) then x8 else (IntKind.wrap .i64 (x5 + x4))) x6 H) := (opq_app _ _ _).trans <| by kernel_rfl
theorem grid_Grid_csi_p11110101101111111111_eq (d : Nat) (x0 : Nat) (x3 : Value) (x4 : Int) (x24 : Int) (x114 : Bool) (H : Heap) : grid_Grid_csi_p11110101101111111111 d x0 x3 x4 x24 x114 H =
  if x114 = true then
  (optK (readD (.load 4 true) [x3] H) fun v1 =>
    asA v1 fun c2 =>
    callK (X d n_vt_Params [.agg c2, .int .i64 1, .int .i64 1] H) fun v3 H4 =>
    asI .i64 v3 fun n5 =>
    callK (X d n_grid_Grid_move [P0 x0, .int .i64 (IntKind.wrap .i64 (x4 - 1)), .int .i64 (IntKind.wrap .i64 (n5 - 1))] H4) fun _ H7 =>
    some (.tuple #[], H7))
  else
  (if (decide (x24 = 109)) = true then
    (asP x3 fun o8 =>
      optK o8 fun a9 =>
      optK (Heap.ld1 H (ap a9 3)) fun v10 =>
      asSL v10 fun l11 =>
      grid_Grid_csi_p11110101101111111111011010 d NN x0 l11 (l11.n : Int) 0 H)
    else
    (if (decide (x24 = 104)) = true then
      (grid_Grid_csi_p1111010110111111111101111 d x0 x3 x4 (decide (x24 = 104)) H)
      else
      (grid_Grid_csi_p1111010110111111111101111 d x0 x3 x4 (decide (x24 = 108)) H))) := (opq_app _ _ _).trans <| by kernel_rfl
theorem grid_Grid_csi_p1111010110011011_eq (d : Nat) (x0 : Nat) (x5 : Int) (x6 : Int) (H : Heap) : grid_Grid_csi_p1111010110011011 d x0 x5 x6 H =
  callK (X d n_grid_Grid_move [P0 x0, .int .i64 x5, .int .i64 x6] H) fun _ H2 =>
  some (.tuple #[], H2) := (opq_app _ _ _).trans <| by kernel_rfl
theorem grid_Grid_csi_p11110101101111111111011010_s (d : Nat) (m0 : Nat) (x0 : Nat) (x127 : Sl) (x128 : Int) (x129 : Int) (H : Heap) : grid_Grid_csi_p11110101101111111111011010 d (m0 + 1) x0 x127 x128 x129 H =
  if (decide (x129 < x128)) = true then
  (optK x127.a fun a1 =>
    if 0 ≤ x129 ∧ x129 < (x127.n : Int) then
    optK (Heap.ld1 H (ap a1 (((x129).toNat) * 1))) fun v2 =>
    asI .i64 v2 fun n3 =>
    callK (X d n_grid_Grid_style [P0 x0, .int .i64 n3] H) fun _ H5 =>
    grid_Grid_csi_p11110101101111111111011010 d m0 x0 x127 x128 (IntKind.wrap .i64 (x129 + 1)) H5
    else none)
  else
  (some (.tuple #[], H)) := (opq_app _ _ _).trans <| by kernel_rfl
theorem grid_Grid_csi_p1111010110111111111101111_eq (d : Nat) (x0 : Nat) (x3 : Value) (x4 : Int) (x137 : Bool) (H : Heap) : grid_Grid_csi_p1111010110111111111101111 d x0 x3 x4 x137 H =
  if x137 = true then
  (asP x3 fun o1 =>
    optK o1 fun a2 =>
    optK (Heap.ld1 H (ap a2 3)) fun v3 =>
    asSL v3 fun l4 =>
    callK (X d n_slices_Contains_S_int_int [l4.v, .int .i64 4] H) fun v5 H6 =>
    asB v5 fun b7 =>
    if b7 = true then
    (asP x3 fun o8 =>
      optK o8 fun a9 =>
      optK (Heap.ld1 H6 (ap a9 1)) fun v10 =>
      asI .i32 v10 fun n11 =>
      optK (Heap.st1 H6 ⟨x0, 20, none⟩ (.bool (decide (n11 = 104)))) fun H12 =>
      some (.tuple #[], H12))
    else
    (some (.tuple #[], H6)))
  else
  (optK (readD (.load 4 true) [x3] H) fun v13 =>
    asA v13 fun c14 =>
    callK (X d n_grid_Grid_edit [P0 x0, .agg c14, .int .i64 x4] H) fun _ H16 =>
    some (.tuple #[], H16)) := (opq_app _ _ _).trans <| by kernel_rfl
theorem grid_Grid_csi_eq (d : Nat) (x0 : Nat) (x1 : Array Value) (H : Heap) : X (d + 1) n_grid_Grid_csi [P0 x0, .agg x1] H =
  effK (.box t_vt_Act) [.agg x1] H fun v1 H2 =>
  optK (readD (.load 4 true) [v1] H2) fun v3 =>
  asA v3 fun c4 =>
  callK (X d n_vt_Params [.agg c4, .int .i64 0, .int .i64 1] H2) fun v5 H6 =>
  asI .i64 v5 fun n7 =>
  optK (Heap.ld1 H6 ⟨x0, 3, none⟩) fun v8 =>
  asI .i64 v8 fun n9 =>
  optK (Heap.ld1 H6 ⟨x0, 4, none⟩) fun v10 =>
  asI .i64 v10 fun n11 =>
  asP v1 fun o12 =>
  optK o12 fun a13 =>
  optK (Heap.ld1 H6 (ap a13 1)) fun v14 =>
  asI .i32 v14 fun n15 =>
  if (decide (n15 = 65)) = true then
  (grid_Grid_csi_p111101 d x0 v1 n7 n9 n11 n15 (decide (n15 = 65)) H6)
  else
  (grid_Grid_csi_p111101 d x0 v1 n7 n9 n11 n15 (decide (n15 = 70)) H6) := by kernel_rfl
end Go.Proofs.YtkkhljcjjhcnhaaGreatDoor.dec

namespace Go.Proofs.YtkkhljcjjhcnhaaGreatDoor.dec
open Go Go.Cm
/-! porthole/grid.fit -/
end Go.Proofs.YtkkhljcjjhcnhaaGreatDoor.dec

namespace Go.Proofs.YtkkhljcjjhcnhaaGreatDoor.dec
open Go Go.Cm
/-! (*porthole/grid.Grid).Resize -/
end Go.Proofs.YtkkhljcjjhcnhaaGreatDoor.dec

namespace Go.Proofs.YtkkhljcjjhcnhaaGreatDoor.dec
open Go Go.Cm
/-! (*porthole/grid.Grid).Screen -/
theorem grid_Grid_Screen_eq (d : Nat) (x0 : Nat) (H : Heap) : X (d + 1) n_grid_Grid_Screen [P0 x0] H =
  newK H (.cells [.int .i64 0, .int .i64 0, .slice none 0 0, .int .i64 0, .int .i64 0, .bool false] t_api_Screen false 0 false) fun p1 H2 =>
  optK (Heap.ld1 H2 ⟨x0, 0, none⟩) fun v3 =>
  asI .i64 v3 fun n4 =>
  optK (Heap.ld1 H2 ⟨x0, 1, none⟩) fun v5 =>
  asI .i64 v5 fun n6 =>
  optK (Heap.ld1 H2 ⟨x0, 2, none⟩) fun v7 =>
  asSL v7 fun l8 =>
  callK (X d n_grid_copied [l8.v] H2) fun v9 H10 =>
  asSL v9 fun l11 =>
  optK (Heap.ld1 H10 ⟨x0, 3, none⟩) fun v12 =>
  asI .i64 v12 fun n13 =>
  optK (Heap.ld1 H10 ⟨x0, 4, none⟩) fun v14 =>
  asI .i64 v14 fun n15 =>
  optK (Heap.ld1 H10 ⟨x0, 21, none⟩) fun v16 =>
  asB v16 fun b17 =>
  optK (Heap.stN H10 ⟨p1, 0, none⟩ [.int .i64 n4, .int .i64 n6, l11.v, .int .i64 n13, .int .i64 n15, .bool b17]) fun H18 =>
  chk (rdsOk [H2, H10, H18] [⟨.load 1 false, [.pointer (some ⟨x0, 21, none⟩)], v16, 0, 1⟩, ⟨.load 1 false, [.pointer (some ⟨x0, 4, none⟩)], v14, 0, 1⟩, ⟨.load 1 false, [.pointer (some ⟨x0, 3, none⟩)], v12, 0, 1⟩, ⟨.load 1 false, [.pointer (some ⟨x0, 1, none⟩)], v5, 0, 1⟩, ⟨.load 1 false, [P0 x0], v3, 0, 1⟩]) (
    retK [.cell 2 6 true] [(2, P0 p1)] H18) := by kernel_rfl
end Go.Proofs.YtkkhljcjjhcnhaaGreatDoor.dec

namespace Go.Proofs.YtkkhljcjjhcnhaaGreatDoor.dec
open Go Go.Cm
/-! (*porthole/mux.Mux).fresh -/
theorem mux_Mux_fresh_eq (d : Nat) (x0 : Nat) (H : Heap) : X (d + 1) n_mux_Mux_fresh [P0 x0] H =
  optK (Heap.ld1 H ⟨x0, 4, none⟩) fun v1 =>
  asI .i64 v1 fun n2 =>
  callK (X d n_layout_New [.int .i64 n2] H) fun v3 H4 =>
  asP v3 fun o5 =>
  optK (Heap.ld1 H4 ⟨x0, 4, none⟩) fun v6 =>
  asI .i64 v6 fun n7 =>
  newK H4 (.cells [.pointer o5, .int .i64 n7, .bool false] t_mux_window false 0 false) fun p8 H9 =>
  chk (rdsOk [H, H4, H9] [⟨.load 1 false, [.pointer (some ⟨x0, 4, none⟩)], v6, 0, 1⟩]) (
    callK (X d n_mux_Mux_make [P0 x0] H9) fun _ H11 =>
    callK (X d n_mux_Mux_fit [P0 x0, P0 p8] H11) fun _ H13 =>
    some (P0 p8, H13)) := by kernel_rfl
end Go.Proofs.YtkkhljcjjhcnhaaGreatDoor.dec

namespace Go.Proofs.YtkkhljcjjhcnhaaGreatDoor.dec
open Go Go.Cm
/-! (*porthole/mux.Mux).make -/
theorem mux_Mux_make_eq (d : Nat) (x0 : Nat) (H : Heap) : X (d + 1) n_mux_Mux_make [P0 x0] H =
  optK (Heap.ld1 H ⟨x0, 0, none⟩) fun v1 =>
  asI .i64 v1 fun n2 =>
  optK (Heap.ld1 H ⟨x0, 1, none⟩) fun v3 =>
  asI .i64 v3 fun n4 =>
  callK (X d n_grid_New [.int .i64 n2, .int .i64 n4] H) fun v5 H6 =>
  castT [.ptr, .int .i64] v5 fun l7 =>
  castT [.ptr, .int .i64] (.tuple ⟨l7⟩) fun l8 =>
  optK l8[0]? fun v9 =>
  asP v9 fun o10 =>
  optK l8[1]? fun v11 =>
  asI .i64 v11 fun _ =>
  optK (Heap.ld1 H6 ⟨x0, 3, none⟩) fun v13 =>
  asM v13 fun r14 =>
  optK (Heap.ld1 H6 ⟨x0, 4, none⟩) fun v15 =>
  asI .i64 v15 fun n16 =>
  newK H6 (.cells [.pointer o10, .slice none 0 0] t_mux_pane false 0 false) fun p17 H18 =>
  effK (.mapE (.upd (.int .i64))) [.map r14, .int .i64 n16, P0 p17] H18 fun _ H20 =>
  chk (rdsOk [H6, H18, H20] [⟨.load 1 false, [.pointer (some ⟨x0, 4, none⟩)], v15, 0, 1⟩, ⟨.load 1 false, [.pointer (some ⟨x0, 3, none⟩)], v13, 0, 1⟩]) (
    optK (Heap.ld1 H20 ⟨x0, 4, none⟩) fun v21 =>
    asI .i64 v21 fun n22 =>
    optK (Heap.st1 H20 ⟨x0, 4, none⟩ (.int .i64 (IntKind.wrap .i64 (n22 + 1)))) fun H23 =>
    some (.tuple #[], H23)) := by kernel_rfl
end Go.Proofs.YtkkhljcjjhcnhaaGreatDoor.dec

namespace Go.Proofs.YtkkhljcjjhcnhaaGreatDoor.dec
open Go Go.Cm
/-! (*porthole/mux.Mux).fit -/
noncomputable def mux_Mux_fit_l110 (d : Nat) (m0 : Nat) : Kt := iter (fun k => run (X d) NN (cd 48 [1, 1, 0, 0]) (backK [(0, .ptr), (1, .ptr), (4, .sl), (28, .sl), (29, .int .i64), (30, .int .i64)] (opq k)) [(0, (retK (rs 48)))] (retK (rs 48))) m0
noncomputable def mux_Mux_fit_k1100111 (d : Nat) (m0 : Nat) : Kt := run (X d) NN (cd 48 [1, 1, 0, 0, 1, 1, 1]) (backK [(0, .ptr), (1, .ptr), (4, .sl), (28, .sl), (29, .int .i64), (30, .int .i64)] (opq (mux_Mux_fit_l110 d m0))) [(0, (retK (rs 48)))] (retK (rs 48))
noncomputable def mux_Mux_fit_k11001100111 (d : Nat) (m0 : Nat) : Kt := run (X d) NN (cd 48 [1, 1, 0, 0, 1, 1, 0, 0, 1, 1, 1]) (mux_Mux_fit_k1100111 d m0) [(1, (mux_Mux_fit_k1100111 d m0)), (0, (retK (rs 48)))] (retK (rs 48))
noncomputable def mux_Mux_fit_p110 (d : Nat) (m0 : Nat) (x0 : Nat) (x1 : Nat) (x4 : Sl) (x28 : Sl) (x29 : Int) (x30 : Int) (H : Heap) : Res := opq (mux_Mux_fit_l110 d m0) [(0, P0 x0), (1, P0 x1), (4, x4.v), (28, x28.v), (29, .int .i64 x29), (30, .int .i64 x30)] H
noncomputable def mux_Mux_fit_p110011001101 (d : Nat) (m0 : Nat) (x0 : Nat) (x1 : Nat) (x4 : Sl) (x6 : Int) (x7 : Int) (x8 : Int) (x28 : Sl) (x29 : Int) (x30 : Int) (x58 : Bool) (H : Heap) : Res := opq (run (X d) NN (cd 48 [1, 1, 0, 0, 1, 1, 0, 0, 1, 1, 0, 1, 0]) (mux_Mux_fit_k11001100111 d m0) [(1, (mux_Mux_fit_k1100111 d m0)), (0, (retK (rs 48)))] (retK (rs 48))) [(0, P0 x0), (1, P0 x1), (4, x4.v), (6, .int .i64 x6), (7, .int .i64 x7), (8, .int .i64 x8), (28, x28.v), (29, .int .i64 x29), (30, .int .i64 x30), (58, .bool x58)] H
noncomputable def mux_Mux_fit_p11001100111 (d : Nat) (m0 : Nat) (x0 : Nat) (x1 : Nat) (x4 : Sl) (x6 : Int) (x7 : Int) (x8 : Int) (x28 : Sl) (x29 : Int) (x30 : Int) (H : Heap) : Res := opq (run (X d) NN (cd 48 [1, 1, 0, 0, 1, 1, 0, 0, 1, 1, 1, 0]) (mux_Mux_fit_k1100111 d m0) [(1, (mux_Mux_fit_k1100111 d m0)), (0, (retK (rs 48)))] (retK (rs 48))) [(0, P0 x0), (1, P0 x1), (4, x4.v), (6, .int .i64 x6), (7, .int .i64 x7), (8, .int .i64 x8), (28, x28.v), (29, .int .i64 x29), (30, .int .i64 x30)] H
noncomputable def mux_Mux_fit_p110011001110111 (d : Nat) (m0 : Nat) (x0 : Nat) (x1 : Nat) (x4 : Sl) (x7 : Int) (x8 : Int) (x9 : Option Addr) (x28 : Sl) (x29 : Int) (x30 : Int) (x87 : Bool) (H : Heap) : Res := opq (run (X d) NN (cd 48 [1, 1, 0, 0, 1, 1, 0, 0, 1, 1, 1, 0, 1, 1, 1, 0]) (mux_Mux_fit_k1100111 d m0) [(1, (mux_Mux_fit_k1100111 d m0)), (0, (retK (rs 48)))] (retK (rs 48))) [(0, P0 x0), (1, P0 x1), (4, x4.v), (7, .int .i64 x7), (8, .int .i64 x8), (9, .pointer x9), (28, x28.v), (29, .int .i64 x29), (30, .int .i64 x30), (87, .bool x87)] H
noncomputable def mux_Mux_fit_p1100111 (d : Nat) (m0 : Nat) (x0 : Nat) (x1 : Nat) (x4 : Sl) (x28 : Sl) (x29 : Int) (x30 : Int) (H : Heap) : Res := opq (run (X d) NN (cd 48 [1, 1, 0, 0, 1, 1, 1, 0]) (backK [(0, .ptr), (1, .ptr), (4, .sl), (28, .sl), (29, .int .i64), (30, .int .i64)] (opq (mux_Mux_fit_l110 d m0))) [(0, (retK (rs 48)))] (retK (rs 48))) [(0, P0 x0), (1, P0 x1), (4, x4.v), (28, x28.v), (29, .int .i64 x29), (30, .int .i64 x30)] H
theorem mux_Mux_fit_p110_s (d : Nat) (m0 : Nat) (x0 : Nat) (x1 : Nat) (x4 : Sl) (x28 : Sl) (x29 : Int) (x30 : Int) (H : Heap) : mux_Mux_fit_p110 d (m0 + 1) x0 x1 x4 x28 x29 x30 H =
  if (decide (x30 < x29)) = true then
  (optK x28.a fun a1 =>
    if 0 ≤ x30 ∧ x30 < (x28.n : Int) then
    optK (Heap.ld1 H (ap a1 (((x30).toNat) * 1))) fun v2 =>
    asI .i64 v2 fun n3 =>
    optK x4.a fun a4 =>
    if 0 ≤ x30 ∧ x30 < (x4.n : Int) then
    optK (Heap.ld1 H (ap (ap a4 (((x30).toNat) * 4)) 2)) fun v5 =>
    asI .i64 v5 fun n6 =>
    optK x4.a fun a7 =>
    if 0 ≤ x30 ∧ x30 < (x4.n : Int) then
    optK (Heap.ld1 H (ap (ap a7 (((x30).toNat) * 4)) 3)) fun v8 =>
    asI .i64 v8 fun n9 =>
    optK (Heap.ld1 H ⟨x1, 2, none⟩) fun v10 =>
    asB v10 fun b11 =>
    if b11 = true then
    (optK (Heap.ld1 H ⟨x1, 1, none⟩) fun v12 =>
      asI .i64 v12 fun n13 =>
      mux_Mux_fit_p110011001101 d m0 x0 x1 x4 n3 (if n6 < 1 then 1 else n6) (if n9 < 1 then 1 else n9) x28 x29 x30 (decide (n3 = n13)) H)
    else
    (mux_Mux_fit_p110011001101 d m0 x0 x1 x4 n3 (if n6 < 1 then 1 else n6) (if n9 < 1 then 1 else n9) x28 x29 x30 false H)
    else none
    else none
    else none)
  else
  (some (.tuple #[], H)) := (opq_app _ _ _).trans <| by kernel_rfl
theorem mux_Mux_fit_p110011001101_eq (d : Nat) (m0 : Nat) (x0 : Nat) (x1 : Nat) (x4 : Sl) (x6 : Int) (x7 : Int) (x8 : Int) (x28 : Sl) (x29 : Int) (x30 : Int) (x58 : Bool) (H : Heap) : mux_Mux_fit_p110011001101 d m0 x0 x1 x4 x6 x7 x8 x28 x29 x30 x58 H =
  if x58 = true then
  (optK (Heap.ld1 H ⟨x0, 0, none⟩) fun v1 =>
    asI .i64 v1 fun n2 =>
    optK (Heap.ld1 H ⟨x0, 1, none⟩) fun v3 =>
    asI .i64 v3 fun n4 =>
    mux_Mux_fit_p11001100111 d m0 x0 x1 x4 x6 n2 n4 x28 x29 x30 H)
  else
  (mux_Mux_fit_p11001100111 d m0 x0 x1 x4 x6 x7 x8 x28 x29 x30 H) := (opq_app _ _ _).trans <| by kernel_rfl
theorem mux_Mux_fit_p11001100111_eq (d : Nat) (m0 : Nat) (x0 : Nat) (x1 : Nat) (x4 : Sl) (x6 : Int) (x7 : Int) (x8 : Int) (x28 : Sl) (x29 : Int) (x30 : Int) (H : Heap) : mux_Mux_fit_p11001100111 d m0 x0 x1 x4 x6 x7 x8 x28 x29 x30 H =
  optK (Heap.ld1 H ⟨x0, 3, none⟩) fun v1 =>
  asM v1 fun r2 =>
  optK (readD (.lookup (.int .i64) (.pointer none) false) [.map r2, .int .i64 x6] H) fun v3 =>
  asP v3 fun o4 =>
  nilP o4 fun a5 =>
  optK (Heap.ld1 H (ap a5 0)) fun v6 =>
  asP v6 fun o7 =>
  callK (X d n_grid_Grid_Screen [.pointer o7] H) fun v8 H9 =>
  asA v8 fun c10 =>
  newK H9 (.cells [.int .i64 0, .int .i64 0, .slice none 0 0, .int .i64 0, .int .i64 0, .bool false] t_api_Screen false 0 false) fun p11 H12 =>
  effK (.store 6) [P0 p11, .agg c10] H12 fun _ H14 =>
  optK (Heap.ld1 H14 ⟨p11, 0, none⟩) fun v15 =>
  asI .i64 v15 fun n16 =>
  if (!decide (n16 = x7)) = true then
  (mux_Mux_fit_p110011001110111 d m0 x0 x1 x4 x7 x8 o7 x28 x29 x30 true H14)
  else
  (optK (Heap.ld1 H14 ⟨p11, 1, none⟩) fun v17 =>
    asI .i64 v17 fun n18 =>
    mux_Mux_fit_p110011001110111 d m0 x0 x1 x4 x7 x8 o7 x28 x29 x30 (!decide (n18 = x8)) H14) := (opq_app _ _ _).trans <| by kernel_rfl
theorem mux_Mux_fit_p110011001110111_eq (d : Nat) (m0 : Nat) (x0 : Nat) (x1 : Nat) (x4 : Sl) (x7 : Int) (x8 : Int) (x9 : Option Addr) (x28 : Sl) (x29 : Int) (x30 : Int) (x87 : Bool) (H : Heap) : mux_Mux_fit_p110011001110111 d m0 x0 x1 x4 x7 x8 x9 x28 x29 x30 x87 H =
  if x87 = true then
  (callK (X d n_grid_Grid_Resize [.pointer x9, .int .i64 x7, .int .i64 x8] H) fun v1 H2 =>
    asI .i64 v1 fun _ =>
    mux_Mux_fit_p1100111 d m0 x0 x1 x4 x28 x29 x30 H2)
  else
  (mux_Mux_fit_p1100111 d m0 x0 x1 x4 x28 x29 x30 H) := (opq_app _ _ _).trans <| by kernel_rfl
theorem mux_Mux_fit_p1100111_eq (d : Nat) (m0 : Nat) (x0 : Nat) (x1 : Nat) (x4 : Sl) (x28 : Sl) (x29 : Int) (x30 : Int) (H : Heap) : mux_Mux_fit_p1100111 d m0 x0 x1 x4 x28 x29 x30 H =
  mux_Mux_fit_p110 d m0 x0 x1 x4 x28 x29 (IntKind.wrap .i64 (x30 + 1)) H := (opq_app _ _ _).trans <| by kernel_rfl
theorem mux_Mux_fit_eq (d : Nat) (x0 : Nat) (x1 : Nat) (H : Heap) : X (d + 1) n_mux_Mux_fit [P0 x0, P0 x1] H =
  optK (Heap.ld1 H ⟨x1, 0, none⟩) fun v1 =>
  asP v1 fun o2 =>
  optK (Heap.ld1 H ⟨x0, 0, none⟩) fun v3 =>
  asI .i64 v3 fun n4 =>
  optK (Heap.ld1 H ⟨x0, 1, none⟩) fun v5 =>
  asI .i64 v5 fun n6 =>
  callK (X d n_layout_Tree_Places [.pointer o2, .int .i64 n4, .int .i64 n6] H) fun v7 H8 =>
  asSL v7 fun l9 =>
  optK (Heap.ld1 H8 ⟨x1, 0, none⟩) fun v10 =>
  asP v10 fun o11 =>
  callK (X d n_layout_Tree_Panes [.pointer o11] H8) fun v12 H13 =>
  asSL v12 fun l14 =>
  mux_Mux_fit_p110 d NN x0 x1 l9 l14 (l14.n : Int) 0 H13 := by kernel_rfl
end Go.Proofs.YtkkhljcjjhcnhaaGreatDoor.dec

namespace Go.Proofs.YtkkhljcjjhcnhaaGreatDoor.dec
open Go Go.Cm
/-! (*porthole/layout.Tree).Places -/
theorem layout_Tree_Places_eq (d : Nat) (x0 : Nat) (x1 : Int) (x2 : Int) (H : Heap) : X (d + 1) n_layout_Tree_Places [P0 x0, .int .i64 x1, .int .i64 x2] H =
  newK H (.cells [.slice none 0 0] t_S_api_Rect false 0 false) fun p1 H2 =>
  optK (Heap.ld1 H2 ⟨x0, 0, none⟩) fun v3 =>
  asP v3 fun o4 =>
  callK (X d n_layout_all [.int .i64 x1, .int .i64 x2] H2) fun v5 H6 =>
  asA v5 fun c7 =>
  callK (X d n_layout_node_walk [.pointer o4, .agg c7, .func (.func n_layout_Tree_Places_1) #[] #[P0 p1]] H6) fun _ H9 =>
  chk (rdsOk [H2, H6, H9] [⟨.load 1 false, [P0 x0], v3, 0, 1⟩]) (
    optK (Heap.ld1 H9 ⟨p1, 0, none⟩) fun v10 =>
    asSL v10 fun l11 =>
    some (l11.v, H9)) := by kernel_rfl
end Go.Proofs.YtkkhljcjjhcnhaaGreatDoor.dec

namespace Go.Proofs.YtkkhljcjjhcnhaaGreatDoor.dec
open Go Go.Cm
/-! (*porthole/layout.Tree).Panes -/
theorem layout_Tree_Panes_eq (d : Nat) (x0 : Nat) (H : Heap) : X (d + 1) n_layout_Tree_Panes [P0 x0] H =
  newK H (.cells [.slice none 0 0] t_S_int false 0 false) fun p1 H2 =>
  optK (Heap.ld1 H2 ⟨x0, 0, none⟩) fun v3 =>
  asP v3 fun o4 =>
  callK (X d n_layout_node_walk [.pointer o4, .agg #[.int .i64 0, .int .i64 0, .int .i64 0, .int .i64 0], .func (.func n_layout_Tree_Panes_1) #[] #[P0 p1]] H2) fun _ H6 =>
  optK (Heap.ld1 H6 ⟨p1, 0, none⟩) fun v7 =>
  asSL v7 fun l8 =>
  some (l8.v, H6) := by kernel_rfl
end Go.Proofs.YtkkhljcjjhcnhaaGreatDoor.dec

namespace Go.Proofs.YtkkhljcjjhcnhaaGreatDoor.dec
open Go Go.Cm
/-! porthole/layout.New -/
theorem layout_New_eq (d : Nat) (x0 : Int) (H : Heap) : X (d + 1) n_layout_New [.int .i64 x0] H =
  newK H (.cells [.int .i64 x0, .pointer none, .pointer none, .bool false, .int .i64 0] t_layout_node false 0 false) fun p1 H2 =>
  newK H2 (.cells [P0 p1] t_layout_Tree false 0 false) fun p3 H4 =>
  some (P0 p3, H4) := by kernel_rfl
end Go.Proofs.YtkkhljcjjhcnhaaGreatDoor.dec

namespace Go.Proofs.YtkkhljcjjhcnhaaGreatDoor.dec
open Go Go.Cm
/-! (*porthole/layout.node).walk -/
theorem layout_node_walk_eq (d : Nat) (x0 : Nat) (x1 : Array Value) (x2 : Value) (H : Heap) : X (d + 1) n_layout_node_walk [P0 x0, .agg x1, x2] H =
  effK (.box t_api_Rect) [.agg x1] H fun v1 H2 =>
  optK (readD (.load 4 true) [v1] H2) fun v3 =>
  asA v3 fun c4 =>
  callvK (X d) x2 [P0 x0, .agg c4] H2 fun _ H6 =>
  callK (X d n_layout_node_leaf [P0 x0] H6) fun v7 H8 =>
  asB v7 fun b9 =>
  if b9 = true then
  (some (.tuple #[], H8))
  else
  (optK (readD (.load 4 true) [v1] H8) fun v10 =>
    asA v10 fun c11 =>
    callK (X d n_layout_node_parts [P0 x0, .agg c11] H8) fun v12 H13 =>
    castT [.agg, .agg] v12 fun l14 =>
    castT [.agg, .agg] (.tuple ⟨l14⟩) fun l15 =>
    optK l15[0]? fun v16 =>
    asA v16 fun c17 =>
    optK l15[1]? fun v18 =>
    asA v18 fun c19 =>
    newK H13 (.cells [.int .i64 0, .int .i64 0, .int .i64 0, .int .i64 0] t_api_Rect false 0 false) fun p20 H21 =>
    newK H21 (.cells [.int .i64 0, .int .i64 0, .int .i64 0, .int .i64 0] t_api_Rect false 0 false) fun p22 H23 =>
    effK (.store 4) [P0 p20, .agg c17] H23 fun _ H25 =>
    effK (.store 4) [P0 p22, .agg c19] H25 fun _ H27 =>
    optK (Heap.ld1 H27 ⟨x0, 1, none⟩) fun v28 =>
    asP v28 fun o29 =>
    optK (ldA H27 ⟨p20, 0, none⟩ 4) fun v30 =>
    asA v30 fun c31 =>
    callK (X d n_layout_node_walk [.pointer o29, .agg c31, x2] H27) fun _ H33 =>
    optK (Heap.ld1 H33 ⟨x0, 2, none⟩) fun v34 =>
    asP v34 fun o35 =>
    optK (ldA H33 ⟨p22, 0, none⟩ 4) fun v36 =>
    asA v36 fun c37 =>
    callK (X d n_layout_node_walk [.pointer o35, .agg c37, x2] H33) fun _ H39 =>
    some (.tuple #[], H39)) := by kernel_rfl
end Go.Proofs.YtkkhljcjjhcnhaaGreatDoor.dec

namespace Go.Proofs.YtkkhljcjjhcnhaaGreatDoor.dec
open Go Go.Cm
/-! porthole/layout.all -/
theorem layout_all_eq (d : Nat) (x0 : Int) (x1 : Int) (H : Heap) : X (d + 1) n_layout_all [.int .i64 x0, .int .i64 x1] H =
  newK H (.cells [.int .i64 0, .int .i64 0, .int .i64 0, .int .i64 0] t_api_Rect false 0 false) fun p1 H2 =>
  optK (Heap.stN H2 ⟨p1, 0, none⟩ [.int .i64 0, .int .i64 0, .int .i64 (if x0 < 0 then 0 else x0), .int .i64 (if x1 < 0 then 0 else x1)]) fun H3 =>
  retK [.cell 4 4 true] [(4, P0 p1)] H3 := by kernel_rfl
end Go.Proofs.YtkkhljcjjhcnhaaGreatDoor.dec

namespace Go.Proofs.YtkkhljcjjhcnhaaGreatDoor.dec
open Go Go.Cm
/-! (*porthole/layout.Tree).Places$1 -/
theorem layout_Tree_Places_1_eq (d : Nat) (x0 : Nat) (x1 : Array Value) (x2 : Nat) (H : Heap) : X (d + 1) n_layout_Tree_Places_1 [P0 x0, .agg x1, P0 x2] H =
  effK (.box t_api_Rect) [.agg x1] H fun v1 H2 =>
  callK (X d n_layout_node_leaf [P0 x0] H2) fun v3 H4 =>
  asB v3 fun b5 =>
  if b5 = true then
  (optK (Heap.ld1 H4 ⟨x2, 0, none⟩) fun v6 =>
    asSL v6 fun l7 =>
    optK (readD (.load 4 true) [v1] H4) fun v8 =>
    asA v8 fun c9 =>
    optK (fillL [(0, 4)] [.agg c9] [.int .i64 0, .int .i64 0, .int .i64 0, .int .i64 0]) fun l10 =>
    newK H4 (.cells l10 t_api_Rect false 0 false) fun p11 H12 =>
    appendK t_api_Rect 4 32 false l7.v (.slice (some ⟨p11, 0, none⟩) 1 1) H12 fun v13 H14 =>
    asSL v13 fun l15 =>
    optK (Heap.st1 H14 ⟨x2, 0, none⟩ l15.v) fun H16 =>
    some (.tuple #[], H16))
  else
  (some (.tuple #[], H4)) := by kernel_rfl
end Go.Proofs.YtkkhljcjjhcnhaaGreatDoor.dec

namespace Go.Proofs.YtkkhljcjjhcnhaaGreatDoor.dec
open Go Go.Cm
/-! (*porthole/layout.node).leaf -/
theorem layout_node_leaf_eq (d : Nat) (x0 : Nat) (H : Heap) : X (d + 1) n_layout_node_leaf [P0 x0] H =
  optK (Heap.ld1 H ⟨x0, 1, none⟩) fun v1 =>
  asP v1 fun o2 =>
  some (.bool o2.isNone, H) := by kernel_rfl
end Go.Proofs.YtkkhljcjjhcnhaaGreatDoor.dec

namespace Go.Proofs.YtkkhljcjjhcnhaaGreatDoor.dec
open Go Go.Cm
/-! (*porthole/layout.Tree).Panes$1 -/
theorem layout_Tree_Panes_1_eq (d : Nat) (x0 : Nat) (x1 : Array Value) (x2 : Nat) (H : Heap) : X (d + 1) n_layout_Tree_Panes_1 [P0 x0, .agg x1, P0 x2] H =
  effK (.box t_api_Rect) [.agg x1] H fun _ H2 =>
  callK (X d n_layout_node_leaf [P0 x0] H2) fun v3 H4 =>
  asB v3 fun b5 =>
  if b5 = true then
  (optK (Heap.ld1 H4 ⟨x2, 0, none⟩) fun v6 =>
    asSL v6 fun l7 =>
    optK (Heap.ld1 H4 ⟨x0, 0, none⟩) fun v8 =>
    asI .i64 v8 fun n9 =>
    newK H4 (.cells [.int .i64 n9] t_int false 0 false) fun p10 H11 =>
    appendK t_int 1 8 false l7.v (.slice (some ⟨p10, 0, none⟩) 1 1) H11 fun v12 H13 =>
    asSL v12 fun l14 =>
    optK (Heap.st1 H13 ⟨x2, 0, none⟩ l14.v) fun H15 =>
    chk (rdsOk [H4, H11, H13, H15] [⟨.load 1 false, [P0 x2], v6, 0, 1⟩]) (
      some (.tuple #[], H15)))
  else
  (some (.tuple #[], H4)) := by kernel_rfl
end Go.Proofs.YtkkhljcjjhcnhaaGreatDoor.dec

namespace Go.Proofs.YtkkhljcjjhcnhaaGreatDoor.dec
open Go Go.Cm
/-! porthole/mux.New -/
theorem mux_New_eq (d : Nat) (x0 : Int) (x1 : Int) (H : Heap) : X (d + 1) n_mux_New [.int .i64 x0, .int .i64 x1] H =
  callK (X d n_grid_New [.int .i64 x0, .int .i64 x1] H) fun v1 H2 =>
  castT [.ptr, .int .i64] v1 fun l3 =>
  castT [.ptr, .int .i64] (.tuple ⟨l3⟩) fun l4 =>
  optK l4[0]? fun v5 =>
  asP v5 fun _ =>
  optK l4[1]? fun v7 =>
  asI .i64 v7 fun n8 =>
  if (!decide (n8 = 0)) = true then
  (some (.tuple #[.pointer none, .int .i64 n8], H2))
  else
  (effK (.mapE .mk) [] H2 fun v9 H10 =>
    asM v9 fun r11 =>
    effK (.mapE .mk) [] H10 fun v12 H13 =>
    asM v12 fun r14 =>
    newK H13 (.cells [.int .i64 x0, .int .i64 x1, .map r11, .map r14, .int .i64 0, .slice none 0 0] t_mux_Mux false 0 false) fun p15 H16 =>
    some (.tuple #[P0 p15, .int .i64 0], H16)) := by kernel_rfl
end Go.Proofs.YtkkhljcjjhcnhaaGreatDoor.dec

namespace Go.Proofs.YtkkhljcjjhcnhaaGreatDoor.dec
open Go Go.Cm
/-! (*porthole/mux.Mux).NewSession -/
theorem mux_Mux_NewSession_eq (d : Nat) (x0 : Nat) (x1 : ByteArray) (H : Heap) : X (d + 1) n_mux_Mux_NewSession [P0 x0, .string x1] H =
  optK (Heap.ld1 H ⟨x0, 2, none⟩) fun v1 =>
  asM v1 fun r2 =>
  optK (readD (.lookup (.str) (.pointer none) true) [.map r2, .string x1] H) fun v3 =>
  castT [.ptr, .bool] v3 fun l4 =>
  castT [.ptr, .bool] (.tuple ⟨l4⟩) fun l5 =>
  optK l5[0]? fun v6 =>
  asP v6 fun _ =>
  optK l5[1]? fun v8 =>
  asB v8 fun b9 =>
  callK (X d n_mux_Right [.string x1] H) fun v10 H11 =>
  asB v10 fun b12 =>
  if (!b12) = true then
  (some (.int .i64 1, H11))
  else
  (if b9 = true then
    (some (.int .i64 15, H11))
    else
    (optK (Heap.ld1 H11 ⟨x0, 2, none⟩) fun v13 =>
      asM v13 fun r14 =>
      optK (readD (.lenMap) [.map r14] H11) fun v15 =>
      asI .i64 v15 fun n16 =>
      if (decide ((8 : Int) ≤ n16)) = true then
      (some (.int .i64 2, H11))
      else
      (optK (Heap.ld1 H11 ⟨x0, 2, none⟩) fun v17 =>
        asM v17 fun r18 =>
        callK (X d n_mux_Mux_fresh [P0 x0] H11) fun v19 H20 =>
        asP v19 fun o21 =>
        newK H20 (.cells [.pointer o21] t_P_mux_window false 0 false) fun p22 H23 =>
        newK H23 (.cells [.slice (some ⟨p22, 0, none⟩) 1 1, .int .i64 0] t_mux_session false 0 false) fun p24 H25 =>
        effK (.mapE (.upd (.str))) [.map r18, .string x1, P0 p24] H25 fun _ H27 =>
        chk (rdsOk [H11, H20, H23, H25, H27] [⟨.load 1 false, [.pointer (some ⟨x0, 2, none⟩)], v17, 0, 3⟩]) (
          some (.int .i64 0, H27))))) := by kernel_rfl
end Go.Proofs.YtkkhljcjjhcnhaaGreatDoor.dec

namespace Go.Proofs.YtkkhljcjjhcnhaaGreatDoor.dec
open Go Go.Cm
/-! porthole/mux.Right -/
noncomputable def mux_Right_k11 (d : Nat) : Kt := run (X d) NN (cd 31 [1, 1]) (retK (rs 31)) [] (retK (rs 31))
noncomputable def mux_Right_l1010 (d : Nat) (m0 : Nat) : Kt := iter (fun k => run (X d) NN (cd 31 [1, 0, 1, 0, 0]) (backK [(0, .str), (3, .int .i64)] (opq k)) [(0, (mux_Right_k11 d))] (retK (rs 31))) m0
noncomputable def mux_Right_k1010011 (d : Nat) (m0 : Nat) : Kt := run (X d) NN (cd 31 [1, 0, 1, 0, 0, 1, 1]) (backK [(0, .str), (3, .int .i64)] (opq (mux_Right_l1010 d m0))) [(0, (mux_Right_k11 d))] (retK (rs 31))
noncomputable def mux_Right_p1010 (d : Nat) (m0 : Nat) (x0 : ByteArray) (x3 : Int) (H : Heap) : Res := opq (mux_Right_l1010 d m0) [(0, .string x0), (3, .int .i64 x3)] H
noncomputable def mux_Right_p1010010011 (d : Nat) (m0 : Nat) (x0 : ByteArray) (x3 : Int) (x31 : Bool) (H : Heap) : Res := opq (run (X d) NN (cd 31 [1, 0, 1, 0, 0, 1, 0, 0, 1, 1, 0]) (mux_Right_k1010011 d m0) [(1, (mux_Right_k1010011 d m0)), (0, (mux_Right_k11 d))] (retK (rs 31))) [(0, .string x0), (3, .int .i64 x3), (31, .bool x31)] H
theorem mux_Right_p1010_s (d : Nat) (m0 : Nat) (x0 : ByteArray) (x3 : Int) (H : Heap) : mux_Right_p1010 d (m0 + 1) x0 x3 H =
  if (decide (x3 < (slen x0 : Int))) = true then
  (if 0 ≤ x3 ∧ x3 < (slen x0 : Int) then
    if (decide (bt x0 ((x3).toNat) < 97)) = true then
    (if (decide (bt x0 ((x3).toNat) < 48)) = true then
      (mux_Right_p1010010011 d m0 x0 x3 (!decide (bt x0 ((x3).toNat) = 45)) H)
      else
      (if (decide ((57 : Int) < bt x0 ((x3).toNat))) = true then
        (mux_Right_p1010010011 d m0 x0 x3 (!decide (bt x0 ((x3).toNat) = 45)) H)
        else
        (mux_Right_p1010010011 d m0 x0 x3 false H)))
    else
    (if (decide ((122 : Int) < bt x0 ((x3).toNat))) = true then
      (if (decide (bt x0 ((x3).toNat) < 48)) = true then
        (mux_Right_p1010010011 d m0 x0 x3 (!decide (bt x0 ((x3).toNat) = 45)) H)
        else
        (if (decide ((57 : Int) < bt x0 ((x3).toNat))) = true then
          (mux_Right_p1010010011 d m0 x0 x3 (!decide (bt x0 ((x3).toNat) = 45)) H)
          else
          (mux_Right_p1010010011 d m0 x0 x3 false H)))
      else
      (mux_Right_p1010010011 d m0 x0 x3 false H))
    else none)
  else
  (if (!sEq x0 (S [])) = true then
    (some (.bool (decide ((slen x0 : Int) ≤ 20)), H))
    else
    (some (.bool false, H))) := (opq_app _ _ _).trans <| by kernel_rfl
theorem mux_Right_p1010010011_eq (d : Nat) (m0 : Nat) (x0 : ByteArray) (x3 : Int) (x31 : Bool) (H : Heap) : mux_Right_p1010010011 d m0 x0 x3 x31 H =
  if x31 = true then
  (some (.bool false, H))
  else
  (mux_Right_p1010 d m0 x0 (IntKind.wrap .i64 (x3 + 1)) H) := (opq_app _ _ _).trans <| by kernel_rfl
theorem mux_Right_eq (d : Nat) (x0 : ByteArray) (H : Heap) : X (d + 1) n_mux_Right [.string x0] H =
  mux_Right_p1010 d NN x0 0 H := by kernel_rfl
end Go.Proofs.YtkkhljcjjhcnhaaGreatDoor.dec

namespace Go.Proofs.YtkkhljcjjhcnhaaGreatDoor.dec
open Go Go.Cm
/-! (*porthole/mux.Mux).Output -/
theorem mux_Mux_Output_eq (d : Nat) (x0 : Nat) (x1 : Int) (x2 : Sl) (H : Heap) : X (d + 1) n_mux_Mux_Output [P0 x0, .int .i64 x1, x2.v] H =
  optK (Heap.ld1 H ⟨x0, 3, none⟩) fun v1 =>
  asM v1 fun r2 =>
  optK (readD (.lookup (.int .i64) (.pointer none) true) [.map r2, .int .i64 x1] H) fun v3 =>
  castT [.ptr, .bool] v3 fun l4 =>
  castT [.ptr, .bool] (.tuple ⟨l4⟩) fun l5 =>
  optK l5[0]? fun v6 =>
  asP v6 fun o7 =>
  optK l5[1]? fun v8 =>
  asB v8 fun b9 =>
  if (!b9) = true then
  (some (.int .i64 3, H))
  else
  (nilP o7 fun a10 =>
    optK (Heap.ld1 H (ap a10 0)) fun v11 =>
    asP v11 fun o12 =>
    callK (X d n_grid_Grid_Write [.pointer o12, x2.v] H) fun _ H14 =>
    some (.int .i64 0, H14)) := by kernel_rfl
end Go.Proofs.YtkkhljcjjhcnhaaGreatDoor.dec

namespace Go.Proofs.YtkkhljcjjhcnhaaGreatDoor.dec
open Go Go.Cm
/-! (*porthole/mux.Mux).Buffers -/
theorem mux_Mux_Buffers_eq (d : Nat) (x0 : Nat) (H : Heap) : X (d + 1) n_mux_Mux_Buffers [P0 x0] H =
  newK H (.cells [] t_string false 0 false) fun p1 H2 =>
  optK (Heap.ld1 H2 ⟨x0, 5, none⟩) fun v3 =>
  asSL v3 fun l4 =>
  appendK t_string 1 16 false (.slice (some ⟨p1, 0, none⟩) 0 0) l4.v H2 fun v5 H6 =>
  asSL v5 fun l7 =>
  some (l7.v, H6) := by kernel_rfl
end Go.Proofs.YtkkhljcjjhcnhaaGreatDoor.dec

namespace Go.Proofs.YtkkhljcjjhcnhaaGreatDoor.dec
open Go Go.Cm
/-! (*porthole/mux.Mux).Paste -/
noncomputable def mux_Mux_Paste_k11 (d : Nat) : Kt := run (X d) NN (cd 22 [1, 1]) (retK (rs 22)) [] (retK (rs 22))
noncomputable def mux_Mux_Paste_p100111 (d : Nat) (x0 : Nat) (x1 : ByteArray) (x2 : Int) (x12 : Bool) (H : Heap) : Res := opq (run (X d) NN (cd 22 [1, 0, 0, 1, 1, 1, 0]) (mux_Mux_Paste_k11 d) [(0, (mux_Mux_Paste_k11 d))] (retK (rs 22))) [(0, P0 x0), (1, .string x1), (2, .int .i64 x2), (12, .bool x12)] H
theorem mux_Mux_Paste_p100111_eq (d : Nat) (x0 : Nat) (x1 : ByteArray) (x2 : Int) (x12 : Bool) (H : Heap) : mux_Mux_Paste_p100111 d x0 x1 x2 x12 H =
  if x12 = true then
  (some (.int .i64 3, H))
  else
  (optK (Heap.ld1 H ⟨x0, 5, none⟩) fun v1 =>
    asSL v1 fun l2 =>
    optK l2.a fun a3 =>
    if 0 ≤ x2 ∧ x2 < (l2.n : Int) then
    optK (Heap.ld1 H (ap a3 (((x2).toNat) * 1))) fun v4 =>
    asS v4 fun s5 =>
    newK H (.cells ((lst s5).map fun b => .int .u8 b.toNat) t_uint8 true 0 true) fun p6 H7 =>
    callK (X d n_mux_Mux_Input [P0 x0, .string x1, .slice (some ⟨p6, 0, none⟩) (slen s5) (slen s5)] H7) fun v8 H9 =>
    asI .i64 v8 fun n10 =>
    some (.int .i64 n10, H9)
    else none) := (opq_app _ _ _).trans <| by kernel_rfl
theorem mux_Mux_Paste_eq (d : Nat) (x0 : Nat) (x1 : ByteArray) (x2 : Int) (H : Heap) : X (d + 1) n_mux_Mux_Paste [P0 x0, .string x1, .int .i64 x2] H =
  callK (X d n_mux_Mux_window [P0 x0, .string x1] H) fun v1 H2 =>
  asP v1 fun o3 =>
  if o3.isNone = true then
  (some (.int .i64 14, H2))
  else
  (if (decide (x2 < 0)) = true then
    (mux_Mux_Paste_p100111 d x0 x1 x2 true H2)
    else
    (optK (Heap.ld1 H2 ⟨x0, 5, none⟩) fun v4 =>
      asSL v4 fun l5 =>
      mux_Mux_Paste_p100111 d x0 x1 x2 (decide ((l5.n : Int) ≤ x2)) H2)) := by kernel_rfl
end Go.Proofs.YtkkhljcjjhcnhaaGreatDoor.dec

namespace Go.Proofs.YtkkhljcjjhcnhaaGreatDoor.dec
open Go Go.Cm
/-! (*porthole/mux.Mux).Take -/
theorem mux_Mux_Take_eq (d : Nat) (x0 : Nat) (x1 : Int) (x2 : Int) (H : Heap) : X (d + 1) n_mux_Mux_Take [P0 x0, .int .i64 x1, .int .i64 x2] H =
  optK (Heap.ld1 H ⟨x0, 3, none⟩) fun v1 =>
  asM v1 fun r2 =>
  optK (readD (.lookup (.int .i64) (.pointer none) true) [.map r2, .int .i64 x1] H) fun v3 =>
  castT [.ptr, .bool] v3 fun l4 =>
  castT [.ptr, .bool] (.tuple ⟨l4⟩) fun l5 =>
  optK l5[0]? fun v6 =>
  asP v6 fun o7 =>
  optK l5[1]? fun v8 =>
  asB v8 fun b9 =>
  if (!b9) = true then
  (some (.tuple #[.slice none 0 0, .bool false], H))
  else
  (nilP o7 fun a10 =>
    optK (Heap.ld1 H (ap a10 1)) fun v11 =>
    asSL v11 fun l12 =>
    newK H (.cells [] t_uint8 false 0 false) fun p13 H14 =>
    nilP o7 fun a15 =>
    optK (Heap.ld1 H14 (ap a15 1)) fun v16 =>
    asSL v16 fun l17 =>
    optK (readD (.subSl t_uint8 1 false true false) [l17.v, .int .i64 (if (l12.n : Int) < (if x2 < 0 then 0 else x2) then (l12.n : Int) else (if x2 < 0 then 0 else x2))] H14) fun v18 =>
    asSL v18 fun l19 =>
    appendK t_uint8 1 1 false (.slice (some ⟨p13, 0, none⟩) 0 0) l19.v H14 fun v20 H21 =>
    asSL v20 fun l22 =>
    newK H21 (.cells [] t_uint8 false 0 false) fun p23 H24 =>
    nilP o7 fun a25 =>
    optK (Heap.ld1 H24 (ap a25 1)) fun v26 =>
    asSL v26 fun l27 =>
    optK (readD (.subSl t_uint8 1 true false false) [l27.v, .int .i64 (if (l12.n : Int) < (if x2 < 0 then 0 else x2) then (l12.n : Int) else (if x2 < 0 then 0 else x2))] H24) fun v28 =>
    asSL v28 fun l29 =>
    appendK t_uint8 1 1 false (.slice (some ⟨p23, 0, none⟩) 0 0) l29.v H24 fun v30 H31 =>
    asSL v30 fun l32 =>
    nilP o7 fun a33 =>
    optK (Heap.st1 H31 (ap a33 1) l32.v) fun H34 =>
    some (.tuple #[l22.v, .bool true], H34)) := by kernel_rfl
end Go.Proofs.YtkkhljcjjhcnhaaGreatDoor.dec

namespace Go.Proofs.YtkkhljcjjhcnhaaGreatDoor.dec
open Go Go.Cm
/-! (*porthole/mux.Mux).window -/
theorem mux_Mux_window_eq (d : Nat) (x0 : Nat) (x1 : ByteArray) (H : Heap) : X (d + 1) n_mux_Mux_window [P0 x0, .string x1] H =
  optK (Heap.ld1 H ⟨x0, 2, none⟩) fun v1 =>
  asM v1 fun r2 =>
  optK (readD (.lookup (.str) (.pointer none) true) [.map r2, .string x1] H) fun v3 =>
  castT [.ptr, .bool] v3 fun l4 =>
  castT [.ptr, .bool] (.tuple ⟨l4⟩) fun l5 =>
  optK l5[0]? fun v6 =>
  asP v6 fun o7 =>
  optK l5[1]? fun v8 =>
  asB v8 fun b9 =>
  if (!b9) = true then
  (some (.pointer none, H))
  else
  (nilP o7 fun a10 =>
    optK (Heap.ld1 H (ap a10 0)) fun v11 =>
    asSL v11 fun l12 =>
    nilP o7 fun a13 =>
    optK (Heap.ld1 H (ap a13 1)) fun v14 =>
    asI .i64 v14 fun n15 =>
    optK l12.a fun a16 =>
    if 0 ≤ n15 ∧ n15 < (l12.n : Int) then
    optK (Heap.ld1 H (ap a16 (((n15).toNat) * 1))) fun v17 =>
    asP v17 fun o18 =>
    some (.pointer o18, H)
    else none) := by kernel_rfl
end Go.Proofs.YtkkhljcjjhcnhaaGreatDoor.dec

namespace Go.Proofs.YtkkhljcjjhcnhaaGreatDoor.dec
open Go Go.Cm
/-! (*porthole/mux.Mux).Input -/
theorem mux_Mux_Input_eq (d : Nat) (x0 : Nat) (x1 : ByteArray) (x2 : Sl) (H : Heap) : X (d + 1) n_mux_Mux_Input [P0 x0, .string x1, x2.v] H =
  callK (X d n_mux_Mux_window [P0 x0, .string x1] H) fun v1 H2 =>
  asP v1 fun o3 =>
  if o3.isNone = true then
  (some (.int .i64 14, H2))
  else
  (optK (Heap.ld1 H2 ⟨x0, 3, none⟩) fun v4 =>
    asM v4 fun r5 =>
    nilP o3 fun a6 =>
    optK (Heap.ld1 H2 (ap a6 1)) fun v7 =>
    asI .i64 v7 fun n8 =>
    optK (readD (.lookup (.int .i64) (.pointer none) false) [.map r5, .int .i64 n8] H2) fun v9 =>
    asP v9 fun o10 =>
    nilP o10 fun a11 =>
    optK (Heap.ld1 H2 (ap a11 1)) fun v12 =>
    asSL v12 fun l13 =>
    if (decide (IntKind.wrap .i64 (4096 - (l13.n : Int)) < (x2.n : Int))) = true then
    (some (.int .i64 2, H2))
    else
    (nilP o10 fun a14 =>
      optK (Heap.ld1 H2 (ap a14 1)) fun v15 =>
      asSL v15 fun l16 =>
      appendK t_uint8 1 1 false l16.v x2.v H2 fun v17 H18 =>
      asSL v17 fun l19 =>
      nilP o10 fun a20 =>
      optK (Heap.st1 H18 (ap a20 1) l19.v) fun H21 =>
      some (.int .i64 0, H21))) := by kernel_rfl
end Go.Proofs.YtkkhljcjjhcnhaaGreatDoor.dec

namespace Go.Proofs.YtkkhljcjjhcnhaaGreatDoor.dec
open Go Go.Cm
/-! (*porthole/mux.Mux).Copy -/
noncomputable def mux_Mux_Copy_k11111111 (d : Nat) : Kt := run (X d) NN (cd 20 [1, 1, 1, 1, 1, 1, 1, 1]) (retK (rs 20)) [] (retK (rs 20))
noncomputable def mux_Mux_Copy_l1111111010 (d : Nat) (m0 : Nat) : Kt := iter (fun k => run (X d) NN (cd 20 [1, 1, 1, 1, 1, 1, 1, 0, 1, 0, 0]) (backK [(0, .ptr), (12, .sl), (59, .sl), (60, .int .i64), (61, .int .i64)] (opq k)) [(1, (mux_Mux_Copy_k11111111 d))] (retK (rs 20))) m0
noncomputable def mux_Mux_Copy_p1111111010 (d : Nat) (m0 : Nat) (x0 : Nat) (x12 : Sl) (x59 : Sl) (x60 : Int) (x61 : Int) (H : Heap) : Res := opq (mux_Mux_Copy_l1111111010 d m0) [(0, P0 x0), (12, x12.v), (59, x59.v), (60, .int .i64 x60), (61, .int .i64 x61)] H
theorem mux_Mux_Copy_p1111111010_s (d : Nat) (m0 : Nat) (x0 : Nat) (x12 : Sl) (x59 : Sl) (x60 : Int) (x61 : Int) (H : Heap) : mux_Mux_Copy_p1111111010 d (m0 + 1) x0 x12 x59 x60 x61 H =
  if (decide (x61 < x60)) = true then
  (optK x59.a fun a1 =>
    if 0 ≤ x61 ∧ x61 < (x59.n : Int) then
    optK (Heap.ld1 H (ap a1 (((x61).toNat) * 1))) fun v2 =>
    asSL v2 fun l3 =>
    callK (X d n_grid_Text [l3.v] H) fun v4 H5 =>
    asS v4 fun s6 =>
    newK H5 (.cells [.string s6] t_string false 0 false) fun p7 H8 =>
    appendK t_string 1 16 false x12.v (.slice (some ⟨p7, 0, none⟩) 1 1) H8 fun v9 H10 =>
    asSL v9 fun l11 =>
    mux_Mux_Copy_p1111111010 d m0 x0 l11 x59 x60 (IntKind.wrap .i64 (x61 + 1)) H10
    else none)
  else
  (callK (X d n_strings_Join [x12.v, .string (S [10])] H) fun v12 H13 =>
    asS v12 fun s14 =>
    newK H13 (.cells [.string s14] t_string false 0 false) fun p15 H16 =>
    optK (Heap.ld1 H16 ⟨x0, 5, none⟩) fun v17 =>
    asSL v17 fun l18 =>
    appendK t_string 1 16 false (.slice (some ⟨p15, 0, none⟩) 1 1) l18.v H16 fun v19 H20 =>
    asSL v19 fun l21 =>
    optK (Heap.st1 H20 ⟨x0, 5, none⟩ l21.v) fun H22 =>
    chk (rdsOk [H, H13, H16, H20, H22] [⟨.load 1 false, [.pointer (some ⟨x0, 5, none⟩)], v17, 0, 2⟩]) (
      optK (Heap.ld1 H22 ⟨x0, 5, none⟩) fun v23 =>
      asSL v23 fun l24 =>
      optK (Heap.ld1 H22 ⟨x0, 5, none⟩) fun v25 =>
      asSL v25 fun l26 =>
      optK (readD (.subSl t_string 1 false true false) [l24.v, .int .i64 (if 6 < (l26.n : Int) then 6 else (l26.n : Int))] H22) fun v27 =>
      asSL v27 fun l28 =>
      optK (Heap.st1 H22 ⟨x0, 5, none⟩ l28.v) fun H29 =>
      some (.int .i64 0, H29))) := (opq_app _ _ _).trans <| by kernel_rfl
theorem mux_Mux_Copy_eq (d : Nat) (x0 : Nat) (x1 : ByteArray) (x2 : Int) (x3 : Int) (H : Heap) : X (d + 1) n_mux_Mux_Copy [P0 x0, .string x1, .int .i64 x2, .int .i64 x3] H =
  callK (X d n_mux_Mux_window [P0 x0, .string x1] H) fun v1 H2 =>
  asP v1 fun o3 =>
  if o3.isNone = true then
  (some (.int .i64 14, H2))
  else
  (if (decide (x3 < x2)) = true then
    (some (.int .i64 1, H2))
    else
    (optK (Heap.ld1 H2 ⟨x0, 3, none⟩) fun v4 =>
      asM v4 fun r5 =>
      nilP o3 fun a6 =>
      optK (Heap.ld1 H2 (ap a6 1)) fun v7 =>
      asI .i64 v7 fun n8 =>
      optK (readD (.lookup (.int .i64) (.pointer none) false) [.map r5, .int .i64 n8] H2) fun v9 =>
      asP v9 fun o10 =>
      nilP o10 fun a11 =>
      optK (Heap.ld1 H2 (ap a11 0)) fun v12 =>
      asP v12 fun o13 =>
      callK (X d n_grid_Grid_Past [.pointer o13] H2) fun v14 H15 =>
      asSL v14 fun l16 =>
      callK (X d n_grid_Grid_Screen [.pointer o13] H15) fun v17 H18 =>
      asA v17 fun c19 =>
      optK (partL c19.toList 2 1 false) fun v20 =>
      asSL v20 fun l21 =>
      appendK t_S_api_Cell 1 24 false l16.v l21.v H18 fun v22 H23 =>
      asSL v22 fun l24 =>
      optK (readD (.subSl t_S_api_Cell 1 true true false) [l24.v, .int .i64 (if (IntKind.wrap .i64 ((l24.n : Int) - 1)) < (if x2 < 0 then 0 else x2) then (IntKind.wrap .i64 ((l24.n : Int) - 1)) else (if x2 < 0 then 0 else x2)), .int .i64 (IntKind.wrap .i64 ((if (IntKind.wrap .i64 ((l24.n : Int) - 1)) < (if x3 < 0 then 0 else x3) then (IntKind.wrap .i64 ((l24.n : Int) - 1)) else (if x3 < 0 then 0 else x3)) + 1))] H23) fun v25 =>
      asSL v25 fun l26 =>
      mux_Mux_Copy_p1111111010 d NN x0 Sl.nil l26 (l26.n : Int) 0 H23)) := by kernel_rfl
end Go.Proofs.YtkkhljcjjhcnhaaGreatDoor.dec

namespace Go.Proofs.YtkkhljcjjhcnhaaGreatDoor.dec
open Go Go.Cm
/-! porthole/portholelaw23.MuxBuffers -/
noncomputable def law23_MuxBuffers_k111 (d : Nat) : Kt := run (X d) NN (cd 5 [1, 1, 1]) (retK (rs 5)) [] (retK (rs 5))
noncomputable def law23_MuxBuffers_k11111 (d : Nat) : Kt := run (X d) NN (cd 5 [1, 1, 1, 1, 1]) (retK (rs 5)) [] (retK (rs 5))
noncomputable def law23_MuxBuffers_k1111111 (d : Nat) : Kt := run (X d) NN (cd 5 [1, 1, 1, 1, 1, 1, 1]) (retK (rs 5)) [] (retK (rs 5))
noncomputable def law23_MuxBuffers_k11111111111 (d : Nat) : Kt := run (X d) NN (cd 5 [1, 1, 1, 1, 1, 1, 1, 1, 1, 1, 1]) (retK (rs 5)) [] (retK (rs 5))
noncomputable def law23_MuxBuffers_l1111111111010 (d : Nat) (m0 : Nat) : Kt := iter (fun k => run (X d) NN (cd 5 [1, 1, 1, 1, 1, 1, 1, 1, 1, 1, 0, 1, 0, 0]) (backK [(5, .ptr), (10, .sl), (16, .sl), (17, .int .i64)] (opq k)) [(6, (law23_MuxBuffers_k11111111111 d))] (retK (rs 5))) m0
noncomputable def law23_MuxBuffers_k1111111111010011 (d : Nat) (m0 : Nat) : Kt := run (X d) NN (cd 5 [1, 1, 1, 1, 1, 1, 1, 1, 1, 1, 0, 1, 0, 0, 1, 1]) (backK [(5, .ptr), (10, .sl), (16, .sl), (17, .int .i64)] (opq (law23_MuxBuffers_l1111111111010 d m0))) [(6, (law23_MuxBuffers_k11111111111 d))] (retK (rs 5))
noncomputable def law23_MuxBuffers_k111111111101001001 (d : Nat) (m0 : Nat) : Kt := run (X d) NN (cd 5 [1, 1, 1, 1, 1, 1, 1, 1, 1, 1, 0, 1, 0, 0, 1, 0, 0, 1]) (law23_MuxBuffers_k1111111111010011 d m0) [(7, (law23_MuxBuffers_k1111111111010011 d m0)), (6, (law23_MuxBuffers_k11111111111 d))] (retK (rs 5))
noncomputable def law23_MuxBuffers_l111111010 (d : Nat) (m0 : Nat) : Kt := iter (fun k => run (X d) NN (cd 5 [1, 1, 1, 1, 1, 1, 0, 1, 0, 0]) (backK [(1, .int .i64), (5, .ptr), (7, .sl), (10, .sl), (11, .int .i64)] (opq k)) [(2, (law23_MuxBuffers_k1111111 d))] (retK (rs 5))) m0
noncomputable def law23_MuxBuffers_k11111101001 (d : Nat) (m0 : Nat) : Kt := run (X d) NN (cd 5 [1, 1, 1, 1, 1, 1, 0, 1, 0, 0, 1]) (backK [(1, .int .i64), (5, .ptr), (7, .sl), (10, .sl), (11, .int .i64)] (opq (law23_MuxBuffers_l111111010 d m0))) [(2, (law23_MuxBuffers_k1111111 d))] (retK (rs 5))
noncomputable def law23_MuxBuffers_k111111010011 (d : Nat) (m0 : Nat) : Kt := run (X d) NN (cd 5 [1, 1, 1, 1, 1, 1, 0, 1, 0, 0, 1, 1]) (backK [(1, .int .i64), (5, .ptr), (7, .sl), (10, .sl), (11, .int .i64)] (opq (law23_MuxBuffers_l111111010 d m0))) [(2, (law23_MuxBuffers_k1111111 d))] (retK (rs 5))
noncomputable def law23_MuxBuffers_k111111010010011111 (d : Nat) (m0 : Nat) : Kt := run (X d) NN (cd 5 [1, 1, 1, 1, 1, 1, 0, 1, 0, 0, 1, 0, 0, 1, 1, 1, 1, 1]) (law23_MuxBuffers_k111111010011 d m0) [(3, (law23_MuxBuffers_k111111010011 d m0)), (2, (law23_MuxBuffers_k1111111 d))] (retK (rs 5))
noncomputable def law23_MuxBuffers_l11111101001001111010 (d : Nat) (m0 : Nat) (m1 : Nat) : Kt := iter (fun k => run (X d) NN (cd 5 [1, 1, 1, 1, 1, 1, 0, 1, 0, 0, 1, 0, 0, 1, 1, 1, 1, 0, 1, 0, 0]) (backK [(1, .int .i64), (5, .ptr), (7, .sl), (10, .sl), (11, .int .i64), (13, .int .i64), (14, .str), (15, .int .i64)] (opq k)) [(4, (law23_MuxBuffers_k111111010010011111 d m0)), (3, (law23_MuxBuffers_k111111010011 d m0)), (2, (law23_MuxBuffers_k1111111 d))] (retK (rs 5))) m1
noncomputable def law23_MuxBuffers_l1111010 (d : Nat) (m0 : Nat) : Kt := iter (fun k => run (X d) NN (cd 5 [1, 1, 1, 1, 0, 1, 0, 0]) (backK [(0, .sl), (1, .int .i64), (5, .ptr), (7, .sl), (8, .int .i64)] (opq k)) [(0, (law23_MuxBuffers_k11111 d))] (retK (rs 5))) m0
noncomputable def law23_MuxBuffers_k111101001 (d : Nat) (m0 : Nat) : Kt := run (X d) NN (cd 5 [1, 1, 1, 1, 0, 1, 0, 0, 1]) (backK [(0, .sl), (1, .int .i64), (5, .ptr), (7, .sl), (8, .int .i64)] (opq (law23_MuxBuffers_l1111010 d m0))) [(0, (law23_MuxBuffers_k11111 d))] (retK (rs 5))
noncomputable def law23_MuxBuffers_k1111010011 (d : Nat) (m0 : Nat) : Kt := run (X d) NN (cd 5 [1, 1, 1, 1, 0, 1, 0, 0, 1, 1]) (backK [(0, .sl), (1, .int .i64), (5, .ptr), (7, .sl), (8, .int .i64)] (opq (law23_MuxBuffers_l1111010 d m0))) [(0, (law23_MuxBuffers_k11111 d))] (retK (rs 5))
noncomputable def law23_MuxBuffers_p1101 (d : Nat) (x0 : Sl) (x1 : Int) (x5 : Option Addr) (x38 : Bool) (H : Heap) : Res := opq (run (X d) NN (cd 5 [1, 1, 0, 1, 0]) (law23_MuxBuffers_k111 d) [] (retK (rs 5))) [(0, x0.v), (1, .int .i64 x1), (5, .pointer x5), (38, .bool x38)] H
noncomputable def law23_MuxBuffers_p1111010 (d : Nat) (m0 : Nat) (x0 : Sl) (x1 : Int) (x5 : Option Addr) (x7 : Sl) (x8 : Int) (H : Heap) : Res := opq (law23_MuxBuffers_l1111010 d m0) [(0, x0.v), (1, .int .i64 x1), (5, .pointer x5), (7, x7.v), (8, .int .i64 x8)] H
noncomputable def law23_MuxBuffers_p1111010001 (d : Nat) (m0 : Nat) (x0 : Sl) (x1 : Int) (x5 : Option Addr) (x7 : Sl) (x8 : Int) (x46 : Bool) (H : Heap) : Res := opq (run (X d) NN (cd 5 [1, 1, 1, 1, 0, 1, 0, 0, 0, 1, 0]) (law23_MuxBuffers_k111101001 d m0) [(0, (law23_MuxBuffers_k11111 d))] (retK (rs 5))) [(0, x0.v), (1, .int .i64 x1), (5, .pointer x5), (7, x7.v), (8, .int .i64 x8), (46, .bool x46)] H
noncomputable def law23_MuxBuffers_p1111010010011 (d : Nat) (m0 : Nat) (x0 : Sl) (x1 : Int) (x5 : Option Addr) (x7 : Sl) (x8 : Int) (x9 : ByteArray) (H : Heap) : Res := opq (run (X d) NN (cd 5 [1, 1, 1, 1, 0, 1, 0, 0, 1, 0, 0, 1, 1, 0]) (law23_MuxBuffers_k1111010011 d m0) [(1, (law23_MuxBuffers_k1111010011 d m0)), (0, (law23_MuxBuffers_k11111 d))] (retK (rs 5))) [(0, x0.v), (1, .int .i64 x1), (5, .pointer x5), (7, x7.v), (8, .int .i64 x8), (9, .string x9)] H
noncomputable def law23_MuxBuffers_p111111010 (d : Nat) (m0 : Nat) (x1 : Int) (x5 : Option Addr) (x7 : Sl) (x10 : Sl) (x11 : Int) (H : Heap) : Res := opq (law23_MuxBuffers_l111111010 d m0) [(1, .int .i64 x1), (5, .pointer x5), (7, x7.v), (10, x10.v), (11, .int .i64 x11)] H
noncomputable def law23_MuxBuffers_p111111010001 (d : Nat) (m0 : Nat) (x1 : Int) (x5 : Option Addr) (x7 : Sl) (x10 : Sl) (x11 : Int) (x78 : Bool) (H : Heap) : Res := opq (run (X d) NN (cd 5 [1, 1, 1, 1, 1, 1, 0, 1, 0, 0, 0, 1, 0]) (law23_MuxBuffers_k11111101001 d m0) [(2, (law23_MuxBuffers_k1111111 d))] (retK (rs 5))) [(1, .int .i64 x1), (5, .pointer x5), (7, x7.v), (10, x10.v), (11, .int .i64 x11), (78, .bool x78)] H
noncomputable def law23_MuxBuffers_p11111101001001111010 (d : Nat) (m0 : Nat) (m1 : Nat) (x1 : Int) (x5 : Option Addr) (x7 : Sl) (x10 : Sl) (x11 : Int) (x13 : Int) (x14 : ByteArray) (x15 : Int) (H : Heap) : Res := opq (law23_MuxBuffers_l11111101001001111010 d m0 m1) [(1, .int .i64 x1), (5, .pointer x5), (7, x7.v), (10, x10.v), (11, .int .i64 x11), (13, .int .i64 x13), (14, .string x14), (15, .int .i64 x15)] H
noncomputable def law23_MuxBuffers_p1111111111010 (d : Nat) (m0 : Nat) (x5 : Option Addr) (x10 : Sl) (x16 : Sl) (x17 : Int) (H : Heap) : Res := opq (law23_MuxBuffers_l1111111111010 d m0) [(5, .pointer x5), (10, x10.v), (16, x16.v), (17, .int .i64 x17)] H
noncomputable def law23_MuxBuffers_p1111111111010010001 (d : Nat) (m0 : Nat) (x5 : Option Addr) (x10 : Sl) (x16 : Sl) (x17 : Int) (x153 : Bool) (H : Heap) : Res := opq (run (X d) NN (cd 5 [1, 1, 1, 1, 1, 1, 1, 1, 1, 1, 0, 1, 0, 0, 1, 0, 0, 0, 1, 0]) (law23_MuxBuffers_k111111111101001001 d m0) [(7, (law23_MuxBuffers_k1111111111010011 d m0)), (6, (law23_MuxBuffers_k11111111111 d))] (retK (rs 5))) [(5, .pointer x5), (10, x10.v), (16, x16.v), (17, .int .i64 x17), (153, .bool x153)] H
theorem law23_MuxBuffers_p1101_eq (d : Nat) (x0 : Sl) (x1 : Int) (x5 : Option Addr) (x38 : Bool) (H : Heap) : law23_MuxBuffers_p1101 d x0 x1 x5 x38 H =
  if x38 = true then
  (some (.bool false, H))
  else
  (law23_MuxBuffers_p1111010 d NN x0 x1 x5 Sl.nil 0 H) := (opq_app _ _ _).trans <| by kernel_rfl
theorem law23_MuxBuffers_p1111010_s (d : Nat) (m0 : Nat) (x0 : Sl) (x1 : Int) (x5 : Option Addr) (x7 : Sl) (x8 : Int) (H : Heap) : law23_MuxBuffers_p1111010 d (m0 + 1) x0 x1 x5 x7 x8 H =
  if (decide (x8 < (x0.n : Int))) = true then
  (law23_MuxBuffers_p1111010001 d m0 x0 x1 x5 x7 x8 (decide (x8 < 20)) H)
  else
  (law23_MuxBuffers_p1111010001 d m0 x0 x1 x5 x7 x8 false H) := (opq_app _ _ _).trans <| by kernel_rfl
theorem law23_MuxBuffers_p1111010001_eq (d : Nat) (m0 : Nat) (x0 : Sl) (x1 : Int) (x5 : Option Addr) (x7 : Sl) (x8 : Int) (x46 : Bool) (H : Heap) : law23_MuxBuffers_p1111010001 d m0 x0 x1 x5 x7 x8 x46 H =
  if x46 = true then
  (optK x0.a fun a1 =>
    if 0 ≤ x8 ∧ x8 < (x0.n : Int) then
    optK (Heap.ld1 H (ap a1 (((x8).toNat) * 1))) fun v2 =>
    asI .i64 v2 fun n3 =>
    callK (X d n_hand_Pick [.int .i64 n3, .int .i64 4] H) fun v4 H5 =>
    asI .i64 v4 fun n6 =>
    if 0 ≤ n6 ∧ n6 < 4 then
    optK (partL [.string (S [97, 98, 99]), .string (S [120, 32, 121]), .string (S []), .string (S [104, 101, 108, 108, 111])] (((n6).toNat) * 1) 1 false) fun v7 =>
    asS v7 fun s8 =>
    if (decide ((0 : Int) < x8)) = true then
    (newK H5 (.cells [.int .u8 13, .int .u8 10] t_uint8 false 0 false) fun p9 H10 =>
      effK (.markStr) [.slice (some ⟨p9, 0, none⟩) 2 2] H10 fun v11 H12 =>
      asSL v11 fun l13 =>
      callK (X d n_mux_Mux_Output [.pointer x5, .int .i64 0, l13.v] H12) fun v14 H15 =>
      asI .i64 v14 fun _ =>
      law23_MuxBuffers_p1111010010011 d m0 x0 x1 x5 x7 x8 s8 H15)
    else
    (law23_MuxBuffers_p1111010010011 d m0 x0 x1 x5 x7 x8 s8 H5)
    else none
    else none)
  else
  (law23_MuxBuffers_p111111010 d NN x1 x5 x7 Sl.nil 0 H) := (opq_app _ _ _).trans <| by kernel_rfl
theorem law23_MuxBuffers_p1111010010011_eq (d : Nat) (m0 : Nat) (x0 : Sl) (x1 : Int) (x5 : Option Addr) (x7 : Sl) (x8 : Int) (x9 : ByteArray) (H : Heap) : law23_MuxBuffers_p1111010010011 d m0 x0 x1 x5 x7 x8 x9 H =
  newK H (.cells ((lst x9).map fun b => .int .u8 b.toNat) t_uint8 true 0 true) fun p1 H2 =>
  callK (X d n_mux_Mux_Output [.pointer x5, .int .i64 0, .slice (some ⟨p1, 0, none⟩) (slen x9) (slen x9)] H2) fun v3 H4 =>
  asI .i64 v3 fun _ =>
  newK H4 (.cells [.string x9] t_string false 0 false) fun p6 H7 =>
  appendK t_string 1 16 false x7.v (.slice (some ⟨p6, 0, none⟩) 1 1) H7 fun v8 H9 =>
  asSL v8 fun l10 =>
  law23_MuxBuffers_p1111010 d m0 x0 x1 x5 l10 (IntKind.wrap .i64 (x8 + 1)) H9 := (opq_app _ _ _).trans <| by kernel_rfl
theorem law23_MuxBuffers_p111111010_s (d : Nat) (m0 : Nat) (x1 : Int) (x5 : Option Addr) (x7 : Sl) (x10 : Sl) (x11 : Int) (H : Heap) : law23_MuxBuffers_p111111010 d (m0 + 1) x1 x5 x7 x10 x11 H =
  callK (X d n_hand_Pick [.int .i64 x1, .int .i64 10] H) fun v1 H2 =>
  asI .i64 v1 fun n3 =>
  if (decide (x11 < n3)) = true then
  (law23_MuxBuffers_p111111010001 d m0 x1 x5 x7 x10 x11 (decide ((0 : Int) < (x7.n : Int))) H2)
  else
  (law23_MuxBuffers_p111111010001 d m0 x1 x5 x7 x10 x11 false H2) := (opq_app _ _ _).trans <| by kernel_rfl
theorem law23_MuxBuffers_p111111010001_eq (d : Nat) (m0 : Nat) (x1 : Int) (x5 : Option Addr) (x7 : Sl) (x10 : Sl) (x11 : Int) (x78 : Bool) (H : Heap) : law23_MuxBuffers_p111111010001 d m0 x1 x5 x7 x10 x11 x78 H =
  if x78 = true then
  (callK (X d n_hand_Pick [.int .i64 (IntKind.wrap .i64 (x1 + x11)), .int .i64 (x7.n : Int)] H) fun v1 H2 =>
    asI .i64 v1 fun n3 =>
    callK (X d n_mux_Mux_Copy [.pointer x5, .string (S [97]), .int .i64 n3, .int .i64 (if (IntKind.wrap .i64 (n3 + x11)) < (IntKind.wrap .i64 ((x7.n : Int) - 1)) then (IntKind.wrap .i64 (n3 + x11)) else (IntKind.wrap .i64 ((x7.n : Int) - 1)))] H2) fun v4 H5 =>
    asI .i64 v4 fun n6 =>
    if (!decide (n6 = 0)) = true then
    (some (.bool false, H5))
    else
    (optK x7.a fun a7 =>
      if 0 ≤ n3 ∧ n3 < (x7.n : Int) then
      optK (Heap.ld1 H5 (ap a7 (((n3).toNat) * 1))) fun v8 =>
      asS v8 fun s9 =>
      law23_MuxBuffers_p11111101001001111010 d m0 NN x1 x5 x7 x10 x11 (if (IntKind.wrap .i64 (n3 + x11)) < (IntKind.wrap .i64 ((x7.n : Int) - 1)) then (IntKind.wrap .i64 (n3 + x11)) else (IntKind.wrap .i64 ((x7.n : Int) - 1))) s9 (IntKind.wrap .i64 (n3 + 1)) H5
      else none))
  else
  (optK (readD (.subSl t_string 1 false true false) [x10.v, .int .i64 (if 6 < (x10.n : Int) then 6 else (x10.n : Int))] H) fun v10 =>
    asSL v10 fun l11 =>
    callK (X d n_mux_Mux_Buffers [.pointer x5] H) fun v12 H13 =>
    asSL v12 fun l14 =>
    if (!decide ((l14.n : Int) = (l11.n : Int))) = true then
    (some (.bool false, H13))
    else
    (law23_MuxBuffers_p1111111111010 d NN x5 l11 l14 0 H13)) := (opq_app _ _ _).trans <| by kernel_rfl
theorem law23_MuxBuffers_p11111101001001111010_s (d : Nat) (m0 : Nat) (m1 : Nat) (x1 : Int) (x5 : Option Addr) (x7 : Sl) (x10 : Sl) (x11 : Int) (x13 : Int) (x14 : ByteArray) (x15 : Int) (H : Heap) : law23_MuxBuffers_p11111101001001111010 d m0 (m1 + 1) x1 x5 x7 x10 x11 x13 x14 x15 H =
  if (decide (x15 ≤ x13)) = true then
  (if slen x14 + slen (S [10]) ≤ 9223372036854775807 then
    optK x7.a fun a1 =>
    if 0 ≤ x15 ∧ x15 < (x7.n : Int) then
    optK (Heap.ld1 H (ap a1 (((x15).toNat) * 1))) fun v2 =>
    asS v2 fun s3 =>
    if slen (sCat x14 (S [10])) + slen s3 ≤ 9223372036854775807 then
    law23_MuxBuffers_p11111101001001111010 d m0 m1 x1 x5 x7 x10 x11 x13 (sCat (sCat x14 (S [10])) s3) (IntKind.wrap .i64 (x15 + 1)) H
    else none
    else none
    else none)
  else
  (newK H (.cells [.string x14] t_string false 0 false) fun p4 H5 =>
    appendK t_string 1 16 false (.slice (some ⟨p4, 0, none⟩) 1 1) x10.v H5 fun v6 H7 =>
    asSL v6 fun l8 =>
    law23_MuxBuffers_p111111010 d m0 x1 x5 x7 l8 (IntKind.wrap .i64 (x11 + 1)) H7) := (opq_app _ _ _).trans <| by kernel_rfl
theorem law23_MuxBuffers_p1111111111010_s (d : Nat) (m0 : Nat) (x5 : Option Addr) (x10 : Sl) (x16 : Sl) (x17 : Int) (H : Heap) : law23_MuxBuffers_p1111111111010 d (m0 + 1) x5 x10 x16 x17 H =
  if (decide (x17 < (x10.n : Int))) = true then
  (optK x16.a fun a1 =>
    if 0 ≤ x17 ∧ x17 < (x16.n : Int) then
    optK (Heap.ld1 H (ap a1 (((x17).toNat) * 1))) fun v2 =>
    asS v2 fun s3 =>
    optK x10.a fun a4 =>
    if 0 ≤ x17 ∧ x17 < (x10.n : Int) then
    optK (Heap.ld1 H (ap a4 (((x17).toNat) * 1))) fun v5 =>
    asS v5 fun s6 =>
    if (!sEq s3 s6) = true then
    (law23_MuxBuffers_p1111111111010010001 d m0 x5 x10 x16 x17 true H)
    else
    (callK (X d n_mux_Mux_Paste [.pointer x5, .string (S [97]), .int .i64 x17] H) fun v7 H8 =>
      asI .i64 v7 fun n9 =>
      law23_MuxBuffers_p1111111111010010001 d m0 x5 x10 x16 x17 (!decide (n9 = 0)) H8)
    else none
    else none)
  else
  (callK (X d n_mux_Mux_Paste [.pointer x5, .string (S [97]), .int .i64 (x10.n : Int)] H) fun v10 H11 =>
    asI .i64 v10 fun n12 =>
    some (.bool (decide (n12 = 3)), H11)) := (opq_app _ _ _).trans <| by kernel_rfl
theorem law23_MuxBuffers_p1111111111010010001_eq (d : Nat) (m0 : Nat) (x5 : Option Addr) (x10 : Sl) (x16 : Sl) (x17 : Int) (x153 : Bool) (H : Heap) : law23_MuxBuffers_p1111111111010010001 d m0 x5 x10 x16 x17 x153 H =
  if x153 = true then
  (some (.bool false, H))
  else
  (callK (X d n_mux_Mux_Take [.pointer x5, .int .i64 0, .int .i64 4096] H) fun v1 H2 =>
    castT [.sl, .bool] v1 fun l3 =>
    castT [.sl, .bool] (.tuple ⟨l3⟩) fun l4 =>
    optK l4[0]? fun v5 =>
    asSL v5 fun l6 =>
    optK l4[1]? fun v7 =>
    asB v7 fun _ =>
    optK (readD (.bytesStr) [l6.v] H2) fun v9 =>
    asS v9 fun s10 =>
    optK x10.a fun a11 =>
    if 0 ≤ x17 ∧ x17 < (x10.n : Int) then
    optK (Heap.ld1 H2 (ap a11 (((x17).toNat) * 1))) fun v12 =>
    asS v12 fun s13 =>
    if (!sEq s10 s13) = true then
    (some (.bool false, H2))
    else
    (law23_MuxBuffers_p1111111111010 d m0 x5 x10 x16 (IntKind.wrap .i64 (x17 + 1)) H2)
    else none) := (opq_app _ _ _).trans <| by kernel_rfl
theorem law23_MuxBuffers_eq (d : Nat) (x0 : Sl) (x1 : Int) (H : Heap) : X (d + 1) n_law23_MuxBuffers [x0.v, .int .i64 x1] H =
  callK (X d n_mux_New [.int .i64 30, .int .i64 20] H) fun v1 H2 =>
  castT [.ptr, .int .i64] v1 fun l3 =>
  castT [.ptr, .int .i64] (.tuple ⟨l3⟩) fun l4 =>
  optK l4[0]? fun v5 =>
  asP v5 fun o6 =>
  optK l4[1]? fun v7 =>
  asI .i64 v7 fun n8 =>
  callK (X d n_law23_known [] H2) fun v9 H10 =>
  asB v9 fun b11 =>
  if (!b11) = true then
  (law23_MuxBuffers_p1101 d x0 x1 o6 true H10)
  else
  (if (!decide (n8 = 0)) = true then
    (law23_MuxBuffers_p1101 d x0 x1 o6 true H10)
    else
    (if o6.isNone = true then
      (law23_MuxBuffers_p1101 d x0 x1 o6 true H10)
      else
      (callK (X d n_mux_Mux_NewSession [.pointer o6, .string (S [97])] H10) fun v12 H13 =>
        asI .i64 v12 fun n14 =>
        law23_MuxBuffers_p1101 d x0 x1 o6 (!decide (n14 = 0)) H13))) := by kernel_rfl
end Go.Proofs.YtkkhljcjjhcnhaaGreatDoor.dec

namespace Go.Proofs.YtkkhljcjjhcnhaaGreatDoor.dec
open Go Go.Cm
/-! porthole/portholehand.Pick -/
theorem hand_Pick_eq (d : Nat) (x0 : Int) (x1 : Int) (H : Heap) : X (d + 1) n_hand_Pick [.int .i64 x0, .int .i64 x1] H =
  if x1 = 0 then none else
  if (decide (Int.tmod x0 x1 < 0)) = true then
  (some (.int .i64 (IntKind.wrap .i64 ((Int.tmod x0 x1) + x1)), H))
  else
  (some (.int .i64 (Int.tmod x0 x1), H)) := by kernel_rfl
end Go.Proofs.YtkkhljcjjhcnhaaGreatDoor.dec
