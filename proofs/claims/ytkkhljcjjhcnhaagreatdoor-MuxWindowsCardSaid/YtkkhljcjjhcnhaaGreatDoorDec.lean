/-
  The functions' numbers, their code with cuts.
  And: What calls compute, piece by piece. What calls compute, piece by piece. What calls compute, piece by piece. What calls compute, piece by piece. What calls compute, piece by piece. What calls compute, piece by piece. What calls compute, piece by piece. What calls compute, piece by piece. What calls compute, piece by piece. What calls compute, piece by piece. What calls compute, piece by piece. What calls compute, piece by piece. What calls compute, piece by piece. What calls compute, piece by piece. What calls compute, piece by piece. What calls compute, piece by piece. What calls compute, piece by piece. What calls compute, piece by piece. What calls compute, piece by piece. What calls compute, piece by piece. What calls compute, piece by piece. What calls compute, piece by piece. What calls compute, piece by piece. What calls compute, piece by piece. What calls compute, piece by piece. What calls compute, piece by piece. What calls compute, piece by piece. What calls compute, piece by piece. What calls compute, piece by piece. What calls compute, piece by piece. What calls compute, piece by piece. What calls compute, piece by piece. What calls compute, piece by piece. What calls compute, piece by piece. What calls compute, piece by piece. What calls compute, piece by piece. What calls compute, piece by piece. What calls compute, piece by piece. What calls compute, piece by piece. What calls compute, piece by piece. What calls compute, piece by piece. What calls compute, piece by piece. What calls compute, piece by piece. What calls compute, piece by piece.
-/
import Derived.Test.YtkkhljcjjhcnhaaGreatDoorCmH
import Derived.Test.YtkkhljcjjhcnhaaGreatDoorChecked
namespace Go.Proofs.YtkkhljcjjhcnhaaGreatDoor.dec
open Go Go.Cm
abbrev n_law23_MuxWindows : Nat := 4
abbrev n_mux_New : Nat := 9
abbrev n_law23_known : Nat := 10
abbrev n_hand_Pick : Nat := 11
abbrev n_mux_Mux_NewSession : Nat := 12
abbrev n_mux_Mux_KillSession : Nat := 14
abbrev n_mux_Mux_Sessions : Nat := 15
abbrev n_mux_Mux_NewWindow : Nat := 16
abbrev n_mux_Mux_SelectWindow : Nat := 17
abbrev n_mux_Mux_KillWindow : Nat := 18
abbrev n_grid_New : Nat := 30
abbrev n_mux_Right : Nat := 31
abbrev n_mux_Mux_fresh : Nat := 32
abbrev n_mux_Mux_drop : Nat := 33
abbrev n_slices_Sorted_string : Nat := 34
abbrev n_maps_Keys_map_string_P_mux_session_string_P_mux_session : Nat := 35
abbrev n_layout_Tree_Panes : Nat := 36
abbrev n_layout_Tree_String : Nat := 37
abbrev n_slices_Delete_S_P_mux_window_P_mux_window : Nat := 38
abbrev n_grid_Grid_Screen : Nat := 42
abbrev n_mux_Mux_make : Nat := 47
abbrev n_mux_Mux_fit : Nat := 48
abbrev n_layout_Tree_Places : Nat := 49
abbrev n_grid_size : Nat := 55
abbrev n_vt_New : Nat := 56
abbrev n_grid_Grid_reset : Nat := 57
abbrev n_layout_New : Nat := 58
abbrev n_layout_node_walk : Nat := 62
abbrev n_layout_Tree_Panes_1 : Nat := 63
abbrev n_layout_node_leaf : Nat := 64
abbrev n_layout_node_text : Nat := 65
abbrev n_grid_copied : Nat := 68
abbrev n_grid_Grid_Resize : Nat := 77
abbrev n_layout_all : Nat := 78
abbrev n_layout_Tree_Places_1 : Nat := 79
abbrev n_utf_New : Nat := 84
abbrev n_grid_sheet : Nat := 85
abbrev n_layout_node_parts : Nat := 89
abbrev n_strconv_Itoa : Nat := 90
abbrev n_slices_Clone_S_api_Cell_api_Cell : Nat := 98
abbrev n_grid_line : Nat := 108
abbrev n_strconv_Itoax : Nat := 121
abbrev n_slices_Repeat_S_api_Cell_api_Cell : Nat := 141
abbrev n_grid_blank : Nat := 142
abbrev n_strconv_FormatInt : Nat := 149
abbrev n_math_bits_Mul : Nat := 159
abbrev n_strconv_small : Nat := 161
abbrev n_strconv_formatBits : Nat := 164
abbrev n_math_bits_Mul64 : Nat := 173
abbrev t_int : Nat := 3
abbrev t_bool : Nat := 4
abbrev t_S_int : Nat := 22
abbrev t_mux_Session : Nat := 37
abbrev t_mux_Window : Nat := 41
abbrev t_api_Screen : Nat := 56
abbrev t_mux_Mux : Nat := 71
abbrev t_S_api_Cell : Nat := 72
abbrev t_api_Cell : Nat := 74
abbrev t_P_mux_window : Nat := 78
abbrev t_mux_session : Nat := 82
abbrev t_mux_window : Nat := 90
abbrev t_mux_pane : Nat := 97
abbrev t_S_api_Rect : Nat := 106
abbrev t_api_Rect : Nat := 110
abbrev t_grid_Grid : Nat := 126
abbrev t_layout_Tree : Nat := 131
abbrev t_layout_node : Nat := 134
abbrev t_vt_Parser : Nat := 166
abbrev t_utf_Decoder : Nat := 195
abbrev t_24_uint8 : Nat := 245
def cutsL : List (Nat × CT) := [(3, (.two .no (.two .no (.two (.two .no (.cut [(0, .sl), (3, .ptr), (29, .bool)] .no)) (.two .no (.two .no (.two (.two .no (.one (.lp [(0, .sl), (3, .ptr), (5, .any), (6, .int .i64), (7, .int .i64)] (.two (.two .no (.cut [(0, .sl), (3, .ptr), (5, .any), (6, .int .i64), (7, .int .i64), (37, .bool)] .no)) (.two (.one (.two .no (.two .no (.two (.two .no (.one (.two .no (.cut [(0, .sl), (3, .ptr), (5, .any), (6, .int .i64), (7, .int .i64), (8, .int .i64), (9, .int .i64), (56, .int .i64), (74, .bool)] (.two (.two .no (.two .no (.two .no (.cut [(0, .sl), (3, .ptr), (5, .any), (6, .int .i64), (7, .int .i64), (8, .int .i64), (10, .int .i64), (11, .int .i64)] .no)))) (.two .no (.two (.two .no (.two (.two .no (.cut [(0, .sl), (3, .ptr), (5, .any), (6, .int .i64), (7, .int .i64), (8, .int .i64), (9, .int .i64), (12, .int .i64), (117, .bool)] .no)) .no)) .no))))))) (.cut [(0, .sl), (3, .ptr), (5, .any), (6, .int .i64), (7, .int .i64)] (.two .no (.two .no (.two .no (.two .no (.one (.lp [(0, .sl), (3, .ptr), (5, .any), (6, .int .i64), (7, .int .i64), (13, .sl), (14, .int .i64), (15, .int .i64)] (.two .no (.two .no (.cut [(0, .sl), (3, .ptr), (5, .any), (6, .int .i64), (7, .int .i64), (13, .sl), (14, .int .i64), (15, .int .i64)] .no)))))))))))))) .no))))) .no))))))),
  (4, (.two .no (.two .no (.two (.two .no (.cut [(0, .sl), (3, .ptr), (32, .bool)] .no)) (.two .no (.two .no (.two .no (.two (.two .no (.one (.lp [(0, .sl), (3, .ptr), (5, .sl), (6, .int .i64), (7, .int .i64), (8, .int .i64)] (.two (.two .no (.cut [(0, .sl), (3, .ptr), (5, .sl), (6, .int .i64), (7, .int .i64), (8, .int .i64), (41, .bool)] .no)) (.two (.one (.two .no (.two .no (.cut [(0, .sl), (3, .ptr), (5, .sl), (6, .int .i64), (7, .int .i64), (8, .int .i64)] (.two .no (.two (.two .no (.cut [(0, .sl), (3, .ptr), (5, .sl), (6, .int .i64), (7, .int .i64), (8, .int .i64), (12, .sl), (143, .bool)] .no)) (.two .no (.one (.lp [(0, .sl), (3, .ptr), (5, .sl), (6, .int .i64), (7, .int .i64), (8, .int .i64), (12, .sl), (13, .int .i64)] .no))))))))) .no))))) .no)))))))),
  (5, (.two .no (.two .no (.two (.two .no (.cut [(0, .sl), (1, .int .i64), (5, .ptr), (38, .bool)] .no)) (.two .no (.two (.two .no (.one (.lp [(0, .sl), (1, .int .i64), (5, .ptr), (7, .sl), (8, .int .i64)] (.two (.two .no (.cut [(0, .sl), (1, .int .i64), (5, .ptr), (7, .sl), (8, .int .i64), (46, .bool)] .no)) (.two (.one (.two .no (.two .no (.cut [(0, .sl), (1, .int .i64), (5, .ptr), (7, .sl), (8, .int .i64), (9, .str)] .no)))) .no))))) (.two .no (.two (.two .no (.one (.lp [(1, .int .i64), (5, .ptr), (7, .sl), (10, .sl), (11, .int .i64)] (.two (.two .no (.cut [(1, .int .i64), (5, .ptr), (7, .sl), (10, .sl), (11, .int .i64), (78, .bool)] .no)) (.two (.one (.two .no (.two .no (.two .no (.two .no (.two (.two .no (.one (.lp [(1, .int .i64), (5, .ptr), (7, .sl), (10, .sl), (11, .int .i64), (13, .int .i64), (14, .str), (15, .int .i64)] .no))) .no)))))) .no))))) (.two .no (.two .no (.two .no (.two (.two .no (.one (.lp [(5, .ptr), (10, .sl), (16, .sl), (17, .int .i64)] (.two .no (.two (.one (.two (.two .no (.cut [(5, .ptr), (10, .sl), (16, .sl), (17, .int .i64), (153, .bool)] .no)) .no)) .no))))) .no)))))))))))),
  (6, (.two .no (.two .no (.two (.two .no (.cut [(0, .sl), (1, .sl), (2, .int .i64), (7, .ptr), (48, .bool)] .no)) (.two (.two .no (.one (.lp [(0, .sl), (1, .sl), (2, .int .i64), (7, .ptr), (9, .int .i64)] (.two (.two .no (.cut [(0, .sl), (1, .sl), (2, .int .i64), (7, .ptr), (9, .int .i64), (56, .bool)] .no)) .no)))) (.two .no (.two .no (.two .no (.two (.two .no (.one (.lp [(1, .sl), (7, .ptr), (11, .int .i64), (12, .sl), (13, .int .i64)] .no))) (.two .no (.two .no (.two (.two .no (.one (.lp [(7, .ptr), (11, .int .i64), (12, .sl), (17, .any), (19, .int .i64)] (.two .no (.two (.one (.two .no (.two .no (.cut [(7, .ptr), (11, .int .i64), (12, .sl), (17, .any), (19, .int .i64), (135, .bool)] .no)))) .no))))) .no)))))))))))),
  (7, (.two .no (.two .no (.two .no (.two .no (.two (.two .no (.cut [(0, .int .i64), (1, .int .i64), (2, .sl), (3, .sl), (9, .ptr), (47, .bool)] .no)) (.two (.two .no (.one (.lp [(0, .int .i64), (1, .int .i64), (2, .sl), (3, .sl), (9, .ptr), (11, .int .i64)] (.two (.two .no (.cut [(0, .int .i64), (1, .int .i64), (2, .sl), (3, .sl), (9, .ptr), (11, .int .i64), (55, .bool)] .no)) .no)))) (.two .no (.two .no (.two .no (.two .no (.two .no (.two (.two .no (.cut [(0, .int .i64), (1, .int .i64), (9, .ptr), (12, .any), (123, .bool)] .no)) .no))))))))))))),
  (8, (.two .no (.two .no (.two .no (.two (.two .no (.cut [(3, .ptr), (39, .bool)] .no)) .no))))),
  (14, (.two .no (.two .no (.two .no (.two (.two .no (.one (.lp [(0, .ptr), (1, .str), (23, .sl), (24, .int .i64), (25, .int .i64)] .no))) .no))))),
  (15, (.two .no (.two .no (.two (.two .no (.one (.lp [(0, .ptr), (3, .sl), (15, .sl), (16, .int .i64), (17, .int .i64)] (.two .no (.two .no (.two (.one (.two .no (.two .no (.two .no (.two (.two .no (.one (.lp [(0, .ptr), (3, .sl), (7, .any), (15, .sl), (16, .int .i64), (17, .int .i64), (36, .sl), (37, .int .i64), (38, .int .i64)] .no))) .no))))) .no)))))) .no)))),
  (17, (.two .no (.two .no (.two (.one (.two .no (.two .no (.two .no (.cut [(2, .int .i64), (7, .ptr), (21, .bool)] .no))))) .no)))),
  (20, (.two .no (.two .no (.two .no (.two .no (.two .no (.two .no (.two .no (.two (.two .no (.one (.lp [(0, .ptr), (12, .sl), (59, .sl), (60, .int .i64), (61, .int .i64)] .no))) .no))))))))),
  (22, (.two .no (.two (.one (.two .no (.two .no (.two .no (.cut [(0, .ptr), (1, .str), (2, .int .i64), (12, .bool)] .no))))) .no))),
  (26, (.two .no (.two .no (.two .no (.two .no (.two .no (.two .no (.two .no (.two (.two .no (.one (.lp [(0, .ptr), (4, .any), (6, .ptr), (9, .any), (10, .sl), (72, .sl), (73, .int .i64), (74, .int .i64)] (.two .no (.two .no (.two .no (.cut [(0, .ptr), (4, .any), (6, .ptr), (9, .any), (10, .sl), (72, .sl), (73, .int .i64), (74, .int .i64)] .no))))))) (.two (.two .no (.one (.lp [(4, .any), (9, .any), (164, .sl), (165, .int .i64), (166, .int .i64)] (.two .no (.two .no (.two (.one (.two .no (.two .no (.one (.lp [(4, .any), (9, .any), (15, .any), (164, .sl), (165, .int .i64), (166, .int .i64), (172, .int .i64), (173, .int .i64)] (.two .no (.two .no (.two (.one (.two .no (.two .no (.one (.lp [(4, .any), (9, .any), (15, .any), (16, .int .i64), (164, .sl), (165, .int .i64), (166, .int .i64), (172, .int .i64), (173, .int .i64), (178, .int .i64), (179, .int .i64)] .no))))) .no)))))))) .no)))))) .no)))))))))),
  (27, (.two .no (.two .no (.two (.two .no (.one (.lp [(0, .sl), (1, .int .i64), (5, .str), (6, .int .i64)] (.two (.two .no (.cut [(0, .sl), (1, .int .i64), (5, .str), (6, .int .i64), (16, .bool)] .no)) (.two .no (.cut [(0, .sl), (1, .int .i64), (5, .str), (6, .int .i64)] .no)))))) .no)))),
  (31, (.two .no (.two (.two .no (.one (.lp [(0, .str), (3, .int .i64)] (.two .no (.two (.one (.two .no (.two .no (.cut [(0, .str), (3, .int .i64), (31, .bool)] .no)))) .no))))) .no))),
  (33, (.two .no (.one (.lp [(0, .ptr), (10, .sl), (11, .int .i64), (12, .int .i64)] .no)))),
  (39, (.two .no (.one (.lp [(0, .ptr), (11, .sl), (12, .int .i64), (13, .int .i64)] .no)))),
  (43, (.two .no (.two .no (.two (.two .no (.one (.lp [(3, .sl), (6, .sl), (7, .int .i64), (8, .int .i64)] .no))) .no)))),
  (48, (.two .no (.two .no (.one (.lp [(0, .ptr), (1, .ptr), (4, .sl), (28, .sl), (29, .int .i64), (30, .int .i64)] (.two .no (.two .no (.two (.one (.two .no (.two .no (.two (.two .no (.cut [(0, .ptr), (1, .ptr), (4, .sl), (6, .int .i64), (7, .int .i64), (8, .int .i64), (28, .sl), (29, .int .i64), (30, .int .i64), (58, .bool)] .no)) (.cut [(0, .ptr), (1, .ptr), (4, .sl), (6, .int .i64), (7, .int .i64), (8, .int .i64), (28, .sl), (29, .int .i64), (30, .int .i64)] (.two .no (.two .no (.two .no (.cut [(0, .ptr), (1, .ptr), (4, .sl), (7, .int .i64), (8, .int .i64), (9, .ptr), (28, .sl), (29, .int .i64), (30, .int .i64), (87, .bool)] .no))))))))) (.cut [(0, .ptr), (1, .ptr), (4, .sl), (28, .sl), (29, .int .i64), (30, .int .i64)] .no))))))))),
  (50, (.two .no (.two .no (.one (.lp [(3, .any), (4, .any), (5, .any), (12, .int .i64), (13, .int .i64)] (.two .no (.two .no (.two (.one (.two .no (.two .no (.cut [(3, .any), (4, .any), (5, .any), (6, .int .i64), (12, .int .i64), (13, .int .i64), (29, .bool)] .no)))) (.cut [(3, .any), (4, .any), (5, .any), (12, .int .i64), (13, .int .i64)] .no))))))))),
  (52, (.two .no (.two (.two .no (.one (.lp [(0, .bool), (5, .any)] .no))) .no))),
  (54, (.two .no (.two .no (.two (.two .no (.one (.lp [(0, .sl), (1, .sl), (5, .int .i64)] (.two .no (.two (.one (.two .no (.two .no (.one (.lp [(0, .sl), (1, .sl), (5, .int .i64), (6, .int .i64)] .no))))) .no))))) .no)))),
  (57, (.two .no (.two .no (.two .no (.two .no (.two (.two .no (.one (.lp [(0, .ptr), (48, .int .i64), (49, .int .i64)] (.two .no (.two .no (.two .no (.cut [(0, .ptr), (48, .int .i64), (49, .int .i64)] .no))))))) .no)))))),
  (65, (.two .no (.two .no (.two .no (.two .no (.cut [(0, .ptr), (3, .str)] .no)))))),
  (66, (.two .no (.two .no (.two (.two .no (.one (.lp [(0, .ptr), (5, .sl), (15, .sl), (16, .int .i64), (17, .int .i64)] (.two .no (.two .no (.two .no (.cut [(0, .ptr), (5, .sl), (15, .sl), (16, .int .i64), (17, .int .i64)] .no))))))) .no)))),
  (68, (.two .no (.two .no (.two (.two .no (.one (.lp [(3, .sl), (6, .sl), (7, .int .i64), (8, .int .i64)] .no))) .no)))),
  (69, (.two .no (.two (.two .no (.cut [(0, .str), (1, .str), (12, .bool)] .no)) (.two (.two .no (.cut [(0, .str), (1, .str), (21, .bool)] .no)) .no)))),
  (75, (.two .no (.two .no (.two (.one (.lp [(8, .ptr), (9, .any), (10, .sl), (11, .sl)] .no)) .no)))),
  (77, (.two .no (.two .no (.two .no (.two .no (.cut [(0, .ptr), (1, .int .i64), (2, .int .i64), (7, .ptr), (8, .ptr)] (.two .no (.two (.two .no (.one (.lp [(0, .ptr), (1, .int .i64), (2, .int .i64), (7, .ptr), (8, .ptr), (11, .sl), (12, .int .i64), (86, .sl), (87, .int .i64), (88, .int .i64)] .no))) (.two .no (.two .no (.two .no (.two (.two .no (.one (.lp [(0, .ptr), (1, .int .i64), (2, .int .i64), (126, .sl), (127, .int .i64), (128, .int .i64)] .no))) (.two .no (.two (.two .no (.one (.lp [(0, .ptr), (2, .int .i64), (18, .int .i64)] .no))) .no)))))))))))))),
  (80, (.two .no (.two .no (.two .no (.cut [(0, .ptr), (2, .ptr), (4, .any), (5, .int .i64), (15, .bool)] .no))))),
  (83, (.two .no (.two .no (.two (.two .no (.one (.lp [(3, .sl), (7, .any)] .no))) .no)))),
  (85, (.two .no (.two .no (.two (.two .no (.one (.lp [(1, .int .i64), (5, .sl), (6, .int .i64), (7, .int .i64)] .no))) .no)))),
  (91, (.two .no (.two .no (.two .no (.two (.two .no (.one (.lp [(0, .ptr), (5, .sl), (6, .int .i64), (7, .int .i64)] (.two .no (.two (.one (.two .no (.cut [(0, .ptr), (5, .sl), (6, .int .i64), (7, .int .i64), (38, .bool)] .no))) (.cut [(0, .ptr), (5, .sl), (6, .int .i64), (7, .int .i64)] .no)))))) .no))))),
  (92, (.two .no (.two (.one (.two .no (.cut [(0, .ptr), (1, .int .i32), (4, .any), (6, .bool)] .no))) (.two (.two .no (.one (.two .no (.two .no (.two .no (.two .no (.two .no (.two .no (.two .no (.two (.two (.two .no (.cut [(0, .ptr), (4, .any), (62, .bool)] .no)) .no) .no)))))))))) .no)))),
  (93, (.two (.two .no (.cut [(0, .ptr), (1, .int .i32), (15, .bool)] .no)) (.cut [(0, .ptr), (1, .int .i32)] (.two .no (.cut [(0, .ptr), (1, .int .i32)] .no))))),
  (94, (.two .no (.one (.two .no (.two .no (.two .no (.two (.two .no (.two (.one (.lp [(0, .ptr), (4, .int .i64)] (.two (.two .no (.cut [(0, .ptr), (4, .int .i64), (45, .bool)] .no)) .no))) .no)) (.two .no (.cut [(0, .ptr), (5, .int .i32), (56, .bool)] .no))))))))),
  (96, (.two .no (.two (.two .no (.cut [(0, .ptr), (3, .any), (14, .bool)] .no)) (.two .no (.two .no (.one (.lp [(0, .ptr), (4, .bool), (19, .sl), (20, .int .i64), (21, .int .i64)] (.two .no (.two .no (.two .no (.cut [(0, .ptr), (4, .bool), (19, .sl), (20, .int .i64), (21, .int .i64)] .no))))))))))),
  (97, (.two .no (.two .no (.two .no (.two .no (.one (.two .no (.cut [(0, .ptr), (3, .any), (4, .int .i64), (5, .int .i64), (6, .int .i64), (24, .int .i32), (29, .bool)] (.two (.two .no (.two .no (.cut [(0, .ptr), (3, .any), (4, .int .i64), (5, .int .i64), (6, .int .i64), (7, .int .i64)] (.two .no (.two .no (.cut [(0, .ptr), (5, .int .i64), (6, .int .i64)] .no)))))) (.two .no (.cut [(0, .ptr), (3, .any), (4, .int .i64), (5, .int .i64), (6, .int .i64), (24, .int .i32), (54, .bool)] (.two (.two .no (.two .no (.cut [(0, .ptr), (3, .any), (4, .int .i64), (5, .int .i64), (6, .int .i64), (8, .int .i64)] (.two .no (.two .no (.cut [(0, .ptr), (5, .int .i64), (6, .int .i64)] .no)))))) (.two .no (.two .no (.two .no (.two .no (.two .no (.two .no (.two .no (.two .no (.two .no (.cut [(0, .ptr), (3, .any), (4, .int .i64), (24, .int .i32), (114, .bool)] (.two .no (.two .no (.two (.two .no (.one (.lp [(0, .ptr), (127, .sl), (128, .int .i64), (129, .int .i64)] .no))) (.two .no (.cut [(0, .ptr), (3, .any), (4, .int .i64), (137, .bool)] .no))))))))))))))))))))))))))),
  (99, (.two .no (.two (.one (.lp [(0, .str), (1, .int .u8)] (.two (.two .no (.cut [(0, .str), (1, .int .u8), (16, .bool)] .no)) .no))) .no))),
  (107, (.two .no (.two .no (.two (.two .no (.one (.lp [(2, .int .i64), (3, .int .i64), (8, .sl), (9, .int .i64), (26, .sl), (27, .int .i64), (28, .int .i64)] .no))) .no)))),
  (123, (.two .no (.two .no (.two .no (.two .no (.two .no (.two .no (.two (.two .no (.cut [(0, .sl), (3, .int .i64), (41, .bool)] (.two .no (.two .no (.cut [(55, .bool)] .no))))) .no)))))))),
  (124, (.two .no (.two .no (.two (.two .no (.one (.two .no (.two .no (.two .no (.cut [(0, .ptr), (1, .int .i32), (4, .any), (9, .int .i32), (32, .bool)] (.two .no (.two .no (.cut [(0, .ptr), (1, .int .i32), (4, .any), (42, .bool)] .no))))))))) (.two (.one (.two .no (.two .no (.two .no (.cut [(1, .int .i32), (4, .any), (60, .bool)] .no))))) .no))))),
  (125, (.two .no (.two .no (.two (.one (.two .no (.two .no (.two .no (.cut [(0, .ptr), (1, .int .i32), (4, .any), (6, .bool), (18, .bool)] (.two .no (.two .no (.cut [(0, .ptr), (1, .int .i32), (4, .any), (6, .bool), (32, .bool)] (.two .no (.two .no (.two (.two .no (.two .no (.cut [(0, .ptr), (4, .any)] .no))) (.two .no (.cut [(0, .ptr), (1, .int .i32), (4, .any), (104, .bool)] (.two .no (.two .no (.cut [(0, .ptr), (1, .int .i32), (4, .any), (116, .bool)] (.two .no (.two .no (.cut [(0, .ptr), (1, .int .i32), (4, .any), (129, .bool)] .no))))))))))))))))))) .no)))),
  (126, (.two .no (.two (.one (.two .no (.two .no (.two .no (.cut [(1, .int .i32), (4, .any), (11, .bool)] .no))))) .no))),
  (131, (.one (.two .no (.cut [(0, .ptr), (1, .bool), (4, .bool)] (.two .no (.two .no (.cut [(0, .ptr), (39, .bool)] .no))))))),
  (132, (.two .no (.two (.two .no (.cut [(1, .int .i64), (2, .int .i64), (3, .any), (23, .bool)] .no)) .no))),
  (133, (.two .no (.one (.two .no (.two .no (.two .no (.two .no (.two .no (.two .no (.two .no (.two .no (.two .no (.two .no (.two .no (.two .no (.two .no (.two .no (.two .no (.cut [(1, .int .i64), (4, .ptr), (75, .bool)] (.two .no (.two .no (.two .no (.two .no (.cut [(1, .int .i64), (4, .ptr), (93, .bool)] .no)))))))))))))))))))))))),
  (134, (.two .no (.two .no (.two .no (.one (.two .no (.two .no (.two .no (.two .no (.two .no (.cut [(0, .ptr), (2, .int .i64), (4, .any), (6, .int .i64), (12, .int .i32), (23, .bool)] (.two (.two (.two .no (.cut [(0, .ptr), (2, .int .i64), (4, .any), (47, .bool)] .no)) (.two .no (.cut [(0, .ptr)] .no))) (.two .no (.cut [(0, .ptr), (2, .int .i64), (4, .any), (6, .int .i64), (12, .int .i32), (74, .bool)] (.two .no (.two .no (.two .no (.two .no (.two .no (.two .no (.two .no (.two .no (.two (.two .no (.cut [(0, .ptr), (6, .int .i64)] .no)) .no))))))))))))))))))))))),
  (140, (.two .no (.two (.two .no (.one (.lp [(0, .sl), (1, .int .i64), (7, .int .i64), (8, .int .i64)] .no))) .no))),
  (141, (.two .no (.two .no (.cut [(0, .sl), (1, .int .i64)] (.two .no (.two (.two .no (.cut [(0, .sl), (6, .int .u64), (26, .bool)] .no)) (.cut [(0, .sl), (6, .int .u64)] (.two .no (.two .no (.two (.one (.lp [(7, .sl), (8, .int .i64)] .no)) .no)))))))))),
  (149, (.two .no (.two (.two .no (.two (.two (.two .no (.cut [(0, .int .i64), (17, .bool)] .no)) (.two .no (.two .no (.two .no (.cut [(0, .int .i64), (5, .any), (6, .int .u64)] .no))))) .no)) .no))),
  (151, (.two .no (.two (.two .no (.cut [(0, .ptr), (1, .int .i64), (29, .bool)] (.two (.two .no (.one (.lp [(0, .ptr), (1, .int .i64), (35, .sl), (36, .int .i64), (37, .int .i64)] .no))) .no))) (.cut [(0, .ptr), (1, .int .i64)] .no)))),
  (153, (.two .no (.cut [(0, .ptr), (1, .int .i64)] (.two (.two .no (.cut [(0, .ptr), (1, .int .i64), (15, .bool)] .no)) (.two .no (.two .no (.one (.lp [(0, .ptr), (1, .int .i64), (22, .int .i64), (23, .int .i64)] (.two .no (.two .no (.two (.one (.two .no (.two .no (.cut [(0, .ptr), (1, .int .i64), (4, .int .i64), (22, .int .i64), (23, .int .i64), (53, .bool)] .no)))) (.cut [(0, .ptr), (1, .int .i64), (22, .int .i64), (23, .int .i64)] .no)))))))))))),
  (157, (.two .no (.two (.two .no (.cut [(0, .str), (10, .bool)] .no)) .no))),
  (167, (.two .no (.two .no (.two .no (.two .no (.two .no (.two .no (.two .no (.two .no (.two .no (.two .no (.two (.two .no (.cut [(0, .str), (5, .int .u8), (8, .int .i64), (10, .int .u8), (57, .bool)] .no)) (.two .no (.two .no (.two (.two .no (.cut [(0, .str), (5, .int .u8), (8, .int .i64), (10, .int .u8), (11, .int .u8), (75, .bool)] .no)) (.two .no (.two .no (.two (.two .no (.cut [(5, .int .u8), (10, .int .u8), (11, .int .u8), (12, .int .u8), (98, .bool)] .no)) .no)))))))))))))))))),
  (169, (.two .no (.two (.one (.two .no (.cut [(0, .int .i32), (3, .bool)] (.two .no (.two .no (.cut [(10, .bool)] .no)))))) .no)))]

/-- a pointer that is not nil -/
def nilP (o : Option Addr) (K : Addr → Res) : Res := nilK (.pointer o) fun v => asP v fun o => optK o K
theorem nilP_s (a : Addr) (K : Addr → Res) : nilP (some a) K = K a := rfl
/-- a call of a function value -/
def callvK (call : CallF) (g : Value) (vs : List Value) (H : Heap) (K : Value → Heap → Res) : Res := match g with
  | .func (.func f) first cap => callK (call f (first.toList ++ vs ++ cap.toList) H) K
  | _ => none
theorem callvK_s {call : CallF} {f : Nat} {first cap : Array Value} {vs : List Value} {H : Heap} {K : Value → Heap → Res} : callvK call (.func (.func f) first cap) vs H K = callK (call f (first.toList ++ vs ++ cap.toList) H) K := rfl
noncomputable def C : CProg := ⟨autoC (lookCT cutsL) [0, 1, 2, 3, 4] Tryz.prog, fun f => if f = n_law23_known then some (sure n_law23_known n_law23_known) else if f = 35 then some (keysP 61 68) else if f = 34 then some (sortedP 61 9) else if f = 44 then some joinP else none⟩
theorem exNN : ∃ n : Nat, n = 4000000000000 := ⟨_, rfl⟩
noncomputable def NN : Nat := Classical.choose exNN
theorem NN_eq : NN = 4000000000000 := Classical.choose_spec exNN
noncomputable def X (d : Nat) : CallF := callD C NN d
noncomputable def cd (f : Nat) (p : List Nat) : CCode := cdC (lookCT cutsL) [0, 1, 2, 3, 4] Tryz.prog f p
noncomputable def rs (f : Nat) : List CRes := rsC [0, 1, 2, 3, 4] Tryz.prog f
end Go.Proofs.YtkkhljcjjhcnhaaGreatDoor.dec

namespace Go.Proofs.YtkkhljcjjhcnhaaGreatDoor.dec
open Go Go.Cm
/-! porthole/grid.copied -/
noncomputable def grid_copied_k111 (d : Nat) : Kt := run (X d) NN (cd 68 [1, 1, 1]) (retK (rs 68)) [] (retK (rs 68))
noncomputable def grid_copied_l11010 (d : Nat) (m0 : Nat) : Kt := iter (fun k => run (X d) NN (cd 68 [1, 1, 0, 1, 0, 0]) (backK [(3, .sl), (6, .sl), (7, .int .i64), (8, .int .i64)] (opq k)) [(0, (grid_copied_k111 d))] (retK (rs 68))) m0
noncomputable def grid_copied_p11010 (d : Nat) (m0 : Nat) (x3 : Sl) (x6 : Sl) (x7 : Int) (x8 : Int) (H : Heap) : Res := opq (grid_copied_l11010 d m0) [(3, x3.v), (6, x6.v), (7, .int .i64 x7), (8, .int .i64 x8)] H
theorem grid_copied_p11010_s (d : Nat) (m0 : Nat) (x3 : Sl) (x6 : Sl) (x7 : Int) (x8 : Int) (H : Heap) : grid_copied_p11010 d (m0 + 1) x3 x6 x7 x8 H =
  if (decide (x8 < x7)) = true then
  (optK x6.a fun a1 =>
    if 0 ≤ x8 ∧ x8 < (x6.n : Int) then
    optK (Heap.ld1 H (ap a1 (((x8).toNat) * 1))) fun v2 =>
    asSL v2 fun l3 =>
    callK (X d n_slices_Clone_S_api_Cell_api_Cell [l3.v] H) fun v4 H5 =>
    asSL v4 fun l6 =>
    newK H5 (.cells [l6.v] t_S_api_Cell false 0 false) fun p7 H8 =>
    appendK t_S_api_Cell 1 24 false x3.v (.slice (some ⟨p7, 0, none⟩) 1 1) H8 fun v9 H10 =>
    asSL v9 fun l11 =>
    grid_copied_p11010 d m0 l11 x6 x7 (IntKind.wrap .i64 (x8 + 1)) H10
    else none)
  else
  (some (x3.v, H)) := (opq_app _ _ _).trans <| by kernel_rfl
theorem grid_copied_eq (d : Nat) (x0 : Sl) (H : Heap) : X (d + 1) n_grid_copied [x0.v] H =
  grid_copied_p11010 d NN Sl.nil x0 (x0.n : Int) 0 H := by kernel_rfl
end Go.Proofs.YtkkhljcjjhcnhaaGreatDoor.dec

namespace Go.Proofs.YtkkhljcjjhcnhaaGreatDoor.dec
open Go Go.Cm
/-! porthole/grid.line -/
theorem grid_line_eq (d : Nat) (x0 : Int) (H : Heap) : X (d + 1) n_grid_line [.int .i64 x0] H =
  callK (X d n_grid_blank [] H) fun v1 H2 =>
  asA v1 fun c3 =>
  optK (fillL [(0, 4)] [.agg c3] [.int .i32 0, .int .i64 0, .int .i64 0, .int .i64 0]) fun l4 =>
  newK H2 (.cells l4 t_api_Cell false 0 false) fun p5 H6 =>
  callK (X d n_slices_Repeat_S_api_Cell_api_Cell [.slice (some ⟨p5, 0, none⟩) 1 1, .int .i64 x0] H6) fun v7 H8 =>
  asSL v7 fun l9 =>
  some (l9.v, H8) := by kernel_rfl
end Go.Proofs.YtkkhljcjjhcnhaaGreatDoor.dec

namespace Go.Proofs.YtkkhljcjjhcnhaaGreatDoor.dec
open Go Go.Cm
/-! porthole/grid.sheet -/
noncomputable def grid_sheet_k111 (d : Nat) : Kt := run (X d) NN (cd 85 [1, 1, 1]) (retK (rs 85)) [] (retK (rs 85))
noncomputable def grid_sheet_l11010 (d : Nat) (m0 : Nat) : Kt := iter (fun k => run (X d) NN (cd 85 [1, 1, 0, 1, 0, 0]) (backK [(1, .int .i64), (5, .sl), (6, .int .i64), (7, .int .i64)] (opq k)) [(0, (grid_sheet_k111 d))] (retK (rs 85))) m0
noncomputable def grid_sheet_p11010 (d : Nat) (m0 : Nat) (x1 : Int) (x5 : Sl) (x6 : Int) (x7 : Int) (H : Heap) : Res := opq (grid_sheet_l11010 d m0) [(1, .int .i64 x1), (5, x5.v), (6, .int .i64 x6), (7, .int .i64 x7)] H
theorem grid_sheet_p11010_s (d : Nat) (m0 : Nat) (x1 : Int) (x5 : Sl) (x6 : Int) (x7 : Int) (H : Heap) : grid_sheet_p11010 d (m0 + 1) x1 x5 x6 x7 H =
  if (decide (x7 < x6)) = true then
  (callK (X d n_grid_line [.int .i64 x1] H) fun v1 H2 =>
    asSL v1 fun l3 =>
    newK H2 (.cells [l3.v] t_S_api_Cell false 0 false) fun p4 H5 =>
    appendK t_S_api_Cell 1 24 false x5.v (.slice (some ⟨p4, 0, none⟩) 1 1) H5 fun v6 H7 =>
    asSL v6 fun l8 =>
    grid_sheet_p11010 d m0 x1 l8 x6 (IntKind.wrap .i64 (x7 + 1)) H7)
  else
  (some (x5.v, H)) := (opq_app _ _ _).trans <| by kernel_rfl
theorem grid_sheet_eq (d : Nat) (x0 : Int) (x1 : Int) (H : Heap) : X (d + 1) n_grid_sheet [.int .i64 x0, .int .i64 x1] H =
  grid_sheet_p11010 d NN x1 Sl.nil x0 0 H := by kernel_rfl
end Go.Proofs.YtkkhljcjjhcnhaaGreatDoor.dec

namespace Go.Proofs.YtkkhljcjjhcnhaaGreatDoor.dec
open Go Go.Cm
/-! slices.Clone[[]porthole/api.Cell,porthole/api.Cell] -/
theorem slices_Clone_S_api_Cell_api_Cell_eq (d : Nat) (x0 : Sl) (H : Heap) : X (d + 1) n_slices_Clone_S_api_Cell_api_Cell [x0.v] H =
  if x0.a.isNone = true then
  (some (.slice none 0 0, H))
  else
  (newK H (.cells [] t_api_Cell false 0 false) fun p1 H2 =>
    appendK t_api_Cell 4 32 false (.slice (some ⟨p1, 0, none⟩) 0 0) x0.v H2 fun v3 H4 =>
    asSL v3 fun l5 =>
    some (l5.v, H4)) := by kernel_rfl
end Go.Proofs.YtkkhljcjjhcnhaaGreatDoor.dec

namespace Go.Proofs.YtkkhljcjjhcnhaaGreatDoor.dec
open Go Go.Cm
/-! slices.Repeat[[]porthole/api.Cell,porthole/api.Cell] -/
noncomputable def slices_Repeat_S_api_Cell_api_Cell_k11011 (d : Nat) : Kt := run (X d) NN (cd 141 [1, 1, 0, 1, 1]) (retK (rs 141)) [] (retK (rs 141))
noncomputable def slices_Repeat_S_api_Cell_api_Cell_k110110111 (d : Nat) : Kt := run (X d) NN (cd 141 [1, 1, 0, 1, 1, 0, 1, 1, 1]) (retK (rs 141)) [] (retK (rs 141))
noncomputable def slices_Repeat_S_api_Cell_api_Cell_l1101101100 (d : Nat) (m0 : Nat) : Kt := iter (fun k => run (X d) NN (cd 141 [1, 1, 0, 1, 1, 0, 1, 1, 0, 0, 0]) (backK [(7, .sl), (8, .int .i64)] (opq k)) [(0, (slices_Repeat_S_api_Cell_api_Cell_k110110111 d))] (retK (rs 141))) m0
noncomputable def slices_Repeat_S_api_Cell_api_Cell_p11 (d : Nat) (x0 : Sl) (x1 : Int) (H : Heap) : Res := opq (run (X d) NN (cd 141 [1, 1, 0]) (retK (rs 141)) [] (retK (rs 141))) [(0, x0.v), (1, .int .i64 x1)] H
noncomputable def slices_Repeat_S_api_Cell_api_Cell_p110101 (d : Nat) (x0 : Sl) (x6 : Int) (x26 : Bool) (H : Heap) : Res := opq (run (X d) NN (cd 141 [1, 1, 0, 1, 0, 1, 0]) (slices_Repeat_S_api_Cell_api_Cell_k11011 d) [] (retK (rs 141))) [(0, x0.v), (6, .int .u64 x6), (26, .bool x26)] H
noncomputable def slices_Repeat_S_api_Cell_api_Cell_p11011 (d : Nat) (x0 : Sl) (x6 : Int) (H : Heap) : Res := opq (run (X d) NN (cd 141 [1, 1, 0, 1, 1, 0]) (retK (rs 141)) [] (retK (rs 141))) [(0, x0.v), (6, .int .u64 x6)] H
noncomputable def slices_Repeat_S_api_Cell_api_Cell_p1101101100 (d : Nat) (m0 : Nat) (x7 : Sl) (x8 : Int) (H : Heap) : Res := opq (slices_Repeat_S_api_Cell_api_Cell_l1101101100 d m0) [(7, x7.v), (8, .int .i64 x8)] H
theorem slices_Repeat_S_api_Cell_api_Cell_p11_eq (d : Nat) (x0 : Sl) (x1 : Int) (H : Heap) : slices_Repeat_S_api_Cell_api_Cell_p11 d x0 x1 H =
  callK (X d n_math_bits_Mul [.int .u64 (IntKind.wrap .u64 (x0.n : Int)), .int .u64 (IntKind.wrap .u64 x1)] H) fun v1 H2 =>
  castT [.int .u64, .int .u64] v1 fun l3 =>
  castT [.int .u64, .int .u64] (.tuple ⟨l3⟩) fun l4 =>
  optK l4[0]? fun v5 =>
  asI .u64 v5 fun n6 =>
  optK l4[1]? fun v7 =>
  asI .u64 v7 fun n8 =>
  if (decide ((0 : Int) < n6)) = true then
  (slices_Repeat_S_api_Cell_api_Cell_p110101 d x0 n8 true H2)
  else
  (slices_Repeat_S_api_Cell_api_Cell_p110101 d x0 n8 (decide ((9223372036854775807 : Int) < n8)) H2) := (opq_app _ _ _).trans <| by kernel_rfl
theorem slices_Repeat_S_api_Cell_api_Cell_p110101_eq (d : Nat) (x0 : Sl) (x6 : Int) (x26 : Bool) (H : Heap) : slices_Repeat_S_api_Cell_api_Cell_p110101 d x0 x6 x26 H =
  if x26 = true then
  (none)
  else
  (slices_Repeat_S_api_Cell_api_Cell_p11011 d x0 x6 H) := (opq_app _ _ _).trans <| by kernel_rfl
theorem slices_Repeat_S_api_Cell_api_Cell_p11011_eq (d : Nat) (x0 : Sl) (x6 : Int) (H : Heap) : slices_Repeat_S_api_Cell_api_Cell_p11011 d x0 x6 H =
  effK (.mkSl t_api_Cell 4 32 [.int .i32 0, .int .i64 0, .int .i64 0, .int .i64 0]) [.int .i64 (IntKind.wrap .i64 x6), .int .i64 (IntKind.wrap .i64 x6)] H fun v1 H2 =>
  asSL v1 fun l3 =>
  effK (.copy 4 false) [l3.v, x0.v] H2 fun v4 H5 =>
  asI .i64 v4 fun n6 =>
  slices_Repeat_S_api_Cell_api_Cell_p1101101100 d NN l3 n6 H5 := (opq_app _ _ _).trans <| by kernel_rfl
theorem slices_Repeat_S_api_Cell_api_Cell_p1101101100_s (d : Nat) (m0 : Nat) (x7 : Sl) (x8 : Int) (H : Heap) : slices_Repeat_S_api_Cell_api_Cell_p1101101100 d (m0 + 1) x7 x8 H =
  if (decide (x8 < (x7.n : Int))) = true then
  (optK (readD (.subSl t_api_Cell 4 true false false) [x7.v, .int .i64 x8] H) fun v1 =>
    asSL v1 fun l2 =>
    optK (readD (.subSl t_api_Cell 4 false true false) [x7.v, .int .i64 x8] H) fun v3 =>
    asSL v3 fun l4 =>
    effK (.copy 4 false) [l2.v, l4.v] H fun v5 H6 =>
    asI .i64 v5 fun n7 =>
    slices_Repeat_S_api_Cell_api_Cell_p1101101100 d m0 x7 (IntKind.wrap .i64 (x8 + n7)) H6)
  else
  (some (x7.v, H)) := (opq_app _ _ _).trans <| by kernel_rfl
theorem slices_Repeat_S_api_Cell_api_Cell_eq (d : Nat) (x0 : Sl) (x1 : Int) (H : Heap) : X (d + 1) n_slices_Repeat_S_api_Cell_api_Cell [x0.v, .int .i64 x1] H =
  if (decide (x1 < 0)) = true then
  (none)
  else
  (slices_Repeat_S_api_Cell_api_Cell_p11 d x0 x1 H) := by kernel_rfl
end Go.Proofs.YtkkhljcjjhcnhaaGreatDoor.dec

namespace Go.Proofs.YtkkhljcjjhcnhaaGreatDoor.dec
open Go Go.Cm
/-! porthole/grid.blank -/
theorem grid_blank_eq (d : Nat) (H : Heap) : X (d + 1) n_grid_blank [] H =
  newK H (.cells [.int .i32 0, .int .i64 0, .int .i64 0, .int .i64 0] t_api_Cell false 0 false) fun p1 H2 =>
  optK (Heap.stN H2 ⟨p1, 0, none⟩ [.int .i32 32, .int .i64 0, .int .i64 0, .int .i64 0]) fun H3 =>
  retK [.cell 0 4 true] [(0, P0 p1)] H3 := by kernel_rfl
end Go.Proofs.YtkkhljcjjhcnhaaGreatDoor.dec

namespace Go.Proofs.YtkkhljcjjhcnhaaGreatDoor.dec
open Go Go.Cm
/-! math/bits.Mul -/
theorem math_bits_Mul_eq (d : Nat) (x0 : Int) (x1 : Int) (H : Heap) : X (d + 1) n_math_bits_Mul [.int .u64 x0, .int .u64 x1] H =
  callK (X d n_math_bits_Mul64 [.int .u64 x0, .int .u64 x1] H) fun v1 H2 =>
  castT [.int .u64, .int .u64] v1 fun l3 =>
  castT [.int .u64, .int .u64] (.tuple ⟨l3⟩) fun l4 =>
  optK l4[0]? fun v5 =>
  asI .u64 v5 fun n6 =>
  optK l4[1]? fun v7 =>
  asI .u64 v7 fun n8 =>
  some (.tuple #[.int .u64 n6, .int .u64 n8], H2) := by kernel_rfl
end Go.Proofs.YtkkhljcjjhcnhaaGreatDoor.dec

namespace Go.Proofs.YtkkhljcjjhcnhaaGreatDoor.dec
open Go Go.Cm
/-! math/bits.Mul64 -/
theorem math_bits_Mul64_eq (d : Nat) (x0 : Int) (x1 : Int) (H : Heap) : X (d + 1) n_math_bits_Mul64 [.int .u64 x0, .int .u64 x1] H =
  some (.tuple #[.int .u64 (IntKind.wrap .u64 ((IntKind.wrap .u64 ((IntKind.wrap .u64 ((Int.fdiv x0 4294967296) * (Int.fdiv x1 4294967296))) + (Int.fdiv (IntKind.wrap .u64 ((IntKind.wrap .u64 ((Int.fdiv x0 4294967296) * (bitsI .and .u64 x1 4294967295))) + (Int.fdiv (IntKind.wrap .u64 ((bitsI .and .u64 x0 4294967295) * (bitsI .and .u64 x1 4294967295))) 4294967296))) 4294967296))) + (Int.fdiv (IntKind.wrap .u64 ((bitsI .and .u64 (IntKind.wrap .u64 ((IntKind.wrap .u64 ((Int.fdiv x0 4294967296) * (bitsI .and .u64 x1 4294967295))) + (Int.fdiv (IntKind.wrap .u64 ((bitsI .and .u64 x0 4294967295) * (bitsI .and .u64 x1 4294967295))) 4294967296))) 4294967295) + (IntKind.wrap .u64 ((bitsI .and .u64 x0 4294967295) * (Int.fdiv x1 4294967296))))) 4294967296))), .int .u64 (IntKind.wrap .u64 (x0 * x1))], H) := by kernel_rfl
end Go.Proofs.YtkkhljcjjhcnhaaGreatDoor.dec

namespace Go.Proofs.YtkkhljcjjhcnhaaGreatDoor.dec
open Go Go.Cm
/-! porthole/grid.New -/
theorem grid_New_eq (d : Nat) (x0 : Int) (x1 : Int) (H : Heap) : X (d + 1) n_grid_New [.int .i64 x0, .int .i64 x1] H =
  callK (X d n_grid_size [.int .i64 x0, .int .i64 x1] H) fun v1 H2 =>
  asB v1 fun b3 =>
  if (!b3) = true then
  (some (.tuple #[.pointer none, .int .i64 1], H2))
  else
  (callK (X d n_vt_New [] H2) fun v4 H5 =>
    asP v4 fun o6 =>
    newK H5 (.cells [.int .i64 x0, .int .i64 x1, .slice none 0 0, .int .i64 0, .int .i64 0, .bool false, .int .i32 0, .int .i64 0, .int .i64 0, .int .i64 0, .int .i64 0, .int .i64 0, .bool false, .int .i32 0, .int .i64 0, .int .i64 0, .int .i64 0, .int .i64 0, .int .i64 0, .bool false, .bool false, .bool false, .slice none 0 0, .slice none 0 0, .int .i64 0, .int .i64 0, .bool false, .int .i32 0, .int .i64 0, .int .i64 0, .int .i64 0, .slice none 0 0, .pointer o6] t_grid_Grid false 0 false) fun p7 H8 =>
    callK (X d n_grid_Grid_reset [P0 p7] H8) fun _ H10 =>
    some (.tuple #[P0 p7, .int .i64 0], H10)) := by kernel_rfl
end Go.Proofs.YtkkhljcjjhcnhaaGreatDoor.dec

namespace Go.Proofs.YtkkhljcjjhcnhaaGreatDoor.dec
open Go Go.Cm
/-! porthole/grid.size -/
theorem grid_size_eq (d : Nat) (x0 : Int) (x1 : Int) (H : Heap) : X (d + 1) n_grid_size [.int .i64 x0, .int .i64 x1] H =
  if (decide ((1 : Int) ≤ x0)) = true then
  (if (decide (x0 ≤ 60)) = true then
    (if (decide ((1 : Int) ≤ x1)) = true then
      (some (.bool (decide (x1 ≤ 120)), H))
      else
      (some (.bool false, H)))
    else
    (some (.bool false, H)))
  else
  (some (.bool false, H)) := by kernel_rfl
end Go.Proofs.YtkkhljcjjhcnhaaGreatDoor.dec

namespace Go.Proofs.YtkkhljcjjhcnhaaGreatDoor.dec
open Go Go.Cm
/-! porthole/vt.New -/
theorem vt_New_eq (d : Nat) (H : Heap) : X (d + 1) n_vt_New [] H =
  callK (X d n_utf_New [] H) fun v1 H2 =>
  asP v1 fun o3 =>
  newK H2 (.cells [.pointer o3, .int .i64 0, .bool false, .bool false, .bool false, .bool false, .slice none 0 0] t_vt_Parser false 0 false) fun p4 H5 =>
  some (P0 p4, H5) := by kernel_rfl
end Go.Proofs.YtkkhljcjjhcnhaaGreatDoor.dec

namespace Go.Proofs.YtkkhljcjjhcnhaaGreatDoor.dec
open Go Go.Cm
/-! (*porthole/grid.Grid).reset -/
noncomputable def grid_Grid_reset_k11111 (d : Nat) : Kt := run (X d) NN (cd 57 [1, 1, 1, 1, 1]) (retK (rs 57)) [] (retK (rs 57))
noncomputable def grid_Grid_reset_l1111010 (d : Nat) (m0 : Nat) : Kt := iter (fun k => run (X d) NN (cd 57 [1, 1, 1, 1, 0, 1, 0, 0]) (backK [(0, .ptr), (48, .int .i64), (49, .int .i64)] (opq k)) [(0, (grid_Grid_reset_k11111 d))] (retK (rs 57))) m0
noncomputable def grid_Grid_reset_p1111010 (d : Nat) (m0 : Nat) (x0 : Nat) (x48 : Int) (x49 : Int) (H : Heap) : Res := opq (grid_Grid_reset_l1111010 d m0) [(0, P0 x0), (48, .int .i64 x48), (49, .int .i64 x49)] H
noncomputable def grid_Grid_reset_p11110100111 (d : Nat) (m0 : Nat) (x0 : Nat) (x48 : Int) (x49 : Int) (H : Heap) : Res := opq (run (X d) NN (cd 57 [1, 1, 1, 1, 0, 1, 0, 0, 1, 1, 1, 0]) (backK [(0, .ptr), (48, .int .i64), (49, .int .i64)] (opq (grid_Grid_reset_l1111010 d m0))) [(0, (grid_Grid_reset_k11111 d))] (retK (rs 57))) [(0, P0 x0), (48, .int .i64 x48), (49, .int .i64 x49)] H
theorem grid_Grid_reset_p1111010_s (d : Nat) (m0 : Nat) (x0 : Nat) (x48 : Int) (x49 : Int) (H : Heap) : grid_Grid_reset_p1111010 d (m0 + 1) x0 x48 x49 H =
  if (decide (x49 < x48)) = true then
  (optK (Heap.ld1 H ⟨x0, 22, none⟩) fun v1 =>
    asSL v1 fun l2 =>
    if (decide ((0 : Int) < x49)) = true then
    (newK H (.cells [.bool (decide (Int.tmod x49 8 = 0))] t_bool false 0 false) fun p3 H4 =>
      appendK t_bool 1 1 false l2.v (.slice (some ⟨p3, 0, none⟩) 1 1) H4 fun v5 H6 =>
      asSL v5 fun l7 =>
      optK (Heap.st1 H6 ⟨x0, 22, none⟩ l7.v) fun H8 =>
      grid_Grid_reset_p11110100111 d m0 x0 x48 x49 H8)
    else
    (newK H (.cells [.bool false] t_bool false 0 false) fun p9 H10 =>
      appendK t_bool 1 1 false l2.v (.slice (some ⟨p9, 0, none⟩) 1 1) H10 fun v11 H12 =>
      asSL v11 fun l13 =>
      optK (Heap.st1 H12 ⟨x0, 22, none⟩ l13.v) fun H14 =>
      grid_Grid_reset_p11110100111 d m0 x0 x48 x49 H14))
  else
  (optK (Heap.stN H ⟨x0, 6, none⟩ [.int .i32 0, .int .i64 0, .int .i64 0, .int .i64 0]) fun H15 =>
    optK (Heap.stN H15 ⟨x0, 13, none⟩ [.int .i32 0, .int .i64 0, .int .i64 0, .int .i64 0]) fun H16 =>
    some (.tuple #[], H16)) := (opq_app _ _ _).trans <| by kernel_rfl
theorem grid_Grid_reset_p11110100111_eq (d : Nat) (m0 : Nat) (x0 : Nat) (x48 : Int) (x49 : Int) (H : Heap) : grid_Grid_reset_p11110100111 d m0 x0 x48 x49 H =
  grid_Grid_reset_p1111010 d m0 x0 x48 (IntKind.wrap .i64 (x49 + 1)) H := (opq_app _ _ _).trans <| by kernel_rfl
theorem grid_Grid_reset_eq (d : Nat) (x0 : Nat) (H : Heap) : X (d + 1) n_grid_Grid_reset [P0 x0] H =
  optK (Heap.ld1 H ⟨x0, 0, none⟩) fun v1 =>
  asI .i64 v1 fun n2 =>
  optK (Heap.ld1 H ⟨x0, 1, none⟩) fun v3 =>
  asI .i64 v3 fun n4 =>
  optK (Heap.ld1 H ⟨x0, 31, none⟩) fun v5 =>
  asSL v5 fun l6 =>
  optK (Heap.ld1 H ⟨x0, 32, none⟩) fun v7 =>
  asP v7 fun o8 =>
  optK (Heap.stN H ⟨x0, 0, none⟩ [.int .i64 n2, .int .i64 n4, .slice none 0 0, .int .i64 0, .int .i64 0, .bool false, .int .i32 0, .int .i64 0, .int .i64 0, .int .i64 0, .int .i64 0, .int .i64 0, .bool false, .int .i32 0, .int .i64 0, .int .i64 0, .int .i64 0, .int .i64 0, .int .i64 0, .bool false, .bool false, .bool false, .slice none 0 0, .slice none 0 0, .int .i64 0, .int .i64 0, .bool false, .int .i32 0, .int .i64 0, .int .i64 0, .int .i64 0, l6.v, .pointer o8]) fun H9 =>
  optK (Heap.ld1 H9 ⟨x0, 0, none⟩) fun v10 =>
  asI .i64 v10 fun n11 =>
  optK (Heap.ld1 H9 ⟨x0, 1, none⟩) fun v12 =>
  asI .i64 v12 fun n13 =>
  callK (X d n_grid_sheet [.int .i64 n11, .int .i64 n13] H9) fun v14 H15 =>
  asSL v14 fun l16 =>
  optK (Heap.st1 H15 ⟨x0, 2, none⟩ l16.v) fun H17 =>
  optK (Heap.ld1 H17 ⟨x0, 0, none⟩) fun v18 =>
  asI .i64 v18 fun n19 =>
  optK (Heap.st1 H17 ⟨x0, 18, none⟩ (.int .i64 (IntKind.wrap .i64 (n19 - 1)))) fun H20 =>
  optK (Heap.st1 H20 ⟨x0, 19, none⟩ (.bool true)) fun H21 =>
  optK (Heap.ld1 H21 ⟨x0, 1, none⟩) fun v22 =>
  asI .i64 v22 fun n23 =>
  grid_Grid_reset_p1111010 d NN x0 n23 0 H21 := by kernel_rfl
end Go.Proofs.YtkkhljcjjhcnhaaGreatDoor.dec

namespace Go.Proofs.YtkkhljcjjhcnhaaGreatDoor.dec
open Go Go.Cm
/-! porthole/utf.New -/
theorem utf_New_eq (d : Nat) (H : Heap) : X (d + 1) n_utf_New [] H =
  newK H (.cells [.slice none 0 0] t_utf_Decoder false 0 false) fun p1 H2 =>
  some (P0 p1, H2) := by kernel_rfl
end Go.Proofs.YtkkhljcjjhcnhaaGreatDoor.dec

namespace Go.Proofs.YtkkhljcjjhcnhaaGreatDoor.dec
open Go Go.Cm
/-! (*porthole/grid.Grid).Screen -/
theorem grid_Grid_Screen_eq (d : Nat) (x0 : Nat) (H : Heap) : X (d + 1) n_grid_Grid_Screen [P0 x0] H =
  newK H (.cells [.int .i64 0, .int .i64 0, .slice none 0 0, .int .i64 0, .int .i64 0, .bool false] t_api_Screen false 0 false) fun p1 H2 =>
  optK (Heap.ld1 H2 ⟨x0, 0, none⟩) fun v3 =>
  asI .i64 v3 fun n4 =>
  optK (Heap.ld1 H2 ⟨x0, 1, none⟩) fun v5 =>
  asI .i64 v5 fun n6 =>
  optK (Heap.ld1 H2 ⟨x0, 2, none⟩) fun v7 =>
  asSL v7 fun l8 =>
  callK (X d n_grid_copied [l8.v] H2) fun v9 H10 =>
  asSL v9 fun l11 =>
  optK (Heap.ld1 H10 ⟨x0, 3, none⟩) fun v12 =>
  asI .i64 v12 fun n13 =>
  optK (Heap.ld1 H10 ⟨x0, 4, none⟩) fun v14 =>
  asI .i64 v14 fun n15 =>
  optK (Heap.ld1 H10 ⟨x0, 21, none⟩) fun v16 =>
  asB v16 fun b17 =>
  optK (Heap.stN H10 ⟨p1, 0, none⟩ [.int .i64 n4, .int .i64 n6, l11.v, .int .i64 n13, .int .i64 n15, .bool b17]) fun H18 =>
  chk (rdsOk [H2, H10, H18] [⟨.load 1 false, [.pointer (some ⟨x0, 21, none⟩)], v16, 0, 1⟩, ⟨.load 1 false, [.pointer (some ⟨x0, 4, none⟩)], v14, 0, 1⟩, ⟨.load 1 false, [.pointer (some ⟨x0, 3, none⟩)], v12, 0, 1⟩, ⟨.load 1 false, [.pointer (some ⟨x0, 1, none⟩)], v5, 0, 1⟩, ⟨.load 1 false, [P0 x0], v3, 0, 1⟩]) (
    retK [.cell 2 6 true] [(2, P0 p1)] H18) := by kernel_rfl
end Go.Proofs.YtkkhljcjjhcnhaaGreatDoor.dec

namespace Go.Proofs.YtkkhljcjjhcnhaaGreatDoor.dec
open Go Go.Cm
/-! (*porthole/mux.Mux).fresh -/
theorem mux_Mux_fresh_eq (d : Nat) (x0 : Nat) (H : Heap) : X (d + 1) n_mux_Mux_fresh [P0 x0] H =
  optK (Heap.ld1 H ⟨x0, 4, none⟩) fun v1 =>
  asI .i64 v1 fun n2 =>
  callK (X d n_layout_New [.int .i64 n2] H) fun v3 H4 =>
  asP v3 fun o5 =>
  optK (Heap.ld1 H4 ⟨x0, 4, none⟩) fun v6 =>
  asI .i64 v6 fun n7 =>
  newK H4 (.cells [.pointer o5, .int .i64 n7, .bool false] t_mux_window false 0 false) fun p8 H9 =>
  chk (rdsOk [H, H4, H9] [⟨.load 1 false, [.pointer (some ⟨x0, 4, none⟩)], v6, 0, 1⟩]) (
    callK (X d n_mux_Mux_make [P0 x0] H9) fun _ H11 =>
    callK (X d n_mux_Mux_fit [P0 x0, P0 p8] H11) fun _ H13 =>
    some (P0 p8, H13)) := by kernel_rfl
end Go.Proofs.YtkkhljcjjhcnhaaGreatDoor.dec

namespace Go.Proofs.YtkkhljcjjhcnhaaGreatDoor.dec
open Go Go.Cm
/-! (*porthole/mux.Mux).make -/
theorem mux_Mux_make_eq (d : Nat) (x0 : Nat) (H : Heap) : X (d + 1) n_mux_Mux_make [P0 x0] H =
  optK (Heap.ld1 H ⟨x0, 0, none⟩) fun v1 =>
  asI .i64 v1 fun n2 =>
  optK (Heap.ld1 H ⟨x0, 1, none⟩) fun v3 =>
  asI .i64 v3 fun n4 =>
  callK (X d n_grid_New [.int .i64 n2, .int .i64 n4] H) fun v5 H6 =>
  castT [.ptr, .int .i64] v5 fun l7 =>
  castT [.ptr, .int .i64] (.tuple ⟨l7⟩) fun l8 =>
  optK l8[0]? fun v9 =>
  asP v9 fun o10 =>
  optK l8[1]? fun v11 =>
  asI .i64 v11 fun _ =>
  optK (Heap.ld1 H6 ⟨x0, 3, none⟩) fun v13 =>
  asM v13 fun r14 =>
  optK (Heap.ld1 H6 ⟨x0, 4, none⟩) fun v15 =>
  asI .i64 v15 fun n16 =>
  newK H6 (.cells [.pointer o10, .slice none 0 0] t_mux_pane false 0 false) fun p17 H18 =>
  effK (.mapE (.upd (.int .i64))) [.map r14, .int .i64 n16, P0 p17] H18 fun _ H20 =>
  chk (rdsOk [H6, H18, H20] [⟨.load 1 false, [.pointer (some ⟨x0, 4, none⟩)], v15, 0, 1⟩, ⟨.load 1 false, [.pointer (some ⟨x0, 3, none⟩)], v13, 0, 1⟩]) (
    optK (Heap.ld1 H20 ⟨x0, 4, none⟩) fun v21 =>
    asI .i64 v21 fun n22 =>
    optK (Heap.st1 H20 ⟨x0, 4, none⟩ (.int .i64 (IntKind.wrap .i64 (n22 + 1)))) fun H23 =>
    some (.tuple #[], H23)) := by kernel_rfl
end Go.Proofs.YtkkhljcjjhcnhaaGreatDoor.dec

namespace Go.Proofs.YtkkhljcjjhcnhaaGreatDoor.dec
open Go Go.Cm
/-! (*porthole/mux.Mux).fit -/
noncomputable def mux_Mux_fit_l110 (d : Nat) (m0 : Nat) : Kt := iter (fun k => run (X d) NN (cd 48 [1, 1, 0, 0]) (backK [(0, .ptr), (1, .ptr), (4, .sl), (28, .sl), (29, .int .i64), (30, .int .i64)] (opq k)) [(0, (retK (rs 48)))] (retK (rs 48))) m0
noncomputable def mux_Mux_fit_k1100111 (d : Nat) (m0 : Nat) : Kt := run (X d) NN (cd 48 [1, 1, 0, 0, 1, 1, 1]) (backK [(0, .ptr), (1, .ptr), (4, .sl), (28, .sl), (29, .int .i64), (30, .int .i64)] (opq (mux_Mux_fit_l110 d m0))) [(0, (retK (rs 48)))] (retK (rs 48))
noncomputable def mux_Mux_fit_k11001100111 (d : Nat) (m0 : Nat) : Kt := run (X d) NN (cd 48 [1, 1, 0, 0, 1, 1, 0, 0, 1, 1, 1]) (mux_Mux_fit_k1100111 d m0) [(1, (mux_Mux_fit_k1100111 d m0)), (0, (retK (rs 48)))] (retK (rs 48))
noncomputable def mux_Mux_fit_p110 (d : Nat) (m0 : Nat) (x0 : Nat) (x1 : Nat) (x4 : Sl) (x28 : Sl) (x29 : Int) (x30 : Int) (H : Heap) : Res := opq (mux_Mux_fit_l110 d m0) [(0, P0 x0), (1, P0 x1), (4, x4.v), (28, x28.v), (29, .int .i64 x29), (30, .int .i64 x30)] H
noncomputable def mux_Mux_fit_p110011001101 (d : Nat) (m0 : Nat) (x0 : Nat) (x1 : Nat) (x4 : Sl) (x6 : Int) (x7 : Int) (x8 : Int) (x28 : Sl) (x29 : Int) (x30 : Int) (x58 : Bool) (H : Heap) : Res := opq (run (X d) NN (cd 48 [1, 1, 0, 0, 1, 1, 0, 0, 1, 1, 0, 1, 0]) (mux_Mux_fit_k11001100111 d m0) [(1, (mux_Mux_fit_k1100111 d m0)), (0, (retK (rs 48)))] (retK (rs 48))) [(0, P0 x0), (1, P0 x1), (4, x4.v), (6, .int .i64 x6), (7, .int .i64 x7), (8, .int .i64 x8), (28, x28.v), (29, .int .i64 x29), (30, .int .i64 x30), (58, .bool x58)] H
noncomputable def mux_Mux_fit_p11001100111 (d : Nat) (m0 : Nat) (x0 : Nat) (x1 : Nat) (x4 : Sl) (x6 : Int) (x7 : Int) (x8 : Int) (x28 : Sl) (x29 : Int) (x30 : Int) (H : Heap) : Res := opq (run (X d) NN (cd 48 [1, 1, 0, 0, 1, 1, 0, 0, 1, 1, 1, 0]) (mux_Mux_fit_k1100111 d m0) [(1, (mux_Mux_fit_k1100111 d m0)), (0, (retK (rs 48)))] (retK (rs 48))) [(0, P0 x0), (1, P0 x1), (4, x4.v), (6, .int .i64 x6), (7, .int .i64 x7), (8, .int .i64 x8), (28, x28.v), (29, .int .i64 x29), (30, .int .i64 x30)] H
noncomputable def mux_Mux_fit_p110011001110111 (d : Nat) (m0 : Nat) (x0 : Nat) (x1 : Nat) (x4 : Sl) (x7 : Int) (x8 : Int) (x9 : Option Addr) (x28 : Sl) (x29 : Int) (x30 : Int) (x87 : Bool) (H : Heap) : Res := opq (run (X d) NN (cd 48 [1, 1, 0, 0, 1, 1, 0, 0, 1, 1, 1, 0, 1, 1, 1, 0]) (mux_Mux_fit_k1100111 d m0) [(1, (mux_Mux_fit_k1100111 d m0)), (0, (retK (rs 48)))] (retK (rs 48))) [(0, P0 x0), (1, P0 x1), (4, x4.v), (7, .int .i64 x7), (8, .int .i64 x8), (9, .pointer x9), (28, x28.v), (29, .int .i64 x29), (30, .int .i64 x30), (87, .bool x87)] H
noncomputable def mux_Mux_fit_p1100111 (d : Nat) (m0 : Nat) (x0 : Nat) (x1 : Nat) (x4 : Sl) (x28 : Sl) (x29 : Int) (x30 : Int) (H : Heap) : Res := opq (run (X d) NN (cd 48 [1, 1, 0, 0, 1, 1, 1, 0]) (backK [(0, .ptr), (1, .ptr), (4, .sl), (28, .sl), (29, .int .i64), (30, .int .i64)] (opq (mux_Mux_fit_l110 d m0))) [(0, (retK (rs 48)))] (retK (rs 48))) [(0, P0 x0), (1, P0 x1), (4, x4.v), (28, x28.v), (29, .int .i64 x29), (30, .int .i64 x30)] H
theorem mux_Mux_fit_p110_s (d : Nat) (m0 : Nat) (x0 : Nat) (x1 : Nat) (x4 : Sl) (x28 : Sl) (x29 : Int) (x30 : Int) (H : Heap) : mux_Mux_fit_p110 d (m0 + 1) x0 x1 x4 x28 x29 x30 H =
  if (decide (x30 < x29)) = true then
  (optK x28.a fun a1 =>
    if 0 ≤ x30 ∧ x30 < (x28.n : Int) then
    optK (Heap.ld1 H (ap a1 (((x30).toNat) * 1))) fun v2 =>
    asI .i64 v2 fun n3 =>
    optK x4.a fun a4 =>
    if 0 ≤ x30 ∧ x30 < (x4.n : Int) then
    optK (Heap.ld1 H (ap (ap a4 (((x30).toNat) * 4)) 2)) fun v5 =>
    asI .i64 v5 fun n6 =>
    optK x4.a fun a7 =>
    if 0 ≤ x30 ∧ x30 < (x4.n : Int) then
    optK (Heap.ld1 H (ap (ap a7 (((x30).toNat) * 4)) 3)) fun v8 =>
    asI .i64 v8 fun n9 =>
    optK (Heap.ld1 H ⟨x1, 2, none⟩) fun v10 =>
    asB v10 fun b11 =>
    if b11 = true then
    (optK (Heap.ld1 H ⟨x1, 1, none⟩) fun v12 =>
      asI .i64 v12 fun n13 =>
      mux_Mux_fit_p110011001101 d m0 x0 x1 x4 n3 (if n6 < 1 then 1 else n6) (if n9 < 1 then 1 else n9) x28 x29 x30 (decide (n3 = n13)) H)
    else
    (mux_Mux_fit_p110011001101 d m0 x0 x1 x4 n3 (if n6 < 1 then 1 else n6) (if n9 < 1 then 1 else n9) x28 x29 x30 false H)
    else none
    else none
    else none)
  else
  (some (.tuple #[], H)) := (opq_app _ _ _).trans <| by kernel_rfl
theorem mux_Mux_fit_p110011001101_eq (d : Nat) (m0 : Nat) (x0 : Nat) (x1 : Nat) (x4 : Sl) (x6 : Int) (x7 : Int) (x8 : Int) (x28 : Sl) (x29 : Int) (x30 : Int) (x58 : Bool) (H : Heap) : mux_Mux_fit_p110011001101 d m0 x0 x1 x4 x6 x7 x8 x28 x29 x30 x58 H =
  if x58 = true then
  (optK (Heap.ld1 H ⟨x0, 0, none⟩) fun v1 =>
    asI .i64 v1 fun n2 =>
    optK (Heap.ld1 H ⟨x0, 1, none⟩) fun v3 =>
    asI .i64 v3 fun n4 =>
    mux_Mux_fit_p11001100111 d m0 x0 x1 x4 x6 n2 n4 x28 x29 x30 H)
  else
  (mux_Mux_fit_p11001100111 d m0 x0 x1 x4 x6 x7 x8 x28 x29 x30 H) := (opq_app _ _ _).trans <| by kernel_rfl
theorem mux_Mux_fit_p11001100111_eq (d : Nat) (m0 : Nat) (x0 : Nat) (x1 : Nat) (x4 : Sl) (x6 : Int) (x7 : Int) (x8 : Int) (x28 : Sl) (x29 : Int) (x30 : Int) (H : Heap) : mux_Mux_fit_p11001100111 d m0 x0 x1 x4 x6 x7 x8 x28 x29 x30 H =
  optK (Heap.ld1 H ⟨x0, 3, none⟩) fun v1 =>
  asM v1 fun r2 =>
  optK (readD (.lookup (.int .i64) (.pointer none) false) [.map r2, .int .i64 x6] H) fun v3 =>
  asP v3 fun o4 =>
  nilP o4 fun a5 =>
  optK (Heap.ld1 H (ap a5 0)) fun v6 =>
  asP v6 fun o7 =>
  callK (X d n_grid_Grid_Screen [.pointer o7] H) fun v8 H9 =>
  asA v8 fun c10 =>
  newK H9 (.cells [.int .i64 0, .int .i64 0, .slice none 0 0, .int .i64 0, .int .i64 0, .bool false] t_api_Screen false 0 false) fun p11 H12 =>
  effK (.store 6) [P0 p11, .agg c10] H12 fun _ H14 =>
  optK (Heap.ld1 H14 ⟨p11, 0, none⟩) fun v15 =>
  asI .i64 v15 fun n16 =>
  if (!decide (n16 = x7)) = true then
  (mux_Mux_fit_p110011001110111 d m0 x0 x1 x4 x7 x8 o7 x28 x29 x30 true H14)
  else
  (optK (Heap.ld1 H14 ⟨p11, 1, none⟩) fun v17 =>
    asI .i64 v17 fun n18 =>
    mux_Mux_fit_p110011001110111 d m0 x0 x1 x4 x7 x8 o7 x28 x29 x30 (!decide (n18 = x8)) H14) := (opq_app _ _ _).trans <| by kernel_rfl
theorem mux_Mux_fit_p110011001110111_eq (d : Nat) (m0 : Nat) (x0 : Nat) (x1 : Nat) (x4 : Sl) (x7 : Int) (x8 : Int) (x9 : Option Addr) (x28 : Sl) (x29 : Int) (x30 : Int) (x87 : Bool) (H : Heap) : mux_Mux_fit_p110011001110111 d m0 x0 x1 x4 x7 x8 x9 x28 x29 x30 x87 H =
  if x87 = true then
  (callK (X d n_grid_Grid_Resize [.pointer x9, .int .i64 x7, .int .i64 x8] H) fun v1 H2 =>
    asI .i64 v1 fun _ =>
    mux_Mux_fit_p1100111 d m0 x0 x1 x4 x28 x29 x30 H2)
  else
  (mux_Mux_fit_p1100111 d m0 x0 x1 x4 x28 x29 x30 H) := (opq_app _ _ _).trans <| by kernel_rfl
theorem mux_Mux_fit_p1100111_eq (d : Nat) (m0 : Nat) (x0 : Nat) (x1 : Nat) (x4 : Sl) (x28 : Sl) (x29 : Int) (x30 : Int) (H : Heap) : mux_Mux_fit_p1100111 d m0 x0 x1 x4 x28 x29 x30 H =
  mux_Mux_fit_p110 d m0 x0 x1 x4 x28 x29 (IntKind.wrap .i64 (x30 + 1)) H := (opq_app _ _ _).trans <| by kernel_rfl
theorem mux_Mux_fit_eq (d : Nat) (x0 : Nat) (x1 : Nat) (H : Heap) : X (d + 1) n_mux_Mux_fit [P0 x0, P0 x1] H =
  optK (Heap.ld1 H ⟨x1, 0, none⟩) fun v1 =>
  asP v1 fun o2 =>
  optK (Heap.ld1 H ⟨x0, 0, none⟩) fun v3 =>
  asI .i64 v3 fun n4 =>
  optK (Heap.ld1 H ⟨x0, 1, none⟩) fun v5 =>
  asI .i64 v5 fun n6 =>
  callK (X d n_layout_Tree_Places [.pointer o2, .int .i64 n4, .int .i64 n6] H) fun v7 H8 =>
  asSL v7 fun l9 =>
  optK (Heap.ld1 H8 ⟨x1, 0, none⟩) fun v10 =>
  asP v10 fun o11 =>
  callK (X d n_layout_Tree_Panes [.pointer o11] H8) fun v12 H13 =>
  asSL v12 fun l14 =>
  mux_Mux_fit_p110 d NN x0 x1 l9 l14 (l14.n : Int) 0 H13 := by kernel_rfl
end Go.Proofs.YtkkhljcjjhcnhaaGreatDoor.dec

namespace Go.Proofs.YtkkhljcjjhcnhaaGreatDoor.dec
open Go Go.Cm
/-! (*porthole/layout.Tree).Places -/
theorem layout_Tree_Places_eq (d : Nat) (x0 : Nat) (x1 : Int) (x2 : Int) (H : Heap) : X (d + 1) n_layout_Tree_Places [P0 x0, .int .i64 x1, .int .i64 x2] H =
  newK H (.cells [.slice none 0 0] t_S_api_Rect false 0 false) fun p1 H2 =>
  optK (Heap.ld1 H2 ⟨x0, 0, none⟩) fun v3 =>
  asP v3 fun o4 =>
  callK (X d n_layout_all [.int .i64 x1, .int .i64 x2] H2) fun v5 H6 =>
  asA v5 fun c7 =>
  callK (X d n_layout_node_walk [.pointer o4, .agg c7, .func (.func n_layout_Tree_Places_1) #[] #[P0 p1]] H6) fun _ H9 =>
  chk (rdsOk [H2, H6, H9] [⟨.load 1 false, [P0 x0], v3, 0, 1⟩]) (
    optK (Heap.ld1 H9 ⟨p1, 0, none⟩) fun v10 =>
    asSL v10 fun l11 =>
    some (l11.v, H9)) := by kernel_rfl
end Go.Proofs.YtkkhljcjjhcnhaaGreatDoor.dec

namespace Go.Proofs.YtkkhljcjjhcnhaaGreatDoor.dec
open Go Go.Cm
/-! (*porthole/layout.Tree).Panes -/
theorem layout_Tree_Panes_eq (d : Nat) (x0 : Nat) (H : Heap) : X (d + 1) n_layout_Tree_Panes [P0 x0] H =
  newK H (.cells [.slice none 0 0] t_S_int false 0 false) fun p1 H2 =>
  optK (Heap.ld1 H2 ⟨x0, 0, none⟩) fun v3 =>
  asP v3 fun o4 =>
  callK (X d n_layout_node_walk [.pointer o4, .agg #[.int .i64 0, .int .i64 0, .int .i64 0, .int .i64 0], .func (.func n_layout_Tree_Panes_1) #[] #[P0 p1]] H2) fun _ H6 =>
  optK (Heap.ld1 H6 ⟨p1, 0, none⟩) fun v7 =>
  asSL v7 fun l8 =>
  some (l8.v, H6) := by kernel_rfl
end Go.Proofs.YtkkhljcjjhcnhaaGreatDoor.dec

namespace Go.Proofs.YtkkhljcjjhcnhaaGreatDoor.dec
open Go Go.Cm
/-! porthole/layout.New -/
theorem layout_New_eq (d : Nat) (x0 : Int) (H : Heap) : X (d + 1) n_layout_New [.int .i64 x0] H =
  newK H (.cells [.int .i64 x0, .pointer none, .pointer none, .bool false, .int .i64 0] t_layout_node false 0 false) fun p1 H2 =>
  newK H2 (.cells [P0 p1] t_layout_Tree false 0 false) fun p3 H4 =>
  some (P0 p3, H4) := by kernel_rfl
end Go.Proofs.YtkkhljcjjhcnhaaGreatDoor.dec

namespace Go.Proofs.YtkkhljcjjhcnhaaGreatDoor.dec
open Go Go.Cm
/-! (*porthole/layout.node).walk -/
theorem layout_node_walk_eq (d : Nat) (x0 : Nat) (x1 : Array Value) (x2 : Value) (H : Heap) : X (d + 1) n_layout_node_walk [P0 x0, .agg x1, x2] H =
  effK (.box t_api_Rect) [.agg x1] H fun v1 H2 =>
  optK (readD (.load 4 true) [v1] H2) fun v3 =>
  asA v3 fun c4 =>
  callvK (X d) x2 [P0 x0, .agg c4] H2 fun _ H6 =>
  callK (X d n_layout_node_leaf [P0 x0] H6) fun v7 H8 =>
  asB v7 fun b9 =>
  if b9 = true then
  (some (.tuple #[], H8))
  else
  (optK (readD (.load 4 true) [v1] H8) fun v10 =>
    asA v10 fun c11 =>
    callK (X d n_layout_node_parts [P0 x0, .agg c11] H8) fun v12 H13 =>
    castT [.agg, .agg] v12 fun l14 =>
    castT [.agg, .agg] (.tuple ⟨l14⟩) fun l15 =>
    optK l15[0]? fun v16 =>
    asA v16 fun c17 =>
    optK l15[1]? fun v18 =>
    asA v18 fun c19 =>
    newK H13 (.cells [.int .i64 0, .int .i64 0, .int .i64 0, .int .i64 0] t_api_Rect false 0 false) fun p20 H21 =>
    newK H21 (.cells [.int .i64 0, .int .i64 0, .int .i64 0, .int .i64 0] t_api_Rect false 0 false) fun p22 H23 =>
    effK (.store 4) [P0 p20, .agg c17] H23 fun _ H25 =>
    effK (.store 4) [P0 p22, .agg c19] H25 fun _ H27 =>
    optK (Heap.ld1 H27 ⟨x0, 1, none⟩) fun v28 =>
    asP v28 fun o29 =>
    optK (ldA H27 ⟨p20, 0, none⟩ 4) fun v30 =>
    asA v30 fun c31 =>
    callK (X d n_layout_node_walk [.pointer o29, .agg c31, x2] H27) fun _ H33 =>
    optK (Heap.ld1 H33 ⟨x0, 2, none⟩) fun v34 =>
    asP v34 fun o35 =>
    optK (ldA H33 ⟨p22, 0, none⟩ 4) fun v36 =>
    asA v36 fun c37 =>
    callK (X d n_layout_node_walk [.pointer o35, .agg c37, x2] H33) fun _ H39 =>
    some (.tuple #[], H39)) := by kernel_rfl
end Go.Proofs.YtkkhljcjjhcnhaaGreatDoor.dec

namespace Go.Proofs.YtkkhljcjjhcnhaaGreatDoor.dec
open Go Go.Cm
/-! porthole/layout.all -/
theorem layout_all_eq (d : Nat) (x0 : Int) (x1 : Int) (H : Heap) : X (d + 1) n_layout_all [.int .i64 x0, .int .i64 x1] H =
  newK H (.cells [.int .i64 0, .int .i64 0, .int .i64 0, .int .i64 0] t_api_Rect false 0 false) fun p1 H2 =>
  optK (Heap.stN H2 ⟨p1, 0, none⟩ [.int .i64 0, .int .i64 0, .int .i64 (if x0 < 0 then 0 else x0), .int .i64 (if x1 < 0 then 0 else x1)]) fun H3 =>
  retK [.cell 4 4 true] [(4, P0 p1)] H3 := by kernel_rfl
end Go.Proofs.YtkkhljcjjhcnhaaGreatDoor.dec

namespace Go.Proofs.YtkkhljcjjhcnhaaGreatDoor.dec
open Go Go.Cm
/-! (*porthole/layout.Tree).Places$1 -/
theorem layout_Tree_Places_1_eq (d : Nat) (x0 : Nat) (x1 : Array Value) (x2 : Nat) (H : Heap) : X (d + 1) n_layout_Tree_Places_1 [P0 x0, .agg x1, P0 x2] H =
  effK (.box t_api_Rect) [.agg x1] H fun v1 H2 =>
  callK (X d n_layout_node_leaf [P0 x0] H2) fun v3 H4 =>
  asB v3 fun b5 =>
  if b5 = true then
  (optK (Heap.ld1 H4 ⟨x2, 0, none⟩) fun v6 =>
    asSL v6 fun l7 =>
    optK (readD (.load 4 true) [v1] H4) fun v8 =>
    asA v8 fun c9 =>
    optK (fillL [(0, 4)] [.agg c9] [.int .i64 0, .int .i64 0, .int .i64 0, .int .i64 0]) fun l10 =>
    newK H4 (.cells l10 t_api_Rect false 0 false) fun p11 H12 =>
    appendK t_api_Rect 4 32 false l7.v (.slice (some ⟨p11, 0, none⟩) 1 1) H12 fun v13 H14 =>
    asSL v13 fun l15 =>
    optK (Heap.st1 H14 ⟨x2, 0, none⟩ l15.v) fun H16 =>
    some (.tuple #[], H16))
  else
  (some (.tuple #[], H4)) := by kernel_rfl
end Go.Proofs.YtkkhljcjjhcnhaaGreatDoor.dec

namespace Go.Proofs.YtkkhljcjjhcnhaaGreatDoor.dec
open Go Go.Cm
/-! (*porthole/layout.node).leaf -/
theorem layout_node_leaf_eq (d : Nat) (x0 : Nat) (H : Heap) : X (d + 1) n_layout_node_leaf [P0 x0] H =
  optK (Heap.ld1 H ⟨x0, 1, none⟩) fun v1 =>
  asP v1 fun o2 =>
  some (.bool o2.isNone, H) := by kernel_rfl
end Go.Proofs.YtkkhljcjjhcnhaaGreatDoor.dec

namespace Go.Proofs.YtkkhljcjjhcnhaaGreatDoor.dec
open Go Go.Cm
/-! (*porthole/layout.Tree).Panes$1 -/
theorem layout_Tree_Panes_1_eq (d : Nat) (x0 : Nat) (x1 : Array Value) (x2 : Nat) (H : Heap) : X (d + 1) n_layout_Tree_Panes_1 [P0 x0, .agg x1, P0 x2] H =
  effK (.box t_api_Rect) [.agg x1] H fun _ H2 =>
  callK (X d n_layout_node_leaf [P0 x0] H2) fun v3 H4 =>
  asB v3 fun b5 =>
  if b5 = true then
  (optK (Heap.ld1 H4 ⟨x2, 0, none⟩) fun v6 =>
    asSL v6 fun l7 =>
    optK (Heap.ld1 H4 ⟨x0, 0, none⟩) fun v8 =>
    asI .i64 v8 fun n9 =>
    newK H4 (.cells [.int .i64 n9] t_int false 0 false) fun p10 H11 =>
    appendK t_int 1 8 false l7.v (.slice (some ⟨p10, 0, none⟩) 1 1) H11 fun v12 H13 =>
    asSL v12 fun l14 =>
    optK (Heap.st1 H13 ⟨x2, 0, none⟩ l14.v) fun H15 =>
    chk (rdsOk [H4, H11, H13, H15] [⟨.load 1 false, [P0 x2], v6, 0, 1⟩]) (
      some (.tuple #[], H15)))
  else
  (some (.tuple #[], H4)) := by kernel_rfl
end Go.Proofs.YtkkhljcjjhcnhaaGreatDoor.dec

namespace Go.Proofs.YtkkhljcjjhcnhaaGreatDoor.dec
open Go Go.Cm
/-! porthole/mux.New -/
theorem mux_New_eq (d : Nat) (x0 : Int) (x1 : Int) (H : Heap) : X (d + 1) n_mux_New [.int .i64 x0, .int .i64 x1] H =
  callK (X d n_grid_New [.int .i64 x0, .int .i64 x1] H) fun v1 H2 =>
  castT [.ptr, .int .i64] v1 fun l3 =>
  castT [.ptr, .int .i64] (.tuple ⟨l3⟩) fun l4 =>
  optK l4[0]? fun v5 =>
  asP v5 fun _ =>
  optK l4[1]? fun v7 =>
  asI .i64 v7 fun n8 =>
  if (!decide (n8 = 0)) = true then
  (some (.tuple #[.pointer none, .int .i64 n8], H2))
  else
  (effK (.mapE .mk) [] H2 fun v9 H10 =>
    asM v9 fun r11 =>
    effK (.mapE .mk) [] H10 fun v12 H13 =>
    asM v12 fun r14 =>
    newK H13 (.cells [.int .i64 x0, .int .i64 x1, .map r11, .map r14, .int .i64 0, .slice none 0 0] t_mux_Mux false 0 false) fun p15 H16 =>
    some (.tuple #[P0 p15, .int .i64 0], H16)) := by kernel_rfl
end Go.Proofs.YtkkhljcjjhcnhaaGreatDoor.dec

namespace Go.Proofs.YtkkhljcjjhcnhaaGreatDoor.dec
open Go Go.Cm
/-! (*porthole/mux.Mux).NewSession -/
theorem mux_Mux_NewSession_eq (d : Nat) (x0 : Nat) (x1 : ByteArray) (H : Heap) : X (d + 1) n_mux_Mux_NewSession [P0 x0, .string x1] H =
  optK (Heap.ld1 H ⟨x0, 2, none⟩) fun v1 =>
  asM v1 fun r2 =>
  optK (readD (.lookup (.str) (.pointer none) true) [.map r2, .string x1] H) fun v3 =>
  castT [.ptr, .bool] v3 fun l4 =>
  castT [.ptr, .bool] (.tuple ⟨l4⟩) fun l5 =>
  optK l5[0]? fun v6 =>
  asP v6 fun _ =>
  optK l5[1]? fun v8 =>
  asB v8 fun b9 =>
  callK (X d n_mux_Right [.string x1] H) fun v10 H11 =>
  asB v10 fun b12 =>
  if (!b12) = true then
  (some (.int .i64 1, H11))
  else
  (if b9 = true then
    (some (.int .i64 15, H11))
    else
    (optK (Heap.ld1 H11 ⟨x0, 2, none⟩) fun v13 =>
      asM v13 fun r14 =>
      optK (readD (.lenMap) [.map r14] H11) fun v15 =>
      asI .i64 v15 fun n16 =>
      if (decide ((8 : Int) ≤ n16)) = true then
      (some (.int .i64 2, H11))
      else
      (optK (Heap.ld1 H11 ⟨x0, 2, none⟩) fun v17 =>
        asM v17 fun r18 =>
        callK (X d n_mux_Mux_fresh [P0 x0] H11) fun v19 H20 =>
        asP v19 fun o21 =>
        newK H20 (.cells [.pointer o21] t_P_mux_window false 0 false) fun p22 H23 =>
        newK H23 (.cells [.slice (some ⟨p22, 0, none⟩) 1 1, .int .i64 0] t_mux_session false 0 false) fun p24 H25 =>
        effK (.mapE (.upd (.str))) [.map r18, .string x1, P0 p24] H25 fun _ H27 =>
        chk (rdsOk [H11, H20, H23, H25, H27] [⟨.load 1 false, [.pointer (some ⟨x0, 2, none⟩)], v17, 0, 3⟩]) (
          some (.int .i64 0, H27))))) := by kernel_rfl
end Go.Proofs.YtkkhljcjjhcnhaaGreatDoor.dec

namespace Go.Proofs.YtkkhljcjjhcnhaaGreatDoor.dec
open Go Go.Cm
/-! porthole/mux.Right -/
noncomputable def mux_Right_k11 (d : Nat) : Kt := run (X d) NN (cd 31 [1, 1]) (retK (rs 31)) [] (retK (rs 31))
noncomputable def mux_Right_l1010 (d : Nat) (m0 : Nat) : Kt := iter (fun k => run (X d) NN (cd 31 [1, 0, 1, 0, 0]) (backK [(0, .str), (3, .int .i64)] (opq k)) [(0, (mux_Right_k11 d))] (retK (rs 31))) m0
noncomputable def mux_Right_k1010011 (d : Nat) (m0 : Nat) : Kt := run (X d) NN (cd 31 [1, 0, 1, 0, 0, 1, 1]) (backK [(0, .str), (3, .int .i64)] (opq (mux_Right_l1010 d m0))) [(0, (mux_Right_k11 d))] (retK (rs 31))
noncomputable def mux_Right_p1010 (d : Nat) (m0 : Nat) (x0 : ByteArray) (x3 : Int) (H : Heap) : Res := opq (mux_Right_l1010 d m0) [(0, .string x0), (3, .int .i64 x3)] H
noncomputable def mux_Right_p1010010011 (d : Nat) (m0 : Nat) (x0 : ByteArray) (x3 : Int) (x31 : Bool) (H : Heap) : Res := opq (run (X d) NN (cd 31 [1, 0, 1, 0, 0, 1, 0, 0, 1, 1, 0]) (mux_Right_k1010011 d m0) [(1, (mux_Right_k1010011 d m0)), (0, (mux_Right_k11 d))] (retK (rs 31))) [(0, .string x0), (3, .int .i64 x3), (31, .bool x31)] H
theorem mux_Right_p1010_s (d : Nat) (m0 : Nat) (x0 : ByteArray) (x3 : Int) (H : Heap) : mux_Right_p1010 d (m0 + 1) x0 x3 H =
  if (decide (x3 < (slen x0 : Int))) = true then
  (if 0 ≤ x3 ∧ x3 < (slen x0 : Int) then
    if (decide (bt x0 ((x3).toNat) < 97)) = true then
    (if (decide (bt x0 ((x3).toNat) < 48)) = true then
      (mux_Right_p1010010011 d m0 x0 x3 (!decide (bt x0 ((x3).toNat) = 45)) H)
      else
      (if (decide ((57 : Int) < bt x0 ((x3).toNat))) = true then
        (mux_Right_p1010010011 d m0 x0 x3 (!decide (bt x0 ((x3).toNat) = 45)) H)
        else
        (mux_Right_p1010010011 d m0 x0 x3 false H)))
    else
    (if (decide ((122 : Int) < bt x0 ((x3).toNat))) = true then
      (if (decide (bt x0 ((x3).toNat) < 48)) = true then
        (mux_Right_p1010010011 d m0 x0 x3 (!decide (bt x0 ((x3).toNat) = 45)) H)
        else
        (if (decide ((57 : Int) < bt x0 ((x3).toNat))) = true then
          (mux_Right_p1010010011 d m0 x0 x3 (!decide (bt x0 ((x3).toNat) = 45)) H)
          else
          (mux_Right_p1010010011 d m0 x0 x3 false H)))
      else
      (mux_Right_p1010010011 d m0 x0 x3 false H))
    else none)
  else
  (if (!sEq x0 (S [])) = true then
    (some (.bool (decide ((slen x0 : Int) ≤ 20)), H))
    else
    (some (.bool false, H))) := (opq_app _ _ _).trans <| by kernel_rfl
theorem mux_Right_p1010010011_eq (d : Nat) (m0 : Nat) (x0 : ByteArray) (x3 : Int) (x31 : Bool) (H : Heap) : mux_Right_p1010010011 d m0 x0 x3 x31 H =
  if x31 = true then
  (some (.bool false, H))
  else
  (mux_Right_p1010 d m0 x0 (IntKind.wrap .i64 (x3 + 1)) H) := (opq_app _ _ _).trans <| by kernel_rfl
theorem mux_Right_eq (d : Nat) (x0 : ByteArray) (H : Heap) : X (d + 1) n_mux_Right [.string x0] H =
  mux_Right_p1010 d NN x0 0 H := by kernel_rfl
end Go.Proofs.YtkkhljcjjhcnhaaGreatDoor.dec

namespace Go.Proofs.YtkkhljcjjhcnhaaGreatDoor.dec
open Go Go.Cm
/-! (*porthole/mux.Mux).drop -/
noncomputable def mux_Mux_drop_l10 (d : Nat) (m0 : Nat) : Kt := iter (fun k => run (X d) NN (cd 33 [1, 0, 0]) (backK [(0, .ptr), (10, .sl), (11, .int .i64), (12, .int .i64)] (opq k)) [(0, (retK (rs 33)))] (retK (rs 33))) m0
noncomputable def mux_Mux_drop_p10 (d : Nat) (m0 : Nat) (x0 : Nat) (x10 : Sl) (x11 : Int) (x12 : Int) (H : Heap) : Res := opq (mux_Mux_drop_l10 d m0) [(0, P0 x0), (10, x10.v), (11, .int .i64 x11), (12, .int .i64 x12)] H
theorem mux_Mux_drop_p10_s (d : Nat) (m0 : Nat) (x0 : Nat) (x10 : Sl) (x11 : Int) (x12 : Int) (H : Heap) : mux_Mux_drop_p10 d (m0 + 1) x0 x10 x11 x12 H =
  if (decide (x12 < x11)) = true then
  (optK x10.a fun a1 =>
    if 0 ≤ x12 ∧ x12 < (x10.n : Int) then
    optK (Heap.ld1 H (ap a1 (((x12).toNat) * 1))) fun v2 =>
    asI .i64 v2 fun n3 =>
    optK (Heap.ld1 H ⟨x0, 3, none⟩) fun v4 =>
    asM v4 fun r5 =>
    effK (.mapE (.del (.int .i64))) [.map r5, .int .i64 n3] H fun _ H7 =>
    mux_Mux_drop_p10 d m0 x0 x10 x11 (IntKind.wrap .i64 (x12 + 1)) H7
    else none)
  else
  (some (.tuple #[], H)) := (opq_app _ _ _).trans <| by kernel_rfl
theorem mux_Mux_drop_eq (d : Nat) (x0 : Nat) (x1 : Nat) (H : Heap) : X (d + 1) n_mux_Mux_drop [P0 x0, P0 x1] H =
  optK (Heap.ld1 H ⟨x1, 0, none⟩) fun v1 =>
  asP v1 fun o2 =>
  callK (X d n_layout_Tree_Panes [.pointer o2] H) fun v3 H4 =>
  asSL v3 fun l5 =>
  mux_Mux_drop_p10 d NN x0 l5 (l5.n : Int) 0 H4 := by kernel_rfl
end Go.Proofs.YtkkhljcjjhcnhaaGreatDoor.dec

namespace Go.Proofs.YtkkhljcjjhcnhaaGreatDoor.dec
open Go Go.Cm
/-! (*porthole/layout.Tree).String -/
theorem layout_Tree_String_eq (d : Nat) (x0 : Nat) (H : Heap) : X (d + 1) n_layout_Tree_String [P0 x0] H =
  optK (Heap.ld1 H ⟨x0, 0, none⟩) fun v1 =>
  asP v1 fun o2 =>
  callK (X d n_layout_node_text [.pointer o2] H) fun v3 H4 =>
  asS v3 fun s5 =>
  some (.string s5, H4) := by kernel_rfl
end Go.Proofs.YtkkhljcjjhcnhaaGreatDoor.dec

namespace Go.Proofs.YtkkhljcjjhcnhaaGreatDoor.dec
open Go Go.Cm
/-! (*porthole/layout.node).text -/
noncomputable def layout_node_text_p1111 (d : Nat) (x0 : Nat) (x3 : ByteArray) (H : Heap) : Res := opq (run (X d) NN (cd 65 [1, 1, 1, 1, 0]) (retK (rs 65)) [] (retK (rs 65))) [(0, P0 x0), (3, .string x3)] H
theorem layout_node_text_eq (d : Nat) (x0 : Nat) (H : Heap) : X (d + 1) n_layout_node_text [P0 x0] H =
  callK (X d n_layout_node_leaf [P0 x0] H) fun v1 H2 =>
  asB v1 fun b3 =>
  if b3 = true then
  (optK (Heap.ld1 H2 ⟨x0, 0, none⟩) fun v4 =>
    asI .i64 v4 fun n5 =>
    if (decide (n5 < 0)) = true then
    (some (.string (S [63]), H2))
    else
    (optK (Heap.ld1 H2 ⟨x0, 0, none⟩) fun v6 =>
      asI .i64 v6 fun n7 =>
      callK (X d n_strconv_Itoa [.int .i64 n7] H2) fun v8 H9 =>
      asS v8 fun s10 =>
      some (.string s10, H9)))
  else
  (optK (Heap.ld1 H2 ⟨x0, 3, none⟩) fun v11 =>
    asB v11 fun b12 =>
    if b12 = true then
    (layout_node_text_p1111 d x0 (S [124]) H2)
    else
    (layout_node_text_p1111 d x0 (S [45]) H2)) := by kernel_rfl
end Go.Proofs.YtkkhljcjjhcnhaaGreatDoor.dec

namespace Go.Proofs.YtkkhljcjjhcnhaaGreatDoor.dec
open Go Go.Cm
/-! strconv.Itoa -/
theorem strconv_Itoa_eq (d : Nat) (x0 : Int) (H : Heap) : X (d + 1) n_strconv_Itoa [.int .i64 x0] H =
  callK (X d n_strconv_Itoax [.int .i64 x0] H) fun v1 H2 =>
  asS v1 fun s3 =>
  some (.string s3, H2) := by kernel_rfl
end Go.Proofs.YtkkhljcjjhcnhaaGreatDoor.dec

namespace Go.Proofs.YtkkhljcjjhcnhaaGreatDoor.dec
open Go Go.Cm
/-! internal/strconv.Itoa -/
theorem strconv_Itoax_eq (d : Nat) (x0 : Int) (H : Heap) : X (d + 1) n_strconv_Itoax [.int .i64 x0] H =
  callK (X d n_strconv_FormatInt [.int .i64 x0, .int .i64 10] H) fun v1 H2 =>
  asS v1 fun s3 =>
  some (.string s3, H2) := by kernel_rfl
end Go.Proofs.YtkkhljcjjhcnhaaGreatDoor.dec

namespace Go.Proofs.YtkkhljcjjhcnhaaGreatDoor.dec
open Go Go.Cm
/-! internal/strconv.FormatInt -/
noncomputable def strconv_FormatInt_k11 (d : Nat) : Kt := run (X d) NN (cd 149 [1, 1]) (retK (rs 149)) [] (retK (rs 149))
noncomputable def strconv_FormatInt_k10101 (d : Nat) : Kt := run (X d) NN (cd 149 [1, 0, 1, 0, 1]) (strconv_FormatInt_k11 d) [] (retK (rs 149))
noncomputable def strconv_FormatInt_p101001 (d : Nat) (x0 : Int) (x17 : Bool) (H : Heap) : Res := opq (run (X d) NN (cd 149 [1, 0, 1, 0, 0, 1, 0]) (strconv_FormatInt_k10101 d) [] (retK (rs 149))) [(0, .int .i64 x0), (17, .bool x17)] H
noncomputable def strconv_FormatInt_p10101111 (d : Nat) (x0 : Int) (x5 : Nat) (x6 : Int) (H : Heap) : Res := opq (run (X d) NN (cd 149 [1, 0, 1, 0, 1, 1, 1, 1, 0]) (strconv_FormatInt_k11 d) [] (retK (rs 149))) [(0, .int .i64 x0), (5, P0 x5), (6, .int .u64 x6)] H
theorem strconv_FormatInt_p101001_eq (d : Nat) (x0 : Int) (x17 : Bool) (H : Heap) : strconv_FormatInt_p101001 d x0 x17 H =
  if x17 = true then
  (callK (X d n_strconv_small [.int .i64 x0] H) fun v1 H2 =>
    asS v1 fun s3 =>
    some (.string s3, H2))
  else
  (newK H (.cells [.int .u8 0, .int .u8 0, .int .u8 0, .int .u8 0, .int .u8 0, .int .u8 0, .int .u8 0, .int .u8 0, .int .u8 0, .int .u8 0, .int .u8 0, .int .u8 0, .int .u8 0, .int .u8 0, .int .u8 0, .int .u8 0, .int .u8 0, .int .u8 0, .int .u8 0, .int .u8 0, .int .u8 0, .int .u8 0, .int .u8 0, .int .u8 0] t_24_uint8 false 0 false) fun p4 H5 =>
    if (decide (x0 < 0)) = true then
    (strconv_FormatInt_p10101111 d x0 p4 (IntKind.wrap .u64 (0 - (IntKind.wrap .u64 x0))) H5)
    else
    (strconv_FormatInt_p10101111 d x0 p4 (IntKind.wrap .u64 x0) H5)) := (opq_app _ _ _).trans <| by kernel_rfl
theorem strconv_FormatInt_eq (d : Nat) (x0 : Int) (x1 : Int) (H : Heap) : X (d + 1) n_strconv_FormatInt [.int .i64 x0, .int .i64 x1] H =
  if (decide (x1 = 10)) = true then
  (if (decide ((0 : Int) ≤ x0)) = true then
    (strconv_FormatInt_p101001 d x0 (decide (x0 < 100)) H)
    else
    (strconv_FormatInt_p101001 d x0 false H))
  else
  (callK (X d n_strconv_formatBits [.slice none 0 0, .int .u64 (IntKind.wrap .u64 x0), .int .i64 x1, .bool (decide (x0 < 0)), .bool false] H) fun v1 H2 =>
    castT [.sl, .str] v1 fun l3 =>
    castT [.sl, .str] (.tuple ⟨l3⟩) fun l4 =>
    optK l4[0]? fun v5 =>
    asSL v5 fun _ =>
    optK l4[1]? fun v7 =>
    asS v7 fun s8 =>
    some (.string s8, H2)) := by kernel_rfl
end Go.Proofs.YtkkhljcjjhcnhaaGreatDoor.dec

namespace Go.Proofs.YtkkhljcjjhcnhaaGreatDoor.dec
open Go Go.Cm
/-! internal/strconv.small -/
theorem strconv_small_eq (d : Nat) (x0 : Int) (H : Heap) : X (d + 1) n_strconv_small [.int .i64 x0] H =
  if (decide (x0 < 10)) = true then
  (if 0 ≤ x0 ∧ x0 ≤ IntKind.wrap .i64 (x0 + 1) ∧ IntKind.wrap .i64 (x0 + 1) ≤ (slen (S [48, 49, 50, 51, 52, 53, 54, 55, 56, 57, 97, 98, 99, 100, 101, 102, 103, 104, 105, 106, 107, 108, 109, 110, 111, 112, 113, 114, 115, 116, 117, 118, 119, 120, 121, 122]) : Int) then
    some (.string (sSub (S [48, 49, 50, 51, 52, 53, 54, 55, 56, 57, 97, 98, 99, 100, 101, 102, 103, 104, 105, 106, 107, 108, 109, 110, 111, 112, 113, 114, 115, 116, 117, 118, 119, 120, 121, 122]) ((x0).toNat) ((IntKind.wrap .i64 (x0 + 1)).toNat)), H)
    else none)
  else
  (if 0 ≤ IntKind.wrap .i64 (x0 * 2) ∧ IntKind.wrap .i64 (x0 * 2) ≤ IntKind.wrap .i64 ((IntKind.wrap .i64 (x0 * 2)) + 2) ∧ IntKind.wrap .i64 ((IntKind.wrap .i64 (x0 * 2)) + 2) ≤ (slen (S [48, 48, 48, 49, 48, 50, 48, 51, 48, 52, 48, 53, 48, 54, 48, 55, 48, 56, 48, 57, 49, 48, 49, 49, 49, 50, 49, 51, 49, 52, 49, 53, 49, 54, 49, 55, 49, 56, 49, 57, 50, 48, 50, 49, 50, 50, 50, 51, 50, 52, 50, 53, 50, 54, 50, 55, 50, 56, 50, 57, 51, 48, 51, 49, 51, 50, 51, 51, 51, 52, 51, 53, 51, 54, 51, 55, 51, 56, 51, 57, 52, 48, 52, 49, 52, 50, 52, 51, 52, 52, 52, 53, 52, 54, 52, 55, 52, 56, 52, 57, 53, 48, 53, 49, 53, 50, 53, 51, 53, 52, 53, 53, 53, 54, 53, 55, 53, 56, 53, 57, 54, 48, 54, 49, 54, 50, 54, 51, 54, 52, 54, 53, 54, 54, 54, 55, 54, 56, 54, 57, 55, 48, 55, 49, 55, 50, 55, 51, 55, 52, 55, 53, 55, 54, 55, 55, 55, 56, 55, 57, 56, 48, 56, 49, 56, 50, 56, 51, 56, 52, 56, 53, 56, 54, 56, 55, 56, 56, 56, 57, 57, 48, 57, 49, 57, 50, 57, 51, 57, 52, 57, 53, 57, 54, 57, 55, 57, 56, 57, 57]) : Int) then
    some (.string (sSub (S [48, 48, 48, 49, 48, 50, 48, 51, 48, 52, 48, 53, 48, 54, 48, 55, 48, 56, 48, 57, 49, 48, 49, 49, 49, 50, 49, 51, 49, 52, 49, 53, 49, 54, 49, 55, 49, 56, 49, 57, 50, 48, 50, 49, 50, 50, 50, 51, 50, 52, 50, 53, 50, 54, 50, 55, 50, 56, 50, 57, 51, 48, 51, 49, 51, 50, 51, 51, 51, 52, 51, 53, 51, 54, 51, 55, 51, 56, 51, 57, 52, 48, 52, 49, 52, 50, 52, 51, 52, 52, 52, 53, 52, 54, 52, 55, 52, 56, 52, 57, 53, 48, 53, 49, 53, 50, 53, 51, 53, 52, 53, 53, 53, 54, 53, 55, 53, 56, 53, 57, 54, 48, 54, 49, 54, 50, 54, 51, 54, 52, 54, 53, 54, 54, 54, 55, 54, 56, 54, 57, 55, 48, 55, 49, 55, 50, 55, 51, 55, 52, 55, 53, 55, 54, 55, 55, 55, 56, 55, 57, 56, 48, 56, 49, 56, 50, 56, 51, 56, 52, 56, 53, 56, 54, 56, 55, 56, 56, 56, 57, 57, 48, 57, 49, 57, 50, 57, 51, 57, 52, 57, 53, 57, 54, 57, 55, 57, 56, 57, 57]) ((IntKind.wrap .i64 (x0 * 2)).toNat) ((IntKind.wrap .i64 ((IntKind.wrap .i64 (x0 * 2)) + 2)).toNat)), H)
    else none) := by kernel_rfl
end Go.Proofs.YtkkhljcjjhcnhaaGreatDoor.dec

namespace Go.Proofs.YtkkhljcjjhcnhaaGreatDoor.dec
open Go Go.Cm
/-! (*porthole/mux.Mux).Rename -/
end Go.Proofs.YtkkhljcjjhcnhaaGreatDoor.dec

namespace Go.Proofs.YtkkhljcjjhcnhaaGreatDoor.dec
open Go Go.Cm
/-! (*porthole/mux.Mux).KillSession -/
noncomputable def mux_Mux_KillSession_k1111 (d : Nat) : Kt := run (X d) NN (cd 14 [1, 1, 1, 1]) (retK (rs 14)) [] (retK (rs 14))
noncomputable def mux_Mux_KillSession_l111010 (d : Nat) (m0 : Nat) : Kt := iter (fun k => run (X d) NN (cd 14 [1, 1, 1, 0, 1, 0, 0]) (backK [(0, .ptr), (1, .str), (23, .sl), (24, .int .i64), (25, .int .i64)] (opq k)) [(0, (mux_Mux_KillSession_k1111 d))] (retK (rs 14))) m0
noncomputable def mux_Mux_KillSession_p111010 (d : Nat) (m0 : Nat) (x0 : Nat) (x1 : ByteArray) (x23 : Sl) (x24 : Int) (x25 : Int) (H : Heap) : Res := opq (mux_Mux_KillSession_l111010 d m0) [(0, P0 x0), (1, .string x1), (23, x23.v), (24, .int .i64 x24), (25, .int .i64 x25)] H
theorem mux_Mux_KillSession_p111010_s (d : Nat) (m0 : Nat) (x0 : Nat) (x1 : ByteArray) (x23 : Sl) (x24 : Int) (x25 : Int) (H : Heap) : mux_Mux_KillSession_p111010 d (m0 + 1) x0 x1 x23 x24 x25 H =
  if (decide (x25 < x24)) = true then
  (optK x23.a fun a1 =>
    if 0 ≤ x25 ∧ x25 < (x23.n : Int) then
    optK (Heap.ld1 H (ap a1 (((x25).toNat) * 1))) fun v2 =>
    asP v2 fun o3 =>
    callK (X d n_mux_Mux_drop [P0 x0, .pointer o3] H) fun _ H5 =>
    mux_Mux_KillSession_p111010 d m0 x0 x1 x23 x24 (IntKind.wrap .i64 (x25 + 1)) H5
    else none)
  else
  (optK (Heap.ld1 H ⟨x0, 2, none⟩) fun v6 =>
    asM v6 fun r7 =>
    effK (.mapE (.del (.str))) [.map r7, .string x1] H fun _ H9 =>
    some (.int .i64 0, H9)) := (opq_app _ _ _).trans <| by kernel_rfl
theorem mux_Mux_KillSession_eq (d : Nat) (x0 : Nat) (x1 : ByteArray) (H : Heap) : X (d + 1) n_mux_Mux_KillSession [P0 x0, .string x1] H =
  optK (Heap.ld1 H ⟨x0, 2, none⟩) fun v1 =>
  asM v1 fun r2 =>
  optK (readD (.lookup (.str) (.pointer none) true) [.map r2, .string x1] H) fun v3 =>
  castT [.ptr, .bool] v3 fun l4 =>
  castT [.ptr, .bool] (.tuple ⟨l4⟩) fun l5 =>
  optK l5[0]? fun v6 =>
  asP v6 fun o7 =>
  optK l5[1]? fun v8 =>
  asB v8 fun b9 =>
  if (!b9) = true then
  (some (.int .i64 14, H))
  else
  (nilP o7 fun a10 =>
    optK (Heap.ld1 H (ap a10 0)) fun v11 =>
    asSL v11 fun l12 =>
    mux_Mux_KillSession_p111010 d NN x0 x1 l12 (l12.n : Int) 0 H) := by kernel_rfl
end Go.Proofs.YtkkhljcjjhcnhaaGreatDoor.dec

namespace Go.Proofs.YtkkhljcjjhcnhaaGreatDoor.dec
open Go Go.Cm
/-! (*porthole/mux.Mux).Sessions -/
noncomputable def mux_Mux_Sessions_k111 (d : Nat) : Kt := run (X d) NN (cd 15 [1, 1, 1]) (retK (rs 15)) [] (retK (rs 15))
noncomputable def mux_Mux_Sessions_l11010 (d : Nat) (m0 : Nat) : Kt := iter (fun k => run (X d) NN (cd 15 [1, 1, 0, 1, 0, 0]) (backK [(0, .ptr), (3, .sl), (15, .sl), (16, .int .i64), (17, .int .i64)] (opq k)) [(0, (mux_Mux_Sessions_k111 d))] (retK (rs 15))) m0
noncomputable def mux_Mux_Sessions_k110100111 (d : Nat) (m0 : Nat) : Kt := run (X d) NN (cd 15 [1, 1, 0, 1, 0, 0, 1, 1, 1]) (backK [(0, .ptr), (3, .sl), (15, .sl), (16, .int .i64), (17, .int .i64)] (opq (mux_Mux_Sessions_l11010 d m0))) [(0, (mux_Mux_Sessions_k111 d))] (retK (rs 15))
noncomputable def mux_Mux_Sessions_k11010011001111 (d : Nat) (m0 : Nat) : Kt := run (X d) NN (cd 15 [1, 1, 0, 1, 0, 0, 1, 1, 0, 0, 1, 1, 1, 1]) (mux_Mux_Sessions_k110100111 d m0) [(1, (mux_Mux_Sessions_k110100111 d m0)), (0, (mux_Mux_Sessions_k111 d))] (retK (rs 15))
noncomputable def mux_Mux_Sessions_l1101001100111010 (d : Nat) (m0 : Nat) (m1 : Nat) : Kt := iter (fun k => run (X d) NN (cd 15 [1, 1, 0, 1, 0, 0, 1, 1, 0, 0, 1, 1, 1, 0, 1, 0, 0]) (backK [(0, .ptr), (3, .sl), (7, .any), (15, .sl), (16, .int .i64), (17, .int .i64), (36, .sl), (37, .int .i64), (38, .int .i64)] (opq k)) [(2, (mux_Mux_Sessions_k11010011001111 d m0)), (1, (mux_Mux_Sessions_k110100111 d m0)), (0, (mux_Mux_Sessions_k111 d))] (retK (rs 15))) m1
noncomputable def mux_Mux_Sessions_p11010 (d : Nat) (m0 : Nat) (x0 : Nat) (x3 : Sl) (x15 : Sl) (x16 : Int) (x17 : Int) (H : Heap) : Res := opq (mux_Mux_Sessions_l11010 d m0) [(0, P0 x0), (3, x3.v), (15, x15.v), (16, .int .i64 x16), (17, .int .i64 x17)] H
noncomputable def mux_Mux_Sessions_p1101001100111010 (d : Nat) (m0 : Nat) (m1 : Nat) (x0 : Nat) (x3 : Sl) (x7 : Nat) (x15 : Sl) (x16 : Int) (x17 : Int) (x36 : Sl) (x37 : Int) (x38 : Int) (H : Heap) : Res := opq (mux_Mux_Sessions_l1101001100111010 d m0 m1) [(0, P0 x0), (3, x3.v), (7, P0 x7), (15, x15.v), (16, .int .i64 x16), (17, .int .i64 x17), (36, x36.v), (37, .int .i64 x37), (38, .int .i64 x38)] H
theorem mux_Mux_Sessions_p11010_s (d : Nat) (m0 : Nat) (x0 : Nat) (x3 : Sl) (x15 : Sl) (x16 : Int) (x17 : Int) (H : Heap) : mux_Mux_Sessions_p11010 d (m0 + 1) x0 x3 x15 x16 x17 H =
  if (decide (x17 < x16)) = true then
  (optK x15.a fun a1 =>
    if 0 ≤ x17 ∧ x17 < (x15.n : Int) then
    optK (Heap.ld1 H (ap a1 (((x17).toNat) * 1))) fun v2 =>
    asS v2 fun s3 =>
    optK (Heap.ld1 H ⟨x0, 2, none⟩) fun v4 =>
    asM v4 fun r5 =>
    optK (readD (.lookup (.str) (.pointer none) false) [.map r5, .string s3] H) fun v6 =>
    asP v6 fun o7 =>
    nilP o7 fun a8 =>
    optK (Heap.ld1 H (ap a8 1)) fun v9 =>
    asI .i64 v9 fun n10 =>
    newK H (.cells [.string (S []), .int .i64 0, .slice none 0 0] t_mux_Session false 0 false) fun p11 H12 =>
    optK (Heap.stN H12 ⟨p11, 0, none⟩ [.string s3, .int .i64 n10, .slice none 0 0]) fun H13 =>
    nilP o7 fun a14 =>
    optK (Heap.ld1 H13 (ap a14 0)) fun v15 =>
    asSL v15 fun l16 =>
    mux_Mux_Sessions_p1101001100111010 d m0 NN x0 x3 p11 x15 x16 x17 l16 (l16.n : Int) 0 H13
    else none)
  else
  (some (x3.v, H)) := (opq_app _ _ _).trans <| by kernel_rfl
theorem mux_Mux_Sessions_p1101001100111010_s (d : Nat) (m0 : Nat) (m1 : Nat) (x0 : Nat) (x3 : Sl) (x7 : Nat) (x15 : Sl) (x16 : Int) (x17 : Int) (x36 : Sl) (x37 : Int) (x38 : Int) (H : Heap) : mux_Mux_Sessions_p1101001100111010 d m0 (m1 + 1) x0 x3 x7 x15 x16 x17 x36 x37 x38 H =
  if (decide (x38 < x37)) = true then
  (optK x36.a fun a1 =>
    if 0 ≤ x38 ∧ x38 < (x36.n : Int) then
    optK (Heap.ld1 H (ap a1 (((x38).toNat) * 1))) fun v2 =>
    asP v2 fun o3 =>
    optK (Heap.ld1 H ⟨x7, 2, none⟩) fun v4 =>
    asSL v4 fun l5 =>
    nilP o3 fun a6 =>
    optK (Heap.ld1 H (ap a6 0)) fun v7 =>
    asP v7 fun o8 =>
    callK (X d n_layout_Tree_Panes [.pointer o8] H) fun v9 H10 =>
    asSL v9 fun l11 =>
    nilP o3 fun a12 =>
    optK (Heap.ld1 H10 (ap a12 1)) fun v13 =>
    asI .i64 v13 fun n14 =>
    nilP o3 fun a15 =>
    optK (Heap.ld1 H10 (ap a15 2)) fun v16 =>
    asB v16 fun b17 =>
    nilP o3 fun a18 =>
    optK (Heap.ld1 H10 (ap a18 0)) fun v19 =>
    asP v19 fun o20 =>
    callK (X d n_layout_Tree_String [.pointer o20] H10) fun v21 H22 =>
    asS v21 fun s23 =>
    newK H22 (.cells [l11.v, .int .i64 n14, .bool b17, .string s23] t_mux_Window false 0 false) fun p24 H25 =>
    appendK t_mux_Window 4 56 false l5.v (.slice (some ⟨p24, 0, none⟩) 1 1) H25 fun v26 H27 =>
    asSL v26 fun l28 =>
    optK (Heap.st1 H27 ⟨x7, 2, none⟩ l28.v) fun H29 =>
    chk (rdsOk [H, H10, H22, H25, H27, H29] [⟨.load 1 false, [.pointer (some (ap a18 0))], v19, 0, 1⟩, ⟨.load 1 false, [.pointer (some (ap a15 2))], v16, 0, 2⟩, ⟨.load 1 false, [.pointer (some (ap a12 1))], v13, 0, 2⟩, ⟨.load 1 false, [.pointer (some ⟨x7, 2, none⟩)], v4, 0, 3⟩]) (
      mux_Mux_Sessions_p1101001100111010 d m0 m1 x0 x3 x7 x15 x16 x17 x36 x37 (IntKind.wrap .i64 (x38 + 1)) H29)
    else none)
  else
  (optK (ldA H ⟨x7, 0, none⟩ 3) fun v30 =>
    asA v30 fun c31 =>
    optK (fillL [(0, 3)] [.agg c31] [.string (S []), .int .i64 0, .slice none 0 0]) fun l32 =>
    newK H (.cells l32 t_mux_Session false 0 false) fun p33 H34 =>
    appendK t_mux_Session 3 48 false x3.v (.slice (some ⟨p33, 0, none⟩) 1 1) H34 fun v35 H36 =>
    asSL v35 fun l37 =>
    mux_Mux_Sessions_p11010 d m0 x0 l37 x15 x16 (IntKind.wrap .i64 (x17 + 1)) H36) := (opq_app _ _ _).trans <| by kernel_rfl
theorem mux_Mux_Sessions_eq (d : Nat) (x0 : Nat) (H : Heap) : X (d + 1) n_mux_Mux_Sessions [P0 x0] H =
  optK (Heap.ld1 H ⟨x0, 2, none⟩) fun v1 =>
  asM v1 fun r2 =>
  callK (X d n_maps_Keys_map_string_P_mux_session_string_P_mux_session [.map r2] H) fun v3 H4 =>
  callK (X d n_slices_Sorted_string [v3] H4) fun v5 H6 =>
  asSL v5 fun l7 =>
  mux_Mux_Sessions_p11010 d NN x0 Sl.nil l7 (l7.n : Int) 0 H6 := by kernel_rfl
end Go.Proofs.YtkkhljcjjhcnhaaGreatDoor.dec

namespace Go.Proofs.YtkkhljcjjhcnhaaGreatDoor.dec
open Go Go.Cm
/-! slices.Delete[[]*porthole/mux.window,*porthole/mux.window] -/
theorem slices_Delete_S_P_mux_window_P_mux_window_eq (d : Nat) (x0 : Sl) (x1 : Int) (x2 : Int) (H : Heap) : X (d + 1) n_slices_Delete_S_P_mux_window_P_mux_window [x0.v, .int .i64 x1, .int .i64 x2] H =
  optK (readD (.subSl t_P_mux_window 1 true true true) [x0.v, .int .i64 x1, .int .i64 x2, .int .i64 (x0.n : Int)] H) fun v1 =>
  asSL v1 fun _ =>
  if (decide (x1 = x2)) = true then
  (some (x0.v, H))
  else
  (optK (readD (.subSl t_P_mux_window 1 false true false) [x0.v, .int .i64 x1] H) fun v3 =>
    asSL v3 fun l4 =>
    optK (readD (.subSl t_P_mux_window 1 true false false) [x0.v, .int .i64 x2] H) fun v5 =>
    asSL v5 fun l6 =>
    appendK t_P_mux_window 1 8 false l4.v l6.v H fun v7 H8 =>
    asSL v7 fun l9 =>
    optK (readD (.subSl t_P_mux_window 1 true true false) [l9.v, .int .i64 (l9.n : Int), .int .i64 (x0.n : Int)] H8) fun v10 =>
    asSL v10 fun l11 =>
    effK (.clearSl 1 [.pointer none]) [l11.v] H8 fun _ H13 =>
    some (l9.v, H13)) := by kernel_rfl
end Go.Proofs.YtkkhljcjjhcnhaaGreatDoor.dec

namespace Go.Proofs.YtkkhljcjjhcnhaaGreatDoor.dec
open Go Go.Cm
/-! (*porthole/mux.Mux).NewWindow -/
theorem mux_Mux_NewWindow_eq (d : Nat) (x0 : Nat) (x1 : ByteArray) (H : Heap) : X (d + 1) n_mux_Mux_NewWindow [P0 x0, .string x1] H =
  optK (Heap.ld1 H ⟨x0, 2, none⟩) fun v1 =>
  asM v1 fun r2 =>
  optK (readD (.lookup (.str) (.pointer none) true) [.map r2, .string x1] H) fun v3 =>
  castT [.ptr, .bool] v3 fun l4 =>
  castT [.ptr, .bool] (.tuple ⟨l4⟩) fun l5 =>
  optK l5[0]? fun v6 =>
  asP v6 fun o7 =>
  optK l5[1]? fun v8 =>
  asB v8 fun b9 =>
  if (!b9) = true then
  (some (.int .i64 14, H))
  else
  (nilP o7 fun a10 =>
    optK (Heap.ld1 H (ap a10 0)) fun v11 =>
    asSL v11 fun l12 =>
    if (decide ((8 : Int) ≤ (l12.n : Int))) = true then
    (some (.int .i64 2, H))
    else
    (nilP o7 fun a13 =>
      optK (Heap.ld1 H (ap a13 0)) fun v14 =>
      asSL v14 fun l15 =>
      callK (X d n_mux_Mux_fresh [P0 x0] H) fun v16 H17 =>
      asP v16 fun o18 =>
      newK H17 (.cells [.pointer o18] t_P_mux_window false 0 false) fun p19 H20 =>
      appendK t_P_mux_window 1 8 false l15.v (.slice (some ⟨p19, 0, none⟩) 1 1) H20 fun v21 H22 =>
      asSL v21 fun l23 =>
      nilP o7 fun a24 =>
      optK (Heap.st1 H22 (ap a24 0) l23.v) fun H25 =>
      chk (rdsOk [H, H17, H20, H22, H25] [⟨.load 1 false, [.pointer (some (ap a13 0))], v14, 0, 2⟩]) (
        nilP o7 fun a26 =>
        optK (Heap.ld1 H25 (ap a26 0)) fun v27 =>
        asSL v27 fun l28 =>
        nilP o7 fun a29 =>
        optK (Heap.st1 H25 (ap a29 1) (.int .i64 (IntKind.wrap .i64 ((l28.n : Int) - 1)))) fun H30 =>
        some (.int .i64 0, H30)))) := by kernel_rfl
end Go.Proofs.YtkkhljcjjhcnhaaGreatDoor.dec

namespace Go.Proofs.YtkkhljcjjhcnhaaGreatDoor.dec
open Go Go.Cm
/-! (*porthole/mux.Mux).SelectWindow -/
noncomputable def mux_Mux_SelectWindow_k111 (d : Nat) : Kt := run (X d) NN (cd 17 [1, 1, 1]) (retK (rs 17)) [] (retK (rs 17))
noncomputable def mux_Mux_SelectWindow_p1100111 (d : Nat) (x2 : Int) (x7 : Option Addr) (x21 : Bool) (H : Heap) : Res := opq (run (X d) NN (cd 17 [1, 1, 0, 0, 1, 1, 1, 0]) (mux_Mux_SelectWindow_k111 d) [(0, (mux_Mux_SelectWindow_k111 d))] (retK (rs 17))) [(2, .int .i64 x2), (7, .pointer x7), (21, .bool x21)] H
theorem mux_Mux_SelectWindow_p1100111_eq (d : Nat) (x2 : Int) (x7 : Option Addr) (x21 : Bool) (H : Heap) : mux_Mux_SelectWindow_p1100111 d x2 x7 x21 H =
  if x21 = true then
  (some (.int .i64 3, H))
  else
  (nilP x7 fun a1 =>
    optK (Heap.st1 H (ap a1 1) (.int .i64 x2)) fun H2 =>
    some (.int .i64 0, H2)) := (opq_app _ _ _).trans <| by kernel_rfl
theorem mux_Mux_SelectWindow_eq (d : Nat) (x0 : Nat) (x1 : ByteArray) (x2 : Int) (H : Heap) : X (d + 1) n_mux_Mux_SelectWindow [P0 x0, .string x1, .int .i64 x2] H =
  optK (Heap.ld1 H ⟨x0, 2, none⟩) fun v1 =>
  asM v1 fun r2 =>
  optK (readD (.lookup (.str) (.pointer none) true) [.map r2, .string x1] H) fun v3 =>
  castT [.ptr, .bool] v3 fun l4 =>
  castT [.ptr, .bool] (.tuple ⟨l4⟩) fun l5 =>
  optK l5[0]? fun v6 =>
  asP v6 fun o7 =>
  optK l5[1]? fun v8 =>
  asB v8 fun b9 =>
  if (!b9) = true then
  (some (.int .i64 14, H))
  else
  (if (decide (x2 < 0)) = true then
    (mux_Mux_SelectWindow_p1100111 d x2 o7 true H)
    else
    (nilP o7 fun a10 =>
      optK (Heap.ld1 H (ap a10 0)) fun v11 =>
      asSL v11 fun l12 =>
      mux_Mux_SelectWindow_p1100111 d x2 o7 (decide ((l12.n : Int) ≤ x2)) H)) := by kernel_rfl
end Go.Proofs.YtkkhljcjjhcnhaaGreatDoor.dec

namespace Go.Proofs.YtkkhljcjjhcnhaaGreatDoor.dec
open Go Go.Cm
/-! (*porthole/mux.Mux).KillWindow -/
theorem mux_Mux_KillWindow_eq (d : Nat) (x0 : Nat) (x1 : ByteArray) (H : Heap) : X (d + 1) n_mux_Mux_KillWindow [P0 x0, .string x1] H =
  optK (Heap.ld1 H ⟨x0, 2, none⟩) fun v1 =>
  asM v1 fun r2 =>
  optK (readD (.lookup (.str) (.pointer none) true) [.map r2, .string x1] H) fun v3 =>
  castT [.ptr, .bool] v3 fun l4 =>
  castT [.ptr, .bool] (.tuple ⟨l4⟩) fun l5 =>
  optK l5[0]? fun v6 =>
  asP v6 fun o7 =>
  optK l5[1]? fun v8 =>
  asB v8 fun b9 =>
  if (!b9) = true then
  (some (.int .i64 14, H))
  else
  (nilP o7 fun a10 =>
    optK (Heap.ld1 H (ap a10 0)) fun v11 =>
    asSL v11 fun l12 =>
    if (decide ((l12.n : Int) = 1)) = true then
    (callK (X d n_mux_Mux_KillSession [P0 x0, .string x1] H) fun v13 H14 =>
      asI .i64 v13 fun n15 =>
      some (.int .i64 n15, H14))
    else
    (nilP o7 fun a16 =>
      optK (Heap.ld1 H (ap a16 0)) fun v17 =>
      asSL v17 fun l18 =>
      nilP o7 fun a19 =>
      optK (Heap.ld1 H (ap a19 1)) fun v20 =>
      asI .i64 v20 fun n21 =>
      optK l18.a fun a22 =>
      if 0 ≤ n21 ∧ n21 < (l18.n : Int) then
      optK (Heap.ld1 H (ap a22 (((n21).toNat) * 1))) fun v23 =>
      asP v23 fun o24 =>
      callK (X d n_mux_Mux_drop [P0 x0, .pointer o24] H) fun _ H26 =>
      nilP o7 fun a27 =>
      optK (Heap.ld1 H26 (ap a27 0)) fun v28 =>
      asSL v28 fun l29 =>
      nilP o7 fun a30 =>
      optK (Heap.ld1 H26 (ap a30 1)) fun v31 =>
      asI .i64 v31 fun n32 =>
      nilP o7 fun a33 =>
      optK (Heap.ld1 H26 (ap a33 1)) fun v34 =>
      asI .i64 v34 fun n35 =>
      callK (X d n_slices_Delete_S_P_mux_window_P_mux_window [l29.v, .int .i64 n32, .int .i64 (IntKind.wrap .i64 (n35 + 1))] H26) fun v36 H37 =>
      asSL v36 fun l38 =>
      nilP o7 fun a39 =>
      optK (Heap.st1 H37 (ap a39 0) l38.v) fun H40 =>
      nilP o7 fun a41 =>
      optK (Heap.ld1 H40 (ap a41 1)) fun v42 =>
      asI .i64 v42 fun n43 =>
      nilP o7 fun a44 =>
      optK (Heap.ld1 H40 (ap a44 0)) fun v45 =>
      asSL v45 fun l46 =>
      nilP o7 fun a47 =>
      optK (Heap.st1 H40 (ap a47 1) (.int .i64 (if (IntKind.wrap .i64 ((l46.n : Int) - 1)) < n43 then (IntKind.wrap .i64 ((l46.n : Int) - 1)) else n43))) fun H48 =>
      some (.int .i64 0, H48)
      else none)) := by kernel_rfl
end Go.Proofs.YtkkhljcjjhcnhaaGreatDoor.dec

namespace Go.Proofs.YtkkhljcjjhcnhaaGreatDoor.dec
open Go Go.Cm
/-! porthole/portholelaw23.MuxWindows -/
noncomputable def law23_MuxWindows_k111 (d : Nat) : Kt := run (X d) NN (cd 4 [1, 1, 1]) (retK (rs 4)) [] (retK (rs 4))
noncomputable def law23_MuxWindows_k1111111 (d : Nat) : Kt := run (X d) NN (cd 4 [1, 1, 1, 1, 1, 1, 1]) (retK (rs 4)) [] (retK (rs 4))
noncomputable def law23_MuxWindows_l111111010 (d : Nat) (m0 : Nat) : Kt := iter (fun k => run (X d) NN (cd 4 [1, 1, 1, 1, 1, 1, 0, 1, 0, 0]) (backK [(0, .sl), (3, .ptr), (5, .sl), (6, .int .i64), (7, .int .i64), (8, .int .i64)] (opq k)) [(0, (law23_MuxWindows_k1111111 d))] (retK (rs 4))) m0
noncomputable def law23_MuxWindows_k11111101001 (d : Nat) (m0 : Nat) : Kt := run (X d) NN (cd 4 [1, 1, 1, 1, 1, 1, 0, 1, 0, 0, 1]) (backK [(0, .sl), (3, .ptr), (5, .sl), (6, .int .i64), (7, .int .i64), (8, .int .i64)] (opq (law23_MuxWindows_l111111010 d m0))) [(0, (law23_MuxWindows_k1111111 d))] (retK (rs 4))
noncomputable def law23_MuxWindows_k111111010011 (d : Nat) (m0 : Nat) : Kt := run (X d) NN (cd 4 [1, 1, 1, 1, 1, 1, 0, 1, 0, 0, 1, 1]) (backK [(0, .sl), (3, .ptr), (5, .sl), (6, .int .i64), (7, .int .i64), (8, .int .i64)] (opq (law23_MuxWindows_l111111010 d m0))) [(0, (law23_MuxWindows_k1111111 d))] (retK (rs 4))
noncomputable def law23_MuxWindows_k111111010010011011 (d : Nat) (m0 : Nat) : Kt := run (X d) NN (cd 4 [1, 1, 1, 1, 1, 1, 0, 1, 0, 0, 1, 0, 0, 1, 1, 0, 1, 1]) (law23_MuxWindows_k111111010011 d m0) [(1, (law23_MuxWindows_k111111010011 d m0)), (0, (law23_MuxWindows_k1111111 d))] (retK (rs 4))
noncomputable def law23_MuxWindows_l11111101001001101110 (d : Nat) (m0 : Nat) (m1 : Nat) : Kt := iter (fun k => run (X d) NN (cd 4 [1, 1, 1, 1, 1, 1, 0, 1, 0, 0, 1, 0, 0, 1, 1, 0, 1, 1, 1, 0, 0]) (backK [(0, .sl), (3, .ptr), (5, .sl), (6, .int .i64), (7, .int .i64), (8, .int .i64), (12, .sl), (13, .int .i64)] (opq k)) [(3, (law23_MuxWindows_k111111010011 d m0)), (1, (law23_MuxWindows_k111111010011 d m0)), (0, (law23_MuxWindows_k1111111 d))] (retK (rs 4))) m1
noncomputable def law23_MuxWindows_p1101 (d : Nat) (x0 : Sl) (x3 : Option Addr) (x32 : Bool) (H : Heap) : Res := opq (run (X d) NN (cd 4 [1, 1, 0, 1, 0]) (law23_MuxWindows_k111 d) [] (retK (rs 4))) [(0, x0.v), (3, .pointer x3), (32, .bool x32)] H
noncomputable def law23_MuxWindows_p111111010 (d : Nat) (m0 : Nat) (x0 : Sl) (x3 : Option Addr) (x5 : Sl) (x6 : Int) (x7 : Int) (x8 : Int) (H : Heap) : Res := opq (law23_MuxWindows_l111111010 d m0) [(0, x0.v), (3, .pointer x3), (5, x5.v), (6, .int .i64 x6), (7, .int .i64 x7), (8, .int .i64 x8)] H
noncomputable def law23_MuxWindows_p111111010001 (d : Nat) (m0 : Nat) (x0 : Sl) (x3 : Option Addr) (x5 : Sl) (x6 : Int) (x7 : Int) (x8 : Int) (x41 : Bool) (H : Heap) : Res := opq (run (X d) NN (cd 4 [1, 1, 1, 1, 1, 1, 0, 1, 0, 0, 0, 1, 0]) (law23_MuxWindows_k11111101001 d m0) [(0, (law23_MuxWindows_k1111111 d))] (retK (rs 4))) [(0, x0.v), (3, .pointer x3), (5, x5.v), (6, .int .i64 x6), (7, .int .i64 x7), (8, .int .i64 x8), (41, .bool x41)] H
noncomputable def law23_MuxWindows_p111111010010011 (d : Nat) (m0 : Nat) (x0 : Sl) (x3 : Option Addr) (x5 : Sl) (x6 : Int) (x7 : Int) (x8 : Int) (H : Heap) : Res := opq (run (X d) NN (cd 4 [1, 1, 1, 1, 1, 1, 0, 1, 0, 0, 1, 0, 0, 1, 1, 0]) (law23_MuxWindows_k111111010011 d m0) [(1, (law23_MuxWindows_k111111010011 d m0)), (0, (law23_MuxWindows_k1111111 d))] (retK (rs 4))) [(0, x0.v), (3, .pointer x3), (5, x5.v), (6, .int .i64 x6), (7, .int .i64 x7), (8, .int .i64 x8)] H
noncomputable def law23_MuxWindows_p1111110100100110101 (d : Nat) (m0 : Nat) (x0 : Sl) (x3 : Option Addr) (x5 : Sl) (x6 : Int) (x7 : Int) (x8 : Int) (x12 : Sl) (x143 : Bool) (H : Heap) : Res := opq (run (X d) NN (cd 4 [1, 1, 1, 1, 1, 1, 0, 1, 0, 0, 1, 0, 0, 1, 1, 0, 1, 0, 1, 0]) (law23_MuxWindows_k111111010010011011 d m0) [(1, (law23_MuxWindows_k111111010011 d m0)), (0, (law23_MuxWindows_k1111111 d))] (retK (rs 4))) [(0, x0.v), (3, .pointer x3), (5, x5.v), (6, .int .i64 x6), (7, .int .i64 x7), (8, .int .i64 x8), (12, x12.v), (143, .bool x143)] H
noncomputable def law23_MuxWindows_p11111101001001101110 (d : Nat) (m0 : Nat) (m1 : Nat) (x0 : Sl) (x3 : Option Addr) (x5 : Sl) (x6 : Int) (x7 : Int) (x8 : Int) (x12 : Sl) (x13 : Int) (H : Heap) : Res := opq (law23_MuxWindows_l11111101001001101110 d m0 m1) [(0, x0.v), (3, .pointer x3), (5, x5.v), (6, .int .i64 x6), (7, .int .i64 x7), (8, .int .i64 x8), (12, x12.v), (13, .int .i64 x13)] H
theorem law23_MuxWindows_p1101_eq (d : Nat) (x0 : Sl) (x3 : Option Addr) (x32 : Bool) (H : Heap) : law23_MuxWindows_p1101 d x0 x3 x32 H =
  if x32 = true then
  (some (.bool false, H))
  else
  (newK H (.cells [.int .i64 0] t_int false 0 false) fun p1 H2 =>
    law23_MuxWindows_p111111010 d NN x0 x3 ⟨some ⟨p1, 0, none⟩, 1, 1⟩ 1 0 0 H2) := (opq_app _ _ _).trans <| by kernel_rfl
theorem law23_MuxWindows_p111111010_s (d : Nat) (m0 : Nat) (x0 : Sl) (x3 : Option Addr) (x5 : Sl) (x6 : Int) (x7 : Int) (x8 : Int) (H : Heap) : law23_MuxWindows_p111111010 d (m0 + 1) x0 x3 x5 x6 x7 x8 H =
  if (decide (x8 < (x0.n : Int))) = true then
  (law23_MuxWindows_p111111010001 d m0 x0 x3 x5 x6 x7 x8 (decide (x8 < 40)) H)
  else
  (law23_MuxWindows_p111111010001 d m0 x0 x3 x5 x6 x7 x8 false H) := (opq_app _ _ _).trans <| by kernel_rfl
theorem law23_MuxWindows_p111111010001_eq (d : Nat) (m0 : Nat) (x0 : Sl) (x3 : Option Addr) (x5 : Sl) (x6 : Int) (x7 : Int) (x8 : Int) (x41 : Bool) (H : Heap) : law23_MuxWindows_p111111010001 d m0 x0 x3 x5 x6 x7 x8 x41 H =
  if x41 = true then
  (optK x0.a fun a1 =>
    if 0 ≤ x8 ∧ x8 < (x0.n : Int) then
    optK (Heap.ld1 H (ap a1 (((x8).toNat) * 1))) fun v2 =>
    asI .i64 v2 fun n3 =>
    callK (X d n_hand_Pick [.int .i64 (IntKind.wrap .i64 (Int.tdiv n3 3)), .int .i64 10] H) fun v4 H5 =>
    asI .i64 v4 fun n6 =>
    optK x0.a fun a7 =>
    if 0 ≤ x8 ∧ x8 < (x0.n : Int) then
    optK (Heap.ld1 H5 (ap a7 (((x8).toNat) * 1))) fun v8 =>
    asI .i64 v8 fun n9 =>
    callK (X d n_hand_Pick [.int .i64 n9, .int .i64 3] H5) fun v10 H11 =>
    asI .i64 v10 fun n12 =>
    if (decide (n12 = 0)) = true then
    (callK (X d n_mux_Mux_NewWindow [.pointer x3, .string (S [97])] H11) fun v13 H14 =>
      asI .i64 v13 fun n15 =>
      if (!((decide (n15 = 2)) == (decide ((8 : Int) ≤ (x5.n : Int))))) = true then
      (some (.bool false, H14))
      else
      (if (decide (n15 = 0)) = true then
        (newK H14 (.cells [.int .i64 x6] t_int false 0 false) fun p16 H17 =>
          appendK t_int 1 8 false x5.v (.slice (some ⟨p16, 0, none⟩) 1 1) H17 fun v18 H19 =>
          asSL v18 fun l20 =>
          law23_MuxWindows_p111111010010011 d m0 x0 x3 l20 (IntKind.wrap .i64 (x6 + 1)) (IntKind.wrap .i64 ((l20.n : Int) - 1)) x8 H19)
        else
        (law23_MuxWindows_p111111010010011 d m0 x0 x3 x5 x6 x7 x8 H14)))
    else
    (if (decide (n12 = 1)) = true then
      (callK (X d n_mux_Mux_SelectWindow [.pointer x3, .string (S [97]), .int .i64 n6] H11) fun v21 H22 =>
        asI .i64 v21 fun n23 =>
        if (!((decide (n23 = 0)) == (decide (n6 < (x5.n : Int))))) = true then
        (some (.bool false, H22))
        else
        (if (decide (n23 = 0)) = true then
          (law23_MuxWindows_p111111010010011 d m0 x0 x3 x5 x6 n6 x8 H22)
          else
          (law23_MuxWindows_p111111010010011 d m0 x0 x3 x5 x6 x7 x8 H22)))
      else
      (callK (X d n_mux_Mux_KillWindow [.pointer x3, .string (S [97])] H11) fun v24 H25 =>
        asI .i64 v24 fun n26 =>
        if (!decide (n26 = 0)) = true then
        (some (.bool false, H25))
        else
        (if (decide ((x5.n : Int) = 1)) = true then
          (callK (X d n_mux_Mux_Sessions [.pointer x3] H25) fun v27 H28 =>
            asSL v27 fun l29 =>
            if (decide ((l29.n : Int) = 0)) = true then
            (callK (X d n_mux_Mux_KillWindow [.pointer x3, .string (S [97])] H28) fun v30 H31 =>
              asI .i64 v30 fun n32 =>
              some (.bool (decide (n32 = 14)), H31))
            else
            (some (.bool false, H28)))
          else
          (newK H25 (.cells [] t_int false 0 false) fun p33 H34 =>
            optK (readD (.subSl t_int 1 false true false) [x5.v, .int .i64 x7] H34) fun v35 =>
            asSL v35 fun l36 =>
            appendK t_int 1 8 false (.slice (some ⟨p33, 0, none⟩) 0 0) l36.v H34 fun v37 H38 =>
            asSL v37 fun l39 =>
            optK (readD (.subSl t_int 1 true false false) [x5.v, .int .i64 (IntKind.wrap .i64 (x7 + 1))] H38) fun v40 =>
            asSL v40 fun l41 =>
            appendK t_int 1 8 false l39.v l41.v H38 fun v42 H43 =>
            asSL v42 fun l44 =>
            chk (rdsOk [H25, H34, H38, H43] [⟨.subSl t_int 1 true false false, [x5.v, .int .i64 (IntKind.wrap .i64 (x7 + 1))], v40, 0, 2⟩, ⟨.subSl t_int 1 false true false, [x5.v, .int .i64 x7], v35, 0, 1⟩]) (
              law23_MuxWindows_p111111010010011 d m0 x0 x3 l44 x6 (if (IntKind.wrap .i64 ((l44.n : Int) - 1)) < x7 then (IntKind.wrap .i64 ((l44.n : Int) - 1)) else x7) x8 H43)))))
    else none
    else none)
  else
  (some (.bool true, H)) := (opq_app _ _ _).trans <| by kernel_rfl
theorem law23_MuxWindows_p111111010010011_eq (d : Nat) (m0 : Nat) (x0 : Sl) (x3 : Option Addr) (x5 : Sl) (x6 : Int) (x7 : Int) (x8 : Int) (H : Heap) : law23_MuxWindows_p111111010010011 d m0 x0 x3 x5 x6 x7 x8 H =
  callK (X d n_mux_Mux_Sessions [.pointer x3] H) fun v1 H2 =>
  asSL v1 fun l3 =>
  if (!decide ((l3.n : Int) = 1)) = true then
  (law23_MuxWindows_p1111110100100110101 d m0 x0 x3 x5 x6 x7 x8 l3 true H2)
  else
  (optK l3.a fun a4 =>
    if 0 ≤ (0 : Int) ∧ (0 : Int) < (l3.n : Int) then
    optK (Heap.ld1 H2 (ap (ap a4 0) 1)) fun v5 =>
    asI .i64 v5 fun n6 =>
    if (!decide (n6 = x7)) = true then
    (law23_MuxWindows_p1111110100100110101 d m0 x0 x3 x5 x6 x7 x8 l3 true H2)
    else
    (optK l3.a fun a7 =>
      if 0 ≤ (0 : Int) ∧ (0 : Int) < (l3.n : Int) then
      optK (Heap.ld1 H2 (ap (ap a7 0) 2)) fun v8 =>
      asSL v8 fun l9 =>
      law23_MuxWindows_p1111110100100110101 d m0 x0 x3 x5 x6 x7 x8 l3 (!decide ((l9.n : Int) = (x5.n : Int))) H2
      else none)
    else none) := (opq_app _ _ _).trans <| by kernel_rfl
theorem law23_MuxWindows_p1111110100100110101_eq (d : Nat) (m0 : Nat) (x0 : Sl) (x3 : Option Addr) (x5 : Sl) (x6 : Int) (x7 : Int) (x8 : Int) (x12 : Sl) (x143 : Bool) (H : Heap) : law23_MuxWindows_p1111110100100110101 d m0 x0 x3 x5 x6 x7 x8 x12 x143 H =
  if x143 = true then
  (some (.bool false, H))
  else
  (law23_MuxWindows_p11111101001001101110 d m0 NN x0 x3 x5 x6 x7 x8 x12 0 H) := (opq_app _ _ _).trans <| by kernel_rfl
theorem law23_MuxWindows_p11111101001001101110_s (d : Nat) (m0 : Nat) (m1 : Nat) (x0 : Sl) (x3 : Option Addr) (x5 : Sl) (x6 : Int) (x7 : Int) (x8 : Int) (x12 : Sl) (x13 : Int) (H : Heap) : law23_MuxWindows_p11111101001001101110 d m0 (m1 + 1) x0 x3 x5 x6 x7 x8 x12 x13 H =
  if (decide (x13 < (x5.n : Int))) = true then
  (optK x12.a fun a1 =>
    if 0 ≤ (0 : Int) ∧ (0 : Int) < (x12.n : Int) then
    optK (Heap.ld1 H (ap (ap a1 0) 2)) fun v2 =>
    asSL v2 fun l3 =>
    optK l3.a fun a4 =>
    if 0 ≤ x13 ∧ x13 < (l3.n : Int) then
    optK (Heap.ld1 H (ap (ap a4 (((x13).toNat) * 4)) 1)) fun v5 =>
    asI .i64 v5 fun n6 =>
    optK x5.a fun a7 =>
    if 0 ≤ x13 ∧ x13 < (x5.n : Int) then
    optK (Heap.ld1 H (ap a7 (((x13).toNat) * 1))) fun v8 =>
    asI .i64 v8 fun n9 =>
    if (!decide (n6 = n9)) = true then
    (some (.bool false, H))
    else
    (law23_MuxWindows_p11111101001001101110 d m0 m1 x0 x3 x5 x6 x7 x8 x12 (IntKind.wrap .i64 (x13 + 1)) H)
    else none
    else none
    else none)
  else
  (law23_MuxWindows_p111111010 d m0 x0 x3 x5 x6 x7 (IntKind.wrap .i64 (x8 + 1)) H) := (opq_app _ _ _).trans <| by kernel_rfl
theorem law23_MuxWindows_eq (d : Nat) (x0 : Sl) (H : Heap) : X (d + 1) n_law23_MuxWindows [x0.v] H =
  callK (X d n_mux_New [.int .i64 5, .int .i64 9] H) fun v1 H2 =>
  castT [.ptr, .int .i64] v1 fun l3 =>
  castT [.ptr, .int .i64] (.tuple ⟨l3⟩) fun l4 =>
  optK l4[0]? fun v5 =>
  asP v5 fun o6 =>
  optK l4[1]? fun v7 =>
  asI .i64 v7 fun n8 =>
  callK (X d n_law23_known [] H2) fun v9 H10 =>
  asB v9 fun b11 =>
  if (!b11) = true then
  (law23_MuxWindows_p1101 d x0 o6 true H10)
  else
  (if (!decide (n8 = 0)) = true then
    (law23_MuxWindows_p1101 d x0 o6 true H10)
    else
    (if o6.isNone = true then
      (law23_MuxWindows_p1101 d x0 o6 true H10)
      else
      (callK (X d n_mux_Mux_NewSession [.pointer o6, .string (S [97])] H10) fun v12 H13 =>
        asI .i64 v12 fun n14 =>
        law23_MuxWindows_p1101 d x0 o6 (!decide (n14 = 0)) H13))) := by kernel_rfl
end Go.Proofs.YtkkhljcjjhcnhaaGreatDoor.dec

namespace Go.Proofs.YtkkhljcjjhcnhaaGreatDoor.dec
open Go Go.Cm
/-! porthole/portholehand.Pick -/
theorem hand_Pick_eq (d : Nat) (x0 : Int) (x1 : Int) (H : Heap) : X (d + 1) n_hand_Pick [.int .i64 x0, .int .i64 x1] H =
  if x1 = 0 then none else
  if (decide (Int.tmod x0 x1 < 0)) = true then
  (some (.int .i64 (IntKind.wrap .i64 ((Int.tmod x0 x1) + x1)), H))
  else
  (some (.int .i64 (Int.tmod x0 x1), H)) := by kernel_rfl
end Go.Proofs.YtkkhljcjjhcnhaaGreatDoor.dec
