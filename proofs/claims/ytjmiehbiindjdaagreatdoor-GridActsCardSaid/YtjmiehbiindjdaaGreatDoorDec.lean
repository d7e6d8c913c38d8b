/-
  The functions' numbers, their code with cuts.
  And: What calls compute, piece by piece. What calls compute, piece by piece. What calls compute, piece by piece. What calls compute, piece by piece. What calls compute, piece by piece. What calls compute, piece by piece. What calls compute, piece by piece. What calls compute, piece by piece. What calls compute, piece by piece. What calls compute, piece by piece. What calls compute, piece by piece. What calls compute, piece by piece. What calls compute, piece by piece. What calls compute, piece by piece. What calls compute, piece by piece. What calls compute, piece by piece. What calls compute, piece by piece. What calls compute, piece by piece. What calls compute, piece by piece. What calls compute, piece by piece. What calls compute, piece by piece. What calls compute, piece by piece. What calls compute, piece by piece. What calls compute, piece by piece. What calls compute, piece by piece. What calls compute, piece by piece. What calls compute, piece by piece. What calls compute, piece by piece. What calls compute, piece by piece. What calls compute, piece by piece. What calls compute, piece by piece. What calls compute, piece by piece. What calls compute, piece by piece. What calls compute, piece by piece. What calls compute, piece by piece. What calls compute, piece by piece. What calls compute, piece by piece. What calls compute, piece by piece. What calls compute, piece by piece. What calls compute, piece by piece. What calls compute, piece by piece. What calls compute, piece by piece. What calls compute, piece by piece. What calls compute, piece by piece. What calls compute, piece by piece. What calls compute, piece by piece. What calls compute, piece by piece. What calls compute, piece by piece. What calls compute, piece by piece. What calls compute, piece by piece. What calls compute, piece by piece. What calls compute, piece by piece. What calls compute, piece by piece. What calls compute, piece by piece. What calls compute, piece by piece. What calls compute, piece by piece. What calls compute, piece by piece. What calls compute, piece by piece. What calls compute, piece by piece. What calls compute, piece by piece. What calls compute, piece by piece. What calls compute, piece by piece. What calls compute, piece by piece. What calls compute, piece by piece. What calls compute, piece by piece. What calls compute, piece by piece. What calls compute, piece by piece. What calls compute, piece by piece. What calls compute, piece by piece. What calls compute, piece by piece. What calls compute, piece by piece. What calls compute, piece by piece. What calls compute, piece by piece. What calls compute, piece by piece. What calls compute, piece by piece. What calls compute, piece by piece. What calls compute, piece by piece. What calls compute, piece by piece. What calls compute, piece by piece. What calls compute, piece by piece. What calls compute, piece by piece. What calls compute, piece by piece. What calls compute, piece by piece. What calls compute, piece by piece. What calls compute, piece by piece. What calls compute, piece by piece. What calls compute, piece by piece. What calls compute, piece by piece. What calls compute, piece by piece. What calls compute, piece by piece.
-/
import Derived.Test.YtjmiehbiindjdaaGreatDoorCmG
import Derived.Test.YtjmiehbiindjdaaGreatDoorChecked
namespace Go.Proofs.YtjmiehbiindjdaaGreatDoor.dec
open Go Go.Cm
abbrev n_law21_GridActs : Nat := 3
abbrev n_hand_Pick : Nat := 5
abbrev n_grid_New : Nat := 6
abbrev n_ref19_New : Nat := 7
abbrev n_law21_known : Nat := 8
abbrev n_grid_Grid_Do : Nat := 9
abbrev n_ref19_Grid_Do : Nat := 10
abbrev n_law21_same : Nat := 11
abbrev n_grid_size : Nat := 20
abbrev n_vt_New : Nat := 21
abbrev n_grid_Grid_reset : Nat := 22
abbrev n_ref19_Grid_reset : Nat := 23
abbrev n_grid_Grid_Screen : Nat := 24
abbrev n_grid_Grid_Past : Nat := 25
abbrev n_grid_Grid_print : Nat := 26
abbrev n_grid_Grid_control : Nat := 27
abbrev n_grid_Grid_esc : Nat := 28
abbrev n_grid_Grid_modes : Nat := 29
abbrev n_grid_Grid_csi : Nat := 30
abbrev n_ref19_Grid_print : Nat := 31
abbrev n_ref19_Grid_control : Nat := 32
abbrev n_ref19_Grid_esc : Nat := 33
abbrev n_ref19_Grid_modes : Nat := 34
abbrev n_ref19_Grid_csi : Nat := 35
abbrev n_grid_Grid_Modes : Nat := 36
abbrev n_ref19_Grid_Modes : Nat := 37
abbrev n_ref19_Same : Nat := 38
abbrev n_ref19_Grid_Screen : Nat := 39
abbrev n_ref19_SameLines : Nat := 40
abbrev n_ref19_Grid_Past : Nat := 41
abbrev n_grid_line : Nat := 46
abbrev n_grid_Grid_keep : Nat := 47
abbrev n_ref19_Grid_line : Nat := 49
abbrev n_utf_New : Nat := 52
abbrev n_grid_sheet : Nat := 53
abbrev n_ref19_sheet : Nat := 54
abbrev n_grid_copied : Nat := 55
abbrev n_grid_Grid_index : Nat := 56
abbrev n_grid_Grid_cell : Nat := 57
abbrev n_grid_Grid_move : Nat := 58
abbrev n_grid_Grid_down : Nat := 59
abbrev n_grid_Grid_alternate : Nat := 60
abbrev n_vt_Params : Nat := 61
abbrev n_grid_Grid_style : Nat := 62
abbrev n_slices_Contains_S_int_int : Nat := 63
abbrev n_grid_Grid_edit : Nat := 64
abbrev n_ref19_Grid_index : Nat := 65
abbrev n_ref19_Grid_shift : Nat := 66
abbrev n_ref19_Grid_down : Nat := 67
abbrev n_ref19_Param : Nat := 68
abbrev n_ref19_Grid_to : Nat := 69
abbrev n_ref19_Grid_lineUp : Nat := 70
abbrev n_ref19_Grid_lineDown : Nat := 71
abbrev n_ref19_Grid_wipe : Nat := 72
abbrev n_ref19_Grid_up : Nat := 73
abbrev n_ref19_Grid_scroll : Nat := 74
abbrev n_ref19_Grid_sgr : Nat := 75
abbrev n_slices_Repeat_S_api_Cell_api_Cell : Nat := 80
abbrev n_grid_blank : Nat := 81
abbrev n_slices_Clone_S_api_Cell_api_Cell : Nat := 82
abbrev n_ref19_blank : Nat := 83
abbrev n_ref19_row : Nat := 84
abbrev n_grid_Grid_up : Nat := 87
abbrev n_grid_Grid_put : Nat := 88
abbrev n_slices_Index_S_int_int : Nat := 89
abbrev n_grid_Grid_erase : Nat := 90
abbrev n_grid_Grid_eraseLine : Nat := 91
abbrev n_grid_Grid_take : Nat := 92
abbrev n_grid_Grid_cut : Nat := 93
abbrev n_ref19_clip : Nat := 94
abbrev n_math_bits_Mul : Nat := 108
abbrev n_grid_Grid_wipe : Nat := 113
abbrev n_slices_Clone_S_S_api_Cell_S_api_Cell : Nat := 114
abbrev n_math_bits_Mul64 : Nat := 117
abbrev t_int : Nat := 3
abbrev t_bool : Nat := 4
abbrev t_uint8 : Nat := 5
abbrev t_int32 : Nat := 21
abbrev t_vt_Act : Nat := 33
abbrev t_api_Cell : Nat := 54
abbrev t_grid_Grid : Nat := 59
abbrev t_ref19_Grid : Nat := 67
abbrev t_api_Screen : Nat := 69
abbrev t_S_api_Cell : Nat := 84
abbrev t_vt_Parser : Nat := 94
abbrev t_utf_Decoder : Nat := 115
def cutsL : List (Nat × CT) := [(3, (.two .no (.two .no (.two .no (.two .no (.two .no (.two (.two .no (.cut [(2, .sl), (3, .sl), (9, .ptr), (11, .ptr), (41, .bool)] .no)) (.two (.two .no (.one (.lp [(2, .sl), (3, .sl), (9, .ptr), (11, .ptr), (12, .int .i64)] (.two (.two .no (.cut [(2, .sl), (3, .sl), (9, .ptr), (11, .ptr), (12, .int .i64), (49, .bool)] .no)) (.two (.one (.two .no (.two .no (.two .no (.cut [(2, .sl), (3, .sl), (9, .ptr), (11, .ptr), (12, .int .i64), (13, .any), (14, .int .i64)] (.two .no (.two .no (.two (.two .no (.one (.lp [(2, .sl), (3, .sl), (9, .ptr), (11, .ptr), (12, .int .i64), (13, .any), (14, .int .i64), (15, .sl), (16, .int .i64)] (.two (.two .no (.cut [(2, .sl), (3, .sl), (9, .ptr), (11, .ptr), (12, .int .i64), (13, .any), (14, .int .i64), (15, .sl), (16, .int .i64), (78, .bool)] .no)) .no)))) (.two .no (.two .no (.cut [(2, .sl), (3, .sl), (9, .ptr), (11, .ptr), (12, .int .i64), (13, .any)] .no))))))))))) .no))))) .no)))))))),
  (4, (.two .no (.two .no (.two .no (.two .no (.two .no (.two (.two .no (.cut [(0, .int .i64), (2, .sl), (3, .sl), (4, .sl), (11, .ptr), (13, .ptr), (41, .bool)] .no)) (.two (.two .no (.one (.lp [(0, .int .i64), (2, .sl), (3, .sl), (4, .sl), (11, .ptr), (13, .ptr), (14, .int .i64)] (.two (.two .no (.cut [(0, .int .i64), (2, .sl), (3, .sl), (4, .sl), (11, .ptr), (13, .ptr), (14, .int .i64), (49, .bool)] .no)) (.two (.one (.two .no (.two (.two .no (.cut [(0, .int .i64), (2, .sl), (3, .sl), (4, .sl), (11, .ptr), (13, .ptr), (14, .int .i64), (15, .sl), (67, .bool)] .no)) (.cut [(0, .int .i64), (2, .sl), (3, .sl), (4, .sl), (11, .ptr), (13, .ptr), (14, .int .i64), (15, .sl)] (.two .no (.two .no (.two .no (.two .no (.cut [(0, .int .i64), (2, .sl), (3, .sl), (4, .sl), (11, .ptr), (13, .ptr), (14, .int .i64), (94, .bool)] .no))))))))) (.cut [(0, .int .i64), (2, .sl), (3, .sl), (4, .sl), (11, .ptr), (13, .ptr), (14, .int .i64)] .no)))))) (.two (.two .no (.one (.lp [(0, .int .i64), (11, .ptr), (13, .ptr), (16, .int .i64)] .no))) .no))))))))),
  (12, (.two .no (.two .no (.two (.two .no (.one (.lp [(0, .sl), (1, .int .i64), (5, .str), (6, .int .i64)] (.two (.two .no (.cut [(0, .sl), (1, .int .i64), (5, .str), (6, .int .i64), (16, .bool)] .no)) (.two .no (.cut [(0, .sl), (1, .int .i64), (5, .str), (6, .int .i64)] .no)))))) .no)))),
  (14, (.two .no (.one (.lp [(0, .ptr), (11, .sl), (12, .int .i64), (13, .int .i64)] .no)))),
  (15, (.two .no (.two .no (.one (.lp [(0, .ptr), (4, .sl), (5, .int .i64)] .no))))),
  (16, (.two .no (.two .no (.two .no (.two .no (.cut [(0, .ptr), (1, .int .i64), (2, .int .i64), (7, .ptr), (8, .ptr)] (.two .no (.two (.two .no (.one (.lp [(0, .ptr), (1, .int .i64), (2, .int .i64), (7, .ptr), (8, .ptr), (11, .sl), (12, .int .i64), (86, .sl), (87, .int .i64), (88, .int .i64)] .no))) (.two .no (.two .no (.two .no (.two (.two .no (.one (.lp [(0, .ptr), (1, .int .i64), (2, .int .i64), (126, .sl), (127, .int .i64), (128, .int .i64)] .no))) (.two .no (.two (.two .no (.one (.lp [(0, .ptr), (2, .int .i64), (18, .int .i64)] .no))) .no)))))))))))))),
  (17, (.two .no (.two .no (.cut [(0, .ptr), (1, .int .i64), (2, .int .i64), (6, .sl), (7, .sl), (8, .any)] (.two (.two .no (.one (.lp [(0, .ptr), (1, .int .i64), (2, .int .i64), (6, .sl), (7, .sl), (8, .any), (12, .int .i64)] .no))) (.two .no (.two .no (.two .no (.two (.two .no (.one (.lp [(0, .ptr), (1, .int .i64), (2, .int .i64), (13, .sl), (14, .int .i64)] (.two .no (.two .no (.cut [(0, .ptr), (1, .int .i64), (2, .int .i64), (13, .sl), (14, .int .i64)] .no)))))) .no))))))))),
  (18, (.two .no (.two (.two .no (.cut [(0, .ptr), (1, .int .i64), (14, .bool)] .no)) .no))),
  (19, (.two .no (.two (.two .no (.cut [(0, .ptr), (1, .int .i64), (14, .bool)] .no)) .no))),
  (22, (.two .no (.two .no (.two .no (.two .no (.two (.two .no (.one (.lp [(0, .ptr), (48, .int .i64), (49, .int .i64)] (.two .no (.two .no (.two .no (.cut [(0, .ptr), (48, .int .i64), (49, .int .i64)] .no))))))) .no)))))),
  (23, (.two .no (.two .no (.two .no (.two .no (.two .no (.two .no (.two .no (.two .no (.two .no (.two .no (.two .no (.two .no (.two .no (.one (.lp [(0, .ptr), (2, .int .i64)] .no)))))))))))))))),
  (26, (.two (.two .no (.cut [(0, .ptr), (1, .int .i32), (15, .bool)] .no)) (.cut [(0, .ptr), (1, .int .i32)] (.two .no (.cut [(0, .ptr), (1, .int .i32)] .no))))),
  (27, (.two .no (.one (.two .no (.two .no (.two .no (.two (.two .no (.two (.one (.lp [(0, .ptr), (4, .int .i64)] (.two (.two .no (.cut [(0, .ptr), (4, .int .i64), (45, .bool)] .no)) .no))) .no)) (.two .no (.cut [(0, .ptr), (5, .int .i32), (56, .bool)] .no))))))))),
  (29, (.two .no (.two (.two .no (.cut [(0, .ptr), (3, .any), (14, .bool)] .no)) (.two .no (.two .no (.one (.lp [(0, .ptr), (4, .bool), (19, .sl), (20, .int .i64), (21, .int .i64)] (.two .no (.two .no (.two .no (.cut [(0, .ptr), (4, .bool), (19, .sl), (20, .int .i64), (21, .int .i64)] .no))))))))))),
  (30, (.two .no (.two .no (.two .no (.two .no (.one (.two .no (.cut [(0, .ptr), (3, .any), (4, .int .i64), (5, .int .i64), (6, .int .i64), (24, .int .i32), (29, .bool)] (.two (.two .no (.two .no (.cut [(0, .ptr), (3, .any), (4, .int .i64), (5, .int .i64), (6, .int .i64), (7, .int .i64)] (.two .no (.two .no (.cut [(0, .ptr), (5, .int .i64), (6, .int .i64)] .no)))))) (.two .no (.cut [(0, .ptr), (3, .any), (4, .int .i64), (5, .int .i64), (6, .int .i64), (24, .int .i32), (54, .bool)] (.two (.two .no (.two .no (.cut [(0, .ptr), (3, .any), (4, .int .i64), (5, .int .i64), (6, .int .i64), (8, .int .i64)] (.two .no (.two .no (.cut [(0, .ptr), (5, .int .i64), (6, .int .i64)] .no)))))) (.two .no (.two .no (.two .no (.two .no (.two .no (.two .no (.two .no (.two .no (.two .no (.cut [(0, .ptr), (3, .any), (4, .int .i64), (24, .int .i32), (114, .bool)] (.two .no (.two .no (.two (.two .no (.one (.lp [(0, .ptr), (127, .sl), (128, .int .i64), (129, .int .i64)] .no))) (.two .no (.cut [(0, .ptr), (3, .any), (4, .int .i64), (137, .bool)] .no))))))))))))))))))))))))))),
  (31, (.two (.two .no (.cut [(0, .ptr), (1, .int .i32), (16, .bool)] .no)) (.cut [(0, .ptr), (1, .int .i32)] (.two .no (.cut [(0, .ptr), (1, .int .i32)] .no))))),
  (32, (.two .no (.one (.two .no (.two .no (.two .no (.two (.two .no (.two (.one (.lp [(0, .ptr), (4, .int .i64)] (.two (.two .no (.cut [(0, .ptr), (4, .int .i64), (47, .bool)] .no)) .no))) .no)) (.two .no (.cut [(0, .ptr), (5, .int .i32), (65, .bool)] .no))))))))),
  (34, (.two .no (.two (.two .no (.cut [(0, .ptr), (3, .any), (13, .bool)] .no)) (.two .no (.two .no (.one (.lp [(0, .ptr), (3, .any), (4, .bool), (5, .int .i64)] (.two .no (.two (.one (.two .no (.one (.two .no (.two .no (.two .no (.two .no (.two .no (.two (.two (.two .no (.cut [(0, .ptr), (3, .any), (4, .bool), (5, .int .i64), (63, .bool)] .no)) (.cut [(0, .ptr), (3, .any), (4, .bool), (5, .int .i64)] (.two (.two .no (.cut [(0, .ptr), (3, .any), (4, .bool), (5, .int .i64), (97, .bool)] .no)) (.cut [(0, .ptr), (3, .any), (4, .bool), (5, .int .i64)] .no)))) .no))))))))) (.cut [(0, .ptr), (3, .any), (4, .bool), (5, .int .i64)] .no)))))))))),
  (35, (.two .no (.two .no (.two .no (.two .no (.two .no (.two .no (.one (.two .no (.two .no (.two .no (.two .no (.two .no (.two .no (.two .no (.two .no (.two .no (.two .no (.two .no (.two .no (.two .no (.two .no (.two .no (.two .no (.two .no (.cut [(0, .ptr), (3, .any), (4, .int .i64), (5, .int .i64), (6, .int .i64), (7, .int .i64), (34, .int .i32), (95, .bool)] (.two .no (.two .no (.two .no (.two .no (.two .no (.two .no (.cut [(0, .ptr), (3, .any), (4, .int .i64), (5, .int .i64), (6, .int .i64), (7, .int .i64), (34, .int .i32), (192, .bool)] (.two (.two (.two .no (.cut [(0, .ptr), (3, .any), (4, .int .i64), (5, .int .i64), (208, .bool)] .no)) (.two .no (.cut [(0, .ptr), (5, .int .i64)] .no))) (.two .no (.two .no (.two .no (.two .no (.two .no (.two .no (.two .no (.two .no (.two .no (.two .no (.two .no (.two .no (.two .no (.two (.two .no (.one (.lp [(0, .ptr), (3, .any), (10, .int .i64)] .no))) (.two .no (.cut [(0, .ptr), (3, .any), (6, .int .i64), (34, .int .i32), (316, .bool)] (.two (.two .no (.one (.lp [(0, .ptr), (3, .any), (11, .int .i64)] (.two .no (.two .no (.cut [(0, .ptr), (3, .any), (11, .int .i64)] .no)))))) (.two .no (.two (.two .no (.two .no (.cut [(0, .ptr), (12, .sl)] .no))) .no))))))))))))))))))))))))))))))))))))))))))))))))))))),
  (40, (.two .no (.two .no (.two (.two .no (.one (.lp [(0, .sl), (1, .sl), (5, .int .i64)] (.two .no (.two (.one (.two .no (.two .no (.one (.lp [(0, .sl), (1, .sl), (5, .int .i64), (6, .int .i64)] .no))))) .no))))) .no)))),
  (43, (.two .no (.two .no (.two (.two .no (.one (.lp [(0, .ptr), (5, .sl), (15, .sl), (16, .int .i64), (17, .int .i64)] (.two .no (.two .no (.two .no (.cut [(0, .ptr), (5, .sl), (15, .sl), (16, .int .i64), (17, .int .i64)] .no))))))) .no)))),
  (44, (.two .no (.two .no (.two .no (.two (.two .no (.one (.lp [(0, .ptr), (5, .sl), (6, .sl), (7, .int .i64)] (.two .no (.two .no (.cut [(0, .ptr), (5, .sl), (6, .sl), (7, .int .i64)] .no)))))) .no))))),
  (45, (.two .no (.two .no (.two (.two .no (.one (.lp [(2, .int .i64), (3, .int .i64), (8, .sl), (9, .int .i64), (26, .sl), (27, .int .i64), (28, .int .i64)] .no))) .no)))),
  (48, (.two .no (.two (.two .no (.one (.lp [(0, .sl), (2, .int .i64), (3, .int .i64), (5, .any), (8, .sl), (10, .any), (11, .int .i64)] (.two .no (.two (.one (.two .no (.two (.one (.lp [(0, .sl), (2, .int .i64), (3, .int .i64), (5, .any), (8, .sl), (10, .any), (11, .int .i64), (12, .sl)] .no)) .no))) .no))))) (.two .no (.two .no (.two .no (.two .no (.two .no (.cut [(2, .int .i64), (3, .int .i64), (5, .any), (8, .sl), (9, .sl), (10, .any)] (.two (.one (.lp [(2, .int .i64), (3, .int .i64), (5, .any), (8, .sl), (9, .sl), (10, .any)] .no)) .no)))))))))),
  (50, (.two .no (.two .no (.two (.two .no (.one (.lp [(3, .sl), (6, .sl), (7, .int .i64), (8, .int .i64)] .no))) .no)))),
  (51, (.two .no (.two .no (.two (.one (.lp [(0, .sl), (3, .int .i64)] (.two (.two .no (.cut [(0, .sl), (3, .int .i64), (18, .bool)] .no)) .no))) (.two .no (.two (.two .no (.one (.lp [(0, .sl), (3, .int .i64), (4, .sl), (5, .int .i64)] .no))) .no)))))),
  (53, (.two .no (.two .no (.two (.two .no (.one (.lp [(1, .int .i64), (5, .sl), (6, .int .i64), (7, .int .i64)] .no))) .no)))),
  (54, (.two .no (.two .no (.two (.two .no (.one (.lp [(0, .int .i64), (1, .int .i64), (5, .sl), (6, .int .i64)] .no))) .no)))),
  (55, (.two .no (.two .no (.two (.two .no (.one (.lp [(3, .sl), (6, .sl), (7, .int .i64), (8, .int .i64)] .no))) .no)))),
  (60, (.one (.two .no (.cut [(0, .ptr), (1, .bool), (4, .bool)] (.two .no (.two .no (.cut [(0, .ptr), (39, .bool)] .no))))))),
  (61, (.two .no (.two (.two .no (.cut [(1, .int .i64), (2, .int .i64), (3, .any), (23, .bool)] .no)) .no))),
  (62, (.two .no (.one (.two .no (.two .no (.two .no (.two .no (.two .no (.two .no (.two .no (.two .no (.two .no (.two .no (.two .no (.two .no (.two .no (.two .no (.two .no (.cut [(1, .int .i64), (4, .ptr), (75, .bool)] (.two .no (.two .no (.two .no (.two .no (.cut [(1, .int .i64), (4, .ptr), (93, .bool)] .no)))))))))))))))))))))))),
  (64, (.two .no (.two .no (.two .no (.one (.two .no (.two .no (.two .no (.two .no (.two .no (.cut [(0, .ptr), (2, .int .i64), (4, .any), (6, .int .i64), (12, .int .i32), (23, .bool)] (.two (.two (.two .no (.cut [(0, .ptr), (2, .int .i64), (4, .any), (47, .bool)] .no)) (.two .no (.cut [(0, .ptr)] .no))) (.two .no (.cut [(0, .ptr), (2, .int .i64), (4, .any), (6, .int .i64), (12, .int .i32), (74, .bool)] (.two .no (.two .no (.two .no (.two .no (.two .no (.two .no (.two .no (.two .no (.two (.two .no (.cut [(0, .ptr), (6, .int .i64)] .no)) .no))))))))))))))))))))))),
  (66, (.two .no (.two .no (.two (.two .no (.one (.lp [(0, .ptr), (1, .int .i64), (4, .sl), (5, .sl), (6, .int .i64)] (.two .no (.two (.one (.two .no (.two .no (.cut [(0, .ptr), (1, .int .i64), (4, .sl), (5, .sl), (6, .int .i64), (7, .int .i64), (58, .bool)] .no)))) (.cut [(0, .ptr), (1, .int .i64), (4, .sl), (5, .sl), (6, .int .i64)] .no)))))) .no)))),
  (67, (.two .no (.two .no (.one (.lp [(0, .ptr), (1, .int .i64), (2, .int .i64), (6, .int .i64)] (.two .no (.two .no (.cut [(0, .ptr), (1, .int .i64), (2, .int .i64), (6, .int .i64)] .no)))))))),
  (68, (.two .no (.two (.two .no (.cut [(1, .int .i64), (2, .int .i64), (3, .any), (23, .bool)] .no)) .no))),
  (72, (.two .no (.one (.lp [(0, .ptr), (2, .int .i64), (6, .int .i64)] (.two (.two .no (.cut [(0, .ptr), (2, .int .i64), (6, .int .i64), (25, .bool)] .no)) .no))))),
  (73, (.two .no (.two .no (.one (.lp [(0, .ptr), (2, .int .i64), (6, .int .i64)] (.two .no (.two .no (.cut [(0, .ptr), (2, .int .i64), (6, .int .i64)] .no)))))))),
  (74, (.two .no (.two (.two .no (.one (.lp [(0, .ptr), (1, .int .i64), (4, .int .i64)] (.two (.two .no (.cut [(0, .ptr), (1, .int .i64), (4, .int .i64), (33, .bool)] .no)) .no)))) .no))),
  (75, (.two .no (.one (.two .no (.two .no (.two .no (.two .no (.two .no (.two .no (.two .no (.two .no (.two .no (.two .no (.two .no (.two .no (.two .no (.two .no (.two .no (.cut [(1, .int .i64), (4, .ptr), (81, .bool)] (.two .no (.two .no (.two .no (.two .no (.cut [(1, .int .i64), (4, .ptr), (99, .bool)] .no)))))))))))))))))))))))),
  (76, (.two .no (.two .no (.two .no (.two (.two .no (.one (.lp [(0, .ptr), (5, .sl), (6, .int .i64), (7, .int .i64)] (.two .no (.two (.one (.two .no (.cut [(0, .ptr), (5, .sl), (6, .int .i64), (7, .int .i64), (38, .bool)] .no))) (.cut [(0, .ptr), (5, .sl), (6, .int .i64), (7, .int .i64)] .no)))))) .no))))),
  (77, (.two .no (.two (.one (.two .no (.cut [(0, .ptr), (1, .int .i32), (4, .any), (6, .bool)] .no))) (.two (.two .no (.one (.two .no (.two .no (.two .no (.two .no (.two .no (.two .no (.two .no (.two (.two (.two .no (.cut [(0, .ptr), (4, .any), (62, .bool)] .no)) .no) .no)))))))))) .no)))),
  (78, (.two .no (.two .no (.two .no (.two (.two .no (.one (.lp [(0, .ptr), (5, .sl), (6, .int .i64), (7, .int .i64)] .no))) (.cut [(0, .ptr), (5, .sl), (6, .int .i64)] .no)))))),
  (79, (.two .no (.two (.two .no (.one (.two .no (.two (.two (.one (.two .no (.two .no (.two .no (.two .no (.two .no (.cut [(1, .int .i32), (4, .any), (28, .bool)] .no))))))) .no) (.two .no (.two .no (.two .no (.two (.two .no (.two .no (.cut [(4, .any)] .no))) (.two .no (.two .no (.two .no (.two (.two (.two .no (.one (.two .no (.cut [(0, .ptr), (4, .any), (71, .int .i32), (72, .bool)] .no)))) (.cut [(4, .any)] .no)) .no)))))))))))) .no))),
  (80, (.two .no (.two .no (.cut [(0, .sl), (1, .int .i64)] (.two .no (.two (.two .no (.cut [(0, .sl), (6, .int .u64), (26, .bool)] .no)) (.cut [(0, .sl), (6, .int .u64)] (.two .no (.two .no (.two (.one (.lp [(7, .sl), (8, .int .i64)] .no)) .no)))))))))),
  (84, (.two .no (.two .no (.two (.two .no (.one (.lp [(0, .int .i64), (3, .sl), (4, .int .i64)] .no))) .no)))),
  (85, (.two .no (.two (.two .no (.cut [(0, .str), (1, .str), (12, .bool)] .no)) (.two (.two .no (.cut [(0, .str), (1, .str), (21, .bool)] .no)) .no)))),
  (87, (.two .no (.two (.two .no (.cut [(0, .ptr), (1, .int .i64), (29, .bool)] (.two (.two .no (.one (.lp [(0, .ptr), (1, .int .i64), (35, .sl), (36, .int .i64), (37, .int .i64)] .no))) .no))) (.cut [(0, .ptr), (1, .int .i64)] .no)))),
  (89, (.two .no (.two (.two .no (.one (.lp [(0, .sl), (1, .int .i64), (7, .int .i64), (8, .int .i64)] .no))) .no))),
  (90, (.two .no (.cut [(0, .ptr), (1, .int .i64)] (.two (.two .no (.cut [(0, .ptr), (1, .int .i64), (15, .bool)] .no)) (.two .no (.two .no (.one (.lp [(0, .ptr), (1, .int .i64), (22, .int .i64), (23, .int .i64)] (.two .no (.two .no (.two (.one (.two .no (.two .no (.cut [(0, .ptr), (1, .int .i64), (4, .int .i64), (22, .int .i64), (23, .int .i64), (53, .bool)] .no)))) (.cut [(0, .ptr), (1, .int .i64), (22, .int .i64), (23, .int .i64)] .no)))))))))))),
  (96, (.two .no (.two .no (.two .no (.two .no (.two .no (.two .no (.two (.two .no (.cut [(0, .sl), (3, .int .i64), (41, .bool)] (.two .no (.two .no (.cut [(55, .bool)] .no))))) .no)))))))),
  (97, (.two .no (.two .no (.two (.two .no (.one (.lp [(3, .sl), (7, .any)] .no))) .no)))),
  (98, (.two .no (.two .no (.two (.two .no (.one (.two .no (.two .no (.two .no (.cut [(0, .ptr), (1, .int .i32), (4, .any), (9, .int .i32), (32, .bool)] (.two .no (.two .no (.cut [(0, .ptr), (1, .int .i32), (4, .any), (42, .bool)] .no))))))))) (.two (.one (.two .no (.two .no (.two .no (.cut [(1, .int .i32), (4, .any), (60, .bool)] .no))))) .no))))),
  (99, (.two .no (.two .no (.two (.one (.two .no (.two .no (.two .no (.cut [(0, .ptr), (1, .int .i32), (4, .any), (6, .bool), (18, .bool)] (.two .no (.two .no (.cut [(0, .ptr), (1, .int .i32), (4, .any), (6, .bool), (32, .bool)] (.two .no (.two .no (.two (.two .no (.two .no (.cut [(0, .ptr), (4, .any)] .no))) (.two .no (.cut [(0, .ptr), (1, .int .i32), (4, .any), (104, .bool)] (.two .no (.two .no (.cut [(0, .ptr), (1, .int .i32), (4, .any), (116, .bool)] (.two .no (.two .no (.cut [(0, .ptr), (1, .int .i32), (4, .any), (129, .bool)] .no))))))))))))))))))) .no)))),
  (100, (.two .no (.two (.one (.two .no (.two .no (.two .no (.cut [(1, .int .i32), (4, .any), (11, .bool)] .no))))) .no))),
  (101, (.two .no (.two (.two .no (.cut [(0, .sl), (15, .bool)] .no)) (.two .no (.two .no (.two .no (.two .no (.two (.one (.two .no (.cut [(0, .sl), (3, .int .u8), (4, .int .i64), (5, .int .u8), (6, .int .u8), (19, .bool)] (.two .no (.two .no (.cut [(0, .sl), (3, .int .u8), (4, .int .i64), (5, .int .u8), (6, .int .u8), (26, .bool)] (.two (.two .no (.two .no (.cut [(0, .sl), (3, .int .u8), (4, .int .i64), (5, .int .u8), (6, .int .u8)] .no))) (.two .no (.cut [(0, .sl), (3, .int .u8), (4, .int .i64), (5, .int .u8), (6, .int .u8), (37, .bool)] (.two (.two .no (.two .no (.cut [(0, .sl), (3, .int .u8), (4, .int .i64), (5, .int .u8), (6, .int .u8)] .no))) .no)))))))))) (.cut [(0, .sl), (4, .int .i64), (5, .int .u8), (6, .int .u8)] (.two .no (.two (.two .no (.one (.lp [(0, .sl), (5, .int .u8), (6, .int .u8), (7, .int .i64)] (.two .no (.two (.one (.two (.two .no (.cut [(0, .sl), (7, .int .i64), (71, .bool)] .no)) .no)) .no))))) .no))))))))))),
  (102, (.two .no (.two .no (.two (.two .no (.one (.lp [(3, .sl), (7, .any)] .no))) .no)))),
  (106, (.two .no (.two .no (.two (.one (.two .no (.two .no (.two .no (.cut [(0, .ptr), (1, .int .i32), (4, .any), (15, .bool)] (.two .no (.two .no (.two .no (.two .no (.two .no (.two .no (.cut [(0, .ptr), (1, .int .i32), (4, .any), (57, .bool)] (.two .no (.two .no (.cut [(0, .ptr), (1, .int .i32), (4, .any), (82, .bool)] .no))))))))))))))) (.two .no (.two (.two .no (.cut [(1, .int .i32), (4, .any), (115, .bool)] .no)) .no)))))),
  (107, (.two .no (.two .no (.two .no (.two (.one (.two .no (.two .no (.two .no (.cut [(0, .ptr), (1, .int .i32), (4, .any), (6, .bool), (31, .bool)] (.two .no (.two .no (.cut [(0, .ptr), (1, .int .i32), (4, .any), (6, .bool), (45, .bool)] (.two .no (.two .no (.cut [(0, .ptr), (1, .int .i32), (4, .any), (6, .bool), (52, .bool)] (.two .no (.two .no (.two .no (.two .no (.cut [(0, .ptr), (1, .int .i32), (4, .any), (111, .bool)] (.two .no (.two .no (.two (.two .no (.two .no (.two (.two .no (.two .no (.cut [(0, .ptr), (1, .int .i32), (4, .any), (8, .sl)] .no))) .no))) .no))))))))))))))))))) (.cut [(4, .any)] .no)))))),
  (109, (.two .no (.two (.one (.lp [(0, .str), (1, .int .u8)] (.two (.two .no (.cut [(0, .str), (1, .int .u8), (16, .bool)] .no)) .no))) .no)))]

noncomputable def C : CProg := ⟨autoC (lookCT cutsL) [0, 1, 2, 3, 4] Tryz.prog, fun f => if f = n_law21_known then some (sure n_law21_known n_law21_known) else none⟩
theorem exNN : ∃ n : Nat, n = 4000000000000 := ⟨_, rfl⟩
noncomputable def NN : Nat := Classical.choose exNN
theorem NN_eq : NN = 4000000000000 := Classical.choose_spec exNN
noncomputable def X (d : Nat) : CallF := callD C NN d
noncomputable def cd (f : Nat) (p : List Nat) : CCode := cdC (lookCT cutsL) [0, 1, 2, 3, 4] Tryz.prog f p
noncomputable def rs (f : Nat) : List CRes := rsC [0, 1, 2, 3, 4] Tryz.prog f
end Go.Proofs.YtjmiehbiindjdaaGreatDoor.dec

namespace Go.Proofs.YtjmiehbiindjdaaGreatDoor.dec
open Go Go.Cm
/-! porthole/grid.copied -/
noncomputable def grid_copied_k111 (d : Nat) : Kt := run (X d) NN (cd 55 [1, 1, 1]) (retK (rs 55)) [] (retK (rs 55))
noncomputable def grid_copied_l11010 (d : Nat) (m0 : Nat) : Kt := iter (fun k => run (X d) NN (cd 55 [1, 1, 0, 1, 0, 0]) (backK [(3, .sl), (6, .sl), (7, .int .i64), (8, .int .i64)] (opq k)) [(0, (grid_copied_k111 d))] (retK (rs 55))) m0
noncomputable def grid_copied_p11010 (d : Nat) (m0 : Nat) (x3 : Sl) (x6 : Sl) (x7 : Int) (x8 : Int) (H : Heap) : Res := opq (grid_copied_l11010 d m0) [(3, x3.v), (6, x6.v), (7, .int .i64 x7), (8, .int .i64 x8)] H
theorem grid_copied_p11010_s (d : Nat) (m0 : Nat) (x3 : Sl) (x6 : Sl) (x7 : Int) (x8 : Int) (H : Heap) : grid_copied_p11010 d (m0 + 1) x3 x6 x7 x8 H =
  if (decide (x8 < x7)) = true then
  (optK x6.a fun a1 =>
    if 0 ≤ x8 ∧ x8 < (x6.n : Int) then
    optK (Heap.ld1 H (ap a1 (((x8).toNat) * 1))) fun v2 =>
    asSL v2 fun l3 =>
    callK (X d n_slices_Clone_S_api_Cell_api_Cell [l3.v] H) fun v4 H5 =>
    asSL v4 fun l6 =>
    newK H5 (.cells [l6.v] t_S_api_Cell false 0 false) fun p7 H8 =>
    appendK t_S_api_Cell 1 24 false x3.v (.slice (some ⟨p7, 0, none⟩) 1 1) H8 fun v9 H10 =>
    asSL v9 fun l11 =>
    grid_copied_p11010 d m0 l11 x6 x7 (IntKind.wrap .i64 (x8 + 1)) H10
    else none)
  else
  (some (x3.v, H)) := (opq_app _ _ _).trans <| by kernel_rfl
theorem grid_copied_eq (d : Nat) (x0 : Sl) (H : Heap) : X (d + 1) n_grid_copied [x0.v] H =
  grid_copied_p11010 d NN Sl.nil x0 (x0.n : Int) 0 H := by kernel_rfl
end Go.Proofs.YtjmiehbiindjdaaGreatDoor.dec

namespace Go.Proofs.YtjmiehbiindjdaaGreatDoor.dec
open Go Go.Cm
/-! porthole/grid.line -/
theorem grid_line_eq (d : Nat) (x0 : Int) (H : Heap) : X (d + 1) n_grid_line [.int .i64 x0] H =
  callK (X d n_grid_blank [] H) fun v1 H2 =>
  asA v1 fun c3 =>
  optK (fillL [(0, 4)] [.agg c3] [.int .i32 0, .int .i64 0, .int .i64 0, .int .i64 0]) fun l4 =>
  newK H2 (.cells l4 t_api_Cell false 0 false) fun p5 H6 =>
  callK (X d n_slices_Repeat_S_api_Cell_api_Cell [.slice (some ⟨p5, 0, none⟩) 1 1, .int .i64 x0] H6) fun v7 H8 =>
  asSL v7 fun l9 =>
  some (l9.v, H8) := by kernel_rfl
end Go.Proofs.YtjmiehbiindjdaaGreatDoor.dec

namespace Go.Proofs.YtjmiehbiindjdaaGreatDoor.dec
open Go Go.Cm
/-! porthole/grid.sheet -/
noncomputable def grid_sheet_k111 (d : Nat) : Kt := run (X d) NN (cd 53 [1, 1, 1]) (retK (rs 53)) [] (retK (rs 53))
noncomputable def grid_sheet_l11010 (d : Nat) (m0 : Nat) : Kt := iter (fun k => run (X d) NN (cd 53 [1, 1, 0, 1, 0, 0]) (backK [(1, .int .i64), (5, .sl), (6, .int .i64), (7, .int .i64)] (opq k)) [(0, (grid_sheet_k111 d))] (retK (rs 53))) m0
noncomputable def grid_sheet_p11010 (d : Nat) (m0 : Nat) (x1 : Int) (x5 : Sl) (x6 : Int) (x7 : Int) (H : Heap) : Res := opq (grid_sheet_l11010 d m0) [(1, .int .i64 x1), (5, x5.v), (6, .int .i64 x6), (7, .int .i64 x7)] H
theorem grid_sheet_p11010_s (d : Nat) (m0 : Nat) (x1 : Int) (x5 : Sl) (x6 : Int) (x7 : Int) (H : Heap) : grid_sheet_p11010 d (m0 + 1) x1 x5 x6 x7 H =
  if (decide (x7 < x6)) = true then
  (callK (X d n_grid_line [.int .i64 x1] H) fun v1 H2 =>
    asSL v1 fun l3 =>
    newK H2 (.cells [l3.v] t_S_api_Cell false 0 false) fun p4 H5 =>
    appendK t_S_api_Cell 1 24 false x5.v (.slice (some ⟨p4, 0, none⟩) 1 1) H5 fun v6 H7 =>
    asSL v6 fun l8 =>
    grid_sheet_p11010 d m0 x1 l8 x6 (IntKind.wrap .i64 (x7 + 1)) H7)
  else
  (some (x5.v, H)) := (opq_app _ _ _).trans <| by kernel_rfl
theorem grid_sheet_eq (d : Nat) (x0 : Int) (x1 : Int) (H : Heap) : X (d + 1) n_grid_sheet [.int .i64 x0, .int .i64 x1] H =
  grid_sheet_p11010 d NN x1 Sl.nil x0 0 H := by kernel_rfl
end Go.Proofs.YtjmiehbiindjdaaGreatDoor.dec

namespace Go.Proofs.YtjmiehbiindjdaaGreatDoor.dec
open Go Go.Cm
/-! slices.Clone[[]porthole/api.Cell,porthole/api.Cell] -/
theorem slices_Clone_S_api_Cell_api_Cell_eq (d : Nat) (x0 : Sl) (H : Heap) : X (d + 1) n_slices_Clone_S_api_Cell_api_Cell [x0.v] H =
  if x0.a.isNone = true then
  (some (.slice none 0 0, H))
  else
  (newK H (.cells [] t_api_Cell false 0 false) fun p1 H2 =>
    appendK t_api_Cell 4 32 false (.slice (some ⟨p1, 0, none⟩) 0 0) x0.v H2 fun v3 H4 =>
    asSL v3 fun l5 =>
    some (l5.v, H4)) := by kernel_rfl
end Go.Proofs.YtjmiehbiindjdaaGreatDoor.dec

namespace Go.Proofs.YtjmiehbiindjdaaGreatDoor.dec
open Go Go.Cm
/-! slices.Repeat[[]porthole/api.Cell,porthole/api.Cell] -/
noncomputable def slices_Repeat_S_api_Cell_api_Cell_k11011 (d : Nat) : Kt := run (X d) NN (cd 80 [1, 1, 0, 1, 1]) (retK (rs 80)) [] (retK (rs 80))
noncomputable def slices_Repeat_S_api_Cell_api_Cell_k110110111 (d : Nat) : Kt := run (X d) NN (cd 80 [1, 1, 0, 1, 1, 0, 1, 1, 1]) (retK (rs 80)) [] (retK (rs 80))
noncomputable def slices_Repeat_S_api_Cell_api_Cell_l1101101100 (d : Nat) (m0 : Nat) : Kt := iter (fun k => run (X d) NN (cd 80 [1, 1, 0, 1, 1, 0, 1, 1, 0, 0, 0]) (backK [(7, .sl), (8, .int .i64)] (opq k)) [(0, (slices_Repeat_S_api_Cell_api_Cell_k110110111 d))] (retK (rs 80))) m0
noncomputable def slices_Repeat_S_api_Cell_api_Cell_p11 (d : Nat) (x0 : Sl) (x1 : Int) (H : Heap) : Res := opq (run (X d) NN (cd 80 [1, 1, 0]) (retK (rs 80)) [] (retK (rs 80))) [(0, x0.v), (1, .int .i64 x1)] H
noncomputable def slices_Repeat_S_api_Cell_api_Cell_p110101 (d : Nat) (x0 : Sl) (x6 : Int) (x26 : Bool) (H : Heap) : Res := opq (run (X d) NN (cd 80 [1, 1, 0, 1, 0, 1, 0]) (slices_Repeat_S_api_Cell_api_Cell_k11011 d) [] (retK (rs 80))) [(0, x0.v), (6, .int .u64 x6), (26, .bool x26)] H
noncomputable def slices_Repeat_S_api_Cell_api_Cell_p11011 (d : Nat) (x0 : Sl) (x6 : Int) (H : Heap) : Res := opq (run (X d) NN (cd 80 [1, 1, 0, 1, 1, 0]) (retK (rs 80)) [] (retK (rs 80))) [(0, x0.v), (6, .int .u64 x6)] H
noncomputable def slices_Repeat_S_api_Cell_api_Cell_p1101101100 (d : Nat) (m0 : Nat) (x7 : Sl) (x8 : Int) (H : Heap) : Res := opq (slices_Repeat_S_api_Cell_api_Cell_l1101101100 d m0) [(7, x7.v), (8, .int .i64 x8)] H
theorem slices_Repeat_S_api_Cell_api_Cell_p11_eq (d : Nat) (x0 : Sl) (x1 : Int) (H : Heap) : slices_Repeat_S_api_Cell_api_Cell_p11 d x0 x1 H =
  callK (X d n_math_bits_Mul [.int .u64 (IntKind.wrap .u64 (x0.n : Int)), .int .u64 (IntKind.wrap .u64 x1)] H) fun v1 H2 =>
  castT [.int .u64, .int .u64] v1 fun l3 =>
  castT [.int .u64, .int .u64] (.tuple ⟨l3⟩) fun l4 =>
  optK l4[0]? fun v5 =>
  asI .u64 v5 fun n6 =>
  optK l4[1]? fun v7 =>
  asI .u64 v7 fun n8 =>
  if (decide ((0 : Int) < n6)) = true then
  (slices_Repeat_S_api_Cell_api_Cell_p110101 d x0 n8 true H2)
  else
  (slices_Repeat_S_api_Cell_api_Cell_p110101 d x0 n8 (decide ((9223372036854775807 : Int) < n8)) H2) := (opq_app _ _ _).trans <| by kernel_rfl
theorem slices_Repeat_S_api_Cell_api_Cell_p110101_eq (d : Nat) (x0 : Sl) (x6 : Int) (x26 : Bool) (H : Heap) : slices_Repeat_S_api_Cell_api_Cell_p110101 d x0 x6 x26 H =
  if x26 = true then
  (none)
  else
  (slices_Repeat_S_api_Cell_api_Cell_p11011 d x0 x6 H) := (opq_app _ _ _).trans <| by kernel_rfl
theorem slices_Repeat_S_api_Cell_api_Cell_p11011_eq (d : Nat) (x0 : Sl) (x6 : Int) (H : Heap) : slices_Repeat_S_api_Cell_api_Cell_p11011 d x0 x6 H =
  effK (.mkSl t_api_Cell 4 32 [.int .i32 0, .int .i64 0, .int .i64 0, .int .i64 0]) [.int .i64 (IntKind.wrap .i64 x6), .int .i64 (IntKind.wrap .i64 x6)] H fun v1 H2 =>
  asSL v1 fun l3 =>
  effK (.copy 4 false) [l3.v, x0.v] H2 fun v4 H5 =>
  asI .i64 v4 fun n6 =>
  slices_Repeat_S_api_Cell_api_Cell_p1101101100 d NN l3 n6 H5 := (opq_app _ _ _).trans <| by kernel_rfl
theorem slices_Repeat_S_api_Cell_api_Cell_p1101101100_s (d : Nat) (m0 : Nat) (x7 : Sl) (x8 : Int) (H : Heap) : slices_Repeat_S_api_Cell_api_Cell_p1101101100 d (m0 + 1) x7 x8 H =
  if (decide (x8 < (x7.n : Int))) = true then
  (optK (readD (.subSl t_api_Cell 4 true false false) [x7.v, .int .i64 x8] H) fun v1 =>
    asSL v1 fun l2 =>
    optK (readD (.subSl t_api_Cell 4 false true false) [x7.v, .int .i64 x8] H) fun v3 =>
    asSL v3 fun l4 =>
    effK (.copy 4 false) [l2.v, l4.v] H fun v5 H6 =>
    asI .i64 v5 fun n7 =>
    slices_Repeat_S_api_Cell_api_Cell_p1101101100 d m0 x7 (IntKind.wrap .i64 (x8 + n7)) H6)
  else
  (some (x7.v, H)) := (opq_app _ _ _).trans <| by kernel_rfl
theorem slices_Repeat_S_api_Cell_api_Cell_eq (d : Nat) (x0 : Sl) (x1 : Int) (H : Heap) : X (d + 1) n_slices_Repeat_S_api_Cell_api_Cell [x0.v, .int .i64 x1] H =
  if (decide (x1 < 0)) = true then
  (none)
  else
  (slices_Repeat_S_api_Cell_api_Cell_p11 d x0 x1 H) := by kernel_rfl
end Go.Proofs.YtjmiehbiindjdaaGreatDoor.dec

namespace Go.Proofs.YtjmiehbiindjdaaGreatDoor.dec
open Go Go.Cm
/-! porthole/grid.blank -/
theorem grid_blank_eq (d : Nat) (H : Heap) : X (d + 1) n_grid_blank [] H =
  newK H (.cells [.int .i32 0, .int .i64 0, .int .i64 0, .int .i64 0] t_api_Cell false 0 false) fun p1 H2 =>
  optK (Heap.stN H2 ⟨p1, 0, none⟩ [.int .i32 32, .int .i64 0, .int .i64 0, .int .i64 0]) fun H3 =>
  retK [.cell 0 4 true] [(0, P0 p1)] H3 := by kernel_rfl
end Go.Proofs.YtjmiehbiindjdaaGreatDoor.dec

namespace Go.Proofs.YtjmiehbiindjdaaGreatDoor.dec
open Go Go.Cm
/-! math/bits.Mul -/
theorem math_bits_Mul_eq (d : Nat) (x0 : Int) (x1 : Int) (H : Heap) : X (d + 1) n_math_bits_Mul [.int .u64 x0, .int .u64 x1] H =
  callK (X d n_math_bits_Mul64 [.int .u64 x0, .int .u64 x1] H) fun v1 H2 =>
  castT [.int .u64, .int .u64] v1 fun l3 =>
  castT [.int .u64, .int .u64] (.tuple ⟨l3⟩) fun l4 =>
  optK l4[0]? fun v5 =>
  asI .u64 v5 fun n6 =>
  optK l4[1]? fun v7 =>
  asI .u64 v7 fun n8 =>
  some (.tuple #[.int .u64 n6, .int .u64 n8], H2) := by kernel_rfl
end Go.Proofs.YtjmiehbiindjdaaGreatDoor.dec

namespace Go.Proofs.YtjmiehbiindjdaaGreatDoor.dec
open Go Go.Cm
/-! math/bits.Mul64 -/
theorem math_bits_Mul64_eq (d : Nat) (x0 : Int) (x1 : Int) (H : Heap) : X (d + 1) n_math_bits_Mul64 [.int .u64 x0, .int .u64 x1] H =
  some (.tuple #[.int .u64 (IntKind.wrap .u64 ((IntKind.wrap .u64 ((IntKind.wrap .u64 ((Int.fdiv x0 4294967296) * (Int.fdiv x1 4294967296))) + (Int.fdiv (IntKind.wrap .u64 ((IntKind.wrap .u64 ((Int.fdiv x0 4294967296) * (bitsI .and .u64 x1 4294967295))) + (Int.fdiv (IntKind.wrap .u64 ((bitsI .and .u64 x0 4294967295) * (bitsI .and .u64 x1 4294967295))) 4294967296))) 4294967296))) + (Int.fdiv (IntKind.wrap .u64 ((bitsI .and .u64 (IntKind.wrap .u64 ((IntKind.wrap .u64 ((Int.fdiv x0 4294967296) * (bitsI .and .u64 x1 4294967295))) + (Int.fdiv (IntKind.wrap .u64 ((bitsI .and .u64 x0 4294967295) * (bitsI .and .u64 x1 4294967295))) 4294967296))) 4294967295) + (IntKind.wrap .u64 ((bitsI .and .u64 x0 4294967295) * (Int.fdiv x1 4294967296))))) 4294967296))), .int .u64 (IntKind.wrap .u64 (x0 * x1))], H) := by kernel_rfl
end Go.Proofs.YtjmiehbiindjdaaGreatDoor.dec

namespace Go.Proofs.YtjmiehbiindjdaaGreatDoor.dec
open Go Go.Cm
/-! slices.Clone[[][]porthole/api.Cell,[]porthole/api.Cell] -/
theorem slices_Clone_S_S_api_Cell_S_api_Cell_eq (d : Nat) (x0 : Sl) (H : Heap) : X (d + 1) n_slices_Clone_S_S_api_Cell_S_api_Cell [x0.v] H =
  if x0.a.isNone = true then
  (some (.slice none 0 0, H))
  else
  (newK H (.cells [] t_S_api_Cell false 0 false) fun p1 H2 =>
    appendK t_S_api_Cell 1 24 false (.slice (some ⟨p1, 0, none⟩) 0 0) x0.v H2 fun v3 H4 =>
    asSL v3 fun l5 =>
    some (l5.v, H4)) := by kernel_rfl
end Go.Proofs.YtjmiehbiindjdaaGreatDoor.dec

namespace Go.Proofs.YtjmiehbiindjdaaGreatDoor.dec
open Go Go.Cm
/-! (*porthole/vt.Parser).Rune -/
end Go.Proofs.YtjmiehbiindjdaaGreatDoor.dec

namespace Go.Proofs.YtjmiehbiindjdaaGreatDoor.dec
open Go Go.Cm
/-! (*porthole/vt.Parser).escaped -/
end Go.Proofs.YtjmiehbiindjdaaGreatDoor.dec

namespace Go.Proofs.YtjmiehbiindjdaaGreatDoor.dec
open Go Go.Cm
/-! (*porthole/vt.Parser).csi -/
end Go.Proofs.YtjmiehbiindjdaaGreatDoor.dec

namespace Go.Proofs.YtjmiehbiindjdaaGreatDoor.dec
open Go Go.Cm
/-! (*porthole/vt.Parser).plain -/
end Go.Proofs.YtjmiehbiindjdaaGreatDoor.dec

namespace Go.Proofs.YtjmiehbiindjdaaGreatDoor.dec
open Go Go.Cm
/-! porthole/vt.control -/
end Go.Proofs.YtjmiehbiindjdaaGreatDoor.dec

namespace Go.Proofs.YtjmiehbiindjdaaGreatDoor.dec
open Go Go.Cm
/-! (*porthole/utf.Decoder).Feed -/
end Go.Proofs.YtjmiehbiindjdaaGreatDoor.dec

namespace Go.Proofs.YtjmiehbiindjdaaGreatDoor.dec
open Go Go.Cm
/-! unicode/utf8.RuneStart -/
end Go.Proofs.YtjmiehbiindjdaaGreatDoor.dec

namespace Go.Proofs.YtjmiehbiindjdaaGreatDoor.dec
open Go Go.Cm
/-! unicode/utf8.FullRune -/
end Go.Proofs.YtjmiehbiindjdaaGreatDoor.dec

namespace Go.Proofs.YtjmiehbiindjdaaGreatDoor.dec
open Go Go.Cm
/-! porthole/utf.Runes -/
end Go.Proofs.YtjmiehbiindjdaaGreatDoor.dec

namespace Go.Proofs.YtjmiehbiindjdaaGreatDoor.dec
open Go Go.Cm
/-! (*porthole/grid.Grid).move -/
theorem grid_Grid_move_eq (d : Nat) (x0 : Nat) (x1 : Int) (x2 : Int) (H : Heap) : X (d + 1) n_grid_Grid_move [P0 x0, .int .i64 x1, .int .i64 x2] H =
  optK (Heap.ld1 H ⟨x0, 0, none⟩) fun v1 =>
  asI .i64 v1 fun n2 =>
  optK (Heap.ld1 H ⟨x0, 1, none⟩) fun v3 =>
  asI .i64 v3 fun n4 =>
  optK (Heap.st1 H ⟨x0, 3, none⟩ (.int .i64 (if (IntKind.wrap .i64 (n2 - 1)) < (if x1 < 0 then 0 else x1) then (IntKind.wrap .i64 (n2 - 1)) else (if x1 < 0 then 0 else x1)))) fun H5 =>
  optK (Heap.st1 H5 ⟨x0, 4, none⟩ (.int .i64 (if (IntKind.wrap .i64 (n4 - 1)) < (if x2 < 0 then 0 else x2) then (IntKind.wrap .i64 (n4 - 1)) else (if x2 < 0 then 0 else x2)))) fun H6 =>
  optK (Heap.st1 H6 ⟨x0, 5, none⟩ (.bool false)) fun H7 =>
  some (.tuple #[], H7) := by kernel_rfl
end Go.Proofs.YtjmiehbiindjdaaGreatDoor.dec

namespace Go.Proofs.YtjmiehbiindjdaaGreatDoor.dec
open Go Go.Cm
/-! (*porthole/grid.Grid).keep -/
theorem grid_Grid_keep_eq (d : Nat) (x0 : Nat) (x1 : Sl) (H : Heap) : X (d + 1) n_grid_Grid_keep [P0 x0, x1.v] H =
  optK (Heap.ld1 H ⟨x0, 31, none⟩) fun v1 =>
  asSL v1 fun l2 =>
  callK (X d n_slices_Clone_S_api_Cell_api_Cell [x1.v] H) fun v3 H4 =>
  asSL v3 fun l5 =>
  newK H4 (.cells [l5.v] t_S_api_Cell false 0 false) fun p6 H7 =>
  appendK t_S_api_Cell 1 24 false l2.v (.slice (some ⟨p6, 0, none⟩) 1 1) H7 fun v8 H9 =>
  asSL v8 fun l10 =>
  optK (Heap.st1 H9 ⟨x0, 31, none⟩ l10.v) fun H11 =>
  chk (rdsOk [H, H4, H7, H9, H11] [⟨.load 1 false, [.pointer (some ⟨x0, 31, none⟩)], v1, 0, 2⟩]) (
    optK (Heap.ld1 H11 ⟨x0, 31, none⟩) fun v12 =>
    asSL v12 fun l13 =>
    if (decide ((200 : Int) < (l13.n : Int))) = true then
    (optK (Heap.ld1 H11 ⟨x0, 31, none⟩) fun v14 =>
      asSL v14 fun l15 =>
      optK (Heap.ld1 H11 ⟨x0, 31, none⟩) fun v16 =>
      asSL v16 fun l17 =>
      optK (readD (.subSl t_S_api_Cell 1 true false false) [l15.v, .int .i64 (IntKind.wrap .i64 ((l17.n : Int) - 200))] H11) fun v18 =>
      asSL v18 fun l19 =>
      optK (Heap.st1 H11 ⟨x0, 31, none⟩ l19.v) fun H20 =>
      some (.tuple #[], H20))
    else
    (some (.tuple #[], H11))) := by kernel_rfl
end Go.Proofs.YtjmiehbiindjdaaGreatDoor.dec

namespace Go.Proofs.YtjmiehbiindjdaaGreatDoor.dec
open Go Go.Cm
/-! (*porthole/grid.Grid).index -/
theorem grid_Grid_index_eq (d : Nat) (x0 : Nat) (H : Heap) : X (d + 1) n_grid_Grid_index [P0 x0] H =
  optK (Heap.st1 H ⟨x0, 5, none⟩ (.bool false)) fun H1 =>
  optK (Heap.ld1 H1 ⟨x0, 3, none⟩) fun v2 =>
  asI .i64 v2 fun n3 =>
  optK (Heap.ld1 H1 ⟨x0, 18, none⟩) fun v4 =>
  asI .i64 v4 fun n5 =>
  if (decide (n3 = n5)) = true then
  (callK (X d n_grid_Grid_up [P0 x0, .int .i64 1] H1) fun _ H7 =>
    some (.tuple #[], H7))
  else
  (optK (Heap.ld1 H1 ⟨x0, 3, none⟩) fun v8 =>
    asI .i64 v8 fun n9 =>
    optK (Heap.ld1 H1 ⟨x0, 0, none⟩) fun v10 =>
    asI .i64 v10 fun n11 =>
    if (decide (n9 < IntKind.wrap .i64 (n11 - 1))) = true then
    (optK (Heap.ld1 H1 ⟨x0, 3, none⟩) fun v12 =>
      asI .i64 v12 fun n13 =>
      optK (Heap.st1 H1 ⟨x0, 3, none⟩ (.int .i64 (IntKind.wrap .i64 (n13 + 1)))) fun H14 =>
      some (.tuple #[], H14))
    else
    (some (.tuple #[], H1))) := by kernel_rfl
end Go.Proofs.YtjmiehbiindjdaaGreatDoor.dec

namespace Go.Proofs.YtjmiehbiindjdaaGreatDoor.dec
open Go Go.Cm
/-! (*porthole/grid.Grid).down -/
theorem grid_Grid_down_eq (d : Nat) (x0 : Nat) (x1 : Int) (H : Heap) : X (d + 1) n_grid_Grid_down [P0 x0, .int .i64 x1] H =
  optK (Heap.ld1 H ⟨x0, 17, none⟩) fun v1 =>
  asI .i64 v1 fun n2 =>
  callK (X d n_grid_Grid_put [P0 x0, .int .i64 n2, .int .i64 x1] H) fun _ H4 =>
  some (.tuple #[], H4) := by kernel_rfl
end Go.Proofs.YtjmiehbiindjdaaGreatDoor.dec

namespace Go.Proofs.YtjmiehbiindjdaaGreatDoor.dec
open Go Go.Cm
/-! (*porthole/grid.Grid).up -/
noncomputable def grid_Grid_up_k11 (d : Nat) : Kt := run (X d) NN (cd 87 [1, 1]) (retK (rs 87)) [] (retK (rs 87))
noncomputable def grid_Grid_up_l1010010 (d : Nat) (m0 : Nat) : Kt := iter (fun k => run (X d) NN (cd 87 [1, 0, 1, 0, 0, 1, 0, 0]) (backK [(0, .ptr), (1, .int .i64), (35, .sl), (36, .int .i64), (37, .int .i64)] (opq k)) [(0, (grid_Grid_up_k11 d))] (retK (rs 87))) m0
noncomputable def grid_Grid_up_p101 (d : Nat) (x0 : Nat) (x1 : Int) (x29 : Bool) (H : Heap) : Res := opq (run (X d) NN (cd 87 [1, 0, 1, 0]) (grid_Grid_up_k11 d) [] (retK (rs 87))) [(0, P0 x0), (1, .int .i64 x1), (29, .bool x29)] H
noncomputable def grid_Grid_up_p1010010 (d : Nat) (m0 : Nat) (x0 : Nat) (x1 : Int) (x35 : Sl) (x36 : Int) (x37 : Int) (H : Heap) : Res := opq (grid_Grid_up_l1010010 d m0) [(0, P0 x0), (1, .int .i64 x1), (35, x35.v), (36, .int .i64 x36), (37, .int .i64 x37)] H
noncomputable def grid_Grid_up_p11 (d : Nat) (x0 : Nat) (x1 : Int) (H : Heap) : Res := opq (run (X d) NN (cd 87 [1, 1, 0]) (retK (rs 87)) [] (retK (rs 87))) [(0, P0 x0), (1, .int .i64 x1)] H
theorem grid_Grid_up_p101_eq (d : Nat) (x0 : Nat) (x1 : Int) (x29 : Bool) (H : Heap) : grid_Grid_up_p101 d x0 x1 x29 H =
  if x29 = true then
  (optK (Heap.ld1 H ⟨x0, 2, none⟩) fun v1 =>
    asSL v1 fun l2 =>
    optK (readD (.subSl t_S_api_Cell 1 false true false) [l2.v, .int .i64 x1] H) fun v3 =>
    asSL v3 fun l4 =>
    grid_Grid_up_p1010010 d NN x0 x1 l4 (l4.n : Int) 0 H)
  else
  (grid_Grid_up_p11 d x0 x1 H) := (opq_app _ _ _).trans <| by kernel_rfl
theorem grid_Grid_up_p1010010_s (d : Nat) (m0 : Nat) (x0 : Nat) (x1 : Int) (x35 : Sl) (x36 : Int) (x37 : Int) (H : Heap) : grid_Grid_up_p1010010 d (m0 + 1) x0 x1 x35 x36 x37 H =
  if (decide (x37 < x36)) = true then
  (optK x35.a fun a1 =>
    if 0 ≤ x37 ∧ x37 < (x35.n : Int) then
    optK (Heap.ld1 H (ap a1 (((x37).toNat) * 1))) fun v2 =>
    asSL v2 fun l3 =>
    callK (X d n_grid_Grid_keep [P0 x0, l3.v] H) fun _ H5 =>
    grid_Grid_up_p1010010 d m0 x0 x1 x35 x36 (IntKind.wrap .i64 (x37 + 1)) H5
    else none)
  else
  (grid_Grid_up_p11 d x0 x1 H) := (opq_app _ _ _).trans <| by kernel_rfl
theorem grid_Grid_up_p11_eq (d : Nat) (x0 : Nat) (x1 : Int) (H : Heap) : grid_Grid_up_p11 d x0 x1 H =
  optK (Heap.ld1 H ⟨x0, 17, none⟩) fun v1 =>
  asI .i64 v1 fun n2 =>
  callK (X d n_grid_Grid_take [P0 x0, .int .i64 n2, .int .i64 x1] H) fun _ H4 =>
  some (.tuple #[], H4) := (opq_app _ _ _).trans <| by kernel_rfl
theorem grid_Grid_up_eq (d : Nat) (x0 : Nat) (x1 : Int) (H : Heap) : X (d + 1) n_grid_Grid_up [P0 x0, .int .i64 x1] H =
  optK (Heap.ld1 H ⟨x0, 18, none⟩) fun v1 =>
  asI .i64 v1 fun n2 =>
  optK (Heap.ld1 H ⟨x0, 17, none⟩) fun v3 =>
  asI .i64 v3 fun n4 =>
  optK (Heap.ld1 H ⟨x0, 17, none⟩) fun v5 =>
  asI .i64 v5 fun n6 =>
  if (decide (n6 = 0)) = true then
  (optK (Heap.ld1 H ⟨x0, 23, none⟩) fun v7 =>
    asSL v7 fun l8 =>
    grid_Grid_up_p101 d x0 (if (IntKind.wrap .i64 ((IntKind.wrap .i64 (n2 - n4)) + 1)) < x1 then (IntKind.wrap .i64 ((IntKind.wrap .i64 (n2 - n4)) + 1)) else x1) l8.a.isNone H)
  else
  (grid_Grid_up_p101 d x0 (if (IntKind.wrap .i64 ((IntKind.wrap .i64 (n2 - n4)) + 1)) < x1 then (IntKind.wrap .i64 ((IntKind.wrap .i64 (n2 - n4)) + 1)) else x1) false H) := by kernel_rfl
end Go.Proofs.YtjmiehbiindjdaaGreatDoor.dec

namespace Go.Proofs.YtjmiehbiindjdaaGreatDoor.dec
open Go Go.Cm
/-! (*porthole/grid.Grid).put -/
theorem grid_Grid_put_eq (d : Nat) (x0 : Nat) (x1 : Int) (x2 : Int) (H : Heap) : X (d + 1) n_grid_Grid_put [P0 x0, .int .i64 x1, .int .i64 x2] H =
  optK (Heap.ld1 H ⟨x0, 2, none⟩) fun v1 =>
  asSL v1 fun l2 =>
  optK (Heap.ld1 H ⟨x0, 18, none⟩) fun v3 =>
  asI .i64 v3 fun n4 =>
  optK (readD (.subSl t_S_api_Cell 1 true true false) [l2.v, .int .i64 x1, .int .i64 (IntKind.wrap .i64 (n4 + 1))] H) fun v5 =>
  asSL v5 fun l6 =>
  optK (Heap.ld1 H ⟨x0, 1, none⟩) fun v7 =>
  asI .i64 v7 fun n8 =>
  callK (X d n_grid_sheet [.int .i64 (if (l6.n : Int) < x2 then (l6.n : Int) else x2), .int .i64 n8] H) fun v9 H10 =>
  asSL v9 fun l11 =>
  optK (readD (.subSl t_S_api_Cell 1 false true false) [l6.v, .int .i64 (IntKind.wrap .i64 ((l6.n : Int) - (if (l6.n : Int) < x2 then (l6.n : Int) else x2)))] H10) fun v12 =>
  asSL v12 fun l13 =>
  appendK t_S_api_Cell 1 24 false l11.v l13.v H10 fun v14 H15 =>
  asSL v14 fun l16 =>
  effK (.copy 1 false) [l6.v, l16.v] H15 fun v17 H18 =>
  asI .i64 v17 fun _ =>
  chk (rdsOk [H, H10, H15, H18] [⟨.subSl t_S_api_Cell 1 false true false, [l6.v, .int .i64 (IntKind.wrap .i64 ((l6.n : Int) - (if (l6.n : Int) < x2 then (l6.n : Int) else x2)))], v12, 0, 1⟩]) (
    some (.tuple #[], H18)) := by kernel_rfl
end Go.Proofs.YtjmiehbiindjdaaGreatDoor.dec

namespace Go.Proofs.YtjmiehbiindjdaaGreatDoor.dec
open Go Go.Cm
/-! (*porthole/grid.Grid).take -/
theorem grid_Grid_take_eq (d : Nat) (x0 : Nat) (x1 : Int) (x2 : Int) (H : Heap) : X (d + 1) n_grid_Grid_take [P0 x0, .int .i64 x1, .int .i64 x2] H =
  optK (Heap.ld1 H ⟨x0, 2, none⟩) fun v1 =>
  asSL v1 fun l2 =>
  optK (Heap.ld1 H ⟨x0, 18, none⟩) fun v3 =>
  asI .i64 v3 fun n4 =>
  optK (readD (.subSl t_S_api_Cell 1 true true false) [l2.v, .int .i64 x1, .int .i64 (IntKind.wrap .i64 (n4 + 1))] H) fun v5 =>
  asSL v5 fun l6 =>
  optK (readD (.subSl t_S_api_Cell 1 true false false) [l6.v, .int .i64 (if (l6.n : Int) < x2 then (l6.n : Int) else x2)] H) fun v7 =>
  asSL v7 fun l8 =>
  callK (X d n_slices_Clone_S_S_api_Cell_S_api_Cell [l8.v] H) fun v9 H10 =>
  asSL v9 fun l11 =>
  optK (Heap.ld1 H10 ⟨x0, 1, none⟩) fun v12 =>
  asI .i64 v12 fun n13 =>
  callK (X d n_grid_sheet [.int .i64 (if (l6.n : Int) < x2 then (l6.n : Int) else x2), .int .i64 n13] H10) fun v14 H15 =>
  asSL v14 fun l16 =>
  appendK t_S_api_Cell 1 24 false l11.v l16.v H15 fun v17 H18 =>
  asSL v17 fun l19 =>
  effK (.copy 1 false) [l6.v, l19.v] H18 fun v20 H21 =>
  asI .i64 v20 fun _ =>
  chk (rdsOk [H, H10, H15, H18, H21] [⟨.load 1 false, [.pointer (some ⟨x0, 1, none⟩)], v12, 0, 1⟩]) (
    some (.tuple #[], H21)) := by kernel_rfl
end Go.Proofs.YtjmiehbiindjdaaGreatDoor.dec

namespace Go.Proofs.YtjmiehbiindjdaaGreatDoor.dec
open Go Go.Cm
/-! (*porthole/grid.Grid).print -/
noncomputable def grid_Grid_print_k1 (d : Nat) : Kt := run (X d) NN (cd 26 [1]) (retK (rs 26)) [] (retK (rs 26))
noncomputable def grid_Grid_print_p01 (d : Nat) (x0 : Nat) (x1 : Int) (x15 : Bool) (H : Heap) : Res := opq (run (X d) NN (cd 26 [0, 1, 0]) (grid_Grid_print_k1 d) [] (retK (rs 26))) [(0, P0 x0), (1, .int .i32 x1), (15, .bool x15)] H
noncomputable def grid_Grid_print_p1 (d : Nat) (x0 : Nat) (x1 : Int) (H : Heap) : Res := opq (run (X d) NN (cd 26 [1, 0]) (retK (rs 26)) [] (retK (rs 26))) [(0, P0 x0), (1, .int .i32 x1)] H
noncomputable def grid_Grid_print_p101 (d : Nat) (x0 : Nat) (x1 : Int) (H : Heap) : Res := opq (run (X d) NN (cd 26 [1, 0, 1, 0]) (retK (rs 26)) [] (retK (rs 26))) [(0, P0 x0), (1, .int .i32 x1)] H
theorem grid_Grid_print_p01_eq (d : Nat) (x0 : Nat) (x1 : Int) (x15 : Bool) (H : Heap) : grid_Grid_print_p01 d x0 x1 x15 H =
  if x15 = true then
  (optK (Heap.st1 H ⟨x0, 4, none⟩ (.int .i64 0)) fun H1 =>
    callK (X d n_grid_Grid_index [P0 x0] H1) fun _ H3 =>
    grid_Grid_print_p1 d x0 x1 H3)
  else
  (grid_Grid_print_p1 d x0 x1 H) := (opq_app _ _ _).trans <| by kernel_rfl
theorem grid_Grid_print_p1_eq (d : Nat) (x0 : Nat) (x1 : Int) (H : Heap) : grid_Grid_print_p1 d x0 x1 H =
  optK (Heap.ld1 H ⟨x0, 20, none⟩) fun v1 =>
  asB v1 fun b2 =>
  if b2 = true then
  (optK (Heap.ld1 H ⟨x0, 2, none⟩) fun v3 =>
    asSL v3 fun l4 =>
    optK (Heap.ld1 H ⟨x0, 3, none⟩) fun v5 =>
    asI .i64 v5 fun n6 =>
    optK l4.a fun a7 =>
    if 0 ≤ n6 ∧ n6 < (l4.n : Int) then
    optK (Heap.ld1 H (ap a7 (((n6).toNat) * 1))) fun v8 =>
    asSL v8 fun l9 =>
    optK (Heap.ld1 H ⟨x0, 4, none⟩) fun v10 =>
    asI .i64 v10 fun n11 =>
    optK (readD (.subSl t_api_Cell 4 true false false) [l9.v, .int .i64 (IntKind.wrap .i64 (n11 + 1))] H) fun v12 =>
    asSL v12 fun l13 =>
    optK (Heap.ld1 H ⟨x0, 4, none⟩) fun v14 =>
    asI .i64 v14 fun n15 =>
    optK (readD (.subSl t_api_Cell 4 true false false) [l9.v, .int .i64 n15] H) fun v16 =>
    asSL v16 fun l17 =>
    effK (.copy 4 false) [l13.v, l17.v] H fun v18 H19 =>
    asI .i64 v18 fun _ =>
    grid_Grid_print_p101 d x0 x1 H19
    else none)
  else
  (grid_Grid_print_p101 d x0 x1 H) := (opq_app _ _ _).trans <| by kernel_rfl
theorem grid_Grid_print_p101_eq (d : Nat) (x0 : Nat) (x1 : Int) (H : Heap) : grid_Grid_print_p101 d x0 x1 H =
  optK (Heap.ld1 H ⟨x0, 2, none⟩) fun v1 =>
  asSL v1 fun l2 =>
  optK (Heap.ld1 H ⟨x0, 3, none⟩) fun v3 =>
  asI .i64 v3 fun n4 =>
  optK l2.a fun a5 =>
  if 0 ≤ n4 ∧ n4 < (l2.n : Int) then
  optK (Heap.ld1 H (ap a5 (((n4).toNat) * 1))) fun v6 =>
  asSL v6 fun l7 =>
  optK (Heap.ld1 H ⟨x0, 4, none⟩) fun v8 =>
  asI .i64 v8 fun n9 =>
  callK (X d n_grid_Grid_cell [P0 x0, .int .i32 x1] H) fun v10 H11 =>
  asA v10 fun c12 =>
  optK l7.a fun a13 =>
  if 0 ≤ n9 ∧ n9 < (l7.n : Int) then
  effK (.store 4) [.pointer (some (ap a13 (((n9).toNat) * 4))), .agg c12] H11 fun _ H15 =>
  chk (rdsOk [H, H11, H15] [⟨.load 1 false, [.pointer (some ⟨x0, 4, none⟩)], v8, 0, 1⟩, ⟨.load 1 false, [.pointer (some (ap a5 (((n4).toNat) * 1)))], v6, 0, 1⟩, ⟨.load 1 false, [.pointer (some ⟨x0, 3, none⟩)], v3, 0, 1⟩, ⟨.load 1 false, [.pointer (some ⟨x0, 2, none⟩)], v1, 0, 1⟩]) (
    optK (Heap.ld1 H15 ⟨x0, 4, none⟩) fun v16 =>
    asI .i64 v16 fun n17 =>
    optK (Heap.ld1 H15 ⟨x0, 1, none⟩) fun v18 =>
    asI .i64 v18 fun n19 =>
    if (decide (n17 = IntKind.wrap .i64 (n19 - 1))) = true then
    (optK (Heap.ld1 H15 ⟨x0, 19, none⟩) fun v20 =>
      asB v20 fun b21 =>
      optK (Heap.st1 H15 ⟨x0, 5, none⟩ (.bool b21)) fun H22 =>
      some (.tuple #[], H22))
    else
    (optK (Heap.ld1 H15 ⟨x0, 4, none⟩) fun v23 =>
      asI .i64 v23 fun n24 =>
      optK (Heap.st1 H15 ⟨x0, 4, none⟩ (.int .i64 (IntKind.wrap .i64 (n24 + 1)))) fun H25 =>
      some (.tuple #[], H25)))
  else none
  else none := (opq_app _ _ _).trans <| by kernel_rfl
theorem grid_Grid_print_eq (d : Nat) (x0 : Nat) (x1 : Int) (H : Heap) : X (d + 1) n_grid_Grid_print [P0 x0, .int .i32 x1] H =
  optK (Heap.ld1 H ⟨x0, 5, none⟩) fun v1 =>
  asB v1 fun b2 =>
  if b2 = true then
  (optK (Heap.ld1 H ⟨x0, 19, none⟩) fun v3 =>
    asB v3 fun b4 =>
    grid_Grid_print_p01 d x0 x1 b4 H)
  else
  (grid_Grid_print_p01 d x0 x1 false H) := by kernel_rfl
end Go.Proofs.YtjmiehbiindjdaaGreatDoor.dec

namespace Go.Proofs.YtjmiehbiindjdaaGreatDoor.dec
open Go Go.Cm
/-! (*porthole/grid.Grid).cell -/
theorem grid_Grid_cell_eq (d : Nat) (x0 : Nat) (x1 : Int) (H : Heap) : X (d + 1) n_grid_Grid_cell [P0 x0, .int .i32 x1] H =
  newK H (.cells [.int .i32 0, .int .i64 0, .int .i64 0, .int .i64 0] t_api_Cell false 0 false) fun p1 H2 =>
  optK (ldA H2 ⟨x0, 6, none⟩ 4) fun v3 =>
  asA v3 fun c4 =>
  newK H2 (.cells [.int .i32 0, .int .i64 0, .int .i64 0, .int .i64 0] t_api_Cell false 0 false) fun p5 H6 =>
  effK (.store 4) [P0 p5, .agg c4] H6 fun _ H8 =>
  optK (Heap.st1 H8 ⟨p5, 0, none⟩ (.int .i32 x1)) fun H9 =>
  optK (ldA H9 ⟨p5, 0, none⟩ 4) fun v10 =>
  asA v10 fun c11 =>
  effK (.store 4) [P0 p1, .agg c11] H9 fun _ H13 =>
  retK [.cell 4 4 true] [(4, P0 p1)] H13 := by kernel_rfl
end Go.Proofs.YtjmiehbiindjdaaGreatDoor.dec

namespace Go.Proofs.YtjmiehbiindjdaaGreatDoor.dec
open Go Go.Cm
/-! porthole/portholeref19.blank -/
theorem ref19_blank_eq (d : Nat) (H : Heap) : X (d + 1) n_ref19_blank [] H =
  newK H (.cells [.int .i32 0, .int .i64 0, .int .i64 0, .int .i64 0] t_api_Cell false 0 false) fun p1 H2 =>
  optK (Heap.stN H2 ⟨p1, 0, none⟩ [.int .i32 32, .int .i64 0, .int .i64 0, .int .i64 0]) fun H3 =>
  retK [.cell 0 4 true] [(0, P0 p1)] H3 := by kernel_rfl
end Go.Proofs.YtjmiehbiindjdaaGreatDoor.dec

namespace Go.Proofs.YtjmiehbiindjdaaGreatDoor.dec
open Go Go.Cm
/-! porthole/portholeref19.row -/
noncomputable def ref19_row_k111 (d : Nat) : Kt := run (X d) NN (cd 84 [1, 1, 1]) (retK (rs 84)) [] (retK (rs 84))
noncomputable def ref19_row_l11010 (d : Nat) (m0 : Nat) : Kt := iter (fun k => run (X d) NN (cd 84 [1, 1, 0, 1, 0, 0]) (backK [(0, .int .i64), (3, .sl), (4, .int .i64)] (opq k)) [(0, (ref19_row_k111 d))] (retK (rs 84))) m0
noncomputable def ref19_row_p11010 (d : Nat) (m0 : Nat) (x0 : Int) (x3 : Sl) (x4 : Int) (H : Heap) : Res := opq (ref19_row_l11010 d m0) [(0, .int .i64 x0), (3, x3.v), (4, .int .i64 x4)] H
theorem ref19_row_p11010_s (d : Nat) (m0 : Nat) (x0 : Int) (x3 : Sl) (x4 : Int) (H : Heap) : ref19_row_p11010 d (m0 + 1) x0 x3 x4 H =
  if (decide (x4 < x0)) = true then
  (callK (X d n_ref19_blank [] H) fun v1 H2 =>
    asA v1 fun c3 =>
    optK x3.a fun a4 =>
    if 0 ≤ x4 ∧ x4 < (x3.n : Int) then
    effK (.store 4) [.pointer (some (ap a4 (((x4).toNat) * 4))), .agg c3] H2 fun _ H6 =>
    ref19_row_p11010 d m0 x0 x3 (IntKind.wrap .i64 (x4 + 1)) H6
    else none)
  else
  (some (x3.v, H)) := (opq_app _ _ _).trans <| by kernel_rfl
theorem ref19_row_eq (d : Nat) (x0 : Int) (H : Heap) : X (d + 1) n_ref19_row [.int .i64 x0] H =
  effK (.mkSl t_api_Cell 4 32 [.int .i32 0, .int .i64 0, .int .i64 0, .int .i64 0]) [.int .i64 x0, .int .i64 x0] H fun v1 H2 =>
  asSL v1 fun l3 =>
  ref19_row_p11010 d NN x0 l3 0 H2 := by kernel_rfl
end Go.Proofs.YtjmiehbiindjdaaGreatDoor.dec

namespace Go.Proofs.YtjmiehbiindjdaaGreatDoor.dec
open Go Go.Cm
/-! porthole/portholeref19.sheet -/
noncomputable def ref19_sheet_k111 (d : Nat) : Kt := run (X d) NN (cd 54 [1, 1, 1]) (retK (rs 54)) [] (retK (rs 54))
noncomputable def ref19_sheet_l11010 (d : Nat) (m0 : Nat) : Kt := iter (fun k => run (X d) NN (cd 54 [1, 1, 0, 1, 0, 0]) (backK [(0, .int .i64), (1, .int .i64), (5, .sl), (6, .int .i64)] (opq k)) [(0, (ref19_sheet_k111 d))] (retK (rs 54))) m0
noncomputable def ref19_sheet_p11010 (d : Nat) (m0 : Nat) (x0 : Int) (x1 : Int) (x5 : Sl) (x6 : Int) (H : Heap) : Res := opq (ref19_sheet_l11010 d m0) [(0, .int .i64 x0), (1, .int .i64 x1), (5, x5.v), (6, .int .i64 x6)] H
theorem ref19_sheet_p11010_s (d : Nat) (m0 : Nat) (x0 : Int) (x1 : Int) (x5 : Sl) (x6 : Int) (H : Heap) : ref19_sheet_p11010 d (m0 + 1) x0 x1 x5 x6 H =
  if (decide (x6 < x0)) = true then
  (callK (X d n_ref19_row [.int .i64 x1] H) fun v1 H2 =>
    asSL v1 fun l3 =>
    newK H2 (.cells [l3.v] t_S_api_Cell false 0 false) fun p4 H5 =>
    appendK t_S_api_Cell 1 24 false x5.v (.slice (some ⟨p4, 0, none⟩) 1 1) H5 fun v6 H7 =>
    asSL v6 fun l8 =>
    ref19_sheet_p11010 d m0 x0 x1 l8 (IntKind.wrap .i64 (x6 + 1)) H7)
  else
  (some (x5.v, H)) := (opq_app _ _ _).trans <| by kernel_rfl
theorem ref19_sheet_eq (d : Nat) (x0 : Int) (x1 : Int) (H : Heap) : X (d + 1) n_ref19_sheet [.int .i64 x0, .int .i64 x1] H =
  ref19_sheet_p11010 d NN x0 x1 Sl.nil 0 H := by kernel_rfl
end Go.Proofs.YtjmiehbiindjdaaGreatDoor.dec

namespace Go.Proofs.YtjmiehbiindjdaaGreatDoor.dec
open Go Go.Cm
/-! (*porthole/portholeref19.Grid).up -/
noncomputable def ref19_Grid_up_l110 (d : Nat) (m0 : Nat) : Kt := iter (fun k => run (X d) NN (cd 73 [1, 1, 0, 0]) (backK [(0, .ptr), (2, .int .i64), (6, .int .i64)] (opq k)) [(0, (retK (rs 73)))] (retK (rs 73))) m0
noncomputable def ref19_Grid_up_p110 (d : Nat) (m0 : Nat) (x0 : Nat) (x2 : Int) (x6 : Int) (H : Heap) : Res := opq (ref19_Grid_up_l110 d m0) [(0, P0 x0), (2, .int .i64 x2), (6, .int .i64 x6)] H
noncomputable def ref19_Grid_up_p110011 (d : Nat) (m0 : Nat) (x0 : Nat) (x2 : Int) (x6 : Int) (H : Heap) : Res := opq (run (X d) NN (cd 73 [1, 1, 0, 0, 1, 1, 0]) (backK [(0, .ptr), (2, .int .i64), (6, .int .i64)] (opq (ref19_Grid_up_l110 d m0))) [(0, (retK (rs 73)))] (retK (rs 73))) [(0, P0 x0), (2, .int .i64 x2), (6, .int .i64 x6)] H
theorem ref19_Grid_up_p110_s (d : Nat) (m0 : Nat) (x0 : Nat) (x2 : Int) (x6 : Int) (H : Heap) : ref19_Grid_up_p110 d (m0 + 1) x0 x2 x6 H =
  optK (Heap.ld1 H ⟨x0, 24, none⟩) fun v1 =>
  asI .i64 v1 fun n2 =>
  if (decide (x6 ≤ n2)) = true then
  (optK (Heap.ld1 H ⟨x0, 24, none⟩) fun v3 =>
    asI .i64 v3 fun n4 =>
    if (decide (IntKind.wrap .i64 (x6 + x2) ≤ n4)) = true then
    (optK (Heap.ld1 H ⟨x0, 8, none⟩) fun v5 =>
      asSL v5 fun l6 =>
      optK (Heap.ld1 H ⟨x0, 8, none⟩) fun v7 =>
      asSL v7 fun l8 =>
      optK l8.a fun a9 =>
      if 0 ≤ IntKind.wrap .i64 (x6 + x2) ∧ IntKind.wrap .i64 (x6 + x2) < (l8.n : Int) then
      optK (Heap.ld1 H (ap a9 (((IntKind.wrap .i64 (x6 + x2)).toNat) * 1))) fun v10 =>
      asSL v10 fun l11 =>
      optK l6.a fun a12 =>
      if 0 ≤ x6 ∧ x6 < (l6.n : Int) then
      optK (Heap.st1 H (ap a12 (((x6).toNat) * 1)) l11.v) fun H13 =>
      ref19_Grid_up_p110011 d m0 x0 x2 x6 H13
      else none
      else none)
    else
    (optK (Heap.ld1 H ⟨x0, 8, none⟩) fun v14 =>
      asSL v14 fun l15 =>
      optK (Heap.ld1 H ⟨x0, 7, none⟩) fun v16 =>
      asI .i64 v16 fun n17 =>
      callK (X d n_ref19_row [.int .i64 n17] H) fun v18 H19 =>
      asSL v18 fun l20 =>
      optK l15.a fun a21 =>
      if 0 ≤ x6 ∧ x6 < (l15.n : Int) then
      optK (Heap.st1 H19 (ap a21 (((x6).toNat) * 1)) l20.v) fun H22 =>
      chk (rdsOk [H, H19, H22] [⟨.load 1 false, [.pointer (some ⟨x0, 8, none⟩)], v14, 0, 1⟩]) (
        ref19_Grid_up_p110011 d m0 x0 x2 x6 H22)
      else none))
  else
  (some (.tuple #[], H)) := (opq_app _ _ _).trans <| by kernel_rfl
theorem ref19_Grid_up_p110011_eq (d : Nat) (m0 : Nat) (x0 : Nat) (x2 : Int) (x6 : Int) (H : Heap) : ref19_Grid_up_p110011 d m0 x0 x2 x6 H =
  ref19_Grid_up_p110 d m0 x0 x2 (IntKind.wrap .i64 (x6 + 1)) H := (opq_app _ _ _).trans <| by kernel_rfl
theorem ref19_Grid_up_eq (d : Nat) (x0 : Nat) (x1 : Int) (x2 : Int) (H : Heap) : X (d + 1) n_ref19_Grid_up [P0 x0, .int .i64 x1, .int .i64 x2] H =
  optK (Heap.ld1 H ⟨x0, 24, none⟩) fun v1 =>
  asI .i64 v1 fun n2 =>
  ref19_Grid_up_p110 d NN x0 (if (IntKind.wrap .i64 ((IntKind.wrap .i64 (n2 - x1)) + 1)) < x2 then (IntKind.wrap .i64 ((IntKind.wrap .i64 (n2 - x1)) + 1)) else x2) x1 H := by kernel_rfl
end Go.Proofs.YtjmiehbiindjdaaGreatDoor.dec

namespace Go.Proofs.YtjmiehbiindjdaaGreatDoor.dec
open Go Go.Cm
/-! (*porthole/portholeref19.Grid).down -/
noncomputable def ref19_Grid_down_l110 (d : Nat) (m0 : Nat) : Kt := iter (fun k => run (X d) NN (cd 67 [1, 1, 0, 0]) (backK [(0, .ptr), (1, .int .i64), (2, .int .i64), (6, .int .i64)] (opq k)) [(0, (retK (rs 67)))] (retK (rs 67))) m0
noncomputable def ref19_Grid_down_p110 (d : Nat) (m0 : Nat) (x0 : Nat) (x1 : Int) (x2 : Int) (x6 : Int) (H : Heap) : Res := opq (ref19_Grid_down_l110 d m0) [(0, P0 x0), (1, .int .i64 x1), (2, .int .i64 x2), (6, .int .i64 x6)] H
noncomputable def ref19_Grid_down_p110011 (d : Nat) (m0 : Nat) (x0 : Nat) (x1 : Int) (x2 : Int) (x6 : Int) (H : Heap) : Res := opq (run (X d) NN (cd 67 [1, 1, 0, 0, 1, 1, 0]) (backK [(0, .ptr), (1, .int .i64), (2, .int .i64), (6, .int .i64)] (opq (ref19_Grid_down_l110 d m0))) [(0, (retK (rs 67)))] (retK (rs 67))) [(0, P0 x0), (1, .int .i64 x1), (2, .int .i64 x2), (6, .int .i64 x6)] H
theorem ref19_Grid_down_p110_s (d : Nat) (m0 : Nat) (x0 : Nat) (x1 : Int) (x2 : Int) (x6 : Int) (H : Heap) : ref19_Grid_down_p110 d (m0 + 1) x0 x1 x2 x6 H =
  if (decide (x1 ≤ x6)) = true then
  (if (decide (x1 ≤ IntKind.wrap .i64 (x6 - x2))) = true then
    (optK (Heap.ld1 H ⟨x0, 8, none⟩) fun v1 =>
      asSL v1 fun l2 =>
      optK (Heap.ld1 H ⟨x0, 8, none⟩) fun v3 =>
      asSL v3 fun l4 =>
      optK l4.a fun a5 =>
      if 0 ≤ IntKind.wrap .i64 (x6 - x2) ∧ IntKind.wrap .i64 (x6 - x2) < (l4.n : Int) then
      optK (Heap.ld1 H (ap a5 (((IntKind.wrap .i64 (x6 - x2)).toNat) * 1))) fun v6 =>
      asSL v6 fun l7 =>
      optK l2.a fun a8 =>
      if 0 ≤ x6 ∧ x6 < (l2.n : Int) then
      optK (Heap.st1 H (ap a8 (((x6).toNat) * 1)) l7.v) fun H9 =>
      ref19_Grid_down_p110011 d m0 x0 x1 x2 x6 H9
      else none
      else none)
    else
    (optK (Heap.ld1 H ⟨x0, 8, none⟩) fun v10 =>
      asSL v10 fun l11 =>
      optK (Heap.ld1 H ⟨x0, 7, none⟩) fun v12 =>
      asI .i64 v12 fun n13 =>
      callK (X d n_ref19_row [.int .i64 n13] H) fun v14 H15 =>
      asSL v14 fun l16 =>
      optK l11.a fun a17 =>
      if 0 ≤ x6 ∧ x6 < (l11.n : Int) then
      optK (Heap.st1 H15 (ap a17 (((x6).toNat) * 1)) l16.v) fun H18 =>
      chk (rdsOk [H, H15, H18] [⟨.load 1 false, [.pointer (some ⟨x0, 8, none⟩)], v10, 0, 1⟩]) (
        ref19_Grid_down_p110011 d m0 x0 x1 x2 x6 H18)
      else none))
  else
  (some (.tuple #[], H)) := (opq_app _ _ _).trans <| by kernel_rfl
theorem ref19_Grid_down_p110011_eq (d : Nat) (m0 : Nat) (x0 : Nat) (x1 : Int) (x2 : Int) (x6 : Int) (H : Heap) : ref19_Grid_down_p110011 d m0 x0 x1 x2 x6 H =
  ref19_Grid_down_p110 d m0 x0 x1 x2 (IntKind.wrap .i64 (x6 - 1)) H := (opq_app _ _ _).trans <| by kernel_rfl
theorem ref19_Grid_down_eq (d : Nat) (x0 : Nat) (x1 : Int) (x2 : Int) (H : Heap) : X (d + 1) n_ref19_Grid_down [P0 x0, .int .i64 x1, .int .i64 x2] H =
  optK (Heap.ld1 H ⟨x0, 24, none⟩) fun v1 =>
  asI .i64 v1 fun n2 =>
  optK (Heap.ld1 H ⟨x0, 24, none⟩) fun v3 =>
  asI .i64 v3 fun n4 =>
  ref19_Grid_down_p110 d NN x0 x1 (if (IntKind.wrap .i64 ((IntKind.wrap .i64 (n2 - x1)) + 1)) < x2 then (IntKind.wrap .i64 ((IntKind.wrap .i64 (n2 - x1)) + 1)) else x2) n4 H := by kernel_rfl
end Go.Proofs.YtjmiehbiindjdaaGreatDoor.dec

namespace Go.Proofs.YtjmiehbiindjdaaGreatDoor.dec
open Go Go.Cm
/-! (*porthole/portholeref19.Grid).line -/
theorem ref19_Grid_line_eq (d : Nat) (x0 : Nat) (x1 : Sl) (H : Heap) : X (d + 1) n_ref19_Grid_line [P0 x0, x1.v] H =
  newK H (.cells [] t_S_api_Cell false 0 false) fun p1 H2 =>
  optK (Heap.ld1 H2 ⟨x0, 38, none⟩) fun v3 =>
  asSL v3 fun l4 =>
  appendK t_S_api_Cell 1 24 false (.slice (some ⟨p1, 0, none⟩) 0 0) l4.v H2 fun v5 H6 =>
  asSL v5 fun l7 =>
  newK H6 (.cells [x1.v] t_S_api_Cell false 0 false) fun p8 H9 =>
  appendK t_S_api_Cell 1 24 false l7.v (.slice (some ⟨p8, 0, none⟩) 1 1) H9 fun v10 H11 =>
  asSL v10 fun l12 =>
  optK (Heap.st1 H11 ⟨x0, 38, none⟩ l12.v) fun H13 =>
  optK (Heap.ld1 H13 ⟨x0, 38, none⟩) fun v14 =>
  asSL v14 fun l15 =>
  if (decide ((200 : Int) < (l15.n : Int))) = true then
  (optK (Heap.ld1 H13 ⟨x0, 38, none⟩) fun v16 =>
    asSL v16 fun l17 =>
    optK (Heap.ld1 H13 ⟨x0, 38, none⟩) fun v18 =>
    asSL v18 fun l19 =>
    optK (readD (.subSl t_S_api_Cell 1 true false false) [l17.v, .int .i64 (IntKind.wrap .i64 ((l19.n : Int) - 200))] H13) fun v20 =>
    asSL v20 fun l21 =>
    optK (Heap.st1 H13 ⟨x0, 38, none⟩ l21.v) fun H22 =>
    some (.tuple #[], H22))
  else
  (some (.tuple #[], H13)) := by kernel_rfl
end Go.Proofs.YtjmiehbiindjdaaGreatDoor.dec

namespace Go.Proofs.YtjmiehbiindjdaaGreatDoor.dec
open Go Go.Cm
/-! (*porthole/portholeref19.Grid).scroll -/
noncomputable def ref19_Grid_scroll_k11 (d : Nat) : Kt := run (X d) NN (cd 74 [1, 1]) (retK (rs 74)) [] (retK (rs 74))
noncomputable def ref19_Grid_scroll_l1010 (d : Nat) (m0 : Nat) : Kt := iter (fun k => run (X d) NN (cd 74 [1, 0, 1, 0, 0]) (backK [(0, .ptr), (1, .int .i64), (4, .int .i64)] (opq k)) [(0, (ref19_Grid_scroll_k11 d))] (retK (rs 74))) m0
noncomputable def ref19_Grid_scroll_k101001 (d : Nat) (m0 : Nat) : Kt := run (X d) NN (cd 74 [1, 0, 1, 0, 0, 1]) (backK [(0, .ptr), (1, .int .i64), (4, .int .i64)] (opq (ref19_Grid_scroll_l1010 d m0))) [(0, (ref19_Grid_scroll_k11 d))] (retK (rs 74))
noncomputable def ref19_Grid_scroll_p1010 (d : Nat) (m0 : Nat) (x0 : Nat) (x1 : Int) (x4 : Int) (H : Heap) : Res := opq (ref19_Grid_scroll_l1010 d m0) [(0, P0 x0), (1, .int .i64 x1), (4, .int .i64 x4)] H
noncomputable def ref19_Grid_scroll_p1010001 (d : Nat) (m0 : Nat) (x0 : Nat) (x1 : Int) (x4 : Int) (x33 : Bool) (H : Heap) : Res := opq (run (X d) NN (cd 74 [1, 0, 1, 0, 0, 0, 1, 0]) (ref19_Grid_scroll_k101001 d m0) [(0, (ref19_Grid_scroll_k11 d))] (retK (rs 74))) [(0, P0 x0), (1, .int .i64 x1), (4, .int .i64 x4), (33, .bool x33)] H
theorem ref19_Grid_scroll_p1010_s (d : Nat) (m0 : Nat) (x0 : Nat) (x1 : Int) (x4 : Int) (H : Heap) : ref19_Grid_scroll_p1010 d (m0 + 1) x0 x1 x4 H =
  if (decide (x4 < x1)) = true then
  (optK (Heap.ld1 H ⟨x0, 23, none⟩) fun v1 =>
    asI .i64 v1 fun n2 =>
    if (decide (n2 = 0)) = true then
    (optK (Heap.ld1 H ⟨x0, 29, none⟩) fun v3 =>
      asB v3 fun b4 =>
      ref19_Grid_scroll_p1010001 d m0 x0 x1 x4 (!b4) H)
    else
    (ref19_Grid_scroll_p1010001 d m0 x0 x1 x4 false H))
  else
  (ref19_Grid_scroll_p1010001 d m0 x0 x1 x4 false H) := (opq_app _ _ _).trans <| by kernel_rfl
theorem ref19_Grid_scroll_p1010001_eq (d : Nat) (m0 : Nat) (x0 : Nat) (x1 : Int) (x4 : Int) (x33 : Bool) (H : Heap) : ref19_Grid_scroll_p1010001 d m0 x0 x1 x4 x33 H =
  if x33 = true then
  (optK (Heap.ld1 H ⟨x0, 8, none⟩) fun v1 =>
    asSL v1 fun l2 =>
    optK l2.a fun a3 =>
    if 0 ≤ x4 ∧ x4 < (l2.n : Int) then
    optK (Heap.ld1 H (ap a3 (((x4).toNat) * 1))) fun v4 =>
    asSL v4 fun l5 =>
    callK (X d n_ref19_Grid_line [P0 x0, l5.v] H) fun _ H7 =>
    ref19_Grid_scroll_p1010 d m0 x0 x1 (IntKind.wrap .i64 (x4 + 1)) H7
    else none)
  else
  (optK (Heap.ld1 H ⟨x0, 23, none⟩) fun v8 =>
    asI .i64 v8 fun n9 =>
    callK (X d n_ref19_Grid_up [P0 x0, .int .i64 n9, .int .i64 x1] H) fun _ H11 =>
    some (.tuple #[], H11)) := (opq_app _ _ _).trans <| by kernel_rfl
theorem ref19_Grid_scroll_eq (d : Nat) (x0 : Nat) (x1 : Int) (H : Heap) : X (d + 1) n_ref19_Grid_scroll [P0 x0, .int .i64 x1] H =
  optK (Heap.ld1 H ⟨x0, 24, none⟩) fun v1 =>
  asI .i64 v1 fun n2 =>
  optK (Heap.ld1 H ⟨x0, 23, none⟩) fun v3 =>
  asI .i64 v3 fun n4 =>
  ref19_Grid_scroll_p1010 d NN x0 (if (IntKind.wrap .i64 ((IntKind.wrap .i64 (n2 - n4)) + 1)) < x1 then (IntKind.wrap .i64 ((IntKind.wrap .i64 (n2 - n4)) + 1)) else x1) 0 H := by kernel_rfl
end Go.Proofs.YtjmiehbiindjdaaGreatDoor.dec

namespace Go.Proofs.YtjmiehbiindjdaaGreatDoor.dec
open Go Go.Cm
/-! (*porthole/portholeref19.Grid).index -/
theorem ref19_Grid_index_eq (d : Nat) (x0 : Nat) (H : Heap) : X (d + 1) n_ref19_Grid_index [P0 x0] H =
  optK (Heap.st1 H ⟨x0, 11, none⟩ (.bool false)) fun H1 =>
  optK (Heap.ld1 H1 ⟨x0, 9, none⟩) fun v2 =>
  asI .i64 v2 fun n3 =>
  optK (Heap.ld1 H1 ⟨x0, 24, none⟩) fun v4 =>
  asI .i64 v4 fun n5 =>
  if (decide (n3 = n5)) = true then
  (callK (X d n_ref19_Grid_scroll [P0 x0, .int .i64 1] H1) fun _ H7 =>
    some (.tuple #[], H7))
  else
  (optK (Heap.ld1 H1 ⟨x0, 9, none⟩) fun v8 =>
    asI .i64 v8 fun n9 =>
    optK (Heap.ld1 H1 ⟨x0, 6, none⟩) fun v10 =>
    asI .i64 v10 fun n11 =>
    if (decide (n9 < IntKind.wrap .i64 (n11 - 1))) = true then
    (optK (Heap.ld1 H1 ⟨x0, 9, none⟩) fun v12 =>
      asI .i64 v12 fun n13 =>
      optK (Heap.st1 H1 ⟨x0, 9, none⟩ (.int .i64 (IntKind.wrap .i64 (n13 + 1)))) fun H14 =>
      some (.tuple #[], H14))
    else
    (some (.tuple #[], H1))) := by kernel_rfl
end Go.Proofs.YtjmiehbiindjdaaGreatDoor.dec

namespace Go.Proofs.YtjmiehbiindjdaaGreatDoor.dec
open Go Go.Cm
/-! (*porthole/vt.Parser).Feed -/
end Go.Proofs.YtjmiehbiindjdaaGreatDoor.dec

namespace Go.Proofs.YtjmiehbiindjdaaGreatDoor.dec
open Go Go.Cm
/-! (*porthole/grid.Grid).Write -/
end Go.Proofs.YtjmiehbiindjdaaGreatDoor.dec

namespace Go.Proofs.YtjmiehbiindjdaaGreatDoor.dec
open Go Go.Cm
/-! (*porthole/grid.Grid).Do -/
theorem grid_Grid_Do_eq (d : Nat) (x0 : Nat) (x1 : Array Value) (H : Heap) : X (d + 1) n_grid_Grid_Do [P0 x0, .agg x1] H =
  effK (.box t_vt_Act) [.agg x1] H fun v1 H2 =>
  asP v1 fun o3 =>
  optK o3 fun a4 =>
  optK (Heap.ld1 H2 (ap a4 0)) fun v5 =>
  asI .i64 v5 fun n6 =>
  if (decide (n6 = 1)) = true then
  (asP v1 fun o7 =>
    optK o7 fun a8 =>
    optK (Heap.ld1 H2 (ap a8 1)) fun v9 =>
    asI .i32 v9 fun n10 =>
    callK (X d n_grid_Grid_print [P0 x0, .int .i32 n10] H2) fun _ H12 =>
    some (.tuple #[], H12))
  else
  (if (decide (n6 = 2)) = true then
    (asP v1 fun o13 =>
      optK o13 fun a14 =>
      optK (Heap.ld1 H2 (ap a14 1)) fun v15 =>
      asI .i32 v15 fun n16 =>
      callK (X d n_grid_Grid_control [P0 x0, .int .i32 n16] H2) fun _ H18 =>
      some (.tuple #[], H18))
    else
    (if (decide (n6 = 3)) = true then
      (asP v1 fun o19 =>
        optK o19 fun a20 =>
        optK (Heap.ld1 H2 (ap a20 1)) fun v21 =>
        asI .i32 v21 fun n22 =>
        callK (X d n_grid_Grid_esc [P0 x0, .int .i32 n22] H2) fun _ H24 =>
        some (.tuple #[], H24))
      else
      (if (decide (n6 = 4)) = true then
        (asP v1 fun o25 =>
          optK o25 fun a26 =>
          optK (Heap.ld1 H2 (ap a26 2)) fun v27 =>
          asB v27 fun b28 =>
          if b28 = true then
          (optK (readD (.load 4 true) [v1] H2) fun v29 =>
            asA v29 fun c30 =>
            callK (X d n_grid_Grid_modes [P0 x0, .agg c30] H2) fun _ H32 =>
            some (.tuple #[], H32))
          else
          (optK (readD (.load 4 true) [v1] H2) fun v33 =>
            asA v33 fun c34 =>
            callK (X d n_grid_Grid_csi [P0 x0, .agg c34] H2) fun _ H36 =>
            some (.tuple #[], H36)))
        else
        (some (.tuple #[], H2))))) := by kernel_rfl
end Go.Proofs.YtjmiehbiindjdaaGreatDoor.dec

namespace Go.Proofs.YtjmiehbiindjdaaGreatDoor.dec
open Go Go.Cm
/-! (*porthole/grid.Grid).control -/
noncomputable def grid_Grid_control_k10111011 (d : Nat) : Kt := run (X d) NN (cd 27 [1, 0, 1, 1, 1, 0, 1, 1]) (retK (rs 27)) [(0, (retK (rs 27)))] (retK (rs 27))
noncomputable def grid_Grid_control_l101110100 (d : Nat) (m0 : Nat) : Kt := iter (fun k => run (X d) NN (cd 27 [1, 0, 1, 1, 1, 0, 1, 0, 0, 0]) (backK [(0, .ptr), (4, .int .i64)] (opq k)) [(1, (grid_Grid_control_k10111011 d)), (0, (retK (rs 27)))] (retK (rs 27))) m0
noncomputable def grid_Grid_control_k10111010001 (d : Nat) (m0 : Nat) : Kt := run (X d) NN (cd 27 [1, 0, 1, 1, 1, 0, 1, 0, 0, 0, 1]) (backK [(0, .ptr), (4, .int .i64)] (opq (grid_Grid_control_l101110100 d m0))) [(1, (grid_Grid_control_k10111011 d)), (0, (retK (rs 27)))] (retK (rs 27))
noncomputable def grid_Grid_control_p101110100 (d : Nat) (m0 : Nat) (x0 : Nat) (x4 : Int) (H : Heap) : Res := opq (grid_Grid_control_l101110100 d m0) [(0, P0 x0), (4, .int .i64 x4)] H
noncomputable def grid_Grid_control_p1011111 (d : Nat) (x0 : Nat) (x5 : Int) (x56 : Bool) (H : Heap) : Res := opq (run (X d) NN (cd 27 [1, 0, 1, 1, 1, 1, 1, 0]) (retK (rs 27)) [(0, (retK (rs 27)))] (retK (rs 27))) [(0, P0 x0), (5, .int .i32 x5), (56, .bool x56)] H
noncomputable def grid_Grid_control_p101110100001 (d : Nat) (m0 : Nat) (x0 : Nat) (x4 : Int) (x45 : Bool) (H : Heap) : Res := opq (run (X d) NN (cd 27 [1, 0, 1, 1, 1, 0, 1, 0, 0, 0, 0, 1, 0]) (grid_Grid_control_k10111010001 d m0) [(1, (grid_Grid_control_k10111011 d)), (0, (retK (rs 27)))] (retK (rs 27))) [(0, P0 x0), (4, .int .i64 x4), (45, .bool x45)] H
theorem grid_Grid_control_p101110100_s (d : Nat) (m0 : Nat) (x0 : Nat) (x4 : Int) (H : Heap) : grid_Grid_control_p101110100 d (m0 + 1) x0 x4 H =
  optK (Heap.ld1 H ⟨x0, 1, none⟩) fun v1 =>
  asI .i64 v1 fun n2 =>
  if (decide (x4 < IntKind.wrap .i64 (n2 - 1))) = true then
  (optK (Heap.ld1 H ⟨x0, 22, none⟩) fun v3 =>
    asSL v3 fun l4 =>
    optK l4.a fun a5 =>
    if 0 ≤ x4 ∧ x4 < (l4.n : Int) then
    optK (Heap.ld1 H (ap a5 (((x4).toNat) * 1))) fun v6 =>
    asB v6 fun b7 =>
    grid_Grid_control_p101110100001 d m0 x0 x4 (!b7) H
    else none)
  else
  (grid_Grid_control_p101110100001 d m0 x0 x4 false H) := (opq_app _ _ _).trans <| by kernel_rfl
theorem grid_Grid_control_p1011111_eq (d : Nat) (x0 : Nat) (x5 : Int) (x56 : Bool) (H : Heap) : grid_Grid_control_p1011111 d x0 x5 x56 H =
  if x56 = true then
  (callK (X d n_grid_Grid_index [P0 x0] H) fun _ H2 =>
    some (.tuple #[], H2))
  else
  (if (decide (x5 = 13)) = true then
    (optK (Heap.ld1 H ⟨x0, 3, none⟩) fun v3 =>
      asI .i64 v3 fun n4 =>
      callK (X d n_grid_Grid_move [P0 x0, .int .i64 n4, .int .i64 0] H) fun _ H6 =>
      some (.tuple #[], H6))
    else
    (some (.tuple #[], H))) := (opq_app _ _ _).trans <| by kernel_rfl
theorem grid_Grid_control_p101110100001_eq (d : Nat) (m0 : Nat) (x0 : Nat) (x4 : Int) (x45 : Bool) (H : Heap) : grid_Grid_control_p101110100001 d m0 x0 x4 x45 H =
  if x45 = true then
  (grid_Grid_control_p101110100 d m0 x0 (IntKind.wrap .i64 (x4 + 1)) H)
  else
  (optK (Heap.ld1 H ⟨x0, 3, none⟩) fun v1 =>
    asI .i64 v1 fun n2 =>
    callK (X d n_grid_Grid_move [P0 x0, .int .i64 n2, .int .i64 x4] H) fun _ H4 =>
    some (.tuple #[], H4)) := (opq_app _ _ _).trans <| by kernel_rfl
theorem grid_Grid_control_eq (d : Nat) (x0 : Nat) (x1 : Int) (H : Heap) : X (d + 1) n_grid_Grid_control [P0 x0, .int .i32 x1] H =
  if (decide (x1 = 8)) = true then
  (optK (Heap.ld1 H ⟨x0, 3, none⟩) fun v1 =>
    asI .i64 v1 fun n2 =>
    optK (Heap.ld1 H ⟨x0, 4, none⟩) fun v3 =>
    asI .i64 v3 fun n4 =>
    callK (X d n_grid_Grid_move [P0 x0, .int .i64 n2, .int .i64 (IntKind.wrap .i64 (n4 - 1))] H) fun _ H6 =>
    some (.tuple #[], H6))
  else
  (if (decide (x1 = 9)) = true then
    (optK (Heap.ld1 H ⟨x0, 4, none⟩) fun v7 =>
      asI .i64 v7 fun n8 =>
      grid_Grid_control_p101110100 d NN x0 (IntKind.wrap .i64 (n8 + 1)) H)
    else
    (if (decide (x1 = 10)) = true then
      (grid_Grid_control_p1011111 d x0 x1 (decide (x1 = 10)) H)
      else
      (if (decide (x1 = 11)) = true then
        (grid_Grid_control_p1011111 d x0 x1 (decide (x1 = 11)) H)
        else
        (grid_Grid_control_p1011111 d x0 x1 (decide (x1 = 12)) H)))) := by kernel_rfl
end Go.Proofs.YtjmiehbiindjdaaGreatDoor.dec

namespace Go.Proofs.YtjmiehbiindjdaaGreatDoor.dec
open Go Go.Cm
/-! (*porthole/grid.Grid).esc -/
theorem grid_Grid_esc_eq (d : Nat) (x0 : Nat) (x1 : Int) (H : Heap) : X (d + 1) n_grid_Grid_esc [P0 x0, .int .i32 x1] H =
  if (decide (x1 = 68)) = true then
  (callK (X d n_grid_Grid_index [P0 x0] H) fun _ H2 =>
    some (.tuple #[], H2))
  else
  (if (decide (x1 = 69)) = true then
    (optK (Heap.st1 H ⟨x0, 4, none⟩ (.int .i64 0)) fun H3 =>
      callK (X d n_grid_Grid_index [P0 x0] H3) fun _ H5 =>
      some (.tuple #[], H5))
    else
    (if (decide (x1 = 77)) = true then
      (optK (Heap.st1 H ⟨x0, 5, none⟩ (.bool false)) fun H6 =>
        optK (Heap.ld1 H6 ⟨x0, 3, none⟩) fun v7 =>
        asI .i64 v7 fun n8 =>
        optK (Heap.ld1 H6 ⟨x0, 17, none⟩) fun v9 =>
        asI .i64 v9 fun n10 =>
        if (decide (n8 = n10)) = true then
        (callK (X d n_grid_Grid_down [P0 x0, .int .i64 1] H6) fun _ H12 =>
          some (.tuple #[], H12))
        else
        (optK (Heap.ld1 H6 ⟨x0, 3, none⟩) fun v13 =>
          asI .i64 v13 fun n14 =>
          optK (Heap.ld1 H6 ⟨x0, 4, none⟩) fun v15 =>
          asI .i64 v15 fun n16 =>
          callK (X d n_grid_Grid_move [P0 x0, .int .i64 (IntKind.wrap .i64 (n14 - 1)), .int .i64 n16] H6) fun _ H18 =>
          some (.tuple #[], H18)))
      else
      (if (decide (x1 = 55)) = true then
        (optK (ldA H ⟨x0, 3, none⟩ 7) fun v19 =>
          asA v19 fun c20 =>
          effK (.store 7) [.pointer (some ⟨x0, 10, none⟩), .agg c20] H fun _ H22 =>
          some (.tuple #[], H22))
        else
        (if (decide (x1 = 56)) = true then
          (optK (Heap.ld1 H ⟨x0, 12, none⟩) fun v23 =>
            asB v23 fun b24 =>
            optK (ldA H ⟨x0, 10, none⟩ 7) fun v25 =>
            asA v25 fun c26 =>
            effK (.store 7) [.pointer (some ⟨x0, 3, none⟩), .agg c26] H fun _ H28 =>
            optK (Heap.ld1 H28 ⟨x0, 3, none⟩) fun v29 =>
            asI .i64 v29 fun n30 =>
            optK (Heap.ld1 H28 ⟨x0, 4, none⟩) fun v31 =>
            asI .i64 v31 fun n32 =>
            callK (X d n_grid_Grid_move [P0 x0, .int .i64 n30, .int .i64 n32] H28) fun _ H34 =>
            optK (Heap.st1 H34 ⟨x0, 5, none⟩ (.bool b24)) fun H35 =>
            some (.tuple #[], H35))
          else
          (if (decide (x1 = 99)) = true then
            (callK (X d n_grid_Grid_reset [P0 x0] H) fun _ H37 =>
              some (.tuple #[], H37))
            else
            (if (decide (x1 = 72)) = true then
              (optK (Heap.ld1 H ⟨x0, 22, none⟩) fun v38 =>
                asSL v38 fun l39 =>
                optK (Heap.ld1 H ⟨x0, 4, none⟩) fun v40 =>
                asI .i64 v40 fun n41 =>
                optK l39.a fun a42 =>
                if 0 ≤ n41 ∧ n41 < (l39.n : Int) then
                optK (Heap.st1 H (ap a42 (((n41).toNat) * 1)) (.bool true)) fun H43 =>
                some (.tuple #[], H43)
                else none)
              else
              (some (.tuple #[], H)))))))) := by kernel_rfl
end Go.Proofs.YtjmiehbiindjdaaGreatDoor.dec

namespace Go.Proofs.YtjmiehbiindjdaaGreatDoor.dec
open Go Go.Cm
/-! porthole/vt.Params -/
noncomputable def vt_Params_k11 (d : Nat) : Kt := run (X d) NN (cd 61 [1, 1]) (retK (rs 61)) [] (retK (rs 61))
noncomputable def vt_Params_p101 (d : Nat) (x1 : Int) (x2 : Int) (x3 : Value) (x23 : Bool) (H : Heap) : Res := opq (run (X d) NN (cd 61 [1, 0, 1, 0]) (vt_Params_k11 d) [] (retK (rs 61))) [(1, .int .i64 x1), (2, .int .i64 x2), (3, x3), (23, .bool x23)] H
theorem vt_Params_p101_eq (d : Nat) (x1 : Int) (x2 : Int) (x3 : Value) (x23 : Bool) (H : Heap) : vt_Params_p101 d x1 x2 x3 x23 H =
  if x23 = true then
  (some (.int .i64 x2, H))
  else
  (asP x3 fun o1 =>
    optK o1 fun a2 =>
    optK (Heap.ld1 H (ap a2 3)) fun v3 =>
    asSL v3 fun l4 =>
    optK l4.a fun a5 =>
    if 0 ≤ x1 ∧ x1 < (l4.n : Int) then
    optK (Heap.ld1 H (ap a5 (((x1).toNat) * 1))) fun v6 =>
    asI .i64 v6 fun n7 =>
    some (.int .i64 n7, H)
    else none) := (opq_app _ _ _).trans <| by kernel_rfl
theorem vt_Params_eq (d : Nat) (x0 : Array Value) (x1 : Int) (x2 : Int) (H : Heap) : X (d + 1) n_vt_Params [.agg x0, .int .i64 x1, .int .i64 x2] H =
  effK (.box t_vt_Act) [.agg x0] H fun v1 H2 =>
  if (decide (x1 < 0)) = true then
  (vt_Params_p101 d x1 x2 v1 true H2)
  else
  (asP v1 fun o3 =>
    optK o3 fun a4 =>
    optK (Heap.ld1 H2 (ap a4 3)) fun v5 =>
    asSL v5 fun l6 =>
    if (decide ((l6.n : Int) ≤ x1)) = true then
    (vt_Params_p101 d x1 x2 v1 true H2)
    else
    (asP v1 fun o7 =>
      optK o7 fun a8 =>
      optK (Heap.ld1 H2 (ap a8 3)) fun v9 =>
      asSL v9 fun l10 =>
      optK l10.a fun a11 =>
      if 0 ≤ x1 ∧ x1 < (l10.n : Int) then
      optK (Heap.ld1 H2 (ap a11 (((x1).toNat) * 1))) fun v12 =>
      asI .i64 v12 fun n13 =>
      vt_Params_p101 d x1 x2 v1 (decide (n13 = 0)) H2
      else none)) := by kernel_rfl
end Go.Proofs.YtjmiehbiindjdaaGreatDoor.dec

namespace Go.Proofs.YtjmiehbiindjdaaGreatDoor.dec
open Go Go.Cm
/-! (*porthole/grid.Grid).style -/
noncomputable def grid_Grid_style_p10111111111111111 (d : Nat) (x1 : Int) (x4 : Addr) (x75 : Bool) (H : Heap) : Res := opq (run (X d) NN (cd 62 [1, 0, 1, 1, 1, 1, 1, 1, 1, 1, 1, 1, 1, 1, 1, 1, 1, 0]) (retK (rs 62)) [(0, (retK (rs 62)))] (retK (rs 62))) [(1, .int .i64 x1), (4, .pointer (some x4)), (75, .bool x75)] H
noncomputable def grid_Grid_style_p1011111111111111101111 (d : Nat) (x1 : Int) (x4 : Addr) (x93 : Bool) (H : Heap) : Res := opq (run (X d) NN (cd 62 [1, 0, 1, 1, 1, 1, 1, 1, 1, 1, 1, 1, 1, 1, 1, 1, 1, 0, 1, 1, 1, 1, 0]) (retK (rs 62)) [(0, (retK (rs 62)))] (retK (rs 62))) [(1, .int .i64 x1), (4, .pointer (some x4)), (93, .bool x93)] H
theorem grid_Grid_style_p10111111111111111_eq (d : Nat) (x1 : Int) (x4 : Addr) (x75 : Bool) (H : Heap) : grid_Grid_style_p10111111111111111 d x1 x4 x75 H =
  if x75 = true then
  (optK (Heap.st1 H (ap x4 1) (.int .i64 (IntKind.wrap .i64 (x1 - 29)))) fun H1 =>
    some (.tuple #[], H1))
  else
  (if (decide (x1 = 39)) = true then
    (optK (Heap.st1 H (ap x4 1) (.int .i64 0)) fun H2 =>
      some (.tuple #[], H2))
    else
    (if (decide ((40 : Int) ≤ x1)) = true then
      (grid_Grid_style_p1011111111111111101111 d x1 x4 (decide (x1 ≤ 47)) H)
      else
      (grid_Grid_style_p1011111111111111101111 d x1 x4 false H))) := (opq_app _ _ _).trans <| by kernel_rfl
theorem grid_Grid_style_p1011111111111111101111_eq (d : Nat) (x1 : Int) (x4 : Addr) (x93 : Bool) (H : Heap) : grid_Grid_style_p1011111111111111101111 d x1 x4 x93 H =
  if x93 = true then
  (optK (Heap.st1 H (ap x4 2) (.int .i64 (IntKind.wrap .i64 (x1 - 39)))) fun H1 =>
    some (.tuple #[], H1))
  else
  (if (decide (x1 = 49)) = true then
    (optK (Heap.st1 H (ap x4 2) (.int .i64 0)) fun H2 =>
      some (.tuple #[], H2))
    else
    (some (.tuple #[], H))) := (opq_app _ _ _).trans <| by kernel_rfl
theorem grid_Grid_style_eq (d : Nat) (x0 : Nat) (x1 : Int) (H : Heap) : X (d + 1) n_grid_Grid_style [P0 x0, .int .i64 x1] H =
  if (decide (x1 = 0)) = true then
  (optK (Heap.stN H ⟨x0, 6, none⟩ [.int .i32 0, .int .i64 0, .int .i64 0, .int .i64 0]) fun H1 =>
    some (.tuple #[], H1))
  else
  (if (decide (x1 = 1)) = true then
    (optK (Heap.ld1 H ⟨x0, 9, none⟩) fun v2 =>
      asI .i64 v2 fun n3 =>
      optK (Heap.st1 H ⟨x0, 9, none⟩ (.int .i64 (bitsI .or .i64 n3 1))) fun H4 =>
      some (.tuple #[], H4))
    else
    (if (decide (x1 = 4)) = true then
      (optK (Heap.ld1 H ⟨x0, 9, none⟩) fun v5 =>
        asI .i64 v5 fun n6 =>
        optK (Heap.st1 H ⟨x0, 9, none⟩ (.int .i64 (bitsI .or .i64 n6 2))) fun H7 =>
        some (.tuple #[], H7))
      else
      (if (decide (x1 = 7)) = true then
        (optK (Heap.ld1 H ⟨x0, 9, none⟩) fun v8 =>
          asI .i64 v8 fun n9 =>
          optK (Heap.st1 H ⟨x0, 9, none⟩ (.int .i64 (bitsI .or .i64 n9 4))) fun H10 =>
          some (.tuple #[], H10))
        else
        (if (decide (x1 = 22)) = true then
          (optK (Heap.ld1 H ⟨x0, 9, none⟩) fun v11 =>
            asI .i64 v11 fun n12 =>
            optK (Heap.st1 H ⟨x0, 9, none⟩ (.int .i64 (bitsI .andNot .i64 n12 1))) fun H13 =>
            some (.tuple #[], H13))
          else
          (if (decide (x1 = 24)) = true then
            (optK (Heap.ld1 H ⟨x0, 9, none⟩) fun v14 =>
              asI .i64 v14 fun n15 =>
              optK (Heap.st1 H ⟨x0, 9, none⟩ (.int .i64 (bitsI .andNot .i64 n15 2))) fun H16 =>
              some (.tuple #[], H16))
            else
            (if (decide (x1 = 27)) = true then
              (optK (Heap.ld1 H ⟨x0, 9, none⟩) fun v17 =>
                asI .i64 v17 fun n18 =>
                optK (Heap.st1 H ⟨x0, 9, none⟩ (.int .i64 (bitsI .andNot .i64 n18 4))) fun H19 =>
                some (.tuple #[], H19))
              else
              (if (decide ((30 : Int) ≤ x1)) = true then
                (grid_Grid_style_p10111111111111111 d x1 (⟨x0, 6, none⟩) (decide (x1 ≤ 37)) H)
                else
                (grid_Grid_style_p10111111111111111 d x1 (⟨x0, 6, none⟩) false H)))))))) := by kernel_rfl
end Go.Proofs.YtjmiehbiindjdaaGreatDoor.dec

namespace Go.Proofs.YtjmiehbiindjdaaGreatDoor.dec
open Go Go.Cm
/-! slices.Contains[[]int,int] -/
theorem slices_Contains_S_int_int_eq (d : Nat) (x0 : Sl) (x1 : Int) (H : Heap) : X (d + 1) n_slices_Contains_S_int_int [x0.v, .int .i64 x1] H =
  callK (X d n_slices_Index_S_int_int [x0.v, .int .i64 x1] H) fun v1 H2 =>
  asI .i64 v1 fun n3 =>
  some (.bool (decide ((0 : Int) ≤ n3)), H2) := by kernel_rfl
end Go.Proofs.YtjmiehbiindjdaaGreatDoor.dec

namespace Go.Proofs.YtjmiehbiindjdaaGreatDoor.dec
open Go Go.Cm
/-! slices.Index[[]int,int] -/
noncomputable def slices_Index_S_int_int_k11 (d : Nat) : Kt := run (X d) NN (cd 89 [1, 1]) (retK (rs 89)) [] (retK (rs 89))
noncomputable def slices_Index_S_int_int_l1010 (d : Nat) (m0 : Nat) : Kt := iter (fun k => run (X d) NN (cd 89 [1, 0, 1, 0, 0]) (backK [(0, .sl), (1, .int .i64), (7, .int .i64), (8, .int .i64)] (opq k)) [(0, (slices_Index_S_int_int_k11 d))] (retK (rs 89))) m0
noncomputable def slices_Index_S_int_int_p1010 (d : Nat) (m0 : Nat) (x0 : Sl) (x1 : Int) (x7 : Int) (x8 : Int) (H : Heap) : Res := opq (slices_Index_S_int_int_l1010 d m0) [(0, x0.v), (1, .int .i64 x1), (7, .int .i64 x7), (8, .int .i64 x8)] H
theorem slices_Index_S_int_int_p1010_s (d : Nat) (m0 : Nat) (x0 : Sl) (x1 : Int) (x7 : Int) (x8 : Int) (H : Heap) : slices_Index_S_int_int_p1010 d (m0 + 1) x0 x1 x7 x8 H =
  if (decide (x8 < x7)) = true then
  (optK x0.a fun a1 =>
    if 0 ≤ x8 ∧ x8 < (x0.n : Int) then
    optK (Heap.ld1 H (ap a1 (((x8).toNat) * 1))) fun v2 =>
    asI .i64 v2 fun n3 =>
    if (decide (x1 = n3)) = true then
    (some (.int .i64 x8, H))
    else
    (slices_Index_S_int_int_p1010 d m0 x0 x1 x7 (IntKind.wrap .i64 (x8 + 1)) H)
    else none)
  else
  (some (.int .i64 (-1), H)) := (opq_app _ _ _).trans <| by kernel_rfl
theorem slices_Index_S_int_int_eq (d : Nat) (x0 : Sl) (x1 : Int) (H : Heap) : X (d + 1) n_slices_Index_S_int_int [x0.v, .int .i64 x1] H =
  slices_Index_S_int_int_p1010 d NN x0 x1 (x0.n : Int) 0 H := by kernel_rfl
end Go.Proofs.YtjmiehbiindjdaaGreatDoor.dec

namespace Go.Proofs.YtjmiehbiindjdaaGreatDoor.dec
open Go Go.Cm
/-! porthole/grid.New -/
theorem grid_New_eq (d : Nat) (x0 : Int) (x1 : Int) (H : Heap) : X (d + 1) n_grid_New [.int .i64 x0, .int .i64 x1] H =
  callK (X d n_grid_size [.int .i64 x0, .int .i64 x1] H) fun v1 H2 =>
  asB v1 fun b3 =>
  if (!b3) = true then
  (some (.tuple #[.pointer none, .int .i64 1], H2))
  else
  (callK (X d n_vt_New [] H2) fun v4 H5 =>
    asP v4 fun o6 =>
    newK H5 (.cells [.int .i64 x0, .int .i64 x1, .slice none 0 0, .int .i64 0, .int .i64 0, .bool false, .int .i32 0, .int .i64 0, .int .i64 0, .int .i64 0, .int .i64 0, .int .i64 0, .bool false, .int .i32 0, .int .i64 0, .int .i64 0, .int .i64 0, .int .i64 0, .int .i64 0, .bool false, .bool false, .bool false, .slice none 0 0, .slice none 0 0, .int .i64 0, .int .i64 0, .bool false, .int .i32 0, .int .i64 0, .int .i64 0, .int .i64 0, .slice none 0 0, .pointer o6] t_grid_Grid false 0 false) fun p7 H8 =>
    callK (X d n_grid_Grid_reset [P0 p7] H8) fun _ H10 =>
    some (.tuple #[P0 p7, .int .i64 0], H10)) := by kernel_rfl
end Go.Proofs.YtjmiehbiindjdaaGreatDoor.dec

namespace Go.Proofs.YtjmiehbiindjdaaGreatDoor.dec
open Go Go.Cm
/-! porthole/grid.size -/
theorem grid_size_eq (d : Nat) (x0 : Int) (x1 : Int) (H : Heap) : X (d + 1) n_grid_size [.int .i64 x0, .int .i64 x1] H =
  if (decide ((1 : Int) ≤ x0)) = true then
  (if (decide (x0 ≤ 60)) = true then
    (if (decide ((1 : Int) ≤ x1)) = true then
      (some (.bool (decide (x1 ≤ 120)), H))
      else
      (some (.bool false, H)))
    else
    (some (.bool false, H)))
  else
  (some (.bool false, H)) := by kernel_rfl
end Go.Proofs.YtjmiehbiindjdaaGreatDoor.dec

namespace Go.Proofs.YtjmiehbiindjdaaGreatDoor.dec
open Go Go.Cm
/-! porthole/vt.New -/
theorem vt_New_eq (d : Nat) (H : Heap) : X (d + 1) n_vt_New [] H =
  callK (X d n_utf_New [] H) fun v1 H2 =>
  asP v1 fun o3 =>
  newK H2 (.cells [.pointer o3, .int .i64 0, .bool false, .bool false, .bool false, .bool false, .slice none 0 0] t_vt_Parser false 0 false) fun p4 H5 =>
  some (P0 p4, H5) := by kernel_rfl
end Go.Proofs.YtjmiehbiindjdaaGreatDoor.dec

namespace Go.Proofs.YtjmiehbiindjdaaGreatDoor.dec
open Go Go.Cm
/-! (*porthole/grid.Grid).reset -/
noncomputable def grid_Grid_reset_k11111 (d : Nat) : Kt := run (X d) NN (cd 22 [1, 1, 1, 1, 1]) (retK (rs 22)) [] (retK (rs 22))
noncomputable def grid_Grid_reset_l1111010 (d : Nat) (m0 : Nat) : Kt := iter (fun k => run (X d) NN (cd 22 [1, 1, 1, 1, 0, 1, 0, 0]) (backK [(0, .ptr), (48, .int .i64), (49, .int .i64)] (opq k)) [(0, (grid_Grid_reset_k11111 d))] (retK (rs 22))) m0
noncomputable def grid_Grid_reset_p1111010 (d : Nat) (m0 : Nat) (x0 : Nat) (x48 : Int) (x49 : Int) (H : Heap) : Res := opq (grid_Grid_reset_l1111010 d m0) [(0, P0 x0), (48, .int .i64 x48), (49, .int .i64 x49)] H
noncomputable def grid_Grid_reset_p11110100111 (d : Nat) (m0 : Nat) (x0 : Nat) (x48 : Int) (x49 : Int) (H : Heap) : Res := opq (run (X d) NN (cd 22 [1, 1, 1, 1, 0, 1, 0, 0, 1, 1, 1, 0]) (backK [(0, .ptr), (48, .int .i64), (49, .int .i64)] (opq (grid_Grid_reset_l1111010 d m0))) [(0, (grid_Grid_reset_k11111 d))] (retK (rs 22))) [(0, P0 x0), (48, .int .i64 x48), (49, .int .i64 x49)] H
theorem grid_Grid_reset_p1111010_s (d : Nat) (m0 : Nat) (x0 : Nat) (x48 : Int) (x49 : Int) (H : Heap) : grid_Grid_reset_p1111010 d (m0 + 1) x0 x48 x49 H =
  if (decide (x49 < x48)) = true then
  (optK (Heap.ld1 H ⟨x0, 22, none⟩) fun v1 =>
    asSL v1 fun l2 =>
    if (decide ((0 : Int) < x49)) = true then
    (newK H (.cells [.bool (decide (Int.tmod x49 8 = 0))] t_bool false 0 false) fun p3 H4 =>
      appendK t_bool 1 1 false l2.v (.slice (some ⟨p3, 0, none⟩) 1 1) H4 fun v5 H6 =>
      asSL v5 fun l7 =>
      optK (Heap.st1 H6 ⟨x0, 22, none⟩ l7.v) fun H8 =>
      grid_Grid_reset_p11110100111 d m0 x0 x48 x49 H8)
    else
    (newK H (.cells [.bool false] t_bool false 0 false) fun p9 H10 =>
      appendK t_bool 1 1 false l2.v (.slice (some ⟨p9, 0, none⟩) 1 1) H10 fun v11 H12 =>
      asSL v11 fun l13 =>
      optK (Heap.st1 H12 ⟨x0, 22, none⟩ l13.v) fun H14 =>
      grid_Grid_reset_p11110100111 d m0 x0 x48 x49 H14))
  else
  (optK (Heap.stN H ⟨x0, 6, none⟩ [.int .i32 0, .int .i64 0, .int .i64 0, .int .i64 0]) fun H15 =>
    optK (Heap.stN H15 ⟨x0, 13, none⟩ [.int .i32 0, .int .i64 0, .int .i64 0, .int .i64 0]) fun H16 =>
    some (.tuple #[], H16)) := (opq_app _ _ _).trans <| by kernel_rfl
theorem grid_Grid_reset_p11110100111_eq (d : Nat) (m0 : Nat) (x0 : Nat) (x48 : Int) (x49 : Int) (H : Heap) : grid_Grid_reset_p11110100111 d m0 x0 x48 x49 H =
  grid_Grid_reset_p1111010 d m0 x0 x48 (IntKind.wrap .i64 (x49 + 1)) H := (opq_app _ _ _).trans <| by kernel_rfl
theorem grid_Grid_reset_eq (d : Nat) (x0 : Nat) (H : Heap) : X (d + 1) n_grid_Grid_reset [P0 x0] H =
  optK (Heap.ld1 H ⟨x0, 0, none⟩) fun v1 =>
  asI .i64 v1 fun n2 =>
  optK (Heap.ld1 H ⟨x0, 1, none⟩) fun v3 =>
  asI .i64 v3 fun n4 =>
  optK (Heap.ld1 H ⟨x0, 31, none⟩) fun v5 =>
  asSL v5 fun l6 =>
  optK (Heap.ld1 H ⟨x0, 32, none⟩) fun v7 =>
  asP v7 fun o8 =>
  optK (Heap.stN H ⟨x0, 0, none⟩ [.int .i64 n2, .int .i64 n4, .slice none 0 0, .int .i64 0, .int .i64 0, .bool false, .int .i32 0, .int .i64 0, .int .i64 0, .int .i64 0, .int .i64 0, .int .i64 0, .bool false, .int .i32 0, .int .i64 0, .int .i64 0, .int .i64 0, .int .i64 0, .int .i64 0, .bool false, .bool false, .bool false, .slice none 0 0, .slice none 0 0, .int .i64 0, .int .i64 0, .bool false, .int .i32 0, .int .i64 0, .int .i64 0, .int .i64 0, l6.v, .pointer o8]) fun H9 =>
  optK (Heap.ld1 H9 ⟨x0, 0, none⟩) fun v10 =>
  asI .i64 v10 fun n11 =>
  optK (Heap.ld1 H9 ⟨x0, 1, none⟩) fun v12 =>
  asI .i64 v12 fun n13 =>
  callK (X d n_grid_sheet [.int .i64 n11, .int .i64 n13] H9) fun v14 H15 =>
  asSL v14 fun l16 =>
  optK (Heap.st1 H15 ⟨x0, 2, none⟩ l16.v) fun H17 =>
  optK (Heap.ld1 H17 ⟨x0, 0, none⟩) fun v18 =>
  asI .i64 v18 fun n19 =>
  optK (Heap.st1 H17 ⟨x0, 18, none⟩ (.int .i64 (IntKind.wrap .i64 (n19 - 1)))) fun H20 =>
  optK (Heap.st1 H20 ⟨x0, 19, none⟩ (.bool true)) fun H21 =>
  optK (Heap.ld1 H21 ⟨x0, 1, none⟩) fun v22 =>
  asI .i64 v22 fun n23 =>
  grid_Grid_reset_p1111010 d NN x0 n23 0 H21 := by kernel_rfl
end Go.Proofs.YtjmiehbiindjdaaGreatDoor.dec

namespace Go.Proofs.YtjmiehbiindjdaaGreatDoor.dec
open Go Go.Cm
/-! porthole/utf.New -/
theorem utf_New_eq (d : Nat) (H : Heap) : X (d + 1) n_utf_New [] H =
  newK H (.cells [.slice none 0 0] t_utf_Decoder false 0 false) fun p1 H2 =>
  some (P0 p1, H2) := by kernel_rfl
end Go.Proofs.YtjmiehbiindjdaaGreatDoor.dec

namespace Go.Proofs.YtjmiehbiindjdaaGreatDoor.dec
open Go Go.Cm
/-! (*porthole/grid.Grid).modes -/
noncomputable def grid_Grid_modes_k11 (d : Nat) : Kt := run (X d) NN (cd 29 [1, 1]) (retK (rs 29)) [] (retK (rs 29))
noncomputable def grid_Grid_modes_l11110 (d : Nat) (m0 : Nat) : Kt := iter (fun k => run (X d) NN (cd 29 [1, 1, 1, 1, 0, 0]) (backK [(0, .ptr), (4, .bool), (19, .sl), (20, .int .i64), (21, .int .i64)] (opq k)) [(0, (retK (rs 29)))] (retK (rs 29))) m0
noncomputable def grid_Grid_modes_p101 (d : Nat) (x0 : Nat) (x3 : Value) (x14 : Bool) (H : Heap) : Res := opq (run (X d) NN (cd 29 [1, 0, 1, 0]) (grid_Grid_modes_k11 d) [] (retK (rs 29))) [(0, P0 x0), (3, x3), (14, .bool x14)] H
noncomputable def grid_Grid_modes_p11110 (d : Nat) (m0 : Nat) (x0 : Nat) (x4 : Bool) (x19 : Sl) (x20 : Int) (x21 : Int) (H : Heap) : Res := opq (grid_Grid_modes_l11110 d m0) [(0, P0 x0), (4, .bool x4), (19, x19.v), (20, .int .i64 x20), (21, .int .i64 x21)] H
noncomputable def grid_Grid_modes_p111100111 (d : Nat) (m0 : Nat) (x0 : Nat) (x4 : Bool) (x19 : Sl) (x20 : Int) (x21 : Int) (H : Heap) : Res := opq (run (X d) NN (cd 29 [1, 1, 1, 1, 0, 0, 1, 1, 1, 0]) (backK [(0, .ptr), (4, .bool), (19, .sl), (20, .int .i64), (21, .int .i64)] (opq (grid_Grid_modes_l11110 d m0))) [(0, (retK (rs 29)))] (retK (rs 29))) [(0, P0 x0), (4, .bool x4), (19, x19.v), (20, .int .i64 x20), (21, .int .i64 x21)] H
theorem grid_Grid_modes_p101_eq (d : Nat) (x0 : Nat) (x3 : Value) (x14 : Bool) (H : Heap) : grid_Grid_modes_p101 d x0 x3 x14 H =
  if x14 = true then
  (some (.tuple #[], H))
  else
  (asP x3 fun o1 =>
    optK o1 fun a2 =>
    optK (Heap.ld1 H (ap a2 1)) fun v3 =>
    asI .i32 v3 fun n4 =>
    asP x3 fun o5 =>
    optK o5 fun a6 =>
    optK (Heap.ld1 H (ap a6 3)) fun v7 =>
    asSL v7 fun l8 =>
    grid_Grid_modes_p11110 d NN x0 (decide (n4 = 104)) l8 (l8.n : Int) 0 H) := (opq_app _ _ _).trans <| by kernel_rfl
theorem grid_Grid_modes_p11110_s (d : Nat) (m0 : Nat) (x0 : Nat) (x4 : Bool) (x19 : Sl) (x20 : Int) (x21 : Int) (H : Heap) : grid_Grid_modes_p11110 d (m0 + 1) x0 x4 x19 x20 x21 H =
  if (decide (x21 < x20)) = true then
  (optK x19.a fun a1 =>
    if 0 ≤ x21 ∧ x21 < (x19.n : Int) then
    optK (Heap.ld1 H (ap a1 (((x21).toNat) * 1))) fun v2 =>
    asI .i64 v2 fun n3 =>
    if (decide (n3 = 7)) = true then
    (optK (Heap.st1 H ⟨x0, 19, none⟩ (.bool x4)) fun H4 =>
      optK (Heap.ld1 H4 ⟨x0, 5, none⟩) fun v5 =>
      asB v5 fun b6 =>
      if b6 = true then
      (optK (Heap.st1 H4 ⟨x0, 5, none⟩ (.bool x4)) fun H7 =>
        grid_Grid_modes_p111100111 d m0 x0 x4 x19 x20 x21 H7)
      else
      (optK (Heap.st1 H4 ⟨x0, 5, none⟩ (.bool false)) fun H8 =>
        grid_Grid_modes_p111100111 d m0 x0 x4 x19 x20 x21 H8))
    else
    (if (decide (n3 = 25)) = true then
      (optK (Heap.st1 H ⟨x0, 21, none⟩ (.bool (!x4))) fun H9 =>
        grid_Grid_modes_p111100111 d m0 x0 x4 x19 x20 x21 H9)
      else
      (if (decide (n3 = 1049)) = true then
        (callK (X d n_grid_Grid_alternate [P0 x0, .bool x4] H) fun _ H11 =>
          grid_Grid_modes_p111100111 d m0 x0 x4 x19 x20 x21 H11)
        else
        (grid_Grid_modes_p111100111 d m0 x0 x4 x19 x20 x21 H)))
    else none)
  else
  (some (.tuple #[], H)) := (opq_app _ _ _).trans <| by kernel_rfl
theorem grid_Grid_modes_p111100111_eq (d : Nat) (m0 : Nat) (x0 : Nat) (x4 : Bool) (x19 : Sl) (x20 : Int) (x21 : Int) (H : Heap) : grid_Grid_modes_p111100111 d m0 x0 x4 x19 x20 x21 H =
  grid_Grid_modes_p11110 d m0 x0 x4 x19 x20 (IntKind.wrap .i64 (x21 + 1)) H := (opq_app _ _ _).trans <| by kernel_rfl
theorem grid_Grid_modes_eq (d : Nat) (x0 : Nat) (x1 : Array Value) (H : Heap) : X (d + 1) n_grid_Grid_modes [P0 x0, .agg x1] H =
  effK (.box t_vt_Act) [.agg x1] H fun v1 H2 =>
  asP v1 fun o3 =>
  optK o3 fun a4 =>
  optK (Heap.ld1 H2 (ap a4 1)) fun v5 =>
  asI .i32 v5 fun n6 =>
  if (!decide (n6 = 104)) = true then
  (asP v1 fun o7 =>
    optK o7 fun a8 =>
    optK (Heap.ld1 H2 (ap a8 1)) fun v9 =>
    asI .i32 v9 fun n10 =>
    grid_Grid_modes_p101 d x0 v1 (!decide (n10 = 108)) H2)
  else
  (grid_Grid_modes_p101 d x0 v1 false H2) := by kernel_rfl
end Go.Proofs.YtjmiehbiindjdaaGreatDoor.dec

namespace Go.Proofs.YtjmiehbiindjdaaGreatDoor.dec
open Go Go.Cm
/-! (*porthole/grid.Grid).alternate -/
noncomputable def grid_Grid_alternate_p01 (d : Nat) (x0 : Nat) (x1 : Bool) (x4 : Bool) (H : Heap) : Res := opq (run (X d) NN (cd 60 [0, 1, 0]) (retK (rs 60)) [(0, (retK (rs 60)))] (retK (rs 60))) [(0, P0 x0), (1, .bool x1), (4, .bool x4)] H
noncomputable def grid_Grid_alternate_p01011 (d : Nat) (x0 : Nat) (x39 : Bool) (H : Heap) : Res := opq (run (X d) NN (cd 60 [0, 1, 0, 1, 1, 0]) (retK (rs 60)) [(0, (retK (rs 60)))] (retK (rs 60))) [(0, P0 x0), (39, .bool x39)] H
theorem grid_Grid_alternate_p01_eq (d : Nat) (x0 : Nat) (x1 : Bool) (x4 : Bool) (H : Heap) : grid_Grid_alternate_p01 d x0 x1 x4 H =
  if x4 = true then
  (optK (Heap.ld1 H ⟨x0, 2, none⟩) fun v1 =>
    asSL v1 fun l2 =>
    optK (ldA H ⟨x0, 3, none⟩ 7) fun v3 =>
    asA v3 fun c4 =>
    optK (Heap.st1 H ⟨x0, 23, none⟩ l2.v) fun H5 =>
    effK (.store 7) [.pointer (some ⟨x0, 24, none⟩), .agg c4] H5 fun _ H7 =>
    optK (Heap.ld1 H7 ⟨x0, 0, none⟩) fun v8 =>
    asI .i64 v8 fun n9 =>
    optK (Heap.ld1 H7 ⟨x0, 1, none⟩) fun v10 =>
    asI .i64 v10 fun n11 =>
    callK (X d n_grid_sheet [.int .i64 n9, .int .i64 n11] H7) fun v12 H13 =>
    asSL v12 fun l14 =>
    optK (Heap.st1 H13 ⟨x0, 2, none⟩ l14.v) fun H15 =>
    some (.tuple #[], H15))
  else
  (if (!x1) = true then
    (optK (Heap.ld1 H ⟨x0, 23, none⟩) fun v16 =>
      asSL v16 fun l17 =>
      grid_Grid_alternate_p01011 d x0 (!l17.a.isNone) H)
    else
    (grid_Grid_alternate_p01011 d x0 false H)) := (opq_app _ _ _).trans <| by kernel_rfl
theorem grid_Grid_alternate_p01011_eq (d : Nat) (x0 : Nat) (x39 : Bool) (H : Heap) : grid_Grid_alternate_p01011 d x0 x39 H =
  if x39 = true then
  (optK (Heap.ld1 H ⟨x0, 23, none⟩) fun v1 =>
    asSL v1 fun l2 =>
    optK (ldA H ⟨x0, 24, none⟩ 7) fun v3 =>
    asA v3 fun c4 =>
    optK (Heap.st1 H ⟨x0, 2, none⟩ l2.v) fun H5 =>
    effK (.store 7) [.pointer (some ⟨x0, 3, none⟩), .agg c4] H5 fun _ H7 =>
    optK (Heap.st1 H7 ⟨x0, 23, none⟩ (.slice none 0 0)) fun H8 =>
    optK (Heap.stN H8 ⟨x0, 24, none⟩ [.int .i64 0, .int .i64 0, .bool false, .int .i32 0, .int .i64 0, .int .i64 0, .int .i64 0]) fun H9 =>
    some (.tuple #[], H9))
  else
  (some (.tuple #[], H)) := (opq_app _ _ _).trans <| by kernel_rfl
theorem grid_Grid_alternate_eq (d : Nat) (x0 : Nat) (x1 : Bool) (H : Heap) : X (d + 1) n_grid_Grid_alternate [P0 x0, .bool x1] H =
  if x1 = true then
  (optK (Heap.ld1 H ⟨x0, 23, none⟩) fun v1 =>
    asSL v1 fun l2 =>
    grid_Grid_alternate_p01 d x0 x1 l2.a.isNone H)
  else
  (grid_Grid_alternate_p01 d x0 x1 false H) := by kernel_rfl
end Go.Proofs.YtjmiehbiindjdaaGreatDoor.dec

namespace Go.Proofs.YtjmiehbiindjdaaGreatDoor.dec
open Go Go.Cm
/-! (*porthole/grid.Grid).erase -/
noncomputable def grid_Grid_erase_k101 (d : Nat) : Kt := run (X d) NN (cd 90 [1, 0, 1]) (retK (rs 90)) [] (retK (rs 90))
noncomputable def grid_Grid_erase_l101110 (d : Nat) (m0 : Nat) : Kt := iter (fun k => run (X d) NN (cd 90 [1, 0, 1, 1, 1, 0, 0]) (backK [(0, .ptr), (1, .int .i64), (22, .int .i64), (23, .int .i64)] (opq k)) [(0, (retK (rs 90)))] (retK (rs 90))) m0
noncomputable def grid_Grid_erase_k1011100111 (d : Nat) (m0 : Nat) : Kt := run (X d) NN (cd 90 [1, 0, 1, 1, 1, 0, 0, 1, 1, 1]) (backK [(0, .ptr), (1, .int .i64), (22, .int .i64), (23, .int .i64)] (opq (grid_Grid_erase_l101110 d m0))) [(0, (retK (rs 90)))] (retK (rs 90))
noncomputable def grid_Grid_erase_p1 (d : Nat) (x0 : Nat) (x1 : Int) (H : Heap) : Res := opq (run (X d) NN (cd 90 [1, 0]) (retK (rs 90)) [] (retK (rs 90))) [(0, P0 x0), (1, .int .i64 x1)] H
noncomputable def grid_Grid_erase_p1001 (d : Nat) (x0 : Nat) (x1 : Int) (x15 : Bool) (H : Heap) : Res := opq (run (X d) NN (cd 90 [1, 0, 0, 1, 0]) (grid_Grid_erase_k101 d) [] (retK (rs 90))) [(0, P0 x0), (1, .int .i64 x1), (15, .bool x15)] H
noncomputable def grid_Grid_erase_p101110 (d : Nat) (m0 : Nat) (x0 : Nat) (x1 : Int) (x22 : Int) (x23 : Int) (H : Heap) : Res := opq (grid_Grid_erase_l101110 d m0) [(0, P0 x0), (1, .int .i64 x1), (22, .int .i64 x22), (23, .int .i64 x23)] H
noncomputable def grid_Grid_erase_p1011100110011 (d : Nat) (m0 : Nat) (x0 : Nat) (x1 : Int) (x4 : Int) (x22 : Int) (x23 : Int) (x53 : Bool) (H : Heap) : Res := opq (run (X d) NN (cd 90 [1, 0, 1, 1, 1, 0, 0, 1, 1, 0, 0, 1, 1, 0]) (grid_Grid_erase_k1011100111 d m0) [(1, (grid_Grid_erase_k1011100111 d m0)), (0, (retK (rs 90)))] (retK (rs 90))) [(0, P0 x0), (1, .int .i64 x1), (4, .int .i64 x4), (22, .int .i64 x22), (23, .int .i64 x23), (53, .bool x53)] H
noncomputable def grid_Grid_erase_p1011100111 (d : Nat) (m0 : Nat) (x0 : Nat) (x1 : Int) (x22 : Int) (x23 : Int) (H : Heap) : Res := opq (run (X d) NN (cd 90 [1, 0, 1, 1, 1, 0, 0, 1, 1, 1, 0]) (backK [(0, .ptr), (1, .int .i64), (22, .int .i64), (23, .int .i64)] (opq (grid_Grid_erase_l101110 d m0))) [(0, (retK (rs 90)))] (retK (rs 90))) [(0, P0 x0), (1, .int .i64 x1), (22, .int .i64 x22), (23, .int .i64 x23)] H
theorem grid_Grid_erase_p1_eq (d : Nat) (x0 : Nat) (x1 : Int) (H : Heap) : grid_Grid_erase_p1 d x0 x1 H =
  if (decide (x1 < 0)) = true then
  (grid_Grid_erase_p1001 d x0 x1 true H)
  else
  (grid_Grid_erase_p1001 d x0 x1 (decide ((2 : Int) < x1)) H) := (opq_app _ _ _).trans <| by kernel_rfl
theorem grid_Grid_erase_p1001_eq (d : Nat) (x0 : Nat) (x1 : Int) (x15 : Bool) (H : Heap) : grid_Grid_erase_p1001 d x0 x1 x15 H =
  if x15 = true then
  (some (.tuple #[], H))
  else
  (callK (X d n_grid_Grid_eraseLine [P0 x0, .int .i64 x1] H) fun _ H2 =>
    optK (Heap.ld1 H2 ⟨x0, 0, none⟩) fun v3 =>
    asI .i64 v3 fun n4 =>
    grid_Grid_erase_p101110 d NN x0 x1 n4 0 H2) := (opq_app _ _ _).trans <| by kernel_rfl
theorem grid_Grid_erase_p101110_s (d : Nat) (m0 : Nat) (x0 : Nat) (x1 : Int) (x22 : Int) (x23 : Int) (H : Heap) : grid_Grid_erase_p101110 d (m0 + 1) x0 x1 x22 x23 H =
  if (decide (x23 < x22)) = true then
  (if (decide (x1 = 2)) = true then
    (grid_Grid_erase_p1011100110011 d m0 x0 x1 x23 x22 x23 true H)
    else
    (if (decide (x1 = 0)) = true then
      (optK (Heap.ld1 H ⟨x0, 3, none⟩) fun v1 =>
        asI .i64 v1 fun n2 =>
        if (decide (n2 < x23)) = true then
        (grid_Grid_erase_p1011100110011 d m0 x0 x1 x23 x22 x23 true H)
        else
        (if (decide (x1 = 1)) = true then
          (optK (Heap.ld1 H ⟨x0, 3, none⟩) fun v3 =>
            asI .i64 v3 fun n4 =>
            grid_Grid_erase_p1011100110011 d m0 x0 x1 x23 x22 x23 (decide (x23 < n4)) H)
          else
          (grid_Grid_erase_p1011100110011 d m0 x0 x1 x23 x22 x23 false H)))
      else
      (if (decide (x1 = 1)) = true then
        (optK (Heap.ld1 H ⟨x0, 3, none⟩) fun v5 =>
          asI .i64 v5 fun n6 =>
          grid_Grid_erase_p1011100110011 d m0 x0 x1 x23 x22 x23 (decide (x23 < n6)) H)
        else
        (grid_Grid_erase_p1011100110011 d m0 x0 x1 x23 x22 x23 false H))))
  else
  (some (.tuple #[], H)) := (opq_app _ _ _).trans <| by kernel_rfl
theorem grid_Grid_erase_p1011100110011_eq (d : Nat) (m0 : Nat) (x0 : Nat) (x1 : Int) (x4 : Int) (x22 : Int) (x23 : Int) (x53 : Bool) (H : Heap) : grid_Grid_erase_p1011100110011 d m0 x0 x1 x4 x22 x23 x53 H =
  if x53 = true then
  (optK (Heap.ld1 H ⟨x0, 1, none⟩) fun v1 =>
    asI .i64 v1 fun n2 =>
    callK (X d n_grid_Grid_wipe [P0 x0, .int .i64 x4, .int .i64 0, .int .i64 n2] H) fun _ H4 =>
    grid_Grid_erase_p1011100111 d m0 x0 x1 x22 x23 H4)
  else
  (grid_Grid_erase_p1011100111 d m0 x0 x1 x22 x23 H) := (opq_app _ _ _).trans <| by kernel_rfl
theorem grid_Grid_erase_p1011100111_eq (d : Nat) (m0 : Nat) (x0 : Nat) (x1 : Int) (x22 : Int) (x23 : Int) (H : Heap) : grid_Grid_erase_p1011100111 d m0 x0 x1 x22 x23 H =
  grid_Grid_erase_p101110 d m0 x0 x1 x22 (IntKind.wrap .i64 (x23 + 1)) H := (opq_app _ _ _).trans <| by kernel_rfl
theorem grid_Grid_erase_eq (d : Nat) (x0 : Nat) (x1 : Int) (H : Heap) : X (d + 1) n_grid_Grid_erase [P0 x0, .int .i64 x1] H =
  if (decide (x1 = 3)) = true then
  (optK (Heap.st1 H ⟨x0, 31, none⟩ (.slice none 0 0)) fun H1 =>
    grid_Grid_erase_p1 d x0 x1 H1)
  else
  (grid_Grid_erase_p1 d x0 x1 H) := by kernel_rfl
end Go.Proofs.YtjmiehbiindjdaaGreatDoor.dec

namespace Go.Proofs.YtjmiehbiindjdaaGreatDoor.dec
open Go Go.Cm
/-! (*porthole/grid.Grid).eraseLine -/
theorem grid_Grid_eraseLine_eq (d : Nat) (x0 : Nat) (x1 : Int) (H : Heap) : X (d + 1) n_grid_Grid_eraseLine [P0 x0, .int .i64 x1] H =
  if (decide (x1 = 0)) = true then
  (optK (Heap.ld1 H ⟨x0, 3, none⟩) fun v1 =>
    asI .i64 v1 fun n2 =>
    optK (Heap.ld1 H ⟨x0, 4, none⟩) fun v3 =>
    asI .i64 v3 fun n4 =>
    optK (Heap.ld1 H ⟨x0, 1, none⟩) fun v5 =>
    asI .i64 v5 fun n6 =>
    callK (X d n_grid_Grid_wipe [P0 x0, .int .i64 n2, .int .i64 n4, .int .i64 n6] H) fun _ H8 =>
    some (.tuple #[], H8))
  else
  (if (decide (x1 = 1)) = true then
    (optK (Heap.ld1 H ⟨x0, 3, none⟩) fun v9 =>
      asI .i64 v9 fun n10 =>
      optK (Heap.ld1 H ⟨x0, 4, none⟩) fun v11 =>
      asI .i64 v11 fun n12 =>
      callK (X d n_grid_Grid_wipe [P0 x0, .int .i64 n10, .int .i64 0, .int .i64 (IntKind.wrap .i64 (n12 + 1))] H) fun _ H14 =>
      some (.tuple #[], H14))
    else
    (if (decide (x1 = 2)) = true then
      (optK (Heap.ld1 H ⟨x0, 3, none⟩) fun v15 =>
        asI .i64 v15 fun n16 =>
        optK (Heap.ld1 H ⟨x0, 1, none⟩) fun v17 =>
        asI .i64 v17 fun n18 =>
        callK (X d n_grid_Grid_wipe [P0 x0, .int .i64 n16, .int .i64 0, .int .i64 n18] H) fun _ H20 =>
        some (.tuple #[], H20))
      else
      (some (.tuple #[], H)))) := by kernel_rfl
end Go.Proofs.YtjmiehbiindjdaaGreatDoor.dec

namespace Go.Proofs.YtjmiehbiindjdaaGreatDoor.dec
open Go Go.Cm
/-! (*porthole/grid.Grid).wipe -/
theorem grid_Grid_wipe_eq (d : Nat) (x0 : Nat) (x1 : Int) (x2 : Int) (x3 : Int) (H : Heap) : X (d + 1) n_grid_Grid_wipe [P0 x0, .int .i64 x1, .int .i64 x2, .int .i64 x3] H =
  optK (Heap.ld1 H ⟨x0, 2, none⟩) fun v1 =>
  asSL v1 fun l2 =>
  optK l2.a fun a3 =>
  if 0 ≤ x1 ∧ x1 < (l2.n : Int) then
  optK (Heap.ld1 H (ap a3 (((x1).toNat) * 1))) fun v4 =>
  asSL v4 fun l5 =>
  optK (readD (.subSl t_api_Cell 4 true true false) [l5.v, .int .i64 x2, .int .i64 x3] H) fun v6 =>
  asSL v6 fun l7 =>
  callK (X d n_grid_line [.int .i64 (IntKind.wrap .i64 (x3 - x2))] H) fun v8 H9 =>
  asSL v8 fun l10 =>
  effK (.copy 4 false) [l7.v, l10.v] H9 fun v11 H12 =>
  asI .i64 v11 fun _ =>
  chk (rdsOk [H, H9, H12] [⟨.subSl t_api_Cell 4 true true false, [l5.v, .int .i64 x2, .int .i64 x3], v6, 0, 1⟩, ⟨.load 1 false, [.pointer (some (ap a3 (((x1).toNat) * 1)))], v4, 0, 1⟩, ⟨.load 1 false, [.pointer (some ⟨x0, 2, none⟩)], v1, 0, 1⟩]) (
    some (.tuple #[], H12))
  else none := by kernel_rfl
end Go.Proofs.YtjmiehbiindjdaaGreatDoor.dec

namespace Go.Proofs.YtjmiehbiindjdaaGreatDoor.dec
open Go Go.Cm
/-! (*porthole/grid.Grid).edit -/
noncomputable def grid_Grid_edit_k111011111001 (d : Nat) : Kt := run (X d) NN (cd 64 [1, 1, 1, 0, 1, 1, 1, 1, 1, 0, 0, 1]) (retK (rs 64)) [(0, (retK (rs 64)))] (retK (rs 64))
noncomputable def grid_Grid_edit_p111011111 (d : Nat) (x0 : Nat) (x2 : Int) (x4 : Value) (x6 : Int) (x12 : Int) (x23 : Bool) (H : Heap) : Res := opq (run (X d) NN (cd 64 [1, 1, 1, 0, 1, 1, 1, 1, 1, 0]) (retK (rs 64)) [(0, (retK (rs 64)))] (retK (rs 64))) [(0, P0 x0), (2, .int .i64 x2), (4, x4), (6, .int .i64 x6), (12, .int .i32 x12), (23, .bool x23)] H
noncomputable def grid_Grid_edit_p1110111110001 (d : Nat) (x0 : Nat) (x2 : Int) (x4 : Value) (x47 : Bool) (H : Heap) : Res := opq (run (X d) NN (cd 64 [1, 1, 1, 0, 1, 1, 1, 1, 1, 0, 0, 0, 1, 0]) (grid_Grid_edit_k111011111001 d) [(0, (retK (rs 64)))] (retK (rs 64))) [(0, P0 x0), (2, .int .i64 x2), (4, x4), (47, .bool x47)] H
noncomputable def grid_Grid_edit_p111011111011 (d : Nat) (x0 : Nat) (x2 : Int) (x4 : Value) (x6 : Int) (x12 : Int) (x74 : Bool) (H : Heap) : Res := opq (run (X d) NN (cd 64 [1, 1, 1, 0, 1, 1, 1, 1, 1, 0, 1, 1, 0]) (retK (rs 64)) [(0, (retK (rs 64)))] (retK (rs 64))) [(0, P0 x0), (2, .int .i64 x2), (4, x4), (6, .int .i64 x6), (12, .int .i32 x12), (74, .bool x74)] H
noncomputable def grid_Grid_edit_p1110111110011 (d : Nat) (x0 : Nat) (H : Heap) : Res := opq (run (X d) NN (cd 64 [1, 1, 1, 0, 1, 1, 1, 1, 1, 0, 0, 1, 1, 0]) (retK (rs 64)) [(0, (retK (rs 64)))] (retK (rs 64))) [(0, P0 x0)] H
noncomputable def grid_Grid_edit_p11101111101101111111101 (d : Nat) (x0 : Nat) (x6 : Int) (H : Heap) : Res := opq (run (X d) NN (cd 64 [1, 1, 1, 0, 1, 1, 1, 1, 1, 0, 1, 1, 0, 1, 1, 1, 1, 1, 1, 1, 1, 0, 1, 0]) (retK (rs 64)) [(0, (retK (rs 64)))] (retK (rs 64))) [(0, P0 x0), (6, .int .i64 x6)] H
theorem grid_Grid_edit_p111011111_eq (d : Nat) (x0 : Nat) (x2 : Int) (x4 : Value) (x6 : Int) (x12 : Int) (x23 : Bool) (H : Heap) : grid_Grid_edit_p111011111 d x0 x2 x4 x6 x12 x23 H =
  if x23 = true then
  (optK (Heap.ld1 H ⟨x0, 3, none⟩) fun v1 =>
    asI .i64 v1 fun n2 =>
    optK (Heap.ld1 H ⟨x0, 17, none⟩) fun v3 =>
    asI .i64 v3 fun n4 =>
    if (decide (n2 < n4)) = true then
    (grid_Grid_edit_p1110111110001 d x0 x2 x4 true H)
    else
    (optK (Heap.ld1 H ⟨x0, 3, none⟩) fun v5 =>
      asI .i64 v5 fun n6 =>
      optK (Heap.ld1 H ⟨x0, 18, none⟩) fun v7 =>
      asI .i64 v7 fun n8 =>
      grid_Grid_edit_p1110111110001 d x0 x2 x4 (decide (n8 < n6)) H))
  else
  (if (decide (x12 = 64)) = true then
    (grid_Grid_edit_p111011111011 d x0 x2 x4 x6 x12 (decide (x12 = 64)) H)
    else
    (if (decide (x12 = 80)) = true then
      (grid_Grid_edit_p111011111011 d x0 x2 x4 x6 x12 (decide (x12 = 80)) H)
      else
      (grid_Grid_edit_p111011111011 d x0 x2 x4 x6 x12 (decide (x12 = 88)) H))) := (opq_app _ _ _).trans <| by kernel_rfl
theorem grid_Grid_edit_p1110111110001_eq (d : Nat) (x0 : Nat) (x2 : Int) (x4 : Value) (x47 : Bool) (H : Heap) : grid_Grid_edit_p1110111110001 d x0 x2 x4 x47 H =
  if x47 = true then
  (some (.tuple #[], H))
  else
  (asP x4 fun o1 =>
    optK o1 fun a2 =>
    optK (Heap.ld1 H (ap a2 1)) fun v3 =>
    asI .i32 v3 fun n4 =>
    if (decide (n4 = 76)) = true then
    (optK (Heap.ld1 H ⟨x0, 3, none⟩) fun v5 =>
      asI .i64 v5 fun n6 =>
      callK (X d n_grid_Grid_put [P0 x0, .int .i64 n6, .int .i64 x2] H) fun _ H8 =>
      grid_Grid_edit_p1110111110011 d x0 H8)
    else
    (optK (Heap.ld1 H ⟨x0, 3, none⟩) fun v9 =>
      asI .i64 v9 fun n10 =>
      callK (X d n_grid_Grid_take [P0 x0, .int .i64 n10, .int .i64 x2] H) fun _ H12 =>
      grid_Grid_edit_p1110111110011 d x0 H12)) := (opq_app _ _ _).trans <| by kernel_rfl
theorem grid_Grid_edit_p111011111011_eq (d : Nat) (x0 : Nat) (x2 : Int) (x4 : Value) (x6 : Int) (x12 : Int) (x74 : Bool) (H : Heap) : grid_Grid_edit_p111011111011 d x0 x2 x4 x6 x12 x74 H =
  if x74 = true then
  (asP x4 fun o1 =>
    optK o1 fun a2 =>
    optK (Heap.ld1 H (ap a2 1)) fun v3 =>
    asI .i32 v3 fun n4 =>
    callK (X d n_grid_Grid_cut [P0 x0, .int .i32 n4, .int .i64 x2] H) fun _ H6 =>
    some (.tuple #[], H6))
  else
  (if (decide (x12 = 83)) = true then
    (callK (X d n_grid_Grid_up [P0 x0, .int .i64 x2] H) fun _ H8 =>
      some (.tuple #[], H8))
    else
    (if (decide (x12 = 84)) = true then
      (callK (X d n_grid_Grid_down [P0 x0, .int .i64 x2] H) fun _ H10 =>
        some (.tuple #[], H10))
      else
      (if (decide (x12 = 114)) = true then
        (optK (readD (.load 4 true) [x4] H) fun v11 =>
          asA v11 fun c12 =>
          callK (X d n_vt_Params [.agg c12, .int .i64 0, .int .i64 1] H) fun v13 H14 =>
          asI .i64 v13 fun n15 =>
          optK (readD (.load 4 true) [x4] H14) fun v16 =>
          asA v16 fun c17 =>
          optK (Heap.ld1 H14 ⟨x0, 0, none⟩) fun v18 =>
          asI .i64 v18 fun n19 =>
          callK (X d n_vt_Params [.agg c17, .int .i64 1, .int .i64 n19] H14) fun v20 H21 =>
          asI .i64 v20 fun n22 =>
          optK (Heap.ld1 H21 ⟨x0, 0, none⟩) fun v23 =>
          asI .i64 v23 fun n24 =>
          chk (rdsOk [H, H14, H21] [⟨.load 1 false, [P0 x0], v23, 0, 2⟩, ⟨.load 1 false, [P0 x0], v18, 0, 1⟩, ⟨.load 4 true, [x4], v16, 0, 1⟩]) (
            if (decide (IntKind.wrap .i64 (n15 - 1) < (if (IntKind.wrap .i64 (n24 - 1)) < (IntKind.wrap .i64 (n22 - 1)) then (IntKind.wrap .i64 (n24 - 1)) else (IntKind.wrap .i64 (n22 - 1))))) = true then
            (optK (Heap.st1 H21 ⟨x0, 17, none⟩ (.int .i64 (IntKind.wrap .i64 (n15 - 1)))) fun H25 =>
              optK (Heap.st1 H25 ⟨x0, 18, none⟩ (.int .i64 (if (IntKind.wrap .i64 (n24 - 1)) < (IntKind.wrap .i64 (n22 - 1)) then (IntKind.wrap .i64 (n24 - 1)) else (IntKind.wrap .i64 (n22 - 1))))) fun H26 =>
              callK (X d n_grid_Grid_move [P0 x0, .int .i64 0, .int .i64 0] H26) fun _ H28 =>
              some (.tuple #[], H28))
            else
            (some (.tuple #[], H21))))
        else
        (if (decide (x12 = 103)) = true then
          (if (decide (x6 = 0)) = true then
            (optK (Heap.ld1 H ⟨x0, 22, none⟩) fun v29 =>
              asSL v29 fun l30 =>
              optK (Heap.ld1 H ⟨x0, 4, none⟩) fun v31 =>
              asI .i64 v31 fun n32 =>
              optK l30.a fun a33 =>
              if 0 ≤ n32 ∧ n32 < (l30.n : Int) then
              optK (Heap.st1 H (ap a33 (((n32).toNat) * 1)) (.bool false)) fun H34 =>
              grid_Grid_edit_p11101111101101111111101 d x0 x6 H34
              else none)
            else
            (grid_Grid_edit_p11101111101101111111101 d x0 x6 H))
          else
          (some (.tuple #[], H)))))) := (opq_app _ _ _).trans <| by kernel_rfl
theorem grid_Grid_edit_p1110111110011_eq (d : Nat) (x0 : Nat) (H : Heap) : grid_Grid_edit_p1110111110011 d x0 H =
  optK (Heap.ld1 H ⟨x0, 3, none⟩) fun v1 =>
  asI .i64 v1 fun n2 =>
  callK (X d n_grid_Grid_move [P0 x0, .int .i64 n2, .int .i64 0] H) fun _ H4 =>
  some (.tuple #[], H4) := (opq_app _ _ _).trans <| by kernel_rfl
theorem grid_Grid_edit_p11101111101101111111101_eq (d : Nat) (x0 : Nat) (x6 : Int) (H : Heap) : grid_Grid_edit_p11101111101101111111101 d x0 x6 H =
  if (decide (x6 = 3)) = true then
  (optK (Heap.ld1 H ⟨x0, 1, none⟩) fun v1 =>
    asI .i64 v1 fun n2 =>
    effK (.mkSl t_bool 1 1 [.bool false]) [.int .i64 n2, .int .i64 n2] H fun v3 H4 =>
    asSL v3 fun l5 =>
    optK (Heap.st1 H4 ⟨x0, 22, none⟩ l5.v) fun H6 =>
    some (.tuple #[], H6))
  else
  (some (.tuple #[], H)) := (opq_app _ _ _).trans <| by kernel_rfl
theorem grid_Grid_edit_eq (d : Nat) (x0 : Nat) (x1 : Array Value) (x2 : Int) (H : Heap) : X (d + 1) n_grid_Grid_edit [P0 x0, .agg x1, .int .i64 x2] H =
  effK (.box t_vt_Act) [.agg x1] H fun v1 H2 =>
  optK (readD (.load 4 true) [v1] H2) fun v3 =>
  asA v3 fun c4 =>
  callK (X d n_vt_Params [.agg c4, .int .i64 0, .int .i64 0] H2) fun v5 H6 =>
  asI .i64 v5 fun n7 =>
  asP v1 fun o8 =>
  optK o8 fun a9 =>
  optK (Heap.ld1 H6 (ap a9 1)) fun v10 =>
  asI .i32 v10 fun n11 =>
  if (decide (n11 = 74)) = true then
  (callK (X d n_grid_Grid_erase [P0 x0, .int .i64 n7] H6) fun _ H13 =>
    some (.tuple #[], H13))
  else
  (if (decide (n11 = 75)) = true then
    (callK (X d n_grid_Grid_eraseLine [P0 x0, .int .i64 n7] H6) fun _ H15 =>
      some (.tuple #[], H15))
    else
    (if (decide (n11 = 76)) = true then
      (grid_Grid_edit_p111011111 d x0 x2 v1 n7 n11 (decide (n11 = 76)) H6)
      else
      (grid_Grid_edit_p111011111 d x0 x2 v1 n7 n11 (decide (n11 = 77)) H6))) := by kernel_rfl
end Go.Proofs.YtjmiehbiindjdaaGreatDoor.dec

namespace Go.Proofs.YtjmiehbiindjdaaGreatDoor.dec
open Go Go.Cm
/-! (*porthole/grid.Grid).cut -/
theorem grid_Grid_cut_eq (d : Nat) (x0 : Nat) (x1 : Int) (x2 : Int) (H : Heap) : X (d + 1) n_grid_Grid_cut [P0 x0, .int .i32 x1, .int .i64 x2] H =
  optK (Heap.ld1 H ⟨x0, 2, none⟩) fun v1 =>
  asSL v1 fun l2 =>
  optK (Heap.ld1 H ⟨x0, 3, none⟩) fun v3 =>
  asI .i64 v3 fun n4 =>
  optK l2.a fun a5 =>
  if 0 ≤ n4 ∧ n4 < (l2.n : Int) then
  optK (Heap.ld1 H (ap a5 (((n4).toNat) * 1))) fun v6 =>
  asSL v6 fun l7 =>
  optK (Heap.ld1 H ⟨x0, 4, none⟩) fun v8 =>
  asI .i64 v8 fun n9 =>
  optK (readD (.subSl t_api_Cell 4 true false false) [l7.v, .int .i64 n9] H) fun v10 =>
  asSL v10 fun l11 =>
  if (decide (x1 = 64)) = true then
  (callK (X d n_grid_line [.int .i64 (if (l11.n : Int) < x2 then (l11.n : Int) else x2)] H) fun v12 H13 =>
    asSL v12 fun l14 =>
    optK (readD (.subSl t_api_Cell 4 false true false) [l11.v, .int .i64 (IntKind.wrap .i64 ((l11.n : Int) - (if (l11.n : Int) < x2 then (l11.n : Int) else x2)))] H13) fun v15 =>
    asSL v15 fun l16 =>
    appendK t_api_Cell 4 32 false l14.v l16.v H13 fun v17 H18 =>
    asSL v17 fun l19 =>
    effK (.copy 4 false) [l11.v, l19.v] H18 fun v20 H21 =>
    asI .i64 v20 fun _ =>
    chk (rdsOk [H, H13, H18, H21] [⟨.subSl t_api_Cell 4 false true false, [l11.v, .int .i64 (IntKind.wrap .i64 ((l11.n : Int) - (if (l11.n : Int) < x2 then (l11.n : Int) else x2)))], v15, 0, 1⟩]) (
      some (.tuple #[], H21)))
  else
  (if (decide (x1 = 80)) = true then
    (optK (readD (.subSl t_api_Cell 4 true false false) [l11.v, .int .i64 (if (l11.n : Int) < x2 then (l11.n : Int) else x2)] H) fun v23 =>
      asSL v23 fun l24 =>
      callK (X d n_slices_Clone_S_api_Cell_api_Cell [l24.v] H) fun v25 H26 =>
      asSL v25 fun l27 =>
      callK (X d n_grid_line [.int .i64 (if (l11.n : Int) < x2 then (l11.n : Int) else x2)] H26) fun v28 H29 =>
      asSL v28 fun l30 =>
      appendK t_api_Cell 4 32 false l27.v l30.v H29 fun v31 H32 =>
      asSL v31 fun l33 =>
      effK (.copy 4 false) [l11.v, l33.v] H32 fun v34 H35 =>
      asI .i64 v34 fun _ =>
      some (.tuple #[], H35))
    else
    (callK (X d n_grid_line [.int .i64 (if (l11.n : Int) < x2 then (l11.n : Int) else x2)] H) fun v37 H38 =>
      asSL v37 fun l39 =>
      effK (.copy 4 false) [l11.v, l39.v] H38 fun v40 H41 =>
      asI .i64 v40 fun _ =>
      some (.tuple #[], H41)))
  else none := by kernel_rfl
end Go.Proofs.YtjmiehbiindjdaaGreatDoor.dec

namespace Go.Proofs.YtjmiehbiindjdaaGreatDoor.dec
open Go Go.Cm
/-! (*porthole/grid.Grid).Past -/
theorem grid_Grid_Past_eq (d : Nat) (x0 : Nat) (H : Heap) : X (d + 1) n_grid_Grid_Past [P0 x0] H =
  optK (Heap.ld1 H ⟨x0, 31, none⟩) fun v1 =>
  asSL v1 fun l2 =>
  callK (X d n_grid_copied [l2.v] H) fun v3 H4 =>
  asSL v3 fun l5 =>
  some (l5.v, H4) := by kernel_rfl
end Go.Proofs.YtjmiehbiindjdaaGreatDoor.dec

namespace Go.Proofs.YtjmiehbiindjdaaGreatDoor.dec
open Go Go.Cm
/-! porthole/portholeref19.Text -/
end Go.Proofs.YtjmiehbiindjdaaGreatDoor.dec

namespace Go.Proofs.YtjmiehbiindjdaaGreatDoor.dec
open Go Go.Cm
/-! (*porthole/grid.Grid).Line -/
end Go.Proofs.YtjmiehbiindjdaaGreatDoor.dec

namespace Go.Proofs.YtjmiehbiindjdaaGreatDoor.dec
open Go Go.Cm
/-! porthole/grid.Text -/
end Go.Proofs.YtjmiehbiindjdaaGreatDoor.dec

namespace Go.Proofs.YtjmiehbiindjdaaGreatDoor.dec
open Go Go.Cm
/-! strings.TrimRight -/
end Go.Proofs.YtjmiehbiindjdaaGreatDoor.dec

namespace Go.Proofs.YtjmiehbiindjdaaGreatDoor.dec
open Go Go.Cm
/-! porthole/utf.Text -/
end Go.Proofs.YtjmiehbiindjdaaGreatDoor.dec

namespace Go.Proofs.YtjmiehbiindjdaaGreatDoor.dec
open Go Go.Cm
/-! strings.trimRightByte -/
end Go.Proofs.YtjmiehbiindjdaaGreatDoor.dec

namespace Go.Proofs.YtjmiehbiindjdaaGreatDoor.dec
open Go Go.Cm
/-! (*porthole/portholeref19.Grid).shift -/
noncomputable def ref19_Grid_shift_k111 (d : Nat) : Kt := run (X d) NN (cd 66 [1, 1, 1]) (retK (rs 66)) [] (retK (rs 66))
noncomputable def ref19_Grid_shift_l11010 (d : Nat) (m0 : Nat) : Kt := iter (fun k => run (X d) NN (cd 66 [1, 1, 0, 1, 0, 0]) (backK [(0, .ptr), (1, .int .i64), (4, .sl), (5, .sl), (6, .int .i64)] (opq k)) [(0, (ref19_Grid_shift_k111 d))] (retK (rs 66))) m0
noncomputable def ref19_Grid_shift_k11010011 (d : Nat) (m0 : Nat) : Kt := run (X d) NN (cd 66 [1, 1, 0, 1, 0, 0, 1, 1]) (backK [(0, .ptr), (1, .int .i64), (4, .sl), (5, .sl), (6, .int .i64)] (opq (ref19_Grid_shift_l11010 d m0))) [(0, (ref19_Grid_shift_k111 d))] (retK (rs 66))
noncomputable def ref19_Grid_shift_p11010 (d : Nat) (m0 : Nat) (x0 : Nat) (x1 : Int) (x4 : Sl) (x5 : Sl) (x6 : Int) (H : Heap) : Res := opq (ref19_Grid_shift_l11010 d m0) [(0, P0 x0), (1, .int .i64 x1), (4, x4.v), (5, x5.v), (6, .int .i64 x6)] H
noncomputable def ref19_Grid_shift_p11010010011 (d : Nat) (m0 : Nat) (x0 : Nat) (x1 : Int) (x4 : Sl) (x5 : Sl) (x6 : Int) (x7 : Int) (x58 : Bool) (H : Heap) : Res := opq (run (X d) NN (cd 66 [1, 1, 0, 1, 0, 0, 1, 0, 0, 1, 1, 0]) (ref19_Grid_shift_k11010011 d m0) [(1, (ref19_Grid_shift_k11010011 d m0)), (0, (ref19_Grid_shift_k111 d))] (retK (rs 66))) [(0, P0 x0), (1, .int .i64 x1), (4, x4.v), (5, x5.v), (6, .int .i64 x6), (7, .int .i64 x7), (58, .bool x58)] H
noncomputable def ref19_Grid_shift_p11010011 (d : Nat) (m0 : Nat) (x0 : Nat) (x1 : Int) (x4 : Sl) (x5 : Sl) (x6 : Int) (H : Heap) : Res := opq (run (X d) NN (cd 66 [1, 1, 0, 1, 0, 0, 1, 1, 0]) (backK [(0, .ptr), (1, .int .i64), (4, .sl), (5, .sl), (6, .int .i64)] (opq (ref19_Grid_shift_l11010 d m0))) [(0, (ref19_Grid_shift_k111 d))] (retK (rs 66))) [(0, P0 x0), (1, .int .i64 x1), (4, x4.v), (5, x5.v), (6, .int .i64 x6)] H
theorem ref19_Grid_shift_p11010_s (d : Nat) (m0 : Nat) (x0 : Nat) (x1 : Int) (x4 : Sl) (x5 : Sl) (x6 : Int) (H : Heap) : ref19_Grid_shift_p11010 d (m0 + 1) x0 x1 x4 x5 x6 H =
  optK (Heap.ld1 H ⟨x0, 7, none⟩) fun v1 =>
  asI .i64 v1 fun n2 =>
  if (decide (x6 < n2)) = true then
  (optK (Heap.ld1 H ⟨x0, 10, none⟩) fun v3 =>
    asI .i64 v3 fun n4 =>
    if (decide (IntKind.wrap .i64 (x6 - x1) < n4)) = true then
    (ref19_Grid_shift_p11010010011 d m0 x0 x1 x4 x5 x6 (IntKind.wrap .i64 (x6 - x1)) true H)
    else
    (optK (Heap.ld1 H ⟨x0, 7, none⟩) fun v5 =>
      asI .i64 v5 fun n6 =>
      ref19_Grid_shift_p11010010011 d m0 x0 x1 x4 x5 x6 (IntKind.wrap .i64 (x6 - x1)) (decide (n6 ≤ IntKind.wrap .i64 (x6 - x1))) H))
  else
  (optK (Heap.ld1 H ⟨x0, 8, none⟩) fun v7 =>
    asSL v7 fun l8 =>
    optK (Heap.ld1 H ⟨x0, 9, none⟩) fun v9 =>
    asI .i64 v9 fun n10 =>
    optK l8.a fun a11 =>
    if 0 ≤ n10 ∧ n10 < (l8.n : Int) then
    optK (Heap.st1 H (ap a11 (((n10).toNat) * 1)) x5.v) fun H12 =>
    some (.tuple #[], H12)
    else none) := (opq_app _ _ _).trans <| by kernel_rfl
theorem ref19_Grid_shift_p11010010011_eq (d : Nat) (m0 : Nat) (x0 : Nat) (x1 : Int) (x4 : Sl) (x5 : Sl) (x6 : Int) (x7 : Int) (x58 : Bool) (H : Heap) : ref19_Grid_shift_p11010010011 d m0 x0 x1 x4 x5 x6 x7 x58 H =
  if x58 = true then
  (callK (X d n_ref19_blank [] H) fun v1 H2 =>
    asA v1 fun c3 =>
    optK (fillL [(0, 4)] [.agg c3] [.int .i32 0, .int .i64 0, .int .i64 0, .int .i64 0]) fun l4 =>
    newK H2 (.cells l4 t_api_Cell false 0 false) fun p5 H6 =>
    appendK t_api_Cell 4 32 false x5.v (.slice (some ⟨p5, 0, none⟩) 1 1) H6 fun v7 H8 =>
    asSL v7 fun l9 =>
    ref19_Grid_shift_p11010011 d m0 x0 x1 x4 l9 x6 H8)
  else
  (optK x4.a fun a10 =>
    if 0 ≤ x7 ∧ x7 < (x4.n : Int) then
    optK (ldA H (ap a10 (((x7).toNat) * 4)) 4) fun v11 =>
    asA v11 fun c12 =>
    optK (fillL [(0, 4)] [.agg c12] [.int .i32 0, .int .i64 0, .int .i64 0, .int .i64 0]) fun l13 =>
    newK H (.cells l13 t_api_Cell false 0 false) fun p14 H15 =>
    appendK t_api_Cell 4 32 false x5.v (.slice (some ⟨p14, 0, none⟩) 1 1) H15 fun v16 H17 =>
    asSL v16 fun l18 =>
    ref19_Grid_shift_p11010011 d m0 x0 x1 x4 l18 x6 H17
    else none) := (opq_app _ _ _).trans <| by kernel_rfl
theorem ref19_Grid_shift_p11010011_eq (d : Nat) (m0 : Nat) (x0 : Nat) (x1 : Int) (x4 : Sl) (x5 : Sl) (x6 : Int) (H : Heap) : ref19_Grid_shift_p11010011 d m0 x0 x1 x4 x5 x6 H =
  ref19_Grid_shift_p11010 d m0 x0 x1 x4 x5 (IntKind.wrap .i64 (x6 + 1)) H := (opq_app _ _ _).trans <| by kernel_rfl
theorem ref19_Grid_shift_eq (d : Nat) (x0 : Nat) (x1 : Int) (H : Heap) : X (d + 1) n_ref19_Grid_shift [P0 x0, .int .i64 x1] H =
  optK (Heap.ld1 H ⟨x0, 8, none⟩) fun v1 =>
  asSL v1 fun l2 =>
  optK (Heap.ld1 H ⟨x0, 9, none⟩) fun v3 =>
  asI .i64 v3 fun n4 =>
  optK l2.a fun a5 =>
  if 0 ≤ n4 ∧ n4 < (l2.n : Int) then
  optK (Heap.ld1 H (ap a5 (((n4).toNat) * 1))) fun v6 =>
  asSL v6 fun l7 =>
  newK H (.cells [] t_api_Cell false 0 false) fun p8 H9 =>
  optK (Heap.ld1 H9 ⟨x0, 10, none⟩) fun v10 =>
  asI .i64 v10 fun n11 =>
  optK (readD (.subSl t_api_Cell 4 false true false) [l7.v, .int .i64 n11] H9) fun v12 =>
  asSL v12 fun l13 =>
  appendK t_api_Cell 4 32 false (.slice (some ⟨p8, 0, none⟩) 0 0) l13.v H9 fun v14 H15 =>
  asSL v14 fun l16 =>
  optK (Heap.ld1 H15 ⟨x0, 10, none⟩) fun v17 =>
  asI .i64 v17 fun n18 =>
  ref19_Grid_shift_p11010 d NN x0 x1 l7 l16 n18 H15
  else none := by kernel_rfl
end Go.Proofs.YtjmiehbiindjdaaGreatDoor.dec

namespace Go.Proofs.YtjmiehbiindjdaaGreatDoor.dec
open Go Go.Cm
/-! (*porthole/portholeref19.Grid).print -/
noncomputable def ref19_Grid_print_k1 (d : Nat) : Kt := run (X d) NN (cd 31 [1]) (retK (rs 31)) [] (retK (rs 31))
noncomputable def ref19_Grid_print_p01 (d : Nat) (x0 : Nat) (x1 : Int) (x16 : Bool) (H : Heap) : Res := opq (run (X d) NN (cd 31 [0, 1, 0]) (ref19_Grid_print_k1 d) [] (retK (rs 31))) [(0, P0 x0), (1, .int .i32 x1), (16, .bool x16)] H
noncomputable def ref19_Grid_print_p1 (d : Nat) (x0 : Nat) (x1 : Int) (H : Heap) : Res := opq (run (X d) NN (cd 31 [1, 0]) (retK (rs 31)) [] (retK (rs 31))) [(0, P0 x0), (1, .int .i32 x1)] H
noncomputable def ref19_Grid_print_p101 (d : Nat) (x0 : Nat) (x1 : Int) (H : Heap) : Res := opq (run (X d) NN (cd 31 [1, 0, 1, 0]) (retK (rs 31)) [] (retK (rs 31))) [(0, P0 x0), (1, .int .i32 x1)] H
theorem ref19_Grid_print_p01_eq (d : Nat) (x0 : Nat) (x1 : Int) (x16 : Bool) (H : Heap) : ref19_Grid_print_p01 d x0 x1 x16 H =
  if x16 = true then
  (optK (Heap.st1 H ⟨x0, 10, none⟩ (.int .i64 0)) fun H1 =>
    callK (X d n_ref19_Grid_index [P0 x0] H1) fun _ H3 =>
    ref19_Grid_print_p1 d x0 x1 H3)
  else
  (ref19_Grid_print_p1 d x0 x1 H) := (opq_app _ _ _).trans <| by kernel_rfl
theorem ref19_Grid_print_p1_eq (d : Nat) (x0 : Nat) (x1 : Int) (H : Heap) : ref19_Grid_print_p1 d x0 x1 H =
  optK (Heap.ld1 H ⟨x0, 26, none⟩) fun v1 =>
  asB v1 fun b2 =>
  if b2 = true then
  (callK (X d n_ref19_Grid_shift [P0 x0, .int .i64 1] H) fun _ H4 =>
    ref19_Grid_print_p101 d x0 x1 H4)
  else
  (ref19_Grid_print_p101 d x0 x1 H) := (opq_app _ _ _).trans <| by kernel_rfl
theorem ref19_Grid_print_p101_eq (d : Nat) (x0 : Nat) (x1 : Int) (H : Heap) : ref19_Grid_print_p101 d x0 x1 H =
  optK (ldA H ⟨x0, 12, none⟩ 4) fun v1 =>
  asA v1 fun c2 =>
  newK H (.cells [.int .i32 0, .int .i64 0, .int .i64 0, .int .i64 0] t_api_Cell false 0 false) fun p3 H4 =>
  effK (.store 4) [P0 p3, .agg c2] H4 fun _ H6 =>
  optK (Heap.st1 H6 ⟨p3, 0, none⟩ (.int .i32 x1)) fun H7 =>
  newK H7 (.cells [] t_api_Cell false 0 false) fun p8 H9 =>
  optK (Heap.ld1 H9 ⟨x0, 8, none⟩) fun v10 =>
  asSL v10 fun l11 =>
  optK (Heap.ld1 H9 ⟨x0, 9, none⟩) fun v12 =>
  asI .i64 v12 fun n13 =>
  optK l11.a fun a14 =>
  if 0 ≤ n13 ∧ n13 < (l11.n : Int) then
  optK (Heap.ld1 H9 (ap a14 (((n13).toNat) * 1))) fun v15 =>
  asSL v15 fun l16 =>
  appendK t_api_Cell 4 32 false (.slice (some ⟨p8, 0, none⟩) 0 0) l16.v H9 fun v17 H18 =>
  asSL v17 fun l19 =>
  chk (rdsOk [H7, H9, H18] [⟨.load 1 false, [.pointer (some (ap a14 (((n13).toNat) * 1)))], v15, 0, 1⟩, ⟨.load 1 false, [.pointer (some ⟨x0, 9, none⟩)], v12, 0, 1⟩, ⟨.load 1 false, [.pointer (some ⟨x0, 8, none⟩)], v10, 0, 1⟩]) (
    optK (Heap.ld1 H18 ⟨x0, 10, none⟩) fun v20 =>
    asI .i64 v20 fun n21 =>
    optK (ldA H18 ⟨p3, 0, none⟩ 4) fun v22 =>
    asA v22 fun c23 =>
    optK l19.a fun a24 =>
    if 0 ≤ n21 ∧ n21 < (l19.n : Int) then
    effK (.store 4) [.pointer (some (ap a24 (((n21).toNat) * 4))), .agg c23] H18 fun _ H26 =>
    optK (Heap.ld1 H26 ⟨x0, 8, none⟩) fun v27 =>
    asSL v27 fun l28 =>
    optK (Heap.ld1 H26 ⟨x0, 9, none⟩) fun v29 =>
    asI .i64 v29 fun n30 =>
    optK l28.a fun a31 =>
    if 0 ≤ n30 ∧ n30 < (l28.n : Int) then
    optK (Heap.st1 H26 (ap a31 (((n30).toNat) * 1)) l19.v) fun H32 =>
    optK (Heap.st1 H32 ⟨x0, 11, none⟩ (.bool false)) fun H33 =>
    optK (Heap.ld1 H33 ⟨x0, 10, none⟩) fun v34 =>
    asI .i64 v34 fun n35 =>
    optK (Heap.ld1 H33 ⟨x0, 7, none⟩) fun v36 =>
    asI .i64 v36 fun n37 =>
    if (decide (n35 = IntKind.wrap .i64 (n37 - 1))) = true then
    (optK (Heap.ld1 H33 ⟨x0, 25, none⟩) fun v38 =>
      asB v38 fun b39 =>
      optK (Heap.st1 H33 ⟨x0, 11, none⟩ (.bool b39)) fun H40 =>
      some (.tuple #[], H40))
    else
    (optK (Heap.ld1 H33 ⟨x0, 10, none⟩) fun v41 =>
      asI .i64 v41 fun n42 =>
      optK (Heap.st1 H33 ⟨x0, 10, none⟩ (.int .i64 (IntKind.wrap .i64 (n42 + 1)))) fun H43 =>
      some (.tuple #[], H43))
    else none
    else none)
  else none := (opq_app _ _ _).trans <| by kernel_rfl
theorem ref19_Grid_print_eq (d : Nat) (x0 : Nat) (x1 : Int) (H : Heap) : X (d + 1) n_ref19_Grid_print [P0 x0, .int .i32 x1] H =
  optK (Heap.ld1 H ⟨x0, 11, none⟩) fun v1 =>
  asB v1 fun b2 =>
  if b2 = true then
  (optK (Heap.ld1 H ⟨x0, 25, none⟩) fun v3 =>
    asB v3 fun b4 =>
    ref19_Grid_print_p01 d x0 x1 b4 H)
  else
  (ref19_Grid_print_p01 d x0 x1 false H) := by kernel_rfl
end Go.Proofs.YtjmiehbiindjdaaGreatDoor.dec

namespace Go.Proofs.YtjmiehbiindjdaaGreatDoor.dec
open Go Go.Cm
/-! (*porthole/portholeref19.Grid).to -/
theorem ref19_Grid_to_eq (d : Nat) (x0 : Nat) (x1 : Int) (x2 : Int) (H : Heap) : X (d + 1) n_ref19_Grid_to [P0 x0, .int .i64 x1, .int .i64 x2] H =
  optK (Heap.ld1 H ⟨x0, 6, none⟩) fun v1 =>
  asI .i64 v1 fun n2 =>
  callK (X d n_ref19_clip [.int .i64 x1, .int .i64 0, .int .i64 (IntKind.wrap .i64 (n2 - 1))] H) fun v3 H4 =>
  asI .i64 v3 fun n5 =>
  optK (Heap.st1 H4 ⟨x0, 9, none⟩ (.int .i64 n5)) fun H6 =>
  optK (Heap.ld1 H6 ⟨x0, 7, none⟩) fun v7 =>
  asI .i64 v7 fun n8 =>
  callK (X d n_ref19_clip [.int .i64 x2, .int .i64 0, .int .i64 (IntKind.wrap .i64 (n8 - 1))] H6) fun v9 H10 =>
  asI .i64 v9 fun n11 =>
  optK (Heap.st1 H10 ⟨x0, 10, none⟩ (.int .i64 n11)) fun H12 =>
  optK (Heap.st1 H12 ⟨x0, 11, none⟩ (.bool false)) fun H13 =>
  some (.tuple #[], H13) := by kernel_rfl
end Go.Proofs.YtjmiehbiindjdaaGreatDoor.dec

namespace Go.Proofs.YtjmiehbiindjdaaGreatDoor.dec
open Go Go.Cm
/-! (*porthole/portholeref19.Grid).lineUp -/
theorem ref19_Grid_lineUp_eq (d : Nat) (x0 : Nat) (x1 : Int) (H : Heap) : X (d + 1) n_ref19_Grid_lineUp [P0 x0, .int .i64 x1] H =
  optK (Heap.ld1 H ⟨x0, 9, none⟩) fun v1 =>
  asI .i64 v1 fun n2 =>
  optK (Heap.ld1 H ⟨x0, 23, none⟩) fun v3 =>
  asI .i64 v3 fun n4 =>
  if (decide (n4 ≤ n2)) = true then
  (optK (Heap.ld1 H ⟨x0, 23, none⟩) fun v5 =>
    asI .i64 v5 fun n6 =>
    optK (Heap.ld1 H ⟨x0, 9, none⟩) fun v7 =>
    asI .i64 v7 fun n8 =>
    some (.int .i64 (if n6 < (IntKind.wrap .i64 (n8 - x1)) then (IntKind.wrap .i64 (n8 - x1)) else n6), H))
  else
  (optK (Heap.ld1 H ⟨x0, 9, none⟩) fun v9 =>
    asI .i64 v9 fun n10 =>
    some (.int .i64 (if 0 < (IntKind.wrap .i64 (n10 - x1)) then (IntKind.wrap .i64 (n10 - x1)) else 0), H)) := by kernel_rfl
end Go.Proofs.YtjmiehbiindjdaaGreatDoor.dec

namespace Go.Proofs.YtjmiehbiindjdaaGreatDoor.dec
open Go Go.Cm
/-! (*porthole/portholeref19.Grid).lineDown -/
theorem ref19_Grid_lineDown_eq (d : Nat) (x0 : Nat) (x1 : Int) (H : Heap) : X (d + 1) n_ref19_Grid_lineDown [P0 x0, .int .i64 x1] H =
  optK (Heap.ld1 H ⟨x0, 9, none⟩) fun v1 =>
  asI .i64 v1 fun n2 =>
  optK (Heap.ld1 H ⟨x0, 24, none⟩) fun v3 =>
  asI .i64 v3 fun n4 =>
  if (decide (n2 ≤ n4)) = true then
  (optK (Heap.ld1 H ⟨x0, 24, none⟩) fun v5 =>
    asI .i64 v5 fun n6 =>
    optK (Heap.ld1 H ⟨x0, 9, none⟩) fun v7 =>
    asI .i64 v7 fun n8 =>
    some (.int .i64 (if (IntKind.wrap .i64 (n8 + x1)) < n6 then (IntKind.wrap .i64 (n8 + x1)) else n6), H))
  else
  (optK (Heap.ld1 H ⟨x0, 6, none⟩) fun v9 =>
    asI .i64 v9 fun n10 =>
    optK (Heap.ld1 H ⟨x0, 9, none⟩) fun v11 =>
    asI .i64 v11 fun n12 =>
    some (.int .i64 (if (IntKind.wrap .i64 (n12 + x1)) < (IntKind.wrap .i64 (n10 - 1)) then (IntKind.wrap .i64 (n12 + x1)) else (IntKind.wrap .i64 (n10 - 1))), H)) := by kernel_rfl
end Go.Proofs.YtjmiehbiindjdaaGreatDoor.dec

namespace Go.Proofs.YtjmiehbiindjdaaGreatDoor.dec
open Go Go.Cm
/-! porthole/portholeref19.clip -/
theorem ref19_clip_eq (d : Nat) (x0 : Int) (x1 : Int) (x2 : Int) (H : Heap) : X (d + 1) n_ref19_clip [.int .i64 x0, .int .i64 x1, .int .i64 x2] H =
  some (.int .i64 (if x1 < (if x2 < x0 then x2 else x0) then (if x2 < x0 then x2 else x0) else x1), H) := by kernel_rfl
end Go.Proofs.YtjmiehbiindjdaaGreatDoor.dec

namespace Go.Proofs.YtjmiehbiindjdaaGreatDoor.dec
open Go Go.Cm
/-! (*porthole/portholeref19.Grid).control -/
noncomputable def ref19_Grid_control_k10111011 (d : Nat) : Kt := run (X d) NN (cd 32 [1, 0, 1, 1, 1, 0, 1, 1]) (retK (rs 32)) [(0, (retK (rs 32)))] (retK (rs 32))
noncomputable def ref19_Grid_control_l101110100 (d : Nat) (m0 : Nat) : Kt := iter (fun k => run (X d) NN (cd 32 [1, 0, 1, 1, 1, 0, 1, 0, 0, 0]) (backK [(0, .ptr), (4, .int .i64)] (opq k)) [(1, (ref19_Grid_control_k10111011 d)), (0, (retK (rs 32)))] (retK (rs 32))) m0
noncomputable def ref19_Grid_control_k10111010001 (d : Nat) (m0 : Nat) : Kt := run (X d) NN (cd 32 [1, 0, 1, 1, 1, 0, 1, 0, 0, 0, 1]) (backK [(0, .ptr), (4, .int .i64)] (opq (ref19_Grid_control_l101110100 d m0))) [(1, (ref19_Grid_control_k10111011 d)), (0, (retK (rs 32)))] (retK (rs 32))
noncomputable def ref19_Grid_control_p101110100 (d : Nat) (m0 : Nat) (x0 : Nat) (x4 : Int) (H : Heap) : Res := opq (ref19_Grid_control_l101110100 d m0) [(0, P0 x0), (4, .int .i64 x4)] H
noncomputable def ref19_Grid_control_p1011111 (d : Nat) (x0 : Nat) (x5 : Int) (x65 : Bool) (H : Heap) : Res := opq (run (X d) NN (cd 32 [1, 0, 1, 1, 1, 1, 1, 0]) (retK (rs 32)) [(0, (retK (rs 32)))] (retK (rs 32))) [(0, P0 x0), (5, .int .i32 x5), (65, .bool x65)] H
noncomputable def ref19_Grid_control_p101110100001 (d : Nat) (m0 : Nat) (x0 : Nat) (x4 : Int) (x47 : Bool) (H : Heap) : Res := opq (run (X d) NN (cd 32 [1, 0, 1, 1, 1, 0, 1, 0, 0, 0, 0, 1, 0]) (ref19_Grid_control_k10111010001 d m0) [(1, (ref19_Grid_control_k10111011 d)), (0, (retK (rs 32)))] (retK (rs 32))) [(0, P0 x0), (4, .int .i64 x4), (47, .bool x47)] H
theorem ref19_Grid_control_p101110100_s (d : Nat) (m0 : Nat) (x0 : Nat) (x4 : Int) (H : Heap) : ref19_Grid_control_p101110100 d (m0 + 1) x0 x4 H =
  optK (Heap.ld1 H ⟨x0, 7, none⟩) fun v1 =>
  asI .i64 v1 fun n2 =>
  if (decide (x4 < IntKind.wrap .i64 (n2 - 1))) = true then
  (optK (Heap.ld1 H ⟨x0, 28, none⟩) fun v3 =>
    asSL v3 fun l4 =>
    optK l4.a fun a5 =>
    if 0 ≤ x4 ∧ x4 < (l4.n : Int) then
    optK (Heap.ld1 H (ap a5 (((x4).toNat) * 1))) fun v6 =>
    asB v6 fun b7 =>
    ref19_Grid_control_p101110100001 d m0 x0 x4 (!b7) H
    else none)
  else
  (ref19_Grid_control_p101110100001 d m0 x0 x4 false H) := (opq_app _ _ _).trans <| by kernel_rfl
theorem ref19_Grid_control_p1011111_eq (d : Nat) (x0 : Nat) (x5 : Int) (x65 : Bool) (H : Heap) : ref19_Grid_control_p1011111 d x0 x5 x65 H =
  if x65 = true then
  (callK (X d n_ref19_Grid_index [P0 x0] H) fun _ H2 =>
    some (.tuple #[], H2))
  else
  (if (decide (x5 = 13)) = true then
    (optK (Heap.st1 H ⟨x0, 10, none⟩ (.int .i64 0)) fun H3 =>
      optK (Heap.st1 H3 ⟨x0, 11, none⟩ (.bool false)) fun H4 =>
      some (.tuple #[], H4))
    else
    (some (.tuple #[], H))) := (opq_app _ _ _).trans <| by kernel_rfl
theorem ref19_Grid_control_p101110100001_eq (d : Nat) (m0 : Nat) (x0 : Nat) (x4 : Int) (x47 : Bool) (H : Heap) : ref19_Grid_control_p101110100001 d m0 x0 x4 x47 H =
  if x47 = true then
  (ref19_Grid_control_p101110100 d m0 x0 (IntKind.wrap .i64 (x4 + 1)) H)
  else
  (optK (Heap.ld1 H ⟨x0, 7, none⟩) fun v1 =>
    asI .i64 v1 fun n2 =>
    optK (Heap.st1 H ⟨x0, 10, none⟩ (.int .i64 (if (IntKind.wrap .i64 (n2 - 1)) < x4 then (IntKind.wrap .i64 (n2 - 1)) else x4))) fun H3 =>
    optK (Heap.st1 H3 ⟨x0, 11, none⟩ (.bool false)) fun H4 =>
    some (.tuple #[], H4)) := (opq_app _ _ _).trans <| by kernel_rfl
theorem ref19_Grid_control_eq (d : Nat) (x0 : Nat) (x1 : Int) (H : Heap) : X (d + 1) n_ref19_Grid_control [P0 x0, .int .i32 x1] H =
  if (decide (x1 = 8)) = true then
  (optK (Heap.ld1 H ⟨x0, 10, none⟩) fun v1 =>
    asI .i64 v1 fun n2 =>
    optK (Heap.st1 H ⟨x0, 10, none⟩ (.int .i64 (if 0 < (IntKind.wrap .i64 (n2 - 1)) then (IntKind.wrap .i64 (n2 - 1)) else 0))) fun H3 =>
    optK (Heap.st1 H3 ⟨x0, 11, none⟩ (.bool false)) fun H4 =>
    some (.tuple #[], H4))
  else
  (if (decide (x1 = 9)) = true then
    (optK (Heap.ld1 H ⟨x0, 10, none⟩) fun v5 =>
      asI .i64 v5 fun n6 =>
      ref19_Grid_control_p101110100 d NN x0 (IntKind.wrap .i64 (n6 + 1)) H)
    else
    (if (decide (x1 = 10)) = true then
      (ref19_Grid_control_p1011111 d x0 x1 (decide (x1 = 10)) H)
      else
      (if (decide (x1 = 11)) = true then
        (ref19_Grid_control_p1011111 d x0 x1 (decide (x1 = 11)) H)
        else
        (ref19_Grid_control_p1011111 d x0 x1 (decide (x1 = 12)) H)))) := by kernel_rfl
end Go.Proofs.YtjmiehbiindjdaaGreatDoor.dec

namespace Go.Proofs.YtjmiehbiindjdaaGreatDoor.dec
open Go Go.Cm
/-! (*porthole/portholeref19.Grid).sgr -/
noncomputable def ref19_Grid_sgr_p10111111111111111 (d : Nat) (x1 : Int) (x4 : Addr) (x81 : Bool) (H : Heap) : Res := opq (run (X d) NN (cd 75 [1, 0, 1, 1, 1, 1, 1, 1, 1, 1, 1, 1, 1, 1, 1, 1, 1, 0]) (retK (rs 75)) [(0, (retK (rs 75)))] (retK (rs 75))) [(1, .int .i64 x1), (4, .pointer (some x4)), (81, .bool x81)] H
noncomputable def ref19_Grid_sgr_p1011111111111111101111 (d : Nat) (x1 : Int) (x4 : Addr) (x99 : Bool) (H : Heap) : Res := opq (run (X d) NN (cd 75 [1, 0, 1, 1, 1, 1, 1, 1, 1, 1, 1, 1, 1, 1, 1, 1, 1, 0, 1, 1, 1, 1, 0]) (retK (rs 75)) [(0, (retK (rs 75)))] (retK (rs 75))) [(1, .int .i64 x1), (4, .pointer (some x4)), (99, .bool x99)] H
theorem ref19_Grid_sgr_p10111111111111111_eq (d : Nat) (x1 : Int) (x4 : Addr) (x81 : Bool) (H : Heap) : ref19_Grid_sgr_p10111111111111111 d x1 x4 x81 H =
  if x81 = true then
  (optK (Heap.st1 H (ap x4 1) (.int .i64 (IntKind.wrap .i64 (x1 - 29)))) fun H1 =>
    some (.tuple #[], H1))
  else
  (if (decide (x1 = 39)) = true then
    (optK (Heap.st1 H (ap x4 1) (.int .i64 0)) fun H2 =>
      some (.tuple #[], H2))
    else
    (if (decide ((40 : Int) ≤ x1)) = true then
      (ref19_Grid_sgr_p1011111111111111101111 d x1 x4 (decide (x1 ≤ 47)) H)
      else
      (ref19_Grid_sgr_p1011111111111111101111 d x1 x4 false H))) := (opq_app _ _ _).trans <| by kernel_rfl
theorem ref19_Grid_sgr_p1011111111111111101111_eq (d : Nat) (x1 : Int) (x4 : Addr) (x99 : Bool) (H : Heap) : ref19_Grid_sgr_p1011111111111111101111 d x1 x4 x99 H =
  if x99 = true then
  (optK (Heap.st1 H (ap x4 2) (.int .i64 (IntKind.wrap .i64 (x1 - 39)))) fun H1 =>
    some (.tuple #[], H1))
  else
  (if (decide (x1 = 49)) = true then
    (optK (Heap.st1 H (ap x4 2) (.int .i64 0)) fun H2 =>
      some (.tuple #[], H2))
    else
    (some (.tuple #[], H))) := (opq_app _ _ _).trans <| by kernel_rfl
theorem ref19_Grid_sgr_eq (d : Nat) (x0 : Nat) (x1 : Int) (H : Heap) : X (d + 1) n_ref19_Grid_sgr [P0 x0, .int .i64 x1] H =
  if (decide (x1 = 0)) = true then
  (optK (Heap.stN H ⟨x0, 12, none⟩ [.int .i32 0, .int .i64 0, .int .i64 0, .int .i64 0]) fun H1 =>
    some (.tuple #[], H1))
  else
  (if (decide (x1 = 1)) = true then
    (optK (Heap.ld1 H ⟨x0, 15, none⟩) fun v2 =>
      asI .i64 v2 fun n3 =>
      optK (Heap.st1 H ⟨x0, 15, none⟩ (.int .i64 (bitsI .or .i64 n3 1))) fun H4 =>
      some (.tuple #[], H4))
    else
    (if (decide (x1 = 4)) = true then
      (optK (Heap.ld1 H ⟨x0, 15, none⟩) fun v5 =>
        asI .i64 v5 fun n6 =>
        optK (Heap.st1 H ⟨x0, 15, none⟩ (.int .i64 (bitsI .or .i64 n6 2))) fun H7 =>
        some (.tuple #[], H7))
      else
      (if (decide (x1 = 7)) = true then
        (optK (Heap.ld1 H ⟨x0, 15, none⟩) fun v8 =>
          asI .i64 v8 fun n9 =>
          optK (Heap.st1 H ⟨x0, 15, none⟩ (.int .i64 (bitsI .or .i64 n9 4))) fun H10 =>
          some (.tuple #[], H10))
        else
        (if (decide (x1 = 22)) = true then
          (optK (Heap.ld1 H ⟨x0, 15, none⟩) fun v11 =>
            asI .i64 v11 fun n12 =>
            optK (Heap.st1 H ⟨x0, 15, none⟩ (.int .i64 (bitsI .andNot .i64 n12 1))) fun H13 =>
            some (.tuple #[], H13))
          else
          (if (decide (x1 = 24)) = true then
            (optK (Heap.ld1 H ⟨x0, 15, none⟩) fun v14 =>
              asI .i64 v14 fun n15 =>
              optK (Heap.st1 H ⟨x0, 15, none⟩ (.int .i64 (bitsI .andNot .i64 n15 2))) fun H16 =>
              some (.tuple #[], H16))
            else
            (if (decide (x1 = 27)) = true then
              (optK (Heap.ld1 H ⟨x0, 15, none⟩) fun v17 =>
                asI .i64 v17 fun n18 =>
                optK (Heap.st1 H ⟨x0, 15, none⟩ (.int .i64 (bitsI .andNot .i64 n18 4))) fun H19 =>
                some (.tuple #[], H19))
              else
              (if (decide ((30 : Int) ≤ x1)) = true then
                (ref19_Grid_sgr_p10111111111111111 d x1 (⟨x0, 12, none⟩) (decide (x1 ≤ 37)) H)
                else
                (ref19_Grid_sgr_p10111111111111111 d x1 (⟨x0, 12, none⟩) false H)))))))) := by kernel_rfl
end Go.Proofs.YtjmiehbiindjdaaGreatDoor.dec

namespace Go.Proofs.YtjmiehbiindjdaaGreatDoor.dec
open Go Go.Cm
/-! (*porthole/portholeref19.Grid).esc -/
theorem ref19_Grid_esc_eq (d : Nat) (x0 : Nat) (x1 : Int) (H : Heap) : X (d + 1) n_ref19_Grid_esc [P0 x0, .int .i32 x1] H =
  if (decide (x1 = 68)) = true then
  (callK (X d n_ref19_Grid_index [P0 x0] H) fun _ H2 =>
    some (.tuple #[], H2))
  else
  (if (decide (x1 = 69)) = true then
    (optK (Heap.st1 H ⟨x0, 10, none⟩ (.int .i64 0)) fun H3 =>
      callK (X d n_ref19_Grid_index [P0 x0] H3) fun _ H5 =>
      some (.tuple #[], H5))
    else
    (if (decide (x1 = 77)) = true then
      (optK (Heap.st1 H ⟨x0, 11, none⟩ (.bool false)) fun H6 =>
        optK (Heap.ld1 H6 ⟨x0, 9, none⟩) fun v7 =>
        asI .i64 v7 fun n8 =>
        optK (Heap.ld1 H6 ⟨x0, 23, none⟩) fun v9 =>
        asI .i64 v9 fun n10 =>
        if (decide (n8 = n10)) = true then
        (optK (Heap.ld1 H6 ⟨x0, 23, none⟩) fun v11 =>
          asI .i64 v11 fun n12 =>
          callK (X d n_ref19_Grid_down [P0 x0, .int .i64 n12, .int .i64 1] H6) fun _ H14 =>
          some (.tuple #[], H14))
        else
        (optK (Heap.ld1 H6 ⟨x0, 9, none⟩) fun v15 =>
          asI .i64 v15 fun n16 =>
          optK (Heap.st1 H6 ⟨x0, 9, none⟩ (.int .i64 (if 0 < (IntKind.wrap .i64 (n16 - 1)) then (IntKind.wrap .i64 (n16 - 1)) else 0))) fun H17 =>
          some (.tuple #[], H17)))
      else
      (if (decide (x1 = 55)) = true then
        (optK (ldA H ⟨x0, 9, none⟩ 7) fun v18 =>
          asA v18 fun c19 =>
          effK (.store 7) [.pointer (some ⟨x0, 16, none⟩), .agg c19] H fun _ H21 =>
          some (.tuple #[], H21))
        else
        (if (decide (x1 = 56)) = true then
          (optK (ldA H ⟨x0, 16, none⟩ 7) fun v22 =>
            asA v22 fun c23 =>
            effK (.store 7) [.pointer (some ⟨x0, 9, none⟩), .agg c23] H fun _ H25 =>
            optK (Heap.ld1 H25 ⟨x0, 9, none⟩) fun v26 =>
            asI .i64 v26 fun n27 =>
            optK (Heap.ld1 H25 ⟨x0, 6, none⟩) fun v28 =>
            asI .i64 v28 fun n29 =>
            optK (Heap.st1 H25 ⟨x0, 9, none⟩ (.int .i64 (if (IntKind.wrap .i64 (n29 - 1)) < n27 then (IntKind.wrap .i64 (n29 - 1)) else n27))) fun H30 =>
            optK (Heap.ld1 H30 ⟨x0, 10, none⟩) fun v31 =>
            asI .i64 v31 fun n32 =>
            optK (Heap.ld1 H30 ⟨x0, 7, none⟩) fun v33 =>
            asI .i64 v33 fun n34 =>
            optK (Heap.st1 H30 ⟨x0, 10, none⟩ (.int .i64 (if (IntKind.wrap .i64 (n34 - 1)) < n32 then (IntKind.wrap .i64 (n34 - 1)) else n32))) fun H35 =>
            some (.tuple #[], H35))
          else
          (if (decide (x1 = 99)) = true then
            (optK (Heap.ld1 H ⟨x0, 38, none⟩) fun v36 =>
              asSL v36 fun l37 =>
              callK (X d n_ref19_Grid_reset [P0 x0] H) fun _ H39 =>
              optK (Heap.st1 H39 ⟨x0, 38, none⟩ l37.v) fun H40 =>
              some (.tuple #[], H40))
            else
            (if (decide (x1 = 72)) = true then
              (newK H (.cells [] t_bool false 0 false) fun p41 H42 =>
                optK (Heap.ld1 H42 ⟨x0, 28, none⟩) fun v43 =>
                asSL v43 fun l44 =>
                appendK t_bool 1 1 false (.slice (some ⟨p41, 0, none⟩) 0 0) l44.v H42 fun v45 H46 =>
                asSL v45 fun l47 =>
                optK (Heap.ld1 H46 ⟨x0, 10, none⟩) fun v48 =>
                asI .i64 v48 fun n49 =>
                optK l47.a fun a50 =>
                if 0 ≤ n49 ∧ n49 < (l47.n : Int) then
                optK (Heap.st1 H46 (ap a50 (((n49).toNat) * 1)) (.bool true)) fun H51 =>
                optK (Heap.st1 H51 ⟨x0, 28, none⟩ l47.v) fun H52 =>
                some (.tuple #[], H52)
                else none)
              else
              (some (.tuple #[], H)))))))) := by kernel_rfl
end Go.Proofs.YtjmiehbiindjdaaGreatDoor.dec

namespace Go.Proofs.YtjmiehbiindjdaaGreatDoor.dec
open Go Go.Cm
/-! (*porthole/portholeref19.Grid).reset -/
noncomputable def ref19_Grid_reset_l11111111111110 (d : Nat) (m0 : Nat) : Kt := iter (fun k => run (X d) NN (cd 23 [1, 1, 1, 1, 1, 1, 1, 1, 1, 1, 1, 1, 1, 0, 0]) (backK [(0, .ptr), (2, .int .i64)] (opq k)) [(0, (retK (rs 23)))] (retK (rs 23))) m0
noncomputable def ref19_Grid_reset_p11111111111110 (d : Nat) (m0 : Nat) (x0 : Nat) (x2 : Int) (H : Heap) : Res := opq (ref19_Grid_reset_l11111111111110 d m0) [(0, P0 x0), (2, .int .i64 x2)] H
theorem ref19_Grid_reset_p11111111111110_s (d : Nat) (m0 : Nat) (x0 : Nat) (x2 : Int) (H : Heap) : ref19_Grid_reset_p11111111111110 d (m0 + 1) x0 x2 H =
  optK (Heap.ld1 H ⟨x0, 7, none⟩) fun v1 =>
  asI .i64 v1 fun n2 =>
  if (decide (x2 < n2)) = true then
  (optK (Heap.ld1 H ⟨x0, 28, none⟩) fun v3 =>
    asSL v3 fun l4 =>
    optK l4.a fun a5 =>
    if 0 ≤ x2 ∧ x2 < (l4.n : Int) then
    optK (Heap.st1 H (ap a5 (((x2).toNat) * 1)) (.bool true)) fun H6 =>
    ref19_Grid_reset_p11111111111110 d m0 x0 (IntKind.wrap .i64 (x2 + 8)) H6
    else none)
  else
  (some (.tuple #[], H)) := (opq_app _ _ _).trans <| by kernel_rfl
theorem ref19_Grid_reset_eq (d : Nat) (x0 : Nat) (H : Heap) : X (d + 1) n_ref19_Grid_reset [P0 x0] H =
  optK (Heap.ld1 H ⟨x0, 6, none⟩) fun v1 =>
  asI .i64 v1 fun n2 =>
  optK (Heap.ld1 H ⟨x0, 7, none⟩) fun v3 =>
  asI .i64 v3 fun n4 =>
  callK (X d n_ref19_sheet [.int .i64 n2, .int .i64 n4] H) fun v5 H6 =>
  asSL v5 fun l7 =>
  optK (Heap.st1 H6 ⟨x0, 8, none⟩ l7.v) fun H8 =>
  optK (Heap.stN H8 ⟨x0, 9, none⟩ [.int .i64 0, .int .i64 0, .bool false, .int .i32 0, .int .i64 0, .int .i64 0, .int .i64 0]) fun H9 =>
  optK (Heap.stN H9 ⟨x0, 16, none⟩ [.int .i64 0, .int .i64 0, .bool false, .int .i32 0, .int .i64 0, .int .i64 0, .int .i64 0]) fun H10 =>
  optK (Heap.st1 H10 ⟨x0, 23, none⟩ (.int .i64 0)) fun H11 =>
  optK (Heap.ld1 H11 ⟨x0, 6, none⟩) fun v12 =>
  asI .i64 v12 fun n13 =>
  optK (Heap.st1 H11 ⟨x0, 24, none⟩ (.int .i64 (IntKind.wrap .i64 (n13 - 1)))) fun H14 =>
  optK (Heap.st1 H14 ⟨x0, 25, none⟩ (.bool true)) fun H15 =>
  optK (Heap.st1 H15 ⟨x0, 26, none⟩ (.bool false)) fun H16 =>
  optK (Heap.st1 H16 ⟨x0, 27, none⟩ (.bool false)) fun H17 =>
  optK (Heap.st1 H17 ⟨x0, 29, none⟩ (.bool false)) fun H18 =>
  optK (Heap.st1 H18 ⟨x0, 30, none⟩ (.slice none 0 0)) fun H19 =>
  optK (Heap.stN H19 ⟨x0, 31, none⟩ [.int .i64 0, .int .i64 0, .bool false, .int .i32 0, .int .i64 0, .int .i64 0, .int .i64 0]) fun H20 =>
  optK (Heap.ld1 H20 ⟨x0, 7, none⟩) fun v21 =>
  asI .i64 v21 fun n22 =>
  effK (.mkSl t_bool 1 1 [.bool false]) [.int .i64 n22, .int .i64 n22] H20 fun v23 H24 =>
  asSL v23 fun l25 =>
  optK (Heap.st1 H24 ⟨x0, 28, none⟩ l25.v) fun H26 =>
  ref19_Grid_reset_p11111111111110 d NN x0 8 H26 := by kernel_rfl
end Go.Proofs.YtjmiehbiindjdaaGreatDoor.dec

namespace Go.Proofs.YtjmiehbiindjdaaGreatDoor.dec
open Go Go.Cm
/-! porthole/portholeref19.New -/
theorem ref19_New_eq (d : Nat) (x0 : Int) (x1 : Int) (H : Heap) : X (d + 1) n_ref19_New [.int .i64 x0, .int .i64 x1] H =
  newK H (.cells [.slice none 0 0, .int .i64 0, .slice none 0 0, .bool false, .bool false, .bool false, .int .i64 x0, .int .i64 x1, .slice none 0 0, .int .i64 0, .int .i64 0, .bool false, .int .i32 0, .int .i64 0, .int .i64 0, .int .i64 0, .int .i64 0, .int .i64 0, .bool false, .int .i32 0, .int .i64 0, .int .i64 0, .int .i64 0, .int .i64 0, .int .i64 0, .bool false, .bool false, .bool false, .slice none 0 0, .bool false, .slice none 0 0, .int .i64 0, .int .i64 0, .bool false, .int .i32 0, .int .i64 0, .int .i64 0, .int .i64 0, .slice none 0 0] t_ref19_Grid false 0 false) fun p1 H2 =>
  callK (X d n_ref19_Grid_reset [P0 p1] H2) fun _ H4 =>
  some (P0 p1, H4) := by kernel_rfl
end Go.Proofs.YtjmiehbiindjdaaGreatDoor.dec

namespace Go.Proofs.YtjmiehbiindjdaaGreatDoor.dec
open Go Go.Cm
/-! (*porthole/portholeref19.Grid).modes -/
noncomputable def ref19_Grid_modes_k11 (d : Nat) : Kt := run (X d) NN (cd 34 [1, 1]) (retK (rs 34)) [] (retK (rs 34))
noncomputable def ref19_Grid_modes_l11110 (d : Nat) (m0 : Nat) : Kt := iter (fun k => run (X d) NN (cd 34 [1, 1, 1, 1, 0, 0]) (backK [(0, .ptr), (3, .any), (4, .bool), (5, .int .i64)] (opq k)) [(0, (retK (rs 34)))] (retK (rs 34))) m0
noncomputable def ref19_Grid_modes_k11110011 (d : Nat) (m0 : Nat) : Kt := run (X d) NN (cd 34 [1, 1, 1, 1, 0, 0, 1, 1]) (backK [(0, .ptr), (3, .any), (4, .bool), (5, .int .i64)] (opq (ref19_Grid_modes_l11110 d m0))) [(0, (retK (rs 34)))] (retK (rs 34))
noncomputable def ref19_Grid_modes_k111100100101111101 (d : Nat) (m0 : Nat) : Kt := run (X d) NN (cd 34 [1, 1, 1, 1, 0, 0, 1, 0, 0, 1, 0, 1, 1, 1, 1, 1, 0, 1]) (ref19_Grid_modes_k11110011 d m0) [(2, (ref19_Grid_modes_k11110011 d m0)), (1, (ref19_Grid_modes_k11110011 d m0)), (0, (retK (rs 34)))] (retK (rs 34))
noncomputable def ref19_Grid_modes_k11110010010111110101 (d : Nat) (m0 : Nat) : Kt := run (X d) NN (cd 34 [1, 1, 1, 1, 0, 0, 1, 0, 0, 1, 0, 1, 1, 1, 1, 1, 0, 1, 0, 1]) (ref19_Grid_modes_k11110011 d m0) [(2, (ref19_Grid_modes_k11110011 d m0)), (1, (ref19_Grid_modes_k11110011 d m0)), (0, (retK (rs 34)))] (retK (rs 34))
noncomputable def ref19_Grid_modes_p101 (d : Nat) (x0 : Nat) (x3 : Value) (x13 : Bool) (H : Heap) : Res := opq (run (X d) NN (cd 34 [1, 0, 1, 0]) (ref19_Grid_modes_k11 d) [] (retK (rs 34))) [(0, P0 x0), (3, x3), (13, .bool x13)] H
noncomputable def ref19_Grid_modes_p11110 (d : Nat) (m0 : Nat) (x0 : Nat) (x3 : Value) (x4 : Bool) (x5 : Int) (H : Heap) : Res := opq (ref19_Grid_modes_l11110 d m0) [(0, P0 x0), (3, x3), (4, .bool x4), (5, .int .i64 x5)] H
noncomputable def ref19_Grid_modes_p11110011 (d : Nat) (m0 : Nat) (x0 : Nat) (x3 : Value) (x4 : Bool) (x5 : Int) (H : Heap) : Res := opq (run (X d) NN (cd 34 [1, 1, 1, 1, 0, 0, 1, 1, 0]) (backK [(0, .ptr), (3, .any), (4, .bool), (5, .int .i64)] (opq (ref19_Grid_modes_l11110 d m0))) [(0, (retK (rs 34)))] (retK (rs 34))) [(0, P0 x0), (3, x3), (4, .bool x4), (5, .int .i64 x5)] H
noncomputable def ref19_Grid_modes_p1111001001011111001 (d : Nat) (m0 : Nat) (x0 : Nat) (x3 : Value) (x4 : Bool) (x5 : Int) (x63 : Bool) (H : Heap) : Res := opq (run (X d) NN (cd 34 [1, 1, 1, 1, 0, 0, 1, 0, 0, 1, 0, 1, 1, 1, 1, 1, 0, 0, 1, 0]) (ref19_Grid_modes_k111100100101111101 d m0) [(2, (ref19_Grid_modes_k11110011 d m0)), (1, (ref19_Grid_modes_k11110011 d m0)), (0, (retK (rs 34)))] (retK (rs 34))) [(0, P0 x0), (3, x3), (4, .bool x4), (5, .int .i64 x5), (63, .bool x63)] H
noncomputable def ref19_Grid_modes_p111100100101111101 (d : Nat) (m0 : Nat) (x0 : Nat) (x3 : Value) (x4 : Bool) (x5 : Int) (H : Heap) : Res := opq (run (X d) NN (cd 34 [1, 1, 1, 1, 0, 0, 1, 0, 0, 1, 0, 1, 1, 1, 1, 1, 0, 1, 0]) (ref19_Grid_modes_k11110011 d m0) [(2, (ref19_Grid_modes_k11110011 d m0)), (1, (ref19_Grid_modes_k11110011 d m0)), (0, (retK (rs 34)))] (retK (rs 34))) [(0, P0 x0), (3, x3), (4, .bool x4), (5, .int .i64 x5)] H
noncomputable def ref19_Grid_modes_p111100100101111101001 (d : Nat) (m0 : Nat) (x0 : Nat) (x3 : Value) (x4 : Bool) (x5 : Int) (x97 : Bool) (H : Heap) : Res := opq (run (X d) NN (cd 34 [1, 1, 1, 1, 0, 0, 1, 0, 0, 1, 0, 1, 1, 1, 1, 1, 0, 1, 0, 0, 1, 0]) (ref19_Grid_modes_k11110010010111110101 d m0) [(2, (ref19_Grid_modes_k11110011 d m0)), (1, (ref19_Grid_modes_k11110011 d m0)), (0, (retK (rs 34)))] (retK (rs 34))) [(0, P0 x0), (3, x3), (4, .bool x4), (5, .int .i64 x5), (97, .bool x97)] H
noncomputable def ref19_Grid_modes_p11110010010111110101 (d : Nat) (m0 : Nat) (x0 : Nat) (x3 : Value) (x4 : Bool) (x5 : Int) (H : Heap) : Res := opq (run (X d) NN (cd 34 [1, 1, 1, 1, 0, 0, 1, 0, 0, 1, 0, 1, 1, 1, 1, 1, 0, 1, 0, 1, 0]) (ref19_Grid_modes_k11110011 d m0) [(2, (ref19_Grid_modes_k11110011 d m0)), (1, (ref19_Grid_modes_k11110011 d m0)), (0, (retK (rs 34)))] (retK (rs 34))) [(0, P0 x0), (3, x3), (4, .bool x4), (5, .int .i64 x5)] H
theorem ref19_Grid_modes_p101_eq (d : Nat) (x0 : Nat) (x3 : Value) (x13 : Bool) (H : Heap) : ref19_Grid_modes_p101 d x0 x3 x13 H =
  if x13 = true then
  (some (.tuple #[], H))
  else
  (asP x3 fun o1 =>
    optK o1 fun a2 =>
    optK (Heap.ld1 H (ap a2 1)) fun v3 =>
    asI .i32 v3 fun n4 =>
    ref19_Grid_modes_p11110 d NN x0 x3 (decide (n4 = 104)) 0 H) := (opq_app _ _ _).trans <| by kernel_rfl
theorem ref19_Grid_modes_p11110_s (d : Nat) (m0 : Nat) (x0 : Nat) (x3 : Value) (x4 : Bool) (x5 : Int) (H : Heap) : ref19_Grid_modes_p11110 d (m0 + 1) x0 x3 x4 x5 H =
  asP x3 fun o1 =>
  optK o1 fun a2 =>
  optK (Heap.ld1 H (ap a2 3)) fun v3 =>
  asSL v3 fun l4 =>
  if (decide (x5 < (l4.n : Int))) = true then
  (asP x3 fun o5 =>
    optK o5 fun a6 =>
    optK (Heap.ld1 H (ap a6 3)) fun v7 =>
    asSL v7 fun l8 =>
    optK l8.a fun a9 =>
    if 0 ≤ x5 ∧ x5 < (l8.n : Int) then
    optK (Heap.ld1 H (ap a9 (((x5).toNat) * 1))) fun v10 =>
    asI .i64 v10 fun n11 =>
    if (decide (n11 = 7)) = true then
    (optK (Heap.st1 H ⟨x0, 25, none⟩ (.bool x4)) fun H12 =>
      optK (Heap.ld1 H12 ⟨x0, 11, none⟩) fun v13 =>
      asB v13 fun b14 =>
      if b14 = true then
      (optK (Heap.st1 H12 ⟨x0, 11, none⟩ (.bool x4)) fun H15 =>
        ref19_Grid_modes_p11110011 d m0 x0 x3 x4 x5 H15)
      else
      (optK (Heap.st1 H12 ⟨x0, 11, none⟩ (.bool false)) fun H16 =>
        ref19_Grid_modes_p11110011 d m0 x0 x3 x4 x5 H16))
    else
    (if (decide (n11 = 25)) = true then
      (optK (Heap.st1 H ⟨x0, 27, none⟩ (.bool (!x4))) fun H17 =>
        ref19_Grid_modes_p11110011 d m0 x0 x3 x4 x5 H17)
      else
      (if (decide (n11 = 1049)) = true then
        (if x4 = true then
          (optK (Heap.ld1 H ⟨x0, 29, none⟩) fun v18 =>
            asB v18 fun b19 =>
            ref19_Grid_modes_p1111001001011111001 d m0 x0 x3 x4 x5 (!b19) H)
          else
          (ref19_Grid_modes_p1111001001011111001 d m0 x0 x3 x4 x5 false H))
        else
        (ref19_Grid_modes_p11110011 d m0 x0 x3 x4 x5 H)))
    else none)
  else
  (some (.tuple #[], H)) := (opq_app _ _ _).trans <| by kernel_rfl
theorem ref19_Grid_modes_p11110011_eq (d : Nat) (m0 : Nat) (x0 : Nat) (x3 : Value) (x4 : Bool) (x5 : Int) (H : Heap) : ref19_Grid_modes_p11110011 d m0 x0 x3 x4 x5 H =
  ref19_Grid_modes_p11110 d m0 x0 x3 x4 (IntKind.wrap .i64 (x5 + 1)) H := (opq_app _ _ _).trans <| by kernel_rfl
theorem ref19_Grid_modes_p1111001001011111001_eq (d : Nat) (m0 : Nat) (x0 : Nat) (x3 : Value) (x4 : Bool) (x5 : Int) (x63 : Bool) (H : Heap) : ref19_Grid_modes_p1111001001011111001 d m0 x0 x3 x4 x5 x63 H =
  if x63 = true then
  (optK (Heap.ld1 H ⟨x0, 8, none⟩) fun v1 =>
    asSL v1 fun l2 =>
    optK (Heap.st1 H ⟨x0, 30, none⟩ l2.v) fun H3 =>
    optK (ldA H3 ⟨x0, 9, none⟩ 7) fun v4 =>
    asA v4 fun c5 =>
    effK (.store 7) [.pointer (some ⟨x0, 31, none⟩), .agg c5] H3 fun _ H7 =>
    optK (Heap.ld1 H7 ⟨x0, 6, none⟩) fun v8 =>
    asI .i64 v8 fun n9 =>
    optK (Heap.ld1 H7 ⟨x0, 7, none⟩) fun v10 =>
    asI .i64 v10 fun n11 =>
    callK (X d n_ref19_sheet [.int .i64 n9, .int .i64 n11] H7) fun v12 H13 =>
    asSL v12 fun l14 =>
    optK (Heap.st1 H13 ⟨x0, 8, none⟩ l14.v) fun H15 =>
    ref19_Grid_modes_p111100100101111101 d m0 x0 x3 x4 x5 H15)
  else
  (ref19_Grid_modes_p111100100101111101 d m0 x0 x3 x4 x5 H) := (opq_app _ _ _).trans <| by kernel_rfl
theorem ref19_Grid_modes_p111100100101111101_eq (d : Nat) (m0 : Nat) (x0 : Nat) (x3 : Value) (x4 : Bool) (x5 : Int) (H : Heap) : ref19_Grid_modes_p111100100101111101 d m0 x0 x3 x4 x5 H =
  if (!x4) = true then
  (optK (Heap.ld1 H ⟨x0, 29, none⟩) fun v1 =>
    asB v1 fun b2 =>
    ref19_Grid_modes_p111100100101111101001 d m0 x0 x3 x4 x5 b2 H)
  else
  (ref19_Grid_modes_p111100100101111101001 d m0 x0 x3 x4 x5 false H) := (opq_app _ _ _).trans <| by kernel_rfl
theorem ref19_Grid_modes_p111100100101111101001_eq (d : Nat) (m0 : Nat) (x0 : Nat) (x3 : Value) (x4 : Bool) (x5 : Int) (x97 : Bool) (H : Heap) : ref19_Grid_modes_p111100100101111101001 d m0 x0 x3 x4 x5 x97 H =
  if x97 = true then
  (optK (Heap.ld1 H ⟨x0, 30, none⟩) fun v1 =>
    asSL v1 fun l2 =>
    optK (Heap.st1 H ⟨x0, 8, none⟩ l2.v) fun H3 =>
    optK (ldA H3 ⟨x0, 31, none⟩ 7) fun v4 =>
    asA v4 fun c5 =>
    effK (.store 7) [.pointer (some ⟨x0, 9, none⟩), .agg c5] H3 fun _ H7 =>
    optK (Heap.st1 H7 ⟨x0, 30, none⟩ (.slice none 0 0)) fun H8 =>
    ref19_Grid_modes_p11110010010111110101 d m0 x0 x3 x4 x5 H8)
  else
  (ref19_Grid_modes_p11110010010111110101 d m0 x0 x3 x4 x5 H) := (opq_app _ _ _).trans <| by kernel_rfl
theorem ref19_Grid_modes_p11110010010111110101_eq (d : Nat) (m0 : Nat) (x0 : Nat) (x3 : Value) (x4 : Bool) (x5 : Int) (H : Heap) : ref19_Grid_modes_p11110010010111110101 d m0 x0 x3 x4 x5 H =
  optK (Heap.st1 H ⟨x0, 29, none⟩ (.bool x4)) fun H1 =>
  ref19_Grid_modes_p11110011 d m0 x0 x3 x4 x5 H1 := (opq_app _ _ _).trans <| by kernel_rfl
theorem ref19_Grid_modes_eq (d : Nat) (x0 : Nat) (x1 : Array Value) (H : Heap) : X (d + 1) n_ref19_Grid_modes [P0 x0, .agg x1] H =
  effK (.box t_vt_Act) [.agg x1] H fun v1 H2 =>
  asP v1 fun o3 =>
  optK o3 fun a4 =>
  optK (Heap.ld1 H2 (ap a4 1)) fun v5 =>
  asI .i32 v5 fun n6 =>
  if (!decide (n6 = 104)) = true then
  (asP v1 fun o7 =>
    optK o7 fun a8 =>
    optK (Heap.ld1 H2 (ap a8 1)) fun v9 =>
    asI .i32 v9 fun n10 =>
    ref19_Grid_modes_p101 d x0 v1 (!decide (n10 = 108)) H2)
  else
  (ref19_Grid_modes_p101 d x0 v1 false H2) := by kernel_rfl
end Go.Proofs.YtjmiehbiindjdaaGreatDoor.dec

namespace Go.Proofs.YtjmiehbiindjdaaGreatDoor.dec
open Go Go.Cm
/-! (*porthole/portholeref19.Grid).wipe -/
noncomputable def ref19_Grid_wipe_l10 (d : Nat) (m0 : Nat) : Kt := iter (fun k => run (X d) NN (cd 72 [1, 0, 0]) (backK [(0, .ptr), (2, .int .i64), (6, .int .i64)] (opq k)) [(0, (retK (rs 72)))] (retK (rs 72))) m0
noncomputable def ref19_Grid_wipe_k1001 (d : Nat) (m0 : Nat) : Kt := run (X d) NN (cd 72 [1, 0, 0, 1]) (backK [(0, .ptr), (2, .int .i64), (6, .int .i64)] (opq (ref19_Grid_wipe_l10 d m0))) [(0, (retK (rs 72)))] (retK (rs 72))
noncomputable def ref19_Grid_wipe_p10 (d : Nat) (m0 : Nat) (x0 : Nat) (x2 : Int) (x6 : Int) (H : Heap) : Res := opq (ref19_Grid_wipe_l10 d m0) [(0, P0 x0), (2, .int .i64 x2), (6, .int .i64 x6)] H
noncomputable def ref19_Grid_wipe_p10001 (d : Nat) (m0 : Nat) (x0 : Nat) (x2 : Int) (x6 : Int) (x25 : Bool) (H : Heap) : Res := opq (run (X d) NN (cd 72 [1, 0, 0, 0, 1, 0]) (ref19_Grid_wipe_k1001 d m0) [(0, (retK (rs 72)))] (retK (rs 72))) [(0, P0 x0), (2, .int .i64 x2), (6, .int .i64 x6), (25, .bool x25)] H
theorem ref19_Grid_wipe_p10_s (d : Nat) (m0 : Nat) (x0 : Nat) (x2 : Int) (x6 : Int) (H : Heap) : ref19_Grid_wipe_p10 d (m0 + 1) x0 x2 x6 H =
  if (decide (x6 < x2)) = true then
  (optK (Heap.ld1 H ⟨x0, 6, none⟩) fun v1 =>
    asI .i64 v1 fun n2 =>
    optK (Heap.ld1 H ⟨x0, 7, none⟩) fun v3 =>
    asI .i64 v3 fun n4 =>
    ref19_Grid_wipe_p10001 d m0 x0 x2 x6 (decide (x6 < IntKind.wrap .i64 (n2 * n4))) H)
  else
  (ref19_Grid_wipe_p10001 d m0 x0 x2 x6 false H) := (opq_app _ _ _).trans <| by kernel_rfl
theorem ref19_Grid_wipe_p10001_eq (d : Nat) (m0 : Nat) (x0 : Nat) (x2 : Int) (x6 : Int) (x25 : Bool) (H : Heap) : ref19_Grid_wipe_p10001 d m0 x0 x2 x6 x25 H =
  if x25 = true then
  (newK H (.cells [] t_api_Cell false 0 false) fun p1 H2 =>
    optK (Heap.ld1 H2 ⟨x0, 8, none⟩) fun v3 =>
    asSL v3 fun l4 =>
    optK (Heap.ld1 H2 ⟨x0, 7, none⟩) fun v5 =>
    asI .i64 v5 fun n6 =>
    if n6 = 0 then none else
    optK l4.a fun a7 =>
    if 0 ≤ IntKind.wrap .i64 (Int.tdiv x6 n6) ∧ IntKind.wrap .i64 (Int.tdiv x6 n6) < (l4.n : Int) then
    optK (Heap.ld1 H2 (ap a7 (((IntKind.wrap .i64 (Int.tdiv x6 n6)).toNat) * 1))) fun v8 =>
    asSL v8 fun l9 =>
    appendK t_api_Cell 4 32 false (.slice (some ⟨p1, 0, none⟩) 0 0) l9.v H2 fun v10 H11 =>
    asSL v10 fun l12 =>
    chk (rdsOk [H, H2, H11] [⟨.load 1 false, [.pointer (some (ap a7 (((IntKind.wrap .i64 (Int.tdiv x6 n6)).toNat) * 1)))], v8, 0, 1⟩, ⟨.load 1 false, [.pointer (some ⟨x0, 7, none⟩)], v5, 0, 1⟩, ⟨.load 1 false, [.pointer (some ⟨x0, 8, none⟩)], v3, 0, 1⟩]) (
      optK (Heap.ld1 H11 ⟨x0, 7, none⟩) fun v13 =>
      asI .i64 v13 fun n14 =>
      if n14 = 0 then none else
      callK (X d n_ref19_blank [] H11) fun v15 H16 =>
      asA v15 fun c17 =>
      optK l12.a fun a18 =>
      if 0 ≤ Int.tmod x6 n14 ∧ Int.tmod x6 n14 < (l12.n : Int) then
      effK (.store 4) [.pointer (some (ap a18 (((Int.tmod x6 n14).toNat) * 4))), .agg c17] H16 fun _ H20 =>
      chk (rdsOk [H11, H16, H20] [⟨.load 1 false, [.pointer (some ⟨x0, 7, none⟩)], v13, 0, 1⟩]) (
        optK (Heap.ld1 H20 ⟨x0, 8, none⟩) fun v21 =>
        asSL v21 fun l22 =>
        optK (Heap.ld1 H20 ⟨x0, 7, none⟩) fun v23 =>
        asI .i64 v23 fun n24 =>
        if n24 = 0 then none else
        optK l22.a fun a25 =>
        if 0 ≤ IntKind.wrap .i64 (Int.tdiv x6 n24) ∧ IntKind.wrap .i64 (Int.tdiv x6 n24) < (l22.n : Int) then
        optK (Heap.st1 H20 (ap a25 (((IntKind.wrap .i64 (Int.tdiv x6 n24)).toNat) * 1)) l12.v) fun H26 =>
        ref19_Grid_wipe_p10 d m0 x0 x2 (IntKind.wrap .i64 (x6 + 1)) H26
        else none)
      else none)
    else none)
  else
  (some (.tuple #[], H)) := (opq_app _ _ _).trans <| by kernel_rfl
theorem ref19_Grid_wipe_eq (d : Nat) (x0 : Nat) (x1 : Int) (x2 : Int) (H : Heap) : X (d + 1) n_ref19_Grid_wipe [P0 x0, .int .i64 x1, .int .i64 x2] H =
  ref19_Grid_wipe_p10 d NN x0 x2 (if x1 < 0 then 0 else x1) H := by kernel_rfl
end Go.Proofs.YtjmiehbiindjdaaGreatDoor.dec

namespace Go.Proofs.YtjmiehbiindjdaaGreatDoor.dec
open Go Go.Cm
/-! (*porthole/grid.Grid).csi -/
noncomputable def grid_Grid_csi_l11110101101111111111011010 (d : Nat) (m0 : Nat) : Kt := iter (fun k => run (X d) NN (cd 30 [1, 1, 1, 1, 0, 1, 0, 1, 1, 0, 1, 1, 1, 1, 1, 1, 1, 1, 1, 1, 0, 1, 1, 0, 1, 0, 0]) (backK [(0, .ptr), (127, .sl), (128, .int .i64), (129, .int .i64)] (opq k)) [(1, (retK (rs 30))), (0, (retK (rs 30)))] (retK (rs 30))) m0
noncomputable def grid_Grid_csi_p111101 (d : Nat) (x0 : Nat) (x3 : Value) (x4 : Int) (x5 : Int) (x6 : Int) (x24 : Int) (x29 : Bool) (H : Heap) : Res := opq (run (X d) NN (cd 30 [1, 1, 1, 1, 0, 1, 0]) (retK (rs 30)) [(0, (retK (rs 30)))] (retK (rs 30))) [(0, P0 x0), (3, x3), (4, .int .i64 x4), (5, .int .i64 x5), (6, .int .i64 x6), (24, .int .i32 x24), (29, .bool x29)] H
noncomputable def grid_Grid_csi_p1111010011 (d : Nat) (x0 : Nat) (x3 : Value) (x4 : Int) (x5 : Int) (x6 : Int) (x7 : Int) (H : Heap) : Res := opq (run (X d) NN (cd 30 [1, 1, 1, 1, 0, 1, 0, 0, 1, 1, 0]) (retK (rs 30)) [(0, (retK (rs 30)))] (retK (rs 30))) [(0, P0 x0), (3, x3), (4, .int .i64 x4), (5, .int .i64 x5), (6, .int .i64 x6), (7, .int .i64 x7)] H
noncomputable def grid_Grid_csi_p111101011 (d : Nat) (x0 : Nat) (x3 : Value) (x4 : Int) (x5 : Int) (x6 : Int) (x24 : Int) (x54 : Bool) (H : Heap) : Res := opq (run (X d) NN (cd 30 [1, 1, 1, 1, 0, 1, 0, 1, 1, 0]) (retK (rs 30)) [(0, (retK (rs 30)))] (retK (rs 30))) [(0, P0 x0), (3, x3), (4, .int .i64 x4), (5, .int .i64 x5), (6, .int .i64 x6), (24, .int .i32 x24), (54, .bool x54)] H
noncomputable def grid_Grid_csi_p1111010011011 (d : Nat) (x0 : Nat) (x5 : Int) (x6 : Int) (H : Heap) : Res := opq (run (X d) NN (cd 30 [1, 1, 1, 1, 0, 1, 0, 0, 1, 1, 0, 1, 1, 0]) (retK (rs 30)) [(0, (retK (rs 30)))] (retK (rs 30))) [(0, P0 x0), (5, .int .i64 x5), (6, .int .i64 x6)] H
noncomputable def grid_Grid_csi_p1111010110011 (d : Nat) (x0 : Nat) (x3 : Value) (x4 : Int) (x5 : Int) (x6 : Int) (x8 : Int) (H : Heap) : Res := opq (run (X d) NN (cd 30 [1, 1, 1, 1, 0, 1, 0, 1, 1, 0, 0, 1, 1, 0]) (retK (rs 30)) [(0, (retK (rs 30)))] (retK (rs 30))) [(0, P0 x0), (3, x3), (4, .int .i64 x4), (5, .int .i64 x5), (6, .int .i64 x6), (8, .int .i64 x8)] H
noncomputable def grid_Grid_csi_p11110101101111111111 (d : Nat) (x0 : Nat) (x3 : Value) (x4 : Int) (x24 : Int) (x114 : Bool) (H : Heap) : Res := opq (run (X d) NN (cd 30 [1, 1, 1, 1, 0, 1, 0, 1, 1, 0, 1, 1, 1, 1, 1, 1, 1, 1, 1, 1, 0]) (retK (rs 30)) [(0, (retK (rs 30)))] (retK (rs 30))) [(0, P0 x0), (3, x3), (4, .int .i64 x4), (24, .int .i32 x24), (114, .bool x114)] H
noncomputable def grid_Grid_csi_p1111010110011011 (d : Nat) (x0 : Nat) (x5 : Int) (x6 : Int) (H : Heap) : Res := opq (run (X d) NN (cd 30 [1, 1, 1, 1, 0, 1, 0, 1, 1, 0, 0, 1, 1, 0, 1, 1, 0]) (retK (rs 30)) [(0, (retK (rs 30)))] (retK (rs 30))) [(0, P0 x0), (5, .int .i64 x5), (6, .int .i64 x6)] H
noncomputable def grid_Grid_csi_p11110101101111111111011010 (d : Nat) (m0 : Nat) (x0 : Nat) (x127 : Sl) (x128 : Int) (x129 : Int) (H : Heap) : Res := opq (grid_Grid_csi_l11110101101111111111011010 d m0) [(0, P0 x0), (127, x127.v), (128, .int .i64 x128), (129, .int .i64 x129)] H
noncomputable def grid_Grid_csi_p1111010110111111111101111 (d : Nat) (x0 : Nat) (x3 : Value) (x4 : Int) (x137 : Bool) (H : Heap) : Res := opq (run (X d) NN (cd 30 [1, 1, 1, 1, 0, 1, 0, 1, 1, 0, 1, 1, 1, 1, 1, 1, 1, 1, 1, 1, 0, 1, 1, 1, 1, 0]) (retK (rs 30)) [(0, (retK (rs 30)))] (retK (rs 30))) [(0, P0 x0), (3, x3), (4, .int .i64 x4), (137, .bool x137)] H
theorem grid_Grid_csi_p111101_eq (d : Nat) (x0 : Nat) (x3 : Value) (x4 : Int) (x5 : Int) (x6 : Int) (x24 : Int) (x29 : Bool) (H : Heap) : grid_Grid_csi_p111101 d x0 x3 x4 x5 x6 x24 x29 H =
  if x29 = true then
  (optK (Heap.ld1 H ⟨x0, 17, none⟩) fun v1 =>
    asI .i64 v1 fun n2 =>
    if (decide (n2 ≤ x5)) = true then
    (optK (Heap.ld1 H ⟨x0, 17, none⟩) fun v3 =>
      asI .i64 v3 fun n4 =>
      grid_Grid_csi_p1111010011 d x0 x3 x4 x5 x6 n4 H)
    else
    (grid_Grid_csi_p1111010011 d x0 x3 x4 x5 x6 0 H))
  else
  (if (decide (x24 = 66)) = true then
    (grid_Grid_csi_p111101011 d x0 x3 x4 x5 x6 x24 (decide (x24 = 66)) H)
    else
    (grid_Grid_csi_p111101011 d x0 x3 x4 x5 x6 x24 (decide (x24 = 69)) H)) := (opq_app _ _ _).trans <| by kernel_rfl
theorem grid_Grid_csi_p1111010011_eq (d : Nat) (x0 : Nat) (x3 : Value) (x4 : Int) (x5 : Int) (x6 : Int) (x7 : Int) (H : Heap) : grid_Grid_csi_p1111010011 d x0 x3 x4 x5 x6 x7 H =
  asP x3 fun o1 =>
  optK o1 fun a2 =>
  optK (Heap.ld1 H (ap a2 1)) fun v3 =>
  asI .i32 v3 fun n4 =>
  if (decide (n4 = 70)) = true then
  (grid_Grid_csi_p1111010011011 d x0 (if (IntKind.wrap .i64 (x5 - x4)) < x7 then x7 else (IntKind.wrap .i64 (x5 - x4))) 0 H)
  else
  (grid_Grid_csi_p1111010011011 d x0 (if (IntKind.wrap .i64 (x5 - x4)) < x7 then x7 else (IntKind.wrap .i64 (x5 - x4))) x6 H) := (opq_app _ _ _).trans <| by kernel_rfl
theorem grid_Grid_csi_p111101011_eq (d : Nat) (x0 : Nat) (x3 : Value) (x4 : Int) (x5 : Int) (x6 : Int) (x24 : Int) (x54 : Bool) (H : Heap) : grid_Grid_csi_p111101011 d x0 x3 x4 x5 x6 x24 x54 H =
  if x54 = true then
  (optK (Heap.ld1 H ⟨x0, 0, none⟩) fun v1 =>
    asI .i64 v1 fun n2 =>
    optK (Heap.ld1 H ⟨x0, 18, none⟩) fun v3 =>
    asI .i64 v3 fun n4 =>
    if (decide (x5 ≤ n4)) = true then
    (optK (Heap.ld1 H ⟨x0, 18, none⟩) fun v5 =>
      asI .i64 v5 fun n6 =>
      grid_Grid_csi_p1111010110011 d x0 x3 x4 x5 x6 n6 H)
    else
    (grid_Grid_csi_p1111010110011 d x0 x3 x4 x5 x6 (IntKind.wrap .i64 (n2 - 1)) H))
  else
  (if (decide (x24 = 67)) = true then
    (callK (X d n_grid_Grid_move [P0 x0, .int .i64 x5, .int .i64 (IntKind.wrap .i64 (x6 + x4))] H) fun _ H8 =>
      some (.tuple #[], H8))
    else
    (if (decide (x24 = 68)) = true then
      (callK (X d n_grid_Grid_move [P0 x0, .int .i64 x5, .int .i64 (IntKind.wrap .i64 (x6 - x4))] H) fun _ H10 =>
        some (.tuple #[], H10))
      else
      (if (decide (x24 = 71)) = true then
        (callK (X d n_grid_Grid_move [P0 x0, .int .i64 x5, .int .i64 (IntKind.wrap .i64 (x4 - 1))] H) fun _ H12 =>
          some (.tuple #[], H12))
        else
        (if (decide (x24 = 100)) = true then
          (callK (X d n_grid_Grid_move [P0 x0, .int .i64 (IntKind.wrap .i64 (x4 - 1)), .int .i64 x6] H) fun _ H14 =>
            some (.tuple #[], H14))
          else
          (if (decide (x24 = 72)) = true then
            (grid_Grid_csi_p11110101101111111111 d x0 x3 x4 x24 (decide (x24 = 72)) H)
            else
            (grid_Grid_csi_p11110101101111111111 d x0 x3 x4 x24 (decide (x24 = 102)) H)))))) := (opq_app _ _ _).trans <| by kernel_rfl
theorem grid_Grid_csi_p1111010011011_eq (d : Nat) (x0 : Nat) (x5 : Int) (x6 : Int) (H : Heap) : grid_Grid_csi_p1111010011011 d x0 x5 x6 H =
  callK (X d n_grid_Grid_move [P0 x0, .int .i64 x5, .int .i64 x6] H) fun _ H2 =>
  some (.tuple #[], H2) := (opq_app _ _ _).trans <| by kernel_rfl
theorem grid_Grid_csi_p1111010110011_eq (d : Nat) (x0 : Nat) (x3 : Value) (x4 : Int) (x5 : Int) (x6 : Int) (x8 : Int) (H : Heap) : grid_Grid_csi_p1111010110011 d x0 x3 x4 x5 x6 x8 H =
  asP x3 fun o1 =>
  optK o1 fun a2 =>
  optK (Heap.ld1 H (ap a2 1)) fun v3 =>
  asI .i32 v3 fun n4 =>
  if (decide (n4 = 69)) = true then
  (grid_Grid_csi_p1111010110011011 d x0 (if x8 < (IntKind.wrap .i64 (x5 + x4)) then x8 else (IntKind.wrap .i64 (x5 + x4))) 0 H)
  else
  (grid_Grid_csi_p1111010110011011 d x0 (if x8 < (IntKind.wrap .i64 (x5 + x4)) then x8 else (IntKind.wrap .i64 (x5 + x4))) x6 H) := (opq_app _ _ _).trans <| by kernel_rfl
theorem grid_Grid_csi_p11110101101111111111_eq (d : Nat) (x0 : Nat) (x3 : Value) (x4 : Int) (x24 : Int) (x114 : Bool) (H : Heap) : grid_Grid_csi_p11110101101111111111 d x0 x3 x4 x24 x114 H =
  if x114 = true then
  (optK (readD (.load 4 true) [x3] H) fun v1 =>
    asA v1 fun c2 =>
    callK (X d n_vt_Params [.agg c2, .int .i64 1, .int .i64 1] H) fun v3 H4 =>
    asI .i64 v3 fun n5 =>
    callK (X d n_grid_Grid_move [P0 x0, .int .i64 (IntKind.wrap .i64 (x4 - 1)), .int .i64 (IntKind.wrap .i64 (n5 - 1))] H4) fun _ H7 =>
    some (.tuple #[], H7))
  else
  (if (decide (x24 = 109)) = true then
    (asP x3 fun o8 =>
      optK o8 fun a9 =>
      optK (Heap.ld1 H (ap a9 3)) fun v10 =>
      asSL v10 fun l11 =>
      grid_Grid_csi_p11110101101111111111011010 d NN x0 l11 (l11.n : Int) 0 H)
    else
    (if (decide (x24 = 104)) = true then
      (grid_Grid_csi_p1111010110111111111101111 d x0 x3 x4 (decide (x24 = 104)) H)
      else
      (grid_Grid_csi_p1111010110111111111101111 d x0 x3 x4 (decide (x24 = 108)) H))) := (opq_app _ _ _).trans <| by kernel_rfl
theorem grid_Grid_csi_p1111010110011011_eq (d : Nat) (x0 : Nat) (x5 : Int) (x6 : Int) (H : Heap) : grid_Grid_csi_p1111010110011011 d x0 x5 x6 H =
  callK (X d n_grid_Grid_move [P0 x0, .int .i64 x5, .int .i64 x6] H) fun _ H2 =>
  some (.tuple #[], H2) := (opq_app _ _ _).trans <| by kernel_rfl
theorem grid_Grid_csi_p11110101101111111111011010_s (d : Nat) (m0 : Nat) (x0 : Nat) (x127 : Sl) (x128 : Int) (x129 : Int) (H : Heap) : grid_Grid_csi_p11110101101111111111011010 d (m0 + 1) x0 x127 x128 x129 H =
  if (decide (x129 < x128)) = true then
  (optK x127.a fun a1 =>
    if 0 ≤ x129 ∧ x129 < (x127.n : Int) then
    optK (Heap.ld1 H (ap a1 (((x129).toNat) * 1))) fun v2 =>
    asI .i64 v2 fun n3 =>
    callK (X d n_grid_Grid_style [P0 x0, .int .i64 n3] H) fun _ H5 =>
    grid_Grid_csi_p11110101101111111111011010 d m0 x0 x127 x128 (IntKind.wrap .i64 (x129 + 1)) H5
    else none)
  else
  (some (.tuple #[], H)) := (opq_app _ _ _).trans <| by kernel_rfl
theorem grid_Grid_csi_p1111010110111111111101111_eq (d : Nat) (x0 : Nat) (x3 : Value) (x4 : Int) (x137 : Bool) (H : Heap) : grid_Grid_csi_p1111010110111111111101111 d x0 x3 x4 x137 H =
  if x137 = true then
  (asP x3 fun o1 =>
    optK o1 fun a2 =>
    optK (Heap.ld1 H (ap a2 3)) fun v3 =>
    asSL v3 fun l4 =>
    callK (X d n_slices_Contains_S_int_int [l4.v, .int .i64 4] H) fun v5 H6 =>
    asB v5 fun b7 =>
    if b7 = true then
    (asP x3 fun o8 =>
      optK o8 fun a9 =>
      optK (Heap.ld1 H6 (ap a9 1)) fun v10 =>
      asI .i32 v10 fun n11 =>
      optK (Heap.st1 H6 ⟨x0, 20, none⟩ (.bool (decide (n11 = 104)))) fun H12 =>
      some (.tuple #[], H12))
    else
    (some (.tuple #[], H6)))
  else
  (optK (readD (.load 4 true) [x3] H) fun v13 =>
    asA v13 fun c14 =>
    callK (X d n_grid_Grid_edit [P0 x0, .agg c14, .int .i64 x4] H) fun _ H16 =>
    some (.tuple #[], H16)) := (opq_app _ _ _).trans <| by kernel_rfl
theorem grid_Grid_csi_eq (d : Nat) (x0 : Nat) (x1 : Array Value) (H : Heap) : X (d + 1) n_grid_Grid_csi [P0 x0, .agg x1] H =
  effK (.box t_vt_Act) [.agg x1] H fun v1 H2 =>
  optK (readD (.load 4 true) [v1] H2) fun v3 =>
  asA v3 fun c4 =>
  callK (X d n_vt_Params [.agg c4, .int .i64 0, .int .i64 1] H2) fun v5 H6 =>
  asI .i64 v5 fun n7 =>
  optK (Heap.ld1 H6 ⟨x0, 3, none⟩) fun v8 =>
  asI .i64 v8 fun n9 =>
  optK (Heap.ld1 H6 ⟨x0, 4, none⟩) fun v10 =>
  asI .i64 v10 fun n11 =>
  asP v1 fun o12 =>
  optK o12 fun a13 =>
  optK (Heap.ld1 H6 (ap a13 1)) fun v14 =>
  asI .i32 v14 fun n15 =>
  if (decide (n15 = 65)) = true then
  (grid_Grid_csi_p111101 d x0 v1 n7 n9 n11 n15 (decide (n15 = 65)) H6)
  else
  (grid_Grid_csi_p111101 d x0 v1 n7 n9 n11 n15 (decide (n15 = 70)) H6) := by kernel_rfl
end Go.Proofs.YtjmiehbiindjdaaGreatDoor.dec

namespace Go.Proofs.YtjmiehbiindjdaaGreatDoor.dec
open Go Go.Cm
/-! porthole/portholeref19.Param -/
noncomputable def ref19_Param_k11 (d : Nat) : Kt := run (X d) NN (cd 68 [1, 1]) (retK (rs 68)) [] (retK (rs 68))
noncomputable def ref19_Param_p101 (d : Nat) (x1 : Int) (x2 : Int) (x3 : Value) (x23 : Bool) (H : Heap) : Res := opq (run (X d) NN (cd 68 [1, 0, 1, 0]) (ref19_Param_k11 d) [] (retK (rs 68))) [(1, .int .i64 x1), (2, .int .i64 x2), (3, x3), (23, .bool x23)] H
theorem ref19_Param_p101_eq (d : Nat) (x1 : Int) (x2 : Int) (x3 : Value) (x23 : Bool) (H : Heap) : ref19_Param_p101 d x1 x2 x3 x23 H =
  if x23 = true then
  (some (.int .i64 x2, H))
  else
  (asP x3 fun o1 =>
    optK o1 fun a2 =>
    optK (Heap.ld1 H (ap a2 3)) fun v3 =>
    asSL v3 fun l4 =>
    optK l4.a fun a5 =>
    if 0 ≤ x1 ∧ x1 < (l4.n : Int) then
    optK (Heap.ld1 H (ap a5 (((x1).toNat) * 1))) fun v6 =>
    asI .i64 v6 fun n7 =>
    some (.int .i64 n7, H)
    else none) := (opq_app _ _ _).trans <| by kernel_rfl
theorem ref19_Param_eq (d : Nat) (x0 : Array Value) (x1 : Int) (x2 : Int) (H : Heap) : X (d + 1) n_ref19_Param [.agg x0, .int .i64 x1, .int .i64 x2] H =
  effK (.box t_vt_Act) [.agg x0] H fun v1 H2 =>
  if (decide (x1 < 0)) = true then
  (ref19_Param_p101 d x1 x2 v1 true H2)
  else
  (asP v1 fun o3 =>
    optK o3 fun a4 =>
    optK (Heap.ld1 H2 (ap a4 3)) fun v5 =>
    asSL v5 fun l6 =>
    if (decide ((l6.n : Int) ≤ x1)) = true then
    (ref19_Param_p101 d x1 x2 v1 true H2)
    else
    (asP v1 fun o7 =>
      optK o7 fun a8 =>
      optK (Heap.ld1 H2 (ap a8 3)) fun v9 =>
      asSL v9 fun l10 =>
      optK l10.a fun a11 =>
      if 0 ≤ x1 ∧ x1 < (l10.n : Int) then
      optK (Heap.ld1 H2 (ap a11 (((x1).toNat) * 1))) fun v12 =>
      asI .i64 v12 fun n13 =>
      ref19_Param_p101 d x1 x2 v1 (decide (n13 = 0)) H2
      else none)) := by kernel_rfl
end Go.Proofs.YtjmiehbiindjdaaGreatDoor.dec

namespace Go.Proofs.YtjmiehbiindjdaaGreatDoor.dec
open Go Go.Cm
/-! (*porthole/portholeref19.Grid).csi -/
noncomputable def ref19_Grid_csi_k1111110111111111111111110111111001 (d : Nat) : Kt := run (X d) NN (cd 35 [1, 1, 1, 1, 1, 1, 0, 1, 1, 1, 1, 1, 1, 1, 1, 1, 1, 1, 1, 1, 1, 1, 1, 1, 0, 1, 1, 1, 1, 1, 1, 0, 0, 1]) (retK (rs 35)) [(0, (retK (rs 35)))] (retK (rs 35))
noncomputable def ref19_Grid_csi_l1111110111111111111111110111111011111111111111010 (d : Nat) (m0 : Nat) : Kt := iter (fun k => run (X d) NN (cd 35 [1, 1, 1, 1, 1, 1, 0, 1, 1, 1, 1, 1, 1, 1, 1, 1, 1, 1, 1, 1, 1, 1, 1, 1, 0, 1, 1, 1, 1, 1, 1, 0, 1, 1, 1, 1, 1, 1, 1, 1, 1, 1, 1, 1, 1, 1, 0, 1, 0, 0]) (backK [(0, .ptr), (3, .any), (10, .int .i64)] (opq k)) [(3, (retK (rs 35))), (0, (retK (rs 35)))] (retK (rs 35))) m0
noncomputable def ref19_Grid_csi_l1111110111111111111111110111111011111111111111110010 (d : Nat) (m0 : Nat) : Kt := iter (fun k => run (X d) NN (cd 35 [1, 1, 1, 1, 1, 1, 0, 1, 1, 1, 1, 1, 1, 1, 1, 1, 1, 1, 1, 1, 1, 1, 1, 1, 0, 1, 1, 1, 1, 1, 1, 0, 1, 1, 1, 1, 1, 1, 1, 1, 1, 1, 1, 1, 1, 1, 1, 1, 0, 0, 1, 0, 0]) (backK [(0, .ptr), (3, .any), (11, .int .i64)] (opq k)) [(5, (retK (rs 35))), (0, (retK (rs 35)))] (retK (rs 35))) m0
noncomputable def ref19_Grid_csi_p111111011111111111111111 (d : Nat) (x0 : Nat) (x3 : Value) (x4 : Int) (x5 : Int) (x6 : Int) (x7 : Int) (x34 : Int) (x95 : Bool) (H : Heap) : Res := opq (run (X d) NN (cd 35 [1, 1, 1, 1, 1, 1, 0, 1, 1, 1, 1, 1, 1, 1, 1, 1, 1, 1, 1, 1, 1, 1, 1, 1, 0]) (retK (rs 35)) [(0, (retK (rs 35)))] (retK (rs 35))) [(0, P0 x0), (3, x3), (4, .int .i64 x4), (5, .int .i64 x5), (6, .int .i64 x6), (7, .int .i64 x7), (34, .int .i32 x34), (95, .bool x95)] H
noncomputable def ref19_Grid_csi_p1111110111111111111111110111111 (d : Nat) (x0 : Nat) (x3 : Value) (x4 : Int) (x5 : Int) (x6 : Int) (x7 : Int) (x34 : Int) (x192 : Bool) (H : Heap) : Res := opq (run (X d) NN (cd 35 [1, 1, 1, 1, 1, 1, 0, 1, 1, 1, 1, 1, 1, 1, 1, 1, 1, 1, 1, 1, 1, 1, 1, 1, 0, 1, 1, 1, 1, 1, 1, 0]) (retK (rs 35)) [(0, (retK (rs 35)))] (retK (rs 35))) [(0, P0 x0), (3, x3), (4, .int .i64 x4), (5, .int .i64 x5), (6, .int .i64 x6), (7, .int .i64 x7), (34, .int .i32 x34), (192, .bool x192)] H
noncomputable def ref19_Grid_csi_p11111101111111111111111101111110001 (d : Nat) (x0 : Nat) (x3 : Value) (x4 : Int) (x5 : Int) (x208 : Bool) (H : Heap) : Res := opq (run (X d) NN (cd 35 [1, 1, 1, 1, 1, 1, 0, 1, 1, 1, 1, 1, 1, 1, 1, 1, 1, 1, 1, 1, 1, 1, 1, 1, 0, 1, 1, 1, 1, 1, 1, 0, 0, 0, 1, 0]) (ref19_Grid_csi_k1111110111111111111111110111111001 d) [(0, (retK (rs 35)))] (retK (rs 35))) [(0, P0 x0), (3, x3), (4, .int .i64 x4), (5, .int .i64 x5), (208, .bool x208)] H
noncomputable def ref19_Grid_csi_q4 (d : Nat) (m0 : Nat) (x0 : Nat) (x3 : Value) (x10 : Int) (H : Heap) : Res := opq (ref19_Grid_csi_l1111110111111111111111110111111011111111111111010 d m0) [(0, P0 x0), (3, x3), (10, .int .i64 x10)] H
noncomputable def ref19_Grid_csi_q5 (d : Nat) (x0 : Nat) (x3 : Value) (x6 : Int) (x34 : Int) (x316 : Bool) (H : Heap) : Res := opq (run (X d) NN (cd 35 [1, 1, 1, 1, 1, 1, 0, 1, 1, 1, 1, 1, 1, 1, 1, 1, 1, 1, 1, 1, 1, 1, 1, 1, 0, 1, 1, 1, 1, 1, 1, 0, 1, 1, 1, 1, 1, 1, 1, 1, 1, 1, 1, 1, 1, 1, 1, 1, 0]) (retK (rs 35)) [(0, (retK (rs 35)))] (retK (rs 35))) [(0, P0 x0), (3, x3), (6, .int .i64 x6), (34, .int .i32 x34), (316, .bool x316)] H
noncomputable def ref19_Grid_csi_p11111101111111111111111101111110011 (d : Nat) (x0 : Nat) (x5 : Int) (H : Heap) : Res := opq (run (X d) NN (cd 35 [1, 1, 1, 1, 1, 1, 0, 1, 1, 1, 1, 1, 1, 1, 1, 1, 1, 1, 1, 1, 1, 1, 1, 1, 0, 1, 1, 1, 1, 1, 1, 0, 0, 1, 1, 0]) (retK (rs 35)) [(0, (retK (rs 35)))] (retK (rs 35))) [(0, P0 x0), (5, .int .i64 x5)] H
noncomputable def ref19_Grid_csi_q6 (d : Nat) (m0 : Nat) (x0 : Nat) (x3 : Value) (x11 : Int) (H : Heap) : Res := opq (ref19_Grid_csi_l1111110111111111111111110111111011111111111111110010 d m0) [(0, P0 x0), (3, x3), (11, .int .i64 x11)] H
noncomputable def ref19_Grid_csi_q8 (d : Nat) (x0 : Nat) (x12 : Sl) (H : Heap) : Res := opq (run (X d) NN (cd 35 [1, 1, 1, 1, 1, 1, 0, 1, 1, 1, 1, 1, 1, 1, 1, 1, 1, 1, 1, 1, 1, 1, 1, 1, 0, 1, 1, 1, 1, 1, 1, 0, 1, 1, 1, 1, 1, 1, 1, 1, 1, 1, 1, 1, 1, 1, 1, 1, 0, 1, 1, 0, 1, 1, 0]) (retK (rs 35)) [(0, (retK (rs 35)))] (retK (rs 35))) [(0, P0 x0), (12, x12.v)] H
noncomputable def ref19_Grid_csi_q7 (d : Nat) (m0 : Nat) (x0 : Nat) (x3 : Value) (x11 : Int) (H : Heap) : Res := opq (run (X d) NN (cd 35 [1, 1, 1, 1, 1, 1, 0, 1, 1, 1, 1, 1, 1, 1, 1, 1, 1, 1, 1, 1, 1, 1, 1, 1, 0, 1, 1, 1, 1, 1, 1, 0, 1, 1, 1, 1, 1, 1, 1, 1, 1, 1, 1, 1, 1, 1, 1, 1, 0, 0, 1, 0, 0, 1, 1, 0]) (backK [(0, .ptr), (3, .any), (11, .int .i64)] (opq (ref19_Grid_csi_l1111110111111111111111110111111011111111111111110010 d m0))) [(5, (retK (rs 35))), (0, (retK (rs 35)))] (retK (rs 35))) [(0, P0 x0), (3, x3), (11, .int .i64 x11)] H
theorem ref19_Grid_csi_p111111011111111111111111_eq (d : Nat) (x0 : Nat) (x3 : Value) (x4 : Int) (x5 : Int) (x6 : Int) (x7 : Int) (x34 : Int) (x95 : Bool) (H : Heap) : ref19_Grid_csi_p111111011111111111111111 d x0 x3 x4 x5 x6 x7 x34 x95 H =
  if x95 = true then
  (optK (readD (.load 4 true) [x3] H) fun v1 =>
    asA v1 fun c2 =>
    callK (X d n_ref19_Param [.agg c2, .int .i64 1, .int .i64 1] H) fun v3 H4 =>
    asI .i64 v3 fun n5 =>
    callK (X d n_ref19_Grid_to [P0 x0, .int .i64 (IntKind.wrap .i64 (x4 - 1)), .int .i64 (IntKind.wrap .i64 (n5 - 1))] H4) fun _ H7 =>
    some (.tuple #[], H7))
  else
  (if (decide (x34 = 74)) = true then
    (optK (readD (.load 4 true) [x3] H) fun v8 =>
      asA v8 fun c9 =>
      callK (X d n_ref19_Param [.agg c9, .int .i64 0, .int .i64 0] H) fun v10 H11 =>
      asI .i64 v10 fun n12 =>
      if (decide (n12 = 0)) = true then
      (optK (Heap.ld1 H11 ⟨x0, 6, none⟩) fun v13 =>
        asI .i64 v13 fun n14 =>
        optK (Heap.ld1 H11 ⟨x0, 7, none⟩) fun v15 =>
        asI .i64 v15 fun n16 =>
        callK (X d n_ref19_Grid_wipe [P0 x0, .int .i64 x7, .int .i64 (IntKind.wrap .i64 (n14 * n16))] H11) fun _ H18 =>
        some (.tuple #[], H18))
      else
      (if (decide (n12 = 1)) = true then
        (callK (X d n_ref19_Grid_wipe [P0 x0, .int .i64 0, .int .i64 (IntKind.wrap .i64 (x7 + 1))] H11) fun _ H20 =>
          some (.tuple #[], H20))
        else
        (if (decide (n12 = 2)) = true then
          (optK (Heap.ld1 H11 ⟨x0, 6, none⟩) fun v21 =>
            asI .i64 v21 fun n22 =>
            optK (Heap.ld1 H11 ⟨x0, 7, none⟩) fun v23 =>
            asI .i64 v23 fun n24 =>
            callK (X d n_ref19_Grid_wipe [P0 x0, .int .i64 0, .int .i64 (IntKind.wrap .i64 (n22 * n24))] H11) fun _ H26 =>
            some (.tuple #[], H26))
          else
          (if (decide (n12 = 3)) = true then
            (optK (Heap.st1 H11 ⟨x0, 38, none⟩ (.slice none 0 0)) fun H27 =>
              some (.tuple #[], H27))
            else
            (some (.tuple #[], H11))))))
    else
    (if (decide (x34 = 75)) = true then
      (optK (readD (.load 4 true) [x3] H) fun v28 =>
        asA v28 fun c29 =>
        callK (X d n_ref19_Param [.agg c29, .int .i64 0, .int .i64 0] H) fun v30 H31 =>
        asI .i64 v30 fun n32 =>
        if (decide (n32 = 0)) = true then
        (optK (Heap.ld1 H31 ⟨x0, 7, none⟩) fun v33 =>
          asI .i64 v33 fun n34 =>
          callK (X d n_ref19_Grid_wipe [P0 x0, .int .i64 x7, .int .i64 (IntKind.wrap .i64 ((IntKind.wrap .i64 (x5 + 1)) * n34))] H31) fun _ H36 =>
          some (.tuple #[], H36))
        else
        (if (decide (n32 = 1)) = true then
          (optK (Heap.ld1 H31 ⟨x0, 7, none⟩) fun v37 =>
            asI .i64 v37 fun n38 =>
            callK (X d n_ref19_Grid_wipe [P0 x0, .int .i64 (IntKind.wrap .i64 (x5 * n38)), .int .i64 (IntKind.wrap .i64 (x7 + 1))] H31) fun _ H40 =>
            some (.tuple #[], H40))
          else
          (if (decide (n32 = 2)) = true then
            (optK (Heap.ld1 H31 ⟨x0, 7, none⟩) fun v41 =>
              asI .i64 v41 fun n42 =>
              optK (Heap.ld1 H31 ⟨x0, 7, none⟩) fun v43 =>
              asI .i64 v43 fun n44 =>
              callK (X d n_ref19_Grid_wipe [P0 x0, .int .i64 (IntKind.wrap .i64 (x5 * n42)), .int .i64 (IntKind.wrap .i64 ((IntKind.wrap .i64 (x5 + 1)) * n44))] H31) fun _ H46 =>
              some (.tuple #[], H46))
            else
            (some (.tuple #[], H31)))))
      else
      (if (decide (x34 = 76)) = true then
        (ref19_Grid_csi_p1111110111111111111111110111111 d x0 x3 x4 x5 x6 x7 x34 (decide (x34 = 76)) H)
        else
        (ref19_Grid_csi_p1111110111111111111111110111111 d x0 x3 x4 x5 x6 x7 x34 (decide (x34 = 77)) H)))) := (opq_app _ _ _).trans <| by kernel_rfl
theorem ref19_Grid_csi_p1111110111111111111111110111111_eq (d : Nat) (x0 : Nat) (x3 : Value) (x4 : Int) (x5 : Int) (x6 : Int) (x7 : Int) (x34 : Int) (x192 : Bool) (H : Heap) : ref19_Grid_csi_p1111110111111111111111110111111 d x0 x3 x4 x5 x6 x7 x34 x192 H =
  if x192 = true then
  (optK (Heap.ld1 H ⟨x0, 23, none⟩) fun v1 =>
    asI .i64 v1 fun n2 =>
    if (decide (x5 < n2)) = true then
    (ref19_Grid_csi_p11111101111111111111111101111110001 d x0 x3 x4 x5 true H)
    else
    (optK (Heap.ld1 H ⟨x0, 24, none⟩) fun v3 =>
      asI .i64 v3 fun n4 =>
      ref19_Grid_csi_p11111101111111111111111101111110001 d x0 x3 x4 x5 (decide (n4 < x5)) H))
  else
  (if (decide (x34 = 64)) = true then
    (callK (X d n_ref19_Grid_shift [P0 x0, .int .i64 x4] H) fun _ H6 =>
      some (.tuple #[], H6))
    else
    (if (decide (x34 = 80)) = true then
      (callK (X d n_ref19_Grid_shift [P0 x0, .int .i64 (IntKind.wrap .i64 (0 - x4))] H) fun _ H8 =>
        some (.tuple #[], H8))
      else
      (if (decide (x34 = 88)) = true then
        (optK (Heap.ld1 H ⟨x0, 7, none⟩) fun v9 =>
          asI .i64 v9 fun n10 =>
          callK (X d n_ref19_Grid_wipe [P0 x0, .int .i64 x7, .int .i64 (if (IntKind.wrap .i64 ((IntKind.wrap .i64 (x5 + 1)) * n10)) < (IntKind.wrap .i64 (x7 + x4)) then (IntKind.wrap .i64 ((IntKind.wrap .i64 (x5 + 1)) * n10)) else (IntKind.wrap .i64 (x7 + x4)))] H) fun _ H12 =>
          some (.tuple #[], H12))
        else
        (if (decide (x34 = 83)) = true then
          (callK (X d n_ref19_Grid_scroll [P0 x0, .int .i64 x4] H) fun _ H14 =>
            some (.tuple #[], H14))
          else
          (if (decide (x34 = 84)) = true then
            (optK (Heap.ld1 H ⟨x0, 23, none⟩) fun v15 =>
              asI .i64 v15 fun n16 =>
              callK (X d n_ref19_Grid_down [P0 x0, .int .i64 n16, .int .i64 x4] H) fun _ H18 =>
              some (.tuple #[], H18))
            else
            (if (decide (x34 = 114)) = true then
              (optK (Heap.ld1 H ⟨x0, 6, none⟩) fun v19 =>
                asI .i64 v19 fun n20 =>
                optK (readD (.load 4 true) [x3] H) fun v21 =>
                asA v21 fun c22 =>
                optK (Heap.ld1 H ⟨x0, 6, none⟩) fun v23 =>
                asI .i64 v23 fun n24 =>
                callK (X d n_ref19_Param [.agg c22, .int .i64 1, .int .i64 n24] H) fun v25 H26 =>
                asI .i64 v25 fun n27 =>
                optK (Heap.ld1 H26 ⟨x0, 6, none⟩) fun v28 =>
                asI .i64 v28 fun n29 =>
                chk (rdsOk [H, H26] [⟨.load 1 false, [.pointer (some ⟨x0, 6, none⟩)], v28, 0, 1⟩]) (
                  if (decide ((if (IntKind.wrap .i64 (n20 - 1)) < (IntKind.wrap .i64 (x4 - 1)) then (IntKind.wrap .i64 (n20 - 1)) else (IntKind.wrap .i64 (x4 - 1))) < (if (IntKind.wrap .i64 (n29 - 1)) < (IntKind.wrap .i64 (n27 - 1)) then (IntKind.wrap .i64 (n29 - 1)) else (IntKind.wrap .i64 (n27 - 1))))) = true then
                  (optK (Heap.st1 H26 ⟨x0, 23, none⟩ (.int .i64 (if (IntKind.wrap .i64 (n20 - 1)) < (IntKind.wrap .i64 (x4 - 1)) then (IntKind.wrap .i64 (n20 - 1)) else (IntKind.wrap .i64 (x4 - 1))))) fun H30 =>
                    optK (Heap.st1 H30 ⟨x0, 24, none⟩ (.int .i64 (if (IntKind.wrap .i64 (n29 - 1)) < (IntKind.wrap .i64 (n27 - 1)) then (IntKind.wrap .i64 (n29 - 1)) else (IntKind.wrap .i64 (n27 - 1))))) fun H31 =>
                    callK (X d n_ref19_Grid_to [P0 x0, .int .i64 0, .int .i64 0] H31) fun _ H33 =>
                    some (.tuple #[], H33))
                  else
                  (some (.tuple #[], H26))))
              else
              (if (decide (x34 = 109)) = true then
                (ref19_Grid_csi_q4 d NN x0 x3 0 H)
                else
                (if (decide (x34 = 104)) = true then
                  (ref19_Grid_csi_q5 d x0 x3 x6 x34 (decide (x34 = 104)) H)
                  else
                  (ref19_Grid_csi_q5 d x0 x3 x6 x34 (decide (x34 = 108)) H))))))))) := (opq_app _ _ _).trans <| by kernel_rfl
theorem ref19_Grid_csi_p11111101111111111111111101111110001_eq (d : Nat) (x0 : Nat) (x3 : Value) (x4 : Int) (x5 : Int) (x208 : Bool) (H : Heap) : ref19_Grid_csi_p11111101111111111111111101111110001 d x0 x3 x4 x5 x208 H =
  if x208 = true then
  (some (.tuple #[], H))
  else
  (asP x3 fun o1 =>
    optK o1 fun a2 =>
    optK (Heap.ld1 H (ap a2 1)) fun v3 =>
    asI .i32 v3 fun n4 =>
    if (decide (n4 = 76)) = true then
    (callK (X d n_ref19_Grid_down [P0 x0, .int .i64 x5, .int .i64 x4] H) fun _ H6 =>
      ref19_Grid_csi_p11111101111111111111111101111110011 d x0 x5 H6)
    else
    (callK (X d n_ref19_Grid_up [P0 x0, .int .i64 x5, .int .i64 x4] H) fun _ H8 =>
      ref19_Grid_csi_p11111101111111111111111101111110011 d x0 x5 H8)) := (opq_app _ _ _).trans <| by kernel_rfl
theorem ref19_Grid_csi_q4_s (d : Nat) (m0 : Nat) (x0 : Nat) (x3 : Value) (x10 : Int) (H : Heap) : ref19_Grid_csi_q4 d (m0 + 1) x0 x3 x10 H =
  asP x3 fun o1 =>
  optK o1 fun a2 =>
  optK (Heap.ld1 H (ap a2 3)) fun v3 =>
  asSL v3 fun l4 =>
  if (decide (x10 < (l4.n : Int))) = true then
  (asP x3 fun o5 =>
    optK o5 fun a6 =>
    optK (Heap.ld1 H (ap a6 3)) fun v7 =>
    asSL v7 fun l8 =>
    optK l8.a fun a9 =>
    if 0 ≤ x10 ∧ x10 < (l8.n : Int) then
    optK (Heap.ld1 H (ap a9 (((x10).toNat) * 1))) fun v10 =>
    asI .i64 v10 fun n11 =>
    callK (X d n_ref19_Grid_sgr [P0 x0, .int .i64 n11] H) fun _ H13 =>
    ref19_Grid_csi_q4 d m0 x0 x3 (IntKind.wrap .i64 (x10 + 1)) H13
    else none)
  else
  (some (.tuple #[], H)) := (opq_app _ _ _).trans <| by kernel_rfl
theorem ref19_Grid_csi_q5_eq (d : Nat) (x0 : Nat) (x3 : Value) (x6 : Int) (x34 : Int) (x316 : Bool) (H : Heap) : ref19_Grid_csi_q5 d x0 x3 x6 x34 x316 H =
  if x316 = true then
  (ref19_Grid_csi_q6 d NN x0 x3 0 H)
  else
  (if (decide (x34 = 103)) = true then
    (newK H (.cells [] t_bool false 0 false) fun p1 H2 =>
      optK (Heap.ld1 H2 ⟨x0, 28, none⟩) fun v3 =>
      asSL v3 fun l4 =>
      appendK t_bool 1 1 false (.slice (some ⟨p1, 0, none⟩) 0 0) l4.v H2 fun v5 H6 =>
      asSL v5 fun l7 =>
      optK (readD (.load 4 true) [x3] H6) fun v8 =>
      asA v8 fun c9 =>
      callK (X d n_ref19_Param [.agg c9, .int .i64 0, .int .i64 0] H6) fun v10 H11 =>
      asI .i64 v10 fun n12 =>
      if (decide (n12 = 0)) = true then
      (optK l7.a fun a13 =>
        if 0 ≤ x6 ∧ x6 < (l7.n : Int) then
        optK (Heap.st1 H11 (ap a13 (((x6).toNat) * 1)) (.bool false)) fun H14 =>
        ref19_Grid_csi_q8 d x0 l7 H14
        else none)
      else
      (if (decide (n12 = 3)) = true then
        (optK (Heap.ld1 H11 ⟨x0, 7, none⟩) fun v15 =>
          asI .i64 v15 fun n16 =>
          effK (.mkSl t_bool 1 1 [.bool false]) [.int .i64 n16, .int .i64 n16] H11 fun v17 H18 =>
          asSL v17 fun l19 =>
          ref19_Grid_csi_q8 d x0 l19 H18)
        else
        (ref19_Grid_csi_q8 d x0 l7 H11)))
    else
    (some (.tuple #[], H))) := (opq_app _ _ _).trans <| by kernel_rfl
theorem ref19_Grid_csi_p11111101111111111111111101111110011_eq (d : Nat) (x0 : Nat) (x5 : Int) (H : Heap) : ref19_Grid_csi_p11111101111111111111111101111110011 d x0 x5 H =
  callK (X d n_ref19_Grid_to [P0 x0, .int .i64 x5, .int .i64 0] H) fun _ H2 =>
  some (.tuple #[], H2) := (opq_app _ _ _).trans <| by kernel_rfl
theorem ref19_Grid_csi_q6_s (d : Nat) (m0 : Nat) (x0 : Nat) (x3 : Value) (x11 : Int) (H : Heap) : ref19_Grid_csi_q6 d (m0 + 1) x0 x3 x11 H =
  asP x3 fun o1 =>
  optK o1 fun a2 =>
  optK (Heap.ld1 H (ap a2 3)) fun v3 =>
  asSL v3 fun l4 =>
  if (decide (x11 < (l4.n : Int))) = true then
  (asP x3 fun o5 =>
    optK o5 fun a6 =>
    optK (Heap.ld1 H (ap a6 3)) fun v7 =>
    asSL v7 fun l8 =>
    optK l8.a fun a9 =>
    if 0 ≤ x11 ∧ x11 < (l8.n : Int) then
    optK (Heap.ld1 H (ap a9 (((x11).toNat) * 1))) fun v10 =>
    asI .i64 v10 fun n11 =>
    if (decide (n11 = 4)) = true then
    (asP x3 fun o12 =>
      optK o12 fun a13 =>
      optK (Heap.ld1 H (ap a13 1)) fun v14 =>
      asI .i32 v14 fun n15 =>
      optK (Heap.st1 H ⟨x0, 26, none⟩ (.bool (decide (n15 = 104)))) fun H16 =>
      ref19_Grid_csi_q7 d m0 x0 x3 x11 H16)
    else
    (ref19_Grid_csi_q7 d m0 x0 x3 x11 H)
    else none)
  else
  (some (.tuple #[], H)) := (opq_app _ _ _).trans <| by kernel_rfl
theorem ref19_Grid_csi_q8_eq (d : Nat) (x0 : Nat) (x12 : Sl) (H : Heap) : ref19_Grid_csi_q8 d x0 x12 H =
  optK (Heap.st1 H ⟨x0, 28, none⟩ x12.v) fun H1 =>
  some (.tuple #[], H1) := (opq_app _ _ _).trans <| by kernel_rfl
theorem ref19_Grid_csi_q7_eq (d : Nat) (m0 : Nat) (x0 : Nat) (x3 : Value) (x11 : Int) (H : Heap) : ref19_Grid_csi_q7 d m0 x0 x3 x11 H =
  ref19_Grid_csi_q6 d m0 x0 x3 (IntKind.wrap .i64 (x11 + 1)) H := (opq_app _ _ _).trans <| by kernel_rfl
theorem ref19_Grid_csi_eq (d : Nat) (x0 : Nat) (x1 : Array Value) (H : Heap) : X (d + 1) n_ref19_Grid_csi [P0 x0, .agg x1] H =
  effK (.box t_vt_Act) [.agg x1] H fun v1 H2 =>
  optK (readD (.load 4 true) [v1] H2) fun v3 =>
  asA v3 fun c4 =>
  callK (X d n_ref19_Param [.agg c4, .int .i64 0, .int .i64 1] H2) fun v5 H6 =>
  asI .i64 v5 fun n7 =>
  optK (Heap.ld1 H6 ⟨x0, 9, none⟩) fun v8 =>
  asI .i64 v8 fun n9 =>
  optK (Heap.ld1 H6 ⟨x0, 10, none⟩) fun v10 =>
  asI .i64 v10 fun n11 =>
  optK (Heap.ld1 H6 ⟨x0, 7, none⟩) fun v12 =>
  asI .i64 v12 fun n13 =>
  asP v1 fun o14 =>
  optK o14 fun a15 =>
  optK (Heap.ld1 H6 (ap a15 1)) fun v16 =>
  asI .i32 v16 fun n17 =>
  if (decide (n17 = 65)) = true then
  (callK (X d n_ref19_Grid_lineUp [P0 x0, .int .i64 n7] H6) fun v18 H19 =>
    asI .i64 v18 fun n20 =>
    callK (X d n_ref19_Grid_to [P0 x0, .int .i64 n20, .int .i64 n11] H19) fun _ H22 =>
    some (.tuple #[], H22))
  else
  (if (decide (n17 = 66)) = true then
    (callK (X d n_ref19_Grid_lineDown [P0 x0, .int .i64 n7] H6) fun v23 H24 =>
      asI .i64 v23 fun n25 =>
      callK (X d n_ref19_Grid_to [P0 x0, .int .i64 n25, .int .i64 n11] H24) fun _ H27 =>
      some (.tuple #[], H27))
    else
    (if (decide (n17 = 67)) = true then
      (callK (X d n_ref19_Grid_to [P0 x0, .int .i64 n9, .int .i64 (IntKind.wrap .i64 (n11 + n7))] H6) fun _ H29 =>
        some (.tuple #[], H29))
      else
      (if (decide (n17 = 68)) = true then
        (callK (X d n_ref19_Grid_to [P0 x0, .int .i64 n9, .int .i64 (IntKind.wrap .i64 (n11 - n7))] H6) fun _ H31 =>
          some (.tuple #[], H31))
        else
        (if (decide (n17 = 69)) = true then
          (callK (X d n_ref19_Grid_lineDown [P0 x0, .int .i64 n7] H6) fun v32 H33 =>
            asI .i64 v32 fun n34 =>
            callK (X d n_ref19_Grid_to [P0 x0, .int .i64 n34, .int .i64 0] H33) fun _ H36 =>
            some (.tuple #[], H36))
          else
          (if (decide (n17 = 70)) = true then
            (callK (X d n_ref19_Grid_lineUp [P0 x0, .int .i64 n7] H6) fun v37 H38 =>
              asI .i64 v37 fun n39 =>
              callK (X d n_ref19_Grid_to [P0 x0, .int .i64 n39, .int .i64 0] H38) fun _ H41 =>
              some (.tuple #[], H41))
            else
            (if (decide (n17 = 71)) = true then
              (callK (X d n_ref19_Grid_to [P0 x0, .int .i64 n9, .int .i64 (IntKind.wrap .i64 (n7 - 1))] H6) fun _ H43 =>
                some (.tuple #[], H43))
              else
              (if (decide (n17 = 100)) = true then
                (callK (X d n_ref19_Grid_to [P0 x0, .int .i64 (IntKind.wrap .i64 (n7 - 1)), .int .i64 n11] H6) fun _ H45 =>
                  some (.tuple #[], H45))
                else
                (if (decide (n17 = 72)) = true then
                  (ref19_Grid_csi_p111111011111111111111111 d x0 v1 n7 n9 n11 (IntKind.wrap .i64 ((IntKind.wrap .i64 (n9 * n13)) + n11)) n17 (decide (n17 = 72)) H6)
                  else
                  (ref19_Grid_csi_p111111011111111111111111 d x0 v1 n7 n9 n11 (IntKind.wrap .i64 ((IntKind.wrap .i64 (n9 * n13)) + n11)) n17 (decide (n17 = 102)) H6))))))))) := by kernel_rfl
end Go.Proofs.YtjmiehbiindjdaaGreatDoor.dec

namespace Go.Proofs.YtjmiehbiindjdaaGreatDoor.dec
open Go Go.Cm
/-! (*porthole/portholeref19.Grid).Do -/
theorem ref19_Grid_Do_eq (d : Nat) (x0 : Nat) (x1 : Array Value) (H : Heap) : X (d + 1) n_ref19_Grid_Do [P0 x0, .agg x1] H =
  effK (.box t_vt_Act) [.agg x1] H fun v1 H2 =>
  asP v1 fun o3 =>
  optK o3 fun a4 =>
  optK (Heap.ld1 H2 (ap a4 0)) fun v5 =>
  asI .i64 v5 fun n6 =>
  if (decide (n6 = 1)) = true then
  (asP v1 fun o7 =>
    optK o7 fun a8 =>
    optK (Heap.ld1 H2 (ap a8 1)) fun v9 =>
    asI .i32 v9 fun n10 =>
    callK (X d n_ref19_Grid_print [P0 x0, .int .i32 n10] H2) fun _ H12 =>
    some (.tuple #[], H12))
  else
  (if (decide (n6 = 2)) = true then
    (asP v1 fun o13 =>
      optK o13 fun a14 =>
      optK (Heap.ld1 H2 (ap a14 1)) fun v15 =>
      asI .i32 v15 fun n16 =>
      callK (X d n_ref19_Grid_control [P0 x0, .int .i32 n16] H2) fun _ H18 =>
      some (.tuple #[], H18))
    else
    (if (decide (n6 = 3)) = true then
      (asP v1 fun o19 =>
        optK o19 fun a20 =>
        optK (Heap.ld1 H2 (ap a20 1)) fun v21 =>
        asI .i32 v21 fun n22 =>
        callK (X d n_ref19_Grid_esc [P0 x0, .int .i32 n22] H2) fun _ H24 =>
        some (.tuple #[], H24))
      else
      (if (decide (n6 = 4)) = true then
        (asP v1 fun o25 =>
          optK o25 fun a26 =>
          optK (Heap.ld1 H2 (ap a26 2)) fun v27 =>
          asB v27 fun b28 =>
          if b28 = true then
          (optK (readD (.load 4 true) [v1] H2) fun v29 =>
            asA v29 fun c30 =>
            callK (X d n_ref19_Grid_modes [P0 x0, .agg c30] H2) fun _ H32 =>
            some (.tuple #[], H32))
          else
          (optK (readD (.load 4 true) [v1] H2) fun v33 =>
            asA v33 fun c34 =>
            callK (X d n_ref19_Grid_csi [P0 x0, .agg c34] H2) fun _ H36 =>
            some (.tuple #[], H36)))
        else
        (some (.tuple #[], H2))))) := by kernel_rfl
end Go.Proofs.YtjmiehbiindjdaaGreatDoor.dec

namespace Go.Proofs.YtjmiehbiindjdaaGreatDoor.dec
open Go Go.Cm
/-! (*porthole/grid.Grid).Screen -/
theorem grid_Grid_Screen_eq (d : Nat) (x0 : Nat) (H : Heap) : X (d + 1) n_grid_Grid_Screen [P0 x0] H =
  newK H (.cells [.int .i64 0, .int .i64 0, .slice none 0 0, .int .i64 0, .int .i64 0, .bool false] t_api_Screen false 0 false) fun p1 H2 =>
  optK (Heap.ld1 H2 ⟨x0, 0, none⟩) fun v3 =>
  asI .i64 v3 fun n4 =>
  optK (Heap.ld1 H2 ⟨x0, 1, none⟩) fun v5 =>
  asI .i64 v5 fun n6 =>
  optK (Heap.ld1 H2 ⟨x0, 2, none⟩) fun v7 =>
  asSL v7 fun l8 =>
  callK (X d n_grid_copied [l8.v] H2) fun v9 H10 =>
  asSL v9 fun l11 =>
  optK (Heap.ld1 H10 ⟨x0, 3, none⟩) fun v12 =>
  asI .i64 v12 fun n13 =>
  optK (Heap.ld1 H10 ⟨x0, 4, none⟩) fun v14 =>
  asI .i64 v14 fun n15 =>
  optK (Heap.ld1 H10 ⟨x0, 21, none⟩) fun v16 =>
  asB v16 fun b17 =>
  optK (Heap.stN H10 ⟨p1, 0, none⟩ [.int .i64 n4, .int .i64 n6, l11.v, .int .i64 n13, .int .i64 n15, .bool b17]) fun H18 =>
  chk (rdsOk [H2, H10, H18] [⟨.load 1 false, [.pointer (some ⟨x0, 21, none⟩)], v16, 0, 1⟩, ⟨.load 1 false, [.pointer (some ⟨x0, 4, none⟩)], v14, 0, 1⟩, ⟨.load 1 false, [.pointer (some ⟨x0, 3, none⟩)], v12, 0, 1⟩, ⟨.load 1 false, [.pointer (some ⟨x0, 1, none⟩)], v5, 0, 1⟩, ⟨.load 1 false, [P0 x0], v3, 0, 1⟩]) (
    retK [.cell 2 6 true] [(2, P0 p1)] H18) := by kernel_rfl
end Go.Proofs.YtjmiehbiindjdaaGreatDoor.dec

namespace Go.Proofs.YtjmiehbiindjdaaGreatDoor.dec
open Go Go.Cm
/-! porthole/portholehand.Pick -/
theorem hand_Pick_eq (d : Nat) (x0 : Int) (x1 : Int) (H : Heap) : X (d + 1) n_hand_Pick [.int .i64 x0, .int .i64 x1] H =
  if x1 = 0 then none else
  if (decide (Int.tmod x0 x1 < 0)) = true then
  (some (.int .i64 (IntKind.wrap .i64 ((Int.tmod x0 x1) + x1)), H))
  else
  (some (.int .i64 (Int.tmod x0 x1), H)) := by kernel_rfl
end Go.Proofs.YtjmiehbiindjdaaGreatDoor.dec

namespace Go.Proofs.YtjmiehbiindjdaaGreatDoor.dec
open Go Go.Cm
/-! porthole/portholeref19.Same -/
theorem ref19_Same_eq (d : Nat) (x0 : Array Value) (x1 : Array Value) (H : Heap) : X (d + 1) n_ref19_Same [.agg x0, .agg x1] H =
  effK (.box t_api_Screen) [.agg x0] H fun v1 H2 =>
  effK (.box t_api_Screen) [.agg x1] H2 fun v3 H4 =>
  asP v1 fun o5 =>
  optK o5 fun a6 =>
  optK (Heap.ld1 H4 (ap a6 0)) fun v7 =>
  asI .i64 v7 fun n8 =>
  asP v3 fun o9 =>
  optK o9 fun a10 =>
  optK (Heap.ld1 H4 (ap a10 0)) fun v11 =>
  asI .i64 v11 fun n12 =>
  if (decide (n8 = n12)) = true then
  (asP v1 fun o13 =>
    optK o13 fun a14 =>
    optK (Heap.ld1 H4 (ap a14 1)) fun v15 =>
    asI .i64 v15 fun n16 =>
    asP v3 fun o17 =>
    optK o17 fun a18 =>
    optK (Heap.ld1 H4 (ap a18 1)) fun v19 =>
    asI .i64 v19 fun n20 =>
    if (decide (n16 = n20)) = true then
    (asP v1 fun o21 =>
      optK o21 fun a22 =>
      optK (Heap.ld1 H4 (ap a22 3)) fun v23 =>
      asI .i64 v23 fun n24 =>
      asP v3 fun o25 =>
      optK o25 fun a26 =>
      optK (Heap.ld1 H4 (ap a26 3)) fun v27 =>
      asI .i64 v27 fun n28 =>
      if (decide (n24 = n28)) = true then
      (asP v1 fun o29 =>
        optK o29 fun a30 =>
        optK (Heap.ld1 H4 (ap a30 4)) fun v31 =>
        asI .i64 v31 fun n32 =>
        asP v3 fun o33 =>
        optK o33 fun a34 =>
        optK (Heap.ld1 H4 (ap a34 4)) fun v35 =>
        asI .i64 v35 fun n36 =>
        if (decide (n32 = n36)) = true then
        (asP v1 fun o37 =>
          optK o37 fun a38 =>
          optK (Heap.ld1 H4 (ap a38 5)) fun v39 =>
          asB v39 fun b40 =>
          asP v3 fun o41 =>
          optK o41 fun a42 =>
          optK (Heap.ld1 H4 (ap a42 5)) fun v43 =>
          asB v43 fun b44 =>
          if (b40 == b44) = true then
          (asP v1 fun o45 =>
            optK o45 fun a46 =>
            optK (Heap.ld1 H4 (ap a46 2)) fun v47 =>
            asSL v47 fun l48 =>
            asP v3 fun o49 =>
            optK o49 fun a50 =>
            optK (Heap.ld1 H4 (ap a50 2)) fun v51 =>
            asSL v51 fun l52 =>
            callK (X d n_ref19_SameLines [l48.v, l52.v] H4) fun v53 H54 =>
            asB v53 fun b55 =>
            some (.bool b55, H54))
          else
          (some (.bool false, H4)))
        else
        (some (.bool false, H4)))
      else
      (some (.bool false, H4)))
    else
    (some (.bool false, H4)))
  else
  (some (.bool false, H4)) := by kernel_rfl
end Go.Proofs.YtjmiehbiindjdaaGreatDoor.dec

namespace Go.Proofs.YtjmiehbiindjdaaGreatDoor.dec
open Go Go.Cm
/-! porthole/portholeref19.SameLines -/
noncomputable def ref19_SameLines_k111 (d : Nat) : Kt := run (X d) NN (cd 40 [1, 1, 1]) (retK (rs 40)) [] (retK (rs 40))
noncomputable def ref19_SameLines_l11010 (d : Nat) (m0 : Nat) : Kt := iter (fun k => run (X d) NN (cd 40 [1, 1, 0, 1, 0, 0]) (backK [(0, .sl), (1, .sl), (5, .int .i64)] (opq k)) [(0, (ref19_SameLines_k111 d))] (retK (rs 40))) m0
noncomputable def ref19_SameLines_k11010011 (d : Nat) (m0 : Nat) : Kt := run (X d) NN (cd 40 [1, 1, 0, 1, 0, 0, 1, 1]) (backK [(0, .sl), (1, .sl), (5, .int .i64)] (opq (ref19_SameLines_l11010 d m0))) [(0, (ref19_SameLines_k111 d))] (retK (rs 40))
noncomputable def ref19_SameLines_l110100100110 (d : Nat) (m0 : Nat) (m1 : Nat) : Kt := iter (fun k => run (X d) NN (cd 40 [1, 1, 0, 1, 0, 0, 1, 0, 0, 1, 1, 0, 0]) (backK [(0, .sl), (1, .sl), (5, .int .i64), (6, .int .i64)] (opq k)) [(2, (ref19_SameLines_k11010011 d m0)), (1, (ref19_SameLines_k11010011 d m0)), (0, (ref19_SameLines_k111 d))] (retK (rs 40))) m1
noncomputable def ref19_SameLines_p11010 (d : Nat) (m0 : Nat) (x0 : Sl) (x1 : Sl) (x5 : Int) (H : Heap) : Res := opq (ref19_SameLines_l11010 d m0) [(0, x0.v), (1, x1.v), (5, .int .i64 x5)] H
noncomputable def ref19_SameLines_p110100100110 (d : Nat) (m0 : Nat) (m1 : Nat) (x0 : Sl) (x1 : Sl) (x5 : Int) (x6 : Int) (H : Heap) : Res := opq (ref19_SameLines_l110100100110 d m0 m1) [(0, x0.v), (1, x1.v), (5, .int .i64 x5), (6, .int .i64 x6)] H
theorem ref19_SameLines_p11010_s (d : Nat) (m0 : Nat) (x0 : Sl) (x1 : Sl) (x5 : Int) (H : Heap) : ref19_SameLines_p11010 d (m0 + 1) x0 x1 x5 H =
  if (decide (x5 < (x0.n : Int))) = true then
  (optK x0.a fun a1 =>
    if 0 ≤ x5 ∧ x5 < (x0.n : Int) then
    optK (Heap.ld1 H (ap a1 (((x5).toNat) * 1))) fun v2 =>
    asSL v2 fun l3 =>
    optK x1.a fun a4 =>
    if 0 ≤ x5 ∧ x5 < (x1.n : Int) then
    optK (Heap.ld1 H (ap a4 (((x5).toNat) * 1))) fun v5 =>
    asSL v5 fun l6 =>
    if (!decide ((l3.n : Int) = (l6.n : Int))) = true then
    (some (.bool false, H))
    else
    (ref19_SameLines_p110100100110 d m0 NN x0 x1 x5 0 H)
    else none
    else none)
  else
  (some (.bool true, H)) := (opq_app _ _ _).trans <| by kernel_rfl
theorem ref19_SameLines_p110100100110_s (d : Nat) (m0 : Nat) (m1 : Nat) (x0 : Sl) (x1 : Sl) (x5 : Int) (x6 : Int) (H : Heap) : ref19_SameLines_p110100100110 d m0 (m1 + 1) x0 x1 x5 x6 H =
  optK x0.a fun a1 =>
  if 0 ≤ x5 ∧ x5 < (x0.n : Int) then
  optK (Heap.ld1 H (ap a1 (((x5).toNat) * 1))) fun v2 =>
  asSL v2 fun l3 =>
  if (decide (x6 < (l3.n : Int))) = true then
  (optK x0.a fun a4 =>
    if 0 ≤ x5 ∧ x5 < (x0.n : Int) then
    optK (Heap.ld1 H (ap a4 (((x5).toNat) * 1))) fun v5 =>
    asSL v5 fun l6 =>
    optK l6.a fun a7 =>
    if 0 ≤ x6 ∧ x6 < (l6.n : Int) then
    optK (ldA H (ap a7 (((x6).toNat) * 4)) 4) fun v8 =>
    asA v8 fun c9 =>
    optK x1.a fun a10 =>
    if 0 ≤ x5 ∧ x5 < (x1.n : Int) then
    optK (Heap.ld1 H (ap a10 (((x5).toNat) * 1))) fun v11 =>
    asSL v11 fun l12 =>
    optK l12.a fun a13 =>
    if 0 ≤ x6 ∧ x6 < (l12.n : Int) then
    optK (ldA H (ap a13 (((x6).toNat) * 4)) 4) fun v14 =>
    asA v14 fun c15 =>
    chk (Array.size c9 == 4 && Array.size c15 == 4) (optK (eqL [.int .i32, .int .i64, .int .i64, .int .i64] c9.toList c15.toList) fun b16 =>
      if (!b16) = true then
      (some (.bool false, H))
      else
      (ref19_SameLines_p110100100110 d m0 m1 x0 x1 x5 (IntKind.wrap .i64 (x6 + 1)) H))
    else none
    else none
    else none
    else none)
  else
  (ref19_SameLines_p11010 d m0 x0 x1 (IntKind.wrap .i64 (x5 + 1)) H)
  else none := (opq_app _ _ _).trans <| by kernel_rfl
theorem ref19_SameLines_eq (d : Nat) (x0 : Sl) (x1 : Sl) (H : Heap) : X (d + 1) n_ref19_SameLines [x0.v, x1.v] H =
  if (!decide ((x0.n : Int) = (x1.n : Int))) = true then
  (some (.bool false, H))
  else
  (ref19_SameLines_p11010 d NN x0 x1 0 H) := by kernel_rfl
end Go.Proofs.YtjmiehbiindjdaaGreatDoor.dec

namespace Go.Proofs.YtjmiehbiindjdaaGreatDoor.dec
open Go Go.Cm
/-! porthole/portholelaw21.same -/
theorem law21_same_eq (d : Nat) (x0 : Nat) (x1 : Nat) (H : Heap) : X (d + 1) n_law21_same [P0 x0, P0 x1] H =
  callK (X d n_grid_Grid_Modes [P0 x0] H) fun v1 H2 =>
  castT [.bool, .bool, .bool] v1 fun l3 =>
  castT [.bool, .bool, .bool] (.tuple ⟨l3⟩) fun l4 =>
  optK l4[0]? fun v5 =>
  asB v5 fun b6 =>
  optK l4[1]? fun v7 =>
  asB v7 fun b8 =>
  optK l4[2]? fun v9 =>
  asB v9 fun b10 =>
  callK (X d n_ref19_Grid_Modes [P0 x1] H2) fun v11 H12 =>
  castT [.bool, .bool, .bool] v11 fun l13 =>
  castT [.bool, .bool, .bool] (.tuple ⟨l13⟩) fun l14 =>
  optK l14[0]? fun v15 =>
  asB v15 fun b16 =>
  optK l14[1]? fun v17 =>
  asB v17 fun b18 =>
  optK l14[2]? fun v19 =>
  asB v19 fun b20 =>
  callK (X d n_grid_Grid_Screen [P0 x0] H12) fun v21 H22 =>
  asA v21 fun c23 =>
  callK (X d n_ref19_Grid_Screen [P0 x1] H22) fun v24 H25 =>
  asA v24 fun c26 =>
  callK (X d n_ref19_Same [.agg c23, .agg c26] H25) fun v27 H28 =>
  asB v27 fun b29 =>
  if b29 = true then
  (callK (X d n_grid_Grid_Past [P0 x0] H28) fun v30 H31 =>
    asSL v30 fun l32 =>
    callK (X d n_ref19_Grid_Past [P0 x1] H31) fun v33 H34 =>
    asSL v33 fun l35 =>
    callK (X d n_ref19_SameLines [l32.v, l35.v] H34) fun v36 H37 =>
    asB v36 fun b38 =>
    if b38 = true then
    (if (b6 == b16) = true then
      (if (b8 == b18) = true then
        (some (.bool (b10 == b20), H37))
        else
        (some (.bool false, H37)))
      else
      (some (.bool false, H37)))
    else
    (some (.bool false, H37)))
  else
  (some (.bool false, H28)) := by kernel_rfl
end Go.Proofs.YtjmiehbiindjdaaGreatDoor.dec

namespace Go.Proofs.YtjmiehbiindjdaaGreatDoor.dec
open Go Go.Cm
/-! (*porthole/grid.Grid).Modes -/
theorem grid_Grid_Modes_eq (d : Nat) (x0 : Nat) (H : Heap) : X (d + 1) n_grid_Grid_Modes [P0 x0] H =
  optK (Heap.ld1 H ⟨x0, 19, none⟩) fun v1 =>
  asB v1 fun b2 =>
  optK (Heap.ld1 H ⟨x0, 20, none⟩) fun v3 =>
  asB v3 fun b4 =>
  optK (Heap.ld1 H ⟨x0, 23, none⟩) fun v5 =>
  asSL v5 fun l6 =>
  some (.tuple #[.bool b2, .bool b4, .bool (!l6.a.isNone)], H) := by kernel_rfl
end Go.Proofs.YtjmiehbiindjdaaGreatDoor.dec

namespace Go.Proofs.YtjmiehbiindjdaaGreatDoor.dec
open Go Go.Cm
/-! (*porthole/portholeref19.Grid).Modes -/
theorem ref19_Grid_Modes_eq (d : Nat) (x0 : Nat) (H : Heap) : X (d + 1) n_ref19_Grid_Modes [P0 x0] H =
  optK (Heap.ld1 H ⟨x0, 25, none⟩) fun v1 =>
  asB v1 fun b2 =>
  optK (Heap.ld1 H ⟨x0, 26, none⟩) fun v3 =>
  asB v3 fun b4 =>
  optK (Heap.ld1 H ⟨x0, 29, none⟩) fun v5 =>
  asB v5 fun b6 =>
  some (.tuple #[.bool b2, .bool b4, .bool b6], H) := by kernel_rfl
end Go.Proofs.YtjmiehbiindjdaaGreatDoor.dec

namespace Go.Proofs.YtjmiehbiindjdaaGreatDoor.dec
open Go Go.Cm
/-! (*porthole/portholeref19.Grid).Screen -/
theorem ref19_Grid_Screen_eq (d : Nat) (x0 : Nat) (H : Heap) : X (d + 1) n_ref19_Grid_Screen [P0 x0] H =
  newK H (.cells [.int .i64 0, .int .i64 0, .slice none 0 0, .int .i64 0, .int .i64 0, .bool false] t_api_Screen false 0 false) fun p1 H2 =>
  optK (Heap.ld1 H2 ⟨x0, 6, none⟩) fun v3 =>
  asI .i64 v3 fun n4 =>
  optK (Heap.ld1 H2 ⟨x0, 7, none⟩) fun v5 =>
  asI .i64 v5 fun n6 =>
  optK (Heap.ld1 H2 ⟨x0, 8, none⟩) fun v7 =>
  asSL v7 fun l8 =>
  optK (Heap.ld1 H2 ⟨x0, 9, none⟩) fun v9 =>
  asI .i64 v9 fun n10 =>
  optK (Heap.ld1 H2 ⟨x0, 10, none⟩) fun v11 =>
  asI .i64 v11 fun n12 =>
  optK (Heap.ld1 H2 ⟨x0, 27, none⟩) fun v13 =>
  asB v13 fun b14 =>
  optK (Heap.stN H2 ⟨p1, 0, none⟩ [.int .i64 n4, .int .i64 n6, l8.v, .int .i64 n10, .int .i64 n12, .bool b14]) fun H15 =>
  retK [.cell 2 6 true] [(2, P0 p1)] H15 := by kernel_rfl
end Go.Proofs.YtjmiehbiindjdaaGreatDoor.dec

namespace Go.Proofs.YtjmiehbiindjdaaGreatDoor.dec
open Go Go.Cm
/-! (*porthole/portholeref19.Grid).Past -/
theorem ref19_Grid_Past_eq (d : Nat) (x0 : Nat) (H : Heap) : X (d + 1) n_ref19_Grid_Past [P0 x0] H =
  optK (Heap.ld1 H ⟨x0, 38, none⟩) fun v1 =>
  asSL v1 fun l2 =>
  some (l2.v, H) := by kernel_rfl
end Go.Proofs.YtjmiehbiindjdaaGreatDoor.dec

namespace Go.Proofs.YtjmiehbiindjdaaGreatDoor.dec
open Go Go.Cm
/-! porthole/portholelaw21.GridActs -/
noncomputable def law21_GridActs_k111111 (d : Nat) : Kt := run (X d) NN (cd 3 [1, 1, 1, 1, 1, 1]) (retK (rs 3)) [] (retK (rs 3))
noncomputable def law21_GridActs_k1111111 (d : Nat) : Kt := run (X d) NN (cd 3 [1, 1, 1, 1, 1, 1, 1]) (retK (rs 3)) [] (retK (rs 3))
noncomputable def law21_GridActs_l111111010 (d : Nat) (m0 : Nat) : Kt := iter (fun k => run (X d) NN (cd 3 [1, 1, 1, 1, 1, 1, 0, 1, 0, 0]) (backK [(2, .sl), (3, .sl), (9, .ptr), (11, .ptr), (12, .int .i64)] (opq k)) [(0, (law21_GridActs_k1111111 d))] (retK (rs 3))) m0
noncomputable def law21_GridActs_k11111101001 (d : Nat) (m0 : Nat) : Kt := run (X d) NN (cd 3 [1, 1, 1, 1, 1, 1, 0, 1, 0, 0, 1]) (backK [(2, .sl), (3, .sl), (9, .ptr), (11, .ptr), (12, .int .i64)] (opq (law21_GridActs_l111111010 d m0))) [(0, (law21_GridActs_k1111111 d))] (retK (rs 3))
noncomputable def law21_GridActs_k111111010011 (d : Nat) (m0 : Nat) : Kt := run (X d) NN (cd 3 [1, 1, 1, 1, 1, 1, 0, 1, 0, 0, 1, 1]) (backK [(2, .sl), (3, .sl), (9, .ptr), (11, .ptr), (12, .int .i64)] (opq (law21_GridActs_l111111010 d m0))) [(0, (law21_GridActs_k1111111 d))] (retK (rs 3))
noncomputable def law21_GridActs_k11111101001001110111 (d : Nat) (m0 : Nat) : Kt := run (X d) NN (cd 3 [1, 1, 1, 1, 1, 1, 0, 1, 0, 0, 1, 0, 0, 1, 1, 1, 0, 1, 1, 1]) (law21_GridActs_k111111010011 d m0) [(1, (law21_GridActs_k111111010011 d m0)), (0, (law21_GridActs_k1111111 d))] (retK (rs 3))
noncomputable def law21_GridActs_l1111110100100111011010 (d : Nat) (m0 : Nat) (m1 : Nat) : Kt := iter (fun k => run (X d) NN (cd 3 [1, 1, 1, 1, 1, 1, 0, 1, 0, 0, 1, 0, 0, 1, 1, 1, 0, 1, 1, 0, 1, 0, 0]) (backK [(2, .sl), (3, .sl), (9, .ptr), (11, .ptr), (12, .int .i64), (13, .any), (14, .int .i64), (15, .sl), (16, .int .i64)] (opq k)) [(2, (law21_GridActs_k11111101001001110111 d m0)), (1, (law21_GridActs_k111111010011 d m0)), (0, (law21_GridActs_k1111111 d))] (retK (rs 3))) m1
noncomputable def law21_GridActs_k111111010010011101101001 (d : Nat) (m0 : Nat) (m1 : Nat) : Kt := run (X d) NN (cd 3 [1, 1, 1, 1, 1, 1, 0, 1, 0, 0, 1, 0, 0, 1, 1, 1, 0, 1, 1, 0, 1, 0, 0, 1]) (backK [(2, .sl), (3, .sl), (9, .ptr), (11, .ptr), (12, .int .i64), (13, .any), (14, .int .i64), (15, .sl), (16, .int .i64)] (opq (law21_GridActs_l1111110100100111011010 d m0 m1))) [(2, (law21_GridActs_k11111101001001110111 d m0)), (1, (law21_GridActs_k111111010011 d m0)), (0, (law21_GridActs_k1111111 d))] (retK (rs 3))
noncomputable def law21_GridActs_p1111101 (d : Nat) (x2 : Sl) (x3 : Sl) (x9 : Option Addr) (x11 : Option Addr) (x41 : Bool) (H : Heap) : Res := opq (run (X d) NN (cd 3 [1, 1, 1, 1, 1, 0, 1, 0]) (law21_GridActs_k111111 d) [] (retK (rs 3))) [(2, x2.v), (3, x3.v), (9, .pointer x9), (11, .pointer x11), (41, .bool x41)] H
noncomputable def law21_GridActs_p111111010 (d : Nat) (m0 : Nat) (x2 : Sl) (x3 : Sl) (x9 : Option Addr) (x11 : Option Addr) (x12 : Int) (H : Heap) : Res := opq (law21_GridActs_l111111010 d m0) [(2, x2.v), (3, x3.v), (9, .pointer x9), (11, .pointer x11), (12, .int .i64 x12)] H
noncomputable def law21_GridActs_p111111010001 (d : Nat) (m0 : Nat) (x2 : Sl) (x3 : Sl) (x9 : Option Addr) (x11 : Option Addr) (x12 : Int) (x49 : Bool) (H : Heap) : Res := opq (run (X d) NN (cd 3 [1, 1, 1, 1, 1, 1, 0, 1, 0, 0, 0, 1, 0]) (law21_GridActs_k11111101001 d m0) [(0, (law21_GridActs_k1111111 d))] (retK (rs 3))) [(2, x2.v), (3, x3.v), (9, .pointer x9), (11, .pointer x11), (12, .int .i64 x12), (49, .bool x49)] H
noncomputable def law21_GridActs_p1111110100100111 (d : Nat) (m0 : Nat) (x2 : Sl) (x3 : Sl) (x9 : Option Addr) (x11 : Option Addr) (x12 : Int) (x13 : Nat) (x14 : Int) (H : Heap) : Res := opq (run (X d) NN (cd 3 [1, 1, 1, 1, 1, 1, 0, 1, 0, 0, 1, 0, 0, 1, 1, 1, 0]) (law21_GridActs_k111111010011 d m0) [(1, (law21_GridActs_k111111010011 d m0)), (0, (law21_GridActs_k1111111 d))] (retK (rs 3))) [(2, x2.v), (3, x3.v), (9, .pointer x9), (11, .pointer x11), (12, .int .i64 x12), (13, P0 x13), (14, .int .i64 x14)] H
noncomputable def law21_GridActs_p1111110100100111011010 (d : Nat) (m0 : Nat) (m1 : Nat) (x2 : Sl) (x3 : Sl) (x9 : Option Addr) (x11 : Option Addr) (x12 : Int) (x13 : Nat) (x14 : Int) (x15 : Sl) (x16 : Int) (H : Heap) : Res := opq (law21_GridActs_l1111110100100111011010 d m0 m1) [(2, x2.v), (3, x3.v), (9, .pointer x9), (11, .pointer x11), (12, .int .i64 x12), (13, P0 x13), (14, .int .i64 x14), (15, x15.v), (16, .int .i64 x16)] H
noncomputable def law21_GridActs_p1111110100100111011010001 (d : Nat) (m0 : Nat) (m1 : Nat) (x2 : Sl) (x3 : Sl) (x9 : Option Addr) (x11 : Option Addr) (x12 : Int) (x13 : Nat) (x14 : Int) (x15 : Sl) (x16 : Int) (x78 : Bool) (H : Heap) : Res := opq (run (X d) NN (cd 3 [1, 1, 1, 1, 1, 1, 0, 1, 0, 0, 1, 0, 0, 1, 1, 1, 0, 1, 1, 0, 1, 0, 0, 0, 1, 0]) (law21_GridActs_k111111010010011101101001 d m0 m1) [(2, (law21_GridActs_k11111101001001110111 d m0)), (1, (law21_GridActs_k111111010011 d m0)), (0, (law21_GridActs_k1111111 d))] (retK (rs 3))) [(2, x2.v), (3, x3.v), (9, .pointer x9), (11, .pointer x11), (12, .int .i64 x12), (13, P0 x13), (14, .int .i64 x14), (15, x15.v), (16, .int .i64 x16), (78, .bool x78)] H
noncomputable def law21_GridActs_p1111110100100111011111 (d : Nat) (m0 : Nat) (x2 : Sl) (x3 : Sl) (x9 : Option Addr) (x11 : Option Addr) (x12 : Int) (x13 : Nat) (H : Heap) : Res := opq (run (X d) NN (cd 3 [1, 1, 1, 1, 1, 1, 0, 1, 0, 0, 1, 0, 0, 1, 1, 1, 0, 1, 1, 1, 1, 1, 0]) (law21_GridActs_k111111010011 d m0) [(1, (law21_GridActs_k111111010011 d m0)), (0, (law21_GridActs_k1111111 d))] (retK (rs 3))) [(2, x2.v), (3, x3.v), (9, .pointer x9), (11, .pointer x11), (12, .int .i64 x12), (13, P0 x13)] H
theorem law21_GridActs_p1111101_eq (d : Nat) (x2 : Sl) (x3 : Sl) (x9 : Option Addr) (x11 : Option Addr) (x41 : Bool) (H : Heap) : law21_GridActs_p1111101 d x2 x3 x9 x11 x41 H =
  if x41 = true then
  (some (.bool false, H))
  else
  (law21_GridActs_p111111010 d NN x2 x3 x9 x11 0 H) := (opq_app _ _ _).trans <| by kernel_rfl
theorem law21_GridActs_p111111010_s (d : Nat) (m0 : Nat) (x2 : Sl) (x3 : Sl) (x9 : Option Addr) (x11 : Option Addr) (x12 : Int) (H : Heap) : law21_GridActs_p111111010 d (m0 + 1) x2 x3 x9 x11 x12 H =
  if (decide (x12 < (x2.n : Int))) = true then
  (law21_GridActs_p111111010001 d m0 x2 x3 x9 x11 x12 (decide (x12 < 60)) H)
  else
  (law21_GridActs_p111111010001 d m0 x2 x3 x9 x11 x12 false H) := (opq_app _ _ _).trans <| by kernel_rfl
theorem law21_GridActs_p111111010001_eq (d : Nat) (m0 : Nat) (x2 : Sl) (x3 : Sl) (x9 : Option Addr) (x11 : Option Addr) (x12 : Int) (x49 : Bool) (H : Heap) : law21_GridActs_p111111010001 d m0 x2 x3 x9 x11 x12 x49 H =
  if x49 = true then
  (optK x2.a fun a1 =>
    if 0 ≤ x12 ∧ x12 < (x2.n : Int) then
    optK (ldA H (ap a1 (((x12).toNat) * 4)) 4) fun v2 =>
    asA v2 fun c3 =>
    newK H (.cells [.int .i64 0, .int .i32 0, .bool false, .slice none 0 0] t_vt_Act false 0 false) fun p4 H5 =>
    effK (.store 4) [P0 p4, .agg c3] H5 fun _ H7 =>
    optK (Heap.ld1 H7 ⟨p4, 0, none⟩) fun v8 =>
    asI .i64 v8 fun n9 =>
    if (decide (x12 < (x3.n : Int))) = true then
    (optK x3.a fun a10 =>
      if 0 ≤ x12 ∧ x12 < (x3.n : Int) then
      optK (Heap.ld1 H7 (ap a10 (((x12).toNat) * 1))) fun v11 =>
      asI .i64 v11 fun n12 =>
      law21_GridActs_p1111110100100111 d m0 x2 x3 x9 x11 x12 p4 n12 H7
      else none)
    else
    (law21_GridActs_p1111110100100111 d m0 x2 x3 x9 x11 x12 p4 n9 H7)
    else none)
  else
  (some (.bool true, H)) := (opq_app _ _ _).trans <| by kernel_rfl
theorem law21_GridActs_p1111110100100111_eq (d : Nat) (m0 : Nat) (x2 : Sl) (x3 : Sl) (x9 : Option Addr) (x11 : Option Addr) (x12 : Int) (x13 : Nat) (x14 : Int) (H : Heap) : law21_GridActs_p1111110100100111 d m0 x2 x3 x9 x11 x12 x13 x14 H =
  callK (X d n_hand_Pick [.int .i64 x14, .int .i64 4] H) fun v1 H2 =>
  asI .i64 v1 fun n3 =>
  optK (Heap.st1 H2 ⟨x13, 0, none⟩ (.int .i64 (IntKind.wrap .i64 (1 + n3)))) fun H4 =>
  law21_GridActs_p1111110100100111011010 d m0 NN x2 x3 x9 x11 x12 x13 x14 Sl.nil 0 H4 := (opq_app _ _ _).trans <| by kernel_rfl
theorem law21_GridActs_p1111110100100111011010_s (d : Nat) (m0 : Nat) (m1 : Nat) (x2 : Sl) (x3 : Sl) (x9 : Option Addr) (x11 : Option Addr) (x12 : Int) (x13 : Nat) (x14 : Int) (x15 : Sl) (x16 : Int) (H : Heap) : law21_GridActs_p1111110100100111011010 d m0 (m1 + 1) x2 x3 x9 x11 x12 x13 x14 x15 x16 H =
  optK (Heap.ld1 H ⟨x13, 3, none⟩) fun v1 =>
  asSL v1 fun l2 =>
  if (decide (x16 < (l2.n : Int))) = true then
  (law21_GridActs_p1111110100100111011010001 d m0 m1 x2 x3 x9 x11 x12 x13 x14 x15 x16 (decide (x16 < 16)) H)
  else
  (law21_GridActs_p1111110100100111011010001 d m0 m1 x2 x3 x9 x11 x12 x13 x14 x15 x16 false H) := (opq_app _ _ _).trans <| by kernel_rfl
theorem law21_GridActs_p1111110100100111011010001_eq (d : Nat) (m0 : Nat) (m1 : Nat) (x2 : Sl) (x3 : Sl) (x9 : Option Addr) (x11 : Option Addr) (x12 : Int) (x13 : Nat) (x14 : Int) (x15 : Sl) (x16 : Int) (x78 : Bool) (H : Heap) : law21_GridActs_p1111110100100111011010001 d m0 m1 x2 x3 x9 x11 x12 x13 x14 x15 x16 x78 H =
  if x78 = true then
  (optK (Heap.ld1 H ⟨x13, 3, none⟩) fun v1 =>
    asSL v1 fun l2 =>
    optK l2.a fun a3 =>
    if 0 ≤ x16 ∧ x16 < (l2.n : Int) then
    optK (Heap.ld1 H (ap a3 (((x16).toNat) * 1))) fun v4 =>
    asI .i64 v4 fun n5 =>
    callK (X d n_hand_Pick [.int .i64 n5, .int .i64 60] H) fun v6 H7 =>
    asI .i64 v6 fun n8 =>
    newK H7 (.cells [.int .i64 n8] t_int false 0 false) fun p9 H10 =>
    appendK t_int 1 8 false x15.v (.slice (some ⟨p9, 0, none⟩) 1 1) H10 fun v11 H12 =>
    asSL v11 fun l13 =>
    law21_GridActs_p1111110100100111011010 d m0 m1 x2 x3 x9 x11 x12 x13 x14 l13 (IntKind.wrap .i64 (x16 + 1)) H12
    else none)
  else
  (callK (X d n_hand_Pick [.int .i64 x14, .int .i64 12] H) fun v14 H15 =>
    asI .i64 v14 fun n16 =>
    newK H15 (.cells [.int .i64 n16] t_int false 0 false) fun p17 H18 =>
    appendK t_int 1 8 false x15.v (.slice (some ⟨p17, 0, none⟩) 1 1) H18 fun v19 H20 =>
    asSL v19 fun l21 =>
    optK (Heap.st1 H20 ⟨x13, 3, none⟩ l21.v) fun H22 =>
    optK (Heap.ld1 H22 ⟨x13, 0, none⟩) fun v23 =>
    asI .i64 v23 fun n24 =>
    if (decide (n24 = 1)) = true then
    (optK (Heap.ld1 H22 ⟨x13, 1, none⟩) fun v25 =>
      asI .i32 v25 fun n26 =>
      callK (X d n_hand_Pick [.int .i64 (IntKind.wrap .i64 n26), .int .i64 4] H22) fun v27 H28 =>
      asI .i64 v27 fun n29 =>
      if 0 ≤ n29 ∧ n29 < 4 then
      optK (partL [.int .i32 97, .int .i32 98, .int .i32 8364, .int .i32 122] (((n29).toNat) * 1) 1 false) fun v30 =>
      asI .i32 v30 fun n31 =>
      optK (Heap.st1 H28 ⟨x13, 1, none⟩ (.int .i32 n31)) fun H32 =>
      law21_GridActs_p1111110100100111011111 d m0 x2 x3 x9 x11 x12 x13 H32
      else none)
    else
    (if (decide (n24 = 2)) = true then
      (optK (Heap.ld1 H22 ⟨x13, 1, none⟩) fun v33 =>
        asI .i32 v33 fun n34 =>
        callK (X d n_hand_Pick [.int .i64 (IntKind.wrap .i64 n34), .int .i64 7] H22) fun v35 H36 =>
        asI .i64 v35 fun n37 =>
        optK (Heap.st1 H36 ⟨x13, 1, none⟩ (.int .i32 (IntKind.wrap .i32 (IntKind.wrap .i64 (7 + n37))))) fun H38 =>
        law21_GridActs_p1111110100100111011111 d m0 x2 x3 x9 x11 x12 x13 H38)
      else
      (if (decide (n24 = 3)) = true then
        (optK (Heap.ld1 H22 ⟨x13, 1, none⟩) fun v39 =>
          asI .i32 v39 fun n40 =>
          callK (X d n_hand_Pick [.int .i64 (IntKind.wrap .i64 n40), .int .i64 8] H22) fun v41 H42 =>
          asI .i64 v41 fun n43 =>
          if 0 ≤ n43 ∧ n43 < (slen (S [68, 69, 77, 55, 56, 99, 72, 120]) : Int) then
          optK (Heap.st1 H42 ⟨x13, 1, none⟩ (.int .i32 (IntKind.wrap .i32 (bt (S [68, 69, 77, 55, 56, 99, 72, 120]) ((n43).toNat))))) fun H44 =>
          law21_GridActs_p1111110100100111011111 d m0 x2 x3 x9 x11 x12 x13 H44
          else none)
        else
        (optK (Heap.ld1 H22 ⟨x13, 1, none⟩) fun v45 =>
          asI .i32 v45 fun n46 =>
          callK (X d n_hand_Pick [.int .i64 (IntKind.wrap .i64 n46), .int .i64 25] H22) fun v47 H48 =>
          asI .i64 v47 fun n49 =>
          if 0 ≤ n49 ∧ n49 < (slen (S [65, 66, 67, 68, 69, 70, 71, 100, 72, 102, 74, 75, 76, 77, 64, 80, 88, 83, 84, 114, 109, 104, 108, 103, 122]) : Int) then
          optK (Heap.st1 H48 ⟨x13, 1, none⟩ (.int .i32 (IntKind.wrap .i32 (bt (S [65, 66, 67, 68, 69, 70, 71, 100, 72, 102, 74, 75, 76, 77, 64, 80, 88, 83, 84, 114, 109, 104, 108, 103, 122]) ((n49).toNat))))) fun H50 =>
          optK (Heap.ld1 H50 ⟨x13, 2, none⟩) fun v51 =>
          asB v51 fun b52 =>
          if b52 = true then
          (optK (Heap.ld1 H50 ⟨x13, 1, none⟩) fun v53 =>
            asI .i32 v53 fun n54 =>
            callK (X d n_hand_Pick [.int .i64 (IntKind.wrap .i64 n54), .int .i64 5] H50) fun v55 H56 =>
            asI .i64 v55 fun n57 =>
            if 0 ≤ n57 ∧ n57 < (slen (S [104, 108, 104, 108, 74]) : Int) then
            optK (Heap.st1 H56 ⟨x13, 1, none⟩ (.int .i32 (IntKind.wrap .i32 (bt (S [104, 108, 104, 108, 74]) ((n57).toNat))))) fun H58 =>
            callK (X d n_hand_Pick [.int .i64 x14, .int .i64 4] H58) fun v59 H60 =>
            asI .i64 v59 fun n61 =>
            if 0 ≤ n61 ∧ n61 < 4 then
            optK (partL [.int .i64 7, .int .i64 25, .int .i64 1049, .int .i64 3] (((n61).toNat) * 1) 1 false) fun v62 =>
            asI .i64 v62 fun n63 =>
            newK H60 (.cells [.int .i64 n63] t_int false 0 false) fun p64 H65 =>
            optK (Heap.st1 H65 ⟨x13, 3, none⟩ (.slice (some ⟨p64, 0, none⟩) 1 1)) fun H66 =>
            law21_GridActs_p1111110100100111011111 d m0 x2 x3 x9 x11 x12 x13 H66
            else none
            else none)
          else
          (law21_GridActs_p1111110100100111011111 d m0 x2 x3 x9 x11 x12 x13 H50)
          else none)))) := (opq_app _ _ _).trans <| by kernel_rfl
theorem law21_GridActs_p1111110100100111011111_eq (d : Nat) (m0 : Nat) (x2 : Sl) (x3 : Sl) (x9 : Option Addr) (x11 : Option Addr) (x12 : Int) (x13 : Nat) (H : Heap) : law21_GridActs_p1111110100100111011111 d m0 x2 x3 x9 x11 x12 x13 H =
  optK (ldA H ⟨x13, 0, none⟩ 4) fun v1 =>
  asA v1 fun c2 =>
  callK (X d n_grid_Grid_Do [.pointer x9, .agg c2] H) fun _ H4 =>
  optK (ldA H4 ⟨x13, 0, none⟩ 4) fun v5 =>
  asA v5 fun c6 =>
  callK (X d n_ref19_Grid_Do [.pointer x11, .agg c6] H4) fun _ H8 =>
  callK (X d n_law21_same [.pointer x9, .pointer x11] H8) fun v9 H10 =>
  asB v9 fun b11 =>
  if (!b11) = true then
  (some (.bool false, H10))
  else
  (law21_GridActs_p111111010 d m0 x2 x3 x9 x11 (IntKind.wrap .i64 (x12 + 1)) H10) := (opq_app _ _ _).trans <| by kernel_rfl
theorem law21_GridActs_eq (d : Nat) (x0 : Int) (x1 : Int) (x2 : Sl) (x3 : Sl) (H : Heap) : X (d + 1) n_law21_GridActs [.int .i64 x0, .int .i64 x1, x2.v, x3.v] H =
  callK (X d n_hand_Pick [.int .i64 x0, .int .i64 6] H) fun v1 H2 =>
  asI .i64 v1 fun n3 =>
  callK (X d n_hand_Pick [.int .i64 x1, .int .i64 10] H2) fun v4 H5 =>
  asI .i64 v4 fun n6 =>
  callK (X d n_grid_New [.int .i64 (IntKind.wrap .i64 (1 + n3)), .int .i64 (IntKind.wrap .i64 (1 + n6))] H5) fun v7 H8 =>
  castT [.ptr, .int .i64] v7 fun l9 =>
  castT [.ptr, .int .i64] (.tuple ⟨l9⟩) fun l10 =>
  optK l10[0]? fun v11 =>
  asP v11 fun o12 =>
  optK l10[1]? fun v13 =>
  asI .i64 v13 fun n14 =>
  callK (X d n_ref19_New [.int .i64 (IntKind.wrap .i64 (1 + n3)), .int .i64 (IntKind.wrap .i64 (1 + n6))] H8) fun v15 H16 =>
  asP v15 fun o17 =>
  callK (X d n_law21_known [] H16) fun v18 H19 =>
  asB v18 fun b20 =>
  if (!b20) = true then
  (law21_GridActs_p1111101 d x2 x3 o12 o17 true H19)
  else
  (if (!decide (n14 = 0)) = true then
    (law21_GridActs_p1111101 d x2 x3 o12 o17 true H19)
    else
    (law21_GridActs_p1111101 d x2 x3 o12 o17 o12.isNone H19)) := by kernel_rfl
end Go.Proofs.YtjmiehbiindjdaaGreatDoor.dec
