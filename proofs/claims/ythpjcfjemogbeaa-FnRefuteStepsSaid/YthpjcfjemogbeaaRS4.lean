/- The functions, turned for the memory: printed by program. -/
import Derived.Test.YthpjcfjemogbeaaRS3
import Derived.Test.YthpjcfjemogbeaaProg
import Derived.KernelRfl
set_option linter.unusedVariables false
set_option linter.unusedSimpArgs false
set_option maxRecDepth 10000
set_option maxHeartbeats 4000000
namespace Go.M2
open Go.Proofs
variable {P : Program} {Q : Post} {e : Env} {H : Heap} {args : List AV} {R : AV → Heap → Prop}
@[go_sem] def l_slices_partialInsertionSortCmpFunc_int_0 : List GOp := [⟨(some 8), .mv (.c (.bool false)), none⟩]
def slices_partialInsertionSortCmpFunc_int_0 : IR := .ops l_slices_partialInsertionSortCmpFunc_int_0
@[go_sem] theorem w_slices_partialInsertionSortCmpFunc_int_0 : wp P slices_partialInsertionSortCmpFunc_int_0 Q e H = wpL P l_slices_partialInsertionSortCmpFunc_int_0 (Q .normal) e H := idE rfl
@[go_sem] def l_slices_partialInsertionSortCmpFunc_int_1 : List GOp := [⟨(some 13), .mv (.t 1), none⟩,
    ⟨(some 14), .bin .add (.t 13) (.c (.int .i64 1)), none⟩,
    ⟨(some 9), .mv (.t 14), none⟩]
def slices_partialInsertionSortCmpFunc_int_1 : IR := .ops l_slices_partialInsertionSortCmpFunc_int_1
@[go_sem] theorem w_slices_partialInsertionSortCmpFunc_int_1 : wp P slices_partialInsertionSortCmpFunc_int_1 Q e H = wpL P l_slices_partialInsertionSortCmpFunc_int_1 (Q .normal) e H := idE rfl
@[go_sem] def l_slices_partialInsertionSortCmpFunc_int_2 : List GOp := [⟨(some 10), .mv (.c (.int .i64 0)), none⟩]
def slices_partialInsertionSortCmpFunc_int_2 : IR := .ops l_slices_partialInsertionSortCmpFunc_int_2
@[go_sem] theorem w_slices_partialInsertionSortCmpFunc_int_2 : wp P slices_partialInsertionSortCmpFunc_int_2 Q e H = wpL P l_slices_partialInsertionSortCmpFunc_int_2 (Q .normal) e H := idE rfl
@[go_sem] def l_slices_partialInsertionSortCmpFunc_int_3 : List GOp := [⟨(some 15), .mv (.t 10), none⟩,
    ⟨(some 16), .bin .lss (.t 15) (.c (.int .i64 5)), none⟩]
def slices_partialInsertionSortCmpFunc_int_3 : IR := .ops l_slices_partialInsertionSortCmpFunc_int_3
@[go_sem] theorem w_slices_partialInsertionSortCmpFunc_int_3 : wp P slices_partialInsertionSortCmpFunc_int_3 Q e H = wpL P l_slices_partialInsertionSortCmpFunc_int_3 (Q .normal) e H := idE rfl
def slices_partialInsertionSortCmpFunc_int_4 : IR := .cond (.t 16) .skip (.exit 0)
@[go_sem] theorem w_slices_partialInsertionSortCmpFunc_int_4 : wp P slices_partialInsertionSortCmpFunc_int_4 Q e H = condW P ((.t 16) : X) .skip (.exit 0) Q e H := idE rfl
def l_slices_partialInsertionSortCmpFunc_int_5 : List GOp := [⟨(some 19), .mv (.t 9), none⟩,
    ⟨(some 20), .mv (.t 2), none⟩,
    ⟨(some 21), .bin .lss (.t 19) (.t 20), none⟩,
    ⟨(some 22), .mv (.t 21), none⟩,
    ⟨(some 23), .mv (.t 3), (some (22, true))⟩,
    ⟨(some 24), .mv (.t 0), (some (22, true))⟩,
    ⟨(some 25), .mv (.t 9), (some (22, true))⟩,
    ⟨(some 26), .iaddr (.t 24) (.t 25) 1, (some (22, true))⟩,
    ⟨(some 27), .load (.t 26) 1 false, (some (22, true))⟩,
    ⟨(some 28), .mv (.t 0), (some (22, true))⟩,
    ⟨(some 29), .mv (.t 9), (some (22, true))⟩,
    ⟨(some 30), .bin .sub (.t 29) (.c (.int .i64 1)), (some (22, true))⟩,
    ⟨(some 31), .iaddr (.t 28) (.t 30) 1, (some (22, true))⟩,
    ⟨(some 32), .load (.t 31) 1 false, (some (22, true))⟩,
    ⟨(some 33), .callv (.t 23) [(.t 27), (.t 32)], (some (22, true))⟩,
    ⟨(some 34), .bin .lss (.t 33) (.c (.int .i64 0)), (some (22, true))⟩,
    ⟨(some 35), .un .not (.t 34), (some (22, true))⟩,
    ⟨(some 36), .pick (.t 22) (.t 35) (.c (.bool false)), none⟩]
@[go_sem] theorem g_slices_partialInsertionSortCmpFunc_int_5_0 : gAt l_slices_partialInsertionSortCmpFunc_int_5 0 = ⟨(some 19), .mv (.t 9), none⟩ := idE rfl
@[go_sem] theorem g_slices_partialInsertionSortCmpFunc_int_5_1 : gAt l_slices_partialInsertionSortCmpFunc_int_5 1 = ⟨(some 20), .mv (.t 2), none⟩ := idE rfl
@[go_sem] theorem g_slices_partialInsertionSortCmpFunc_int_5_2 : gAt l_slices_partialInsertionSortCmpFunc_int_5 2 = ⟨(some 21), .bin .lss (.t 19) (.t 20), none⟩ := idE rfl
@[go_sem] theorem g_slices_partialInsertionSortCmpFunc_int_5_3 : gAt l_slices_partialInsertionSortCmpFunc_int_5 3 = ⟨(some 22), .mv (.t 21), none⟩ := idE rfl
@[go_sem] theorem g_slices_partialInsertionSortCmpFunc_int_5_4 : gAt l_slices_partialInsertionSortCmpFunc_int_5 4 = ⟨(some 23), .mv (.t 3), (some (22, true))⟩ := idE rfl
@[go_sem] theorem g_slices_partialInsertionSortCmpFunc_int_5_5 : gAt l_slices_partialInsertionSortCmpFunc_int_5 5 = ⟨(some 24), .mv (.t 0), (some (22, true))⟩ := idE rfl
@[go_sem] theorem g_slices_partialInsertionSortCmpFunc_int_5_6 : gAt l_slices_partialInsertionSortCmpFunc_int_5 6 = ⟨(some 25), .mv (.t 9), (some (22, true))⟩ := idE rfl
@[go_sem] theorem g_slices_partialInsertionSortCmpFunc_int_5_7 : gAt l_slices_partialInsertionSortCmpFunc_int_5 7 = ⟨(some 26), .iaddr (.t 24) (.t 25) 1, (some (22, true))⟩ := idE rfl
@[go_sem] theorem g_slices_partialInsertionSortCmpFunc_int_5_8 : gAt l_slices_partialInsertionSortCmpFunc_int_5 8 = ⟨(some 27), .load (.t 26) 1 false, (some (22, true))⟩ := idE rfl
@[go_sem] theorem g_slices_partialInsertionSortCmpFunc_int_5_9 : gAt l_slices_partialInsertionSortCmpFunc_int_5 9 = ⟨(some 28), .mv (.t 0), (some (22, true))⟩ := idE rfl
@[go_sem] theorem g_slices_partialInsertionSortCmpFunc_int_5_10 : gAt l_slices_partialInsertionSortCmpFunc_int_5 10 = ⟨(some 29), .mv (.t 9), (some (22, true))⟩ := idE rfl
@[go_sem] theorem g_slices_partialInsertionSortCmpFunc_int_5_11 : gAt l_slices_partialInsertionSortCmpFunc_int_5 11 = ⟨(some 30), .bin .sub (.t 29) (.c (.int .i64 1)), (some (22, true))⟩ := idE rfl
@[go_sem] theorem g_slices_partialInsertionSortCmpFunc_int_5_12 : gAt l_slices_partialInsertionSortCmpFunc_int_5 12 = ⟨(some 31), .iaddr (.t 28) (.t 30) 1, (some (22, true))⟩ := idE rfl
@[go_sem] theorem g_slices_partialInsertionSortCmpFunc_int_5_13 : gAt l_slices_partialInsertionSortCmpFunc_int_5 13 = ⟨(some 32), .load (.t 31) 1 false, (some (22, true))⟩ := idE rfl
@[go_sem] theorem g_slices_partialInsertionSortCmpFunc_int_5_14 : gAt l_slices_partialInsertionSortCmpFunc_int_5 14 = ⟨(some 33), .callv (.t 23) [(.t 27), (.t 32)], (some (22, true))⟩ := idE rfl
@[go_sem] theorem g_slices_partialInsertionSortCmpFunc_int_5_15 : gAt l_slices_partialInsertionSortCmpFunc_int_5 15 = ⟨(some 34), .bin .lss (.t 33) (.c (.int .i64 0)), (some (22, true))⟩ := idE rfl
@[go_sem] theorem g_slices_partialInsertionSortCmpFunc_int_5_16 : gAt l_slices_partialInsertionSortCmpFunc_int_5 16 = ⟨(some 35), .un .not (.t 34), (some (22, true))⟩ := idE rfl
@[go_sem] theorem g_slices_partialInsertionSortCmpFunc_int_5_17 : gAt l_slices_partialInsertionSortCmpFunc_int_5 17 = ⟨(some 36), .pick (.t 22) (.t 35) (.c (.bool false)), none⟩ := idE rfl
def slices_partialInsertionSortCmpFunc_int_5 : IR := .dops l_slices_partialInsertionSortCmpFunc_int_5 [(0, []), (1, []), (2, []), (3, []), (4, []), (5, []), (6, []), (7, []), (8, []), (9, []), (10, []), (11, []), (12, []), (13, []), (14, []), (15, []), (16, []), (17, [])]
@[go_sem] theorem w_slices_partialInsertionSortCmpFunc_int_5 : wp P slices_partialInsertionSortCmpFunc_int_5 Q e H = wpD P l_slices_partialInsertionSortCmpFunc_int_5 [(0, []), (1, []), (2, []), (3, []), (4, []), (5, []), (6, []), (7, []), (8, []), (9, []), (10, []), (11, []), (12, []), (13, []), (14, []), (15, []), (16, []), (17, [])] (Q .normal) e H := idE rfl
def slices_partialInsertionSortCmpFunc_int_6 : IR := .cond (.t 36) .skip (.exit 2)
@[go_sem] theorem w_slices_partialInsertionSortCmpFunc_int_6 : wp P slices_partialInsertionSortCmpFunc_int_6 Q e H = condW P ((.t 36) : X) .skip (.exit 2) Q e H := idE rfl
@[go_sem] def l_slices_partialInsertionSortCmpFunc_int_7 : List GOp := [⟨(some 37), .mv (.t 9), none⟩,
    ⟨(some 38), .bin .add (.t 37) (.c (.int .i64 1)), none⟩,
    ⟨(some 9), .mv (.t 38), none⟩]
def slices_partialInsertionSortCmpFunc_int_7 : IR := .ops l_slices_partialInsertionSortCmpFunc_int_7
@[go_sem] theorem w_slices_partialInsertionSortCmpFunc_int_7 : wp P slices_partialInsertionSortCmpFunc_int_7 Q e H = wpL P l_slices_partialInsertionSortCmpFunc_int_7 (Q .normal) e H := idE rfl
def slices_partialInsertionSortCmpFunc_int_8 : IR := .block 3 slices_partialInsertionSortCmpFunc_int_7
@[go_sem] theorem w_slices_partialInsertionSortCmpFunc_int_8 : wp P slices_partialInsertionSortCmpFunc_int_8 Q e H = wp P slices_partialInsertionSortCmpFunc_int_7 (blockQ 3 Q) e H := idE rfl
def slices_partialInsertionSortCmpFunc_int_9 : IR := .loop (.seq (.seq slices_partialInsertionSortCmpFunc_int_5 slices_partialInsertionSortCmpFunc_int_6) slices_partialInsertionSortCmpFunc_int_8)
def slices_partialInsertionSortCmpFunc_int_10 : IR := .block 2 slices_partialInsertionSortCmpFunc_int_9
@[go_sem] theorem w_slices_partialInsertionSortCmpFunc_int_10 : wp P slices_partialInsertionSortCmpFunc_int_10 Q e H = wp P slices_partialInsertionSortCmpFunc_int_9 (blockQ 2 Q) e H := idE rfl
@[go_sem] def l_slices_partialInsertionSortCmpFunc_int_11 : List GOp := [⟨(some 39), .mv (.t 9), none⟩,
    ⟨(some 40), .mv (.t 2), none⟩,
    ⟨(some 41), .bin .eql (.t 39) (.t 40), none⟩]
def slices_partialInsertionSortCmpFunc_int_11 : IR := .ops l_slices_partialInsertionSortCmpFunc_int_11
@[go_sem] theorem w_slices_partialInsertionSortCmpFunc_int_11 : wp P slices_partialInsertionSortCmpFunc_int_11 Q e H = wpL P l_slices_partialInsertionSortCmpFunc_int_11 (Q .normal) e H := idE rfl
@[go_sem] def l_slices_partialInsertionSortCmpFunc_int_12 : List GOp := [⟨(some 8), .mv (.c (.bool true)), none⟩]
def slices_partialInsertionSortCmpFunc_int_12 : IR := .ops l_slices_partialInsertionSortCmpFunc_int_12
@[go_sem] theorem w_slices_partialInsertionSortCmpFunc_int_12 : wp P slices_partialInsertionSortCmpFunc_int_12 Q e H = wpL P l_slices_partialInsertionSortCmpFunc_int_12 (Q .normal) e H := idE rfl
def slices_partialInsertionSortCmpFunc_int_13 : IR := .cond (.t 41) (.seq slices_partialInsertionSortCmpFunc_int_12 .ret) .skip
@[go_sem] theorem w_slices_partialInsertionSortCmpFunc_int_13 : wp P slices_partialInsertionSortCmpFunc_int_13 Q e H = condW P ((.t 41) : X) (.seq slices_partialInsertionSortCmpFunc_int_12 .ret) .skip Q e H := idE rfl
@[go_sem] def l_slices_partialInsertionSortCmpFunc_int_14 : List GOp := [⟨(some 42), .mv (.t 2), none⟩,
    ⟨(some 43), .mv (.t 1), none⟩,
    ⟨(some 44), .bin .sub (.t 42) (.t 43), none⟩,
    ⟨(some 45), .bin .lss (.t 44) (.c (.int .i64 50)), none⟩]
def slices_partialInsertionSortCmpFunc_int_14 : IR := .ops l_slices_partialInsertionSortCmpFunc_int_14
@[go_sem] theorem w_slices_partialInsertionSortCmpFunc_int_14 : wp P slices_partialInsertionSortCmpFunc_int_14 Q e H = wpL P l_slices_partialInsertionSortCmpFunc_int_14 (Q .normal) e H := idE rfl
@[go_sem] def l_slices_partialInsertionSortCmpFunc_int_15 : List GOp := [⟨(some 8), .mv (.c (.bool false)), none⟩]
def slices_partialInsertionSortCmpFunc_int_15 : IR := .ops l_slices_partialInsertionSortCmpFunc_int_15
@[go_sem] theorem w_slices_partialInsertionSortCmpFunc_int_15 : wp P slices_partialInsertionSortCmpFunc_int_15 Q e H = wpL P l_slices_partialInsertionSortCmpFunc_int_15 (Q .normal) e H := idE rfl
def slices_partialInsertionSortCmpFunc_int_16 : IR := .cond (.t 45) (.seq slices_partialInsertionSortCmpFunc_int_15 .ret) .skip
@[go_sem] theorem w_slices_partialInsertionSortCmpFunc_int_16 : wp P slices_partialInsertionSortCmpFunc_int_16 Q e H = condW P ((.t 45) : X) (.seq slices_partialInsertionSortCmpFunc_int_15 .ret) .skip Q e H := idE rfl
def l_slices_partialInsertionSortCmpFunc_int_17 : List GOp := [⟨(some 46), .mv (.t 0), none⟩,
    ⟨(some 47), .mv (.t 9), none⟩,
    ⟨(some 48), .mv (.t 0), none⟩,
    ⟨(some 49), .mv (.t 9), none⟩,
    ⟨(some 50), .bin .sub (.t 49) (.c (.int .i64 1)), none⟩,
    ⟨(some 51), .mv (.t 0), none⟩,
    ⟨(some 52), .mv (.t 9), none⟩,
    ⟨(some 53), .bin .sub (.t 52) (.c (.int .i64 1)), none⟩,
    ⟨(some 54), .iaddr (.t 51) (.t 53) 1, none⟩,
    ⟨(some 55), .load (.t 54) 1 false, none⟩,
    ⟨(some 56), .mv (.t 0), none⟩,
    ⟨(some 57), .mv (.t 9), none⟩,
    ⟨(some 58), .iaddr (.t 56) (.t 57) 1, none⟩,
    ⟨(some 59), .load (.t 58) 1 false, none⟩,
    ⟨(some 60), .iaddr (.t 46) (.t 47) 1, none⟩,
    ⟨none, .store (.t 60) 1 (.t 55), none⟩,
    ⟨(some 61), .iaddr (.t 48) (.t 50) 1, none⟩,
    ⟨none, .store (.t 61) 1 (.t 59), none⟩]
@[go_sem] theorem g_slices_partialInsertionSortCmpFunc_int_17_0 : gAt l_slices_partialInsertionSortCmpFunc_int_17 0 = ⟨(some 46), .mv (.t 0), none⟩ := idE rfl
@[go_sem] theorem g_slices_partialInsertionSortCmpFunc_int_17_1 : gAt l_slices_partialInsertionSortCmpFunc_int_17 1 = ⟨(some 47), .mv (.t 9), none⟩ := idE rfl
@[go_sem] theorem g_slices_partialInsertionSortCmpFunc_int_17_2 : gAt l_slices_partialInsertionSortCmpFunc_int_17 2 = ⟨(some 48), .mv (.t 0), none⟩ := idE rfl
@[go_sem] theorem g_slices_partialInsertionSortCmpFunc_int_17_3 : gAt l_slices_partialInsertionSortCmpFunc_int_17 3 = ⟨(some 49), .mv (.t 9), none⟩ := idE rfl
@[go_sem] theorem g_slices_partialInsertionSortCmpFunc_int_17_4 : gAt l_slices_partialInsertionSortCmpFunc_int_17 4 = ⟨(some 50), .bin .sub (.t 49) (.c (.int .i64 1)), none⟩ := idE rfl
@[go_sem] theorem g_slices_partialInsertionSortCmpFunc_int_17_5 : gAt l_slices_partialInsertionSortCmpFunc_int_17 5 = ⟨(some 51), .mv (.t 0), none⟩ := idE rfl
@[go_sem] theorem g_slices_partialInsertionSortCmpFunc_int_17_6 : gAt l_slices_partialInsertionSortCmpFunc_int_17 6 = ⟨(some 52), .mv (.t 9), none⟩ := idE rfl
@[go_sem] theorem g_slices_partialInsertionSortCmpFunc_int_17_7 : gAt l_slices_partialInsertionSortCmpFunc_int_17 7 = ⟨(some 53), .bin .sub (.t 52) (.c (.int .i64 1)), none⟩ := idE rfl
@[go_sem] theorem g_slices_partialInsertionSortCmpFunc_int_17_8 : gAt l_slices_partialInsertionSortCmpFunc_int_17 8 = ⟨(some 54), .iaddr (.t 51) (.t 53) 1, none⟩ := idE rfl
@[go_sem] theorem g_slices_partialInsertionSortCmpFunc_int_17_9 : gAt l_slices_partialInsertionSortCmpFunc_int_17 9 = ⟨(some 55), .load (.t 54) 1 false, none⟩ := idE rfl
@[go_sem] theorem g_slices_partialInsertionSortCmpFunc_int_17_10 : gAt l_slices_partialInsertionSortCmpFunc_int_17 10 = ⟨(some 56), .mv (.t 0), none⟩ := idE rfl
@[go_sem] theorem g_slices_partialInsertionSortCmpFunc_int_17_11 : gAt l_slices_partialInsertionSortCmpFunc_int_17 11 = ⟨(some 57), .mv (.t 9), none⟩ := idE rfl
@[go_sem] theorem g_slices_partialInsertionSortCmpFunc_int_17_12 : gAt l_slices_partialInsertionSortCmpFunc_int_17 12 = ⟨(some 58), .iaddr (.t 56) (.t 57) 1, none⟩ := idE rfl
@[go_sem] theorem g_slices_partialInsertionSortCmpFunc_int_17_13 : gAt l_slices_partialInsertionSortCmpFunc_int_17 13 = ⟨(some 59), .load (.t 58) 1 false, none⟩ := idE rfl
@[go_sem] theorem g_slices_partialInsertionSortCmpFunc_int_17_14 : gAt l_slices_partialInsertionSortCmpFunc_int_17 14 = ⟨(some 60), .iaddr (.t 46) (.t 47) 1, none⟩ := idE rfl
@[go_sem] theorem g_slices_partialInsertionSortCmpFunc_int_17_15 : gAt l_slices_partialInsertionSortCmpFunc_int_17 15 = ⟨none, .store (.t 60) 1 (.t 55), none⟩ := idE rfl
@[go_sem] theorem g_slices_partialInsertionSortCmpFunc_int_17_16 : gAt l_slices_partialInsertionSortCmpFunc_int_17 16 = ⟨(some 61), .iaddr (.t 48) (.t 50) 1, none⟩ := idE rfl
@[go_sem] theorem g_slices_partialInsertionSortCmpFunc_int_17_17 : gAt l_slices_partialInsertionSortCmpFunc_int_17 17 = ⟨none, .store (.t 61) 1 (.t 59), none⟩ := idE rfl
def slices_partialInsertionSortCmpFunc_int_17 : IR := .dops l_slices_partialInsertionSortCmpFunc_int_17 [(0, []), (1, []), (2, []), (3, []), (4, []), (5, []), (6, []), (7, []), (8, []), (9, []), (10, []), (11, []), (12, []), (13, []), (14, []), (15, []), (16, []), (17, [])]
@[go_sem] theorem w_slices_partialInsertionSortCmpFunc_int_17 : wp P slices_partialInsertionSortCmpFunc_int_17 Q e H = wpD P l_slices_partialInsertionSortCmpFunc_int_17 [(0, []), (1, []), (2, []), (3, []), (4, []), (5, []), (6, []), (7, []), (8, []), (9, []), (10, []), (11, []), (12, []), (13, []), (14, []), (15, []), (16, []), (17, [])] (Q .normal) e H := idE rfl
@[go_sem] def l_slices_partialInsertionSortCmpFunc_int_18 : List GOp := [⟨(some 62), .mv (.t 9), none⟩,
    ⟨(some 63), .mv (.t 1), none⟩,
    ⟨(some 64), .bin .sub (.t 62) (.t 63), none⟩,
    ⟨(some 65), .bin .geq (.t 64) (.c (.int .i64 2)), none⟩]
def slices_partialInsertionSortCmpFunc_int_18 : IR := .ops l_slices_partialInsertionSortCmpFunc_int_18
@[go_sem] theorem w_slices_partialInsertionSortCmpFunc_int_18 : wp P slices_partialInsertionSortCmpFunc_int_18 Q e H = wpL P l_slices_partialInsertionSortCmpFunc_int_18 (Q .normal) e H := idE rfl
@[go_sem] def l_slices_partialInsertionSortCmpFunc_int_19 : List GOp := [⟨(some 66), .mv (.t 9), none⟩,
    ⟨(some 67), .bin .sub (.t 66) (.c (.int .i64 1)), none⟩,
    ⟨(some 11), .mv (.t 67), none⟩]
def slices_partialInsertionSortCmpFunc_int_19 : IR := .ops l_slices_partialInsertionSortCmpFunc_int_19
@[go_sem] theorem w_slices_partialInsertionSortCmpFunc_int_19 : wp P slices_partialInsertionSortCmpFunc_int_19 Q e H = wpL P l_slices_partialInsertionSortCmpFunc_int_19 (Q .normal) e H := idE rfl
@[go_sem] def l_slices_partialInsertionSortCmpFunc_int_20 : List GOp := [⟨(some 68), .mv (.t 11), none⟩,
    ⟨(some 69), .bin .geq (.t 68) (.c (.int .i64 1)), none⟩]
def slices_partialInsertionSortCmpFunc_int_20 : IR := .ops l_slices_partialInsertionSortCmpFunc_int_20
@[go_sem] theorem w_slices_partialInsertionSortCmpFunc_int_20 : wp P slices_partialInsertionSortCmpFunc_int_20 Q e H = wpL P l_slices_partialInsertionSortCmpFunc_int_20 (Q .normal) e H := idE rfl
def slices_partialInsertionSortCmpFunc_int_21 : IR := .cond (.t 69) .skip (.exit 4)
@[go_sem] theorem w_slices_partialInsertionSortCmpFunc_int_21 : wp P slices_partialInsertionSortCmpFunc_int_21 Q e H = condW P ((.t 69) : X) .skip (.exit 4) Q e H := idE rfl
def l_slices_partialInsertionSortCmpFunc_int_22 : List GOp := [⟨(some 72), .mv (.t 3), none⟩,
    ⟨(some 73), .mv (.t 0), none⟩,
    ⟨(some 74), .mv (.t 11), none⟩,
    ⟨(some 75), .iaddr (.t 73) (.t 74) 1, none⟩,
    ⟨(some 76), .load (.t 75) 1 false, none⟩,
    ⟨(some 77), .mv (.t 0), none⟩,
    ⟨(some 78), .mv (.t 11), none⟩,
    ⟨(some 79), .bin .sub (.t 78) (.c (.int .i64 1)), none⟩,
    ⟨(some 80), .iaddr (.t 77) (.t 79) 1, none⟩,
    ⟨(some 81), .load (.t 80) 1 false, none⟩,
    ⟨(some 82), .callv (.t 72) [(.t 76), (.t 81)], none⟩,
    ⟨(some 83), .bin .lss (.t 82) (.c (.int .i64 0)), none⟩,
    ⟨(some 84), .un .not (.t 83), none⟩]
@[go_sem] theorem g_slices_partialInsertionSortCmpFunc_int_22_0 : gAt l_slices_partialInsertionSortCmpFunc_int_22 0 = ⟨(some 72), .mv (.t 3), none⟩ := idE rfl
@[go_sem] theorem g_slices_partialInsertionSortCmpFunc_int_22_1 : gAt l_slices_partialInsertionSortCmpFunc_int_22 1 = ⟨(some 73), .mv (.t 0), none⟩ := idE rfl
@[go_sem] theorem g_slices_partialInsertionSortCmpFunc_int_22_2 : gAt l_slices_partialInsertionSortCmpFunc_int_22 2 = ⟨(some 74), .mv (.t 11), none⟩ := idE rfl
@[go_sem] theorem g_slices_partialInsertionSortCmpFunc_int_22_3 : gAt l_slices_partialInsertionSortCmpFunc_int_22 3 = ⟨(some 75), .iaddr (.t 73) (.t 74) 1, none⟩ := idE rfl
@[go_sem] theorem g_slices_partialInsertionSortCmpFunc_int_22_4 : gAt l_slices_partialInsertionSortCmpFunc_int_22 4 = ⟨(some 76), .load (.t 75) 1 false, none⟩ := idE rfl
@[go_sem] theorem g_slices_partialInsertionSortCmpFunc_int_22_5 : gAt l_slices_partialInsertionSortCmpFunc_int_22 5 = ⟨(some 77), .mv (.t 0), none⟩ := idE rfl
@[go_sem] theorem g_slices_partialInsertionSortCmpFunc_int_22_6 : gAt l_slices_partialInsertionSortCmpFunc_int_22 6 = ⟨(some 78), .mv (.t 11), none⟩ := idE rfl
@[go_sem] theorem g_slices_partialInsertionSortCmpFunc_int_22_7 : gAt l_slices_partialInsertionSortCmpFunc_int_22 7 = ⟨(some 79), .bin .sub (.t 78) (.c (.int .i64 1)), none⟩ := idE rfl
@[go_sem] theorem g_slices_partialInsertionSortCmpFunc_int_22_8 : gAt l_slices_partialInsertionSortCmpFunc_int_22 8 = ⟨(some 80), .iaddr (.t 77) (.t 79) 1, none⟩ := idE rfl
@[go_sem] theorem g_slices_partialInsertionSortCmpFunc_int_22_9 : gAt l_slices_partialInsertionSortCmpFunc_int_22 9 = ⟨(some 81), .load (.t 80) 1 false, none⟩ := idE rfl
@[go_sem] theorem g_slices_partialInsertionSortCmpFunc_int_22_10 : gAt l_slices_partialInsertionSortCmpFunc_int_22 10 = ⟨(some 82), .callv (.t 72) [(.t 76), (.t 81)], none⟩ := idE rfl
@[go_sem] theorem g_slices_partialInsertionSortCmpFunc_int_22_11 : gAt l_slices_partialInsertionSortCmpFunc_int_22 11 = ⟨(some 83), .bin .lss (.t 82) (.c (.int .i64 0)), none⟩ := idE rfl
@[go_sem] theorem g_slices_partialInsertionSortCmpFunc_int_22_12 : gAt l_slices_partialInsertionSortCmpFunc_int_22 12 = ⟨(some 84), .un .not (.t 83), none⟩ := idE rfl
def slices_partialInsertionSortCmpFunc_int_22 : IR := .dops l_slices_partialInsertionSortCmpFunc_int_22 [(0, []), (1, []), (2, []), (3, []), (4, []), (5, []), (6, []), (7, []), (8, []), (9, []), (10, []), (11, []), (12, [])]
@[go_sem] theorem w_slices_partialInsertionSortCmpFunc_int_22 : wp P slices_partialInsertionSortCmpFunc_int_22 Q e H = wpD P l_slices_partialInsertionSortCmpFunc_int_22 [(0, []), (1, []), (2, []), (3, []), (4, []), (5, []), (6, []), (7, []), (8, []), (9, []), (10, []), (11, []), (12, [])] (Q .normal) e H := idE rfl
def slices_partialInsertionSortCmpFunc_int_23 : IR := .cond (.t 84) (.exit 4) .skip
@[go_sem] theorem w_slices_partialInsertionSortCmpFunc_int_23 : wp P slices_partialInsertionSortCmpFunc_int_23 Q e H = condW P ((.t 84) : X) (.exit 4) .skip Q e H := idE rfl
def l_slices_partialInsertionSortCmpFunc_int_24 : List GOp := [⟨(some 85), .mv (.t 0), none⟩,
    ⟨(some 86), .mv (.t 11), none⟩,
    ⟨(some 87), .mv (.t 0), none⟩,
    ⟨(some 88), .mv (.t 11), none⟩,
    ⟨(some 89), .bin .sub (.t 88) (.c (.int .i64 1)), none⟩,
    ⟨(some 90), .mv (.t 0), none⟩,
    ⟨(some 91), .mv (.t 11), none⟩,
    ⟨(some 92), .bin .sub (.t 91) (.c (.int .i64 1)), none⟩,
    ⟨(some 93), .iaddr (.t 90) (.t 92) 1, none⟩,
    ⟨(some 94), .load (.t 93) 1 false, none⟩,
    ⟨(some 95), .mv (.t 0), none⟩,
    ⟨(some 96), .mv (.t 11), none⟩,
    ⟨(some 97), .iaddr (.t 95) (.t 96) 1, none⟩,
    ⟨(some 98), .load (.t 97) 1 false, none⟩,
    ⟨(some 99), .iaddr (.t 85) (.t 86) 1, none⟩,
    ⟨none, .store (.t 99) 1 (.t 94), none⟩,
    ⟨(some 100), .iaddr (.t 87) (.t 89) 1, none⟩,
    ⟨none, .store (.t 100) 1 (.t 98), none⟩]
@[go_sem] theorem g_slices_partialInsertionSortCmpFunc_int_24_0 : gAt l_slices_partialInsertionSortCmpFunc_int_24 0 = ⟨(some 85), .mv (.t 0), none⟩ := idE rfl
@[go_sem] theorem g_slices_partialInsertionSortCmpFunc_int_24_1 : gAt l_slices_partialInsertionSortCmpFunc_int_24 1 = ⟨(some 86), .mv (.t 11), none⟩ := idE rfl
@[go_sem] theorem g_slices_partialInsertionSortCmpFunc_int_24_2 : gAt l_slices_partialInsertionSortCmpFunc_int_24 2 = ⟨(some 87), .mv (.t 0), none⟩ := idE rfl
@[go_sem] theorem g_slices_partialInsertionSortCmpFunc_int_24_3 : gAt l_slices_partialInsertionSortCmpFunc_int_24 3 = ⟨(some 88), .mv (.t 11), none⟩ := idE rfl
@[go_sem] theorem g_slices_partialInsertionSortCmpFunc_int_24_4 : gAt l_slices_partialInsertionSortCmpFunc_int_24 4 = ⟨(some 89), .bin .sub (.t 88) (.c (.int .i64 1)), none⟩ := idE rfl
@[go_sem] theorem g_slices_partialInsertionSortCmpFunc_int_24_5 : gAt l_slices_partialInsertionSortCmpFunc_int_24 5 = ⟨(some 90), .mv (.t 0), none⟩ := idE rfl
@[go_sem] theorem g_slices_partialInsertionSortCmpFunc_int_24_6 : gAt l_slices_partialInsertionSortCmpFunc_int_24 6 = ⟨(some 91), .mv (.t 11), none⟩ := idE rfl
@[go_sem] theorem g_slices_partialInsertionSortCmpFunc_int_24_7 : gAt l_slices_partialInsertionSortCmpFunc_int_24 7 = ⟨(some 92), .bin .sub (.t 91) (.c (.int .i64 1)), none⟩ := idE rfl
@[go_sem] theorem g_slices_partialInsertionSortCmpFunc_int_24_8 : gAt l_slices_partialInsertionSortCmpFunc_int_24 8 = ⟨(some 93), .iaddr (.t 90) (.t 92) 1, none⟩ := idE rfl
@[go_sem] theorem g_slices_partialInsertionSortCmpFunc_int_24_9 : gAt l_slices_partialInsertionSortCmpFunc_int_24 9 = ⟨(some 94), .load (.t 93) 1 false, none⟩ := idE rfl
@[go_sem] theorem g_slices_partialInsertionSortCmpFunc_int_24_10 : gAt l_slices_partialInsertionSortCmpFunc_int_24 10 = ⟨(some 95), .mv (.t 0), none⟩ := idE rfl
@[go_sem] theorem g_slices_partialInsertionSortCmpFunc_int_24_11 : gAt l_slices_partialInsertionSortCmpFunc_int_24 11 = ⟨(some 96), .mv (.t 11), none⟩ := idE rfl
@[go_sem] theorem g_slices_partialInsertionSortCmpFunc_int_24_12 : gAt l_slices_partialInsertionSortCmpFunc_int_24 12 = ⟨(some 97), .iaddr (.t 95) (.t 96) 1, none⟩ := idE rfl
@[go_sem] theorem g_slices_partialInsertionSortCmpFunc_int_24_13 : gAt l_slices_partialInsertionSortCmpFunc_int_24 13 = ⟨(some 98), .load (.t 97) 1 false, none⟩ := idE rfl
@[go_sem] theorem g_slices_partialInsertionSortCmpFunc_int_24_14 : gAt l_slices_partialInsertionSortCmpFunc_int_24 14 = ⟨(some 99), .iaddr (.t 85) (.t 86) 1, none⟩ := idE rfl
@[go_sem] theorem g_slices_partialInsertionSortCmpFunc_int_24_15 : gAt l_slices_partialInsertionSortCmpFunc_int_24 15 = ⟨none, .store (.t 99) 1 (.t 94), none⟩ := idE rfl
@[go_sem] theorem g_slices_partialInsertionSortCmpFunc_int_24_16 : gAt l_slices_partialInsertionSortCmpFunc_int_24 16 = ⟨(some 100), .iaddr (.t 87) (.t 89) 1, none⟩ := idE rfl
@[go_sem] theorem g_slices_partialInsertionSortCmpFunc_int_24_17 : gAt l_slices_partialInsertionSortCmpFunc_int_24 17 = ⟨none, .store (.t 100) 1 (.t 98), none⟩ := idE rfl
def slices_partialInsertionSortCmpFunc_int_24 : IR := .dops l_slices_partialInsertionSortCmpFunc_int_24 [(0, []), (1, []), (2, []), (3, []), (4, []), (5, []), (6, []), (7, []), (8, []), (9, []), (10, []), (11, []), (12, []), (13, []), (14, []), (15, []), (16, []), (17, [])]
@[go_sem] theorem w_slices_partialInsertionSortCmpFunc_int_24 : wp P slices_partialInsertionSortCmpFunc_int_24 Q e H = wpD P l_slices_partialInsertionSortCmpFunc_int_24 [(0, []), (1, []), (2, []), (3, []), (4, []), (5, []), (6, []), (7, []), (8, []), (9, []), (10, []), (11, []), (12, []), (13, []), (14, []), (15, []), (16, []), (17, [])] (Q .normal) e H := idE rfl
def slices_partialInsertionSortCmpFunc_int_25 : IR := .block 5 (.seq (.seq slices_partialInsertionSortCmpFunc_int_22 slices_partialInsertionSortCmpFunc_int_23) slices_partialInsertionSortCmpFunc_int_24)
@[go_sem] theorem w_slices_partialInsertionSortCmpFunc_int_25 : wp P slices_partialInsertionSortCmpFunc_int_25 Q e H = wp P (.seq (.seq slices_partialInsertionSortCmpFunc_int_22 slices_partialInsertionSortCmpFunc_int_23) slices_partialInsertionSortCmpFunc_int_24) (blockQ 5 Q) e H := idE rfl
@[go_sem] def l_slices_partialInsertionSortCmpFunc_int_26 : List GOp := [⟨(some 70), .mv (.t 11), none⟩,
    ⟨(some 71), .bin .sub (.t 70) (.c (.int .i64 1)), none⟩,
    ⟨(some 11), .mv (.t 71), none⟩]
def slices_partialInsertionSortCmpFunc_int_26 : IR := .ops l_slices_partialInsertionSortCmpFunc_int_26
@[go_sem] theorem w_slices_partialInsertionSortCmpFunc_int_26 : wp P slices_partialInsertionSortCmpFunc_int_26 Q e H = wpL P l_slices_partialInsertionSortCmpFunc_int_26 (Q .normal) e H := idE rfl
def slices_partialInsertionSortCmpFunc_int_27 : IR := .loop (.seq (.seq slices_partialInsertionSortCmpFunc_int_20 slices_partialInsertionSortCmpFunc_int_21) (.seq slices_partialInsertionSortCmpFunc_int_25 slices_partialInsertionSortCmpFunc_int_26))
def slices_partialInsertionSortCmpFunc_int_28 : IR := .block 4 slices_partialInsertionSortCmpFunc_int_27
@[go_sem] theorem w_slices_partialInsertionSortCmpFunc_int_28 : wp P slices_partialInsertionSortCmpFunc_int_28 Q e H = wp P slices_partialInsertionSortCmpFunc_int_27 (blockQ 4 Q) e H := idE rfl
def slices_partialInsertionSortCmpFunc_int_29 : IR := .cond (.t 65) (.seq slices_partialInsertionSortCmpFunc_int_19 slices_partialInsertionSortCmpFunc_int_28) .skip
@[go_sem] theorem w_slices_partialInsertionSortCmpFunc_int_29 : wp P slices_partialInsertionSortCmpFunc_int_29 Q e H = condW P ((.t 65) : X) (.seq slices_partialInsertionSortCmpFunc_int_19 slices_partialInsertionSortCmpFunc_int_28) .skip Q e H := idE rfl
@[go_sem] def l_slices_partialInsertionSortCmpFunc_int_30 : List GOp := [⟨(some 101), .mv (.t 2), none⟩,
    ⟨(some 102), .mv (.t 9), none⟩,
    ⟨(some 103), .bin .sub (.t 101) (.t 102), none⟩,
    ⟨(some 104), .bin .geq (.t 103) (.c (.int .i64 2)), none⟩]
def slices_partialInsertionSortCmpFunc_int_30 : IR := .ops l_slices_partialInsertionSortCmpFunc_int_30
@[go_sem] theorem w_slices_partialInsertionSortCmpFunc_int_30 : wp P slices_partialInsertionSortCmpFunc_int_30 Q e H = wpL P l_slices_partialInsertionSortCmpFunc_int_30 (Q .normal) e H := idE rfl
@[go_sem] def l_slices_partialInsertionSortCmpFunc_int_31 : List GOp := [⟨(some 105), .mv (.t 9), none⟩,
    ⟨(some 106), .bin .add (.t 105) (.c (.int .i64 1)), none⟩,
    ⟨(some 12), .mv (.t 106), none⟩]
def slices_partialInsertionSortCmpFunc_int_31 : IR := .ops l_slices_partialInsertionSortCmpFunc_int_31
@[go_sem] theorem w_slices_partialInsertionSortCmpFunc_int_31 : wp P slices_partialInsertionSortCmpFunc_int_31 Q e H = wpL P l_slices_partialInsertionSortCmpFunc_int_31 (Q .normal) e H := idE rfl
@[go_sem] def l_slices_partialInsertionSortCmpFunc_int_32 : List GOp := [⟨(some 107), .mv (.t 12), none⟩,
    ⟨(some 108), .mv (.t 2), none⟩,
    ⟨(some 109), .bin .lss (.t 107) (.t 108), none⟩]
def slices_partialInsertionSortCmpFunc_int_32 : IR := .ops l_slices_partialInsertionSortCmpFunc_int_32
@[go_sem] theorem w_slices_partialInsertionSortCmpFunc_int_32 : wp P slices_partialInsertionSortCmpFunc_int_32 Q e H = wpL P l_slices_partialInsertionSortCmpFunc_int_32 (Q .normal) e H := idE rfl
def slices_partialInsertionSortCmpFunc_int_33 : IR := .cond (.t 109) .skip (.exit 6)
@[go_sem] theorem w_slices_partialInsertionSortCmpFunc_int_33 : wp P slices_partialInsertionSortCmpFunc_int_33 Q e H = condW P ((.t 109) : X) .skip (.exit 6) Q e H := idE rfl
def l_slices_partialInsertionSortCmpFunc_int_34 : List GOp := [⟨(some 112), .mv (.t 3), none⟩,
    ⟨(some 113), .mv (.t 0), none⟩,
    ⟨(some 114), .mv (.t 12), none⟩,
    ⟨(some 115), .iaddr (.t 113) (.t 114) 1, none⟩,
    ⟨(some 116), .load (.t 115) 1 false, none⟩,
    ⟨(some 117), .mv (.t 0), none⟩,
    ⟨(some 118), .mv (.t 12), none⟩,
    ⟨(some 119), .bin .sub (.t 118) (.c (.int .i64 1)), none⟩,
    ⟨(some 120), .iaddr (.t 117) (.t 119) 1, none⟩,
    ⟨(some 121), .load (.t 120) 1 false, none⟩,
    ⟨(some 122), .callv (.t 112) [(.t 116), (.t 121)], none⟩,
    ⟨(some 123), .bin .lss (.t 122) (.c (.int .i64 0)), none⟩,
    ⟨(some 124), .un .not (.t 123), none⟩]
@[go_sem] theorem g_slices_partialInsertionSortCmpFunc_int_34_0 : gAt l_slices_partialInsertionSortCmpFunc_int_34 0 = ⟨(some 112), .mv (.t 3), none⟩ := idE rfl
@[go_sem] theorem g_slices_partialInsertionSortCmpFunc_int_34_1 : gAt l_slices_partialInsertionSortCmpFunc_int_34 1 = ⟨(some 113), .mv (.t 0), none⟩ := idE rfl
@[go_sem] theorem g_slices_partialInsertionSortCmpFunc_int_34_2 : gAt l_slices_partialInsertionSortCmpFunc_int_34 2 = ⟨(some 114), .mv (.t 12), none⟩ := idE rfl
@[go_sem] theorem g_slices_partialInsertionSortCmpFunc_int_34_3 : gAt l_slices_partialInsertionSortCmpFunc_int_34 3 = ⟨(some 115), .iaddr (.t 113) (.t 114) 1, none⟩ := idE rfl
@[go_sem] theorem g_slices_partialInsertionSortCmpFunc_int_34_4 : gAt l_slices_partialInsertionSortCmpFunc_int_34 4 = ⟨(some 116), .load (.t 115) 1 false, none⟩ := idE rfl
@[go_sem] theorem g_slices_partialInsertionSortCmpFunc_int_34_5 : gAt l_slices_partialInsertionSortCmpFunc_int_34 5 = ⟨(some 117), .mv (.t 0), none⟩ := idE rfl
@[go_sem] theorem g_slices_partialInsertionSortCmpFunc_int_34_6 : gAt l_slices_partialInsertionSortCmpFunc_int_34 6 = ⟨(some 118), .mv (.t 12), none⟩ := idE rfl
@[go_sem] theorem g_slices_partialInsertionSortCmpFunc_int_34_7 : gAt l_slices_partialInsertionSortCmpFunc_int_34 7 = ⟨(some 119), .bin .sub (.t 118) (.c (.int .i64 1)), none⟩ := idE rfl
@[go_sem] theorem g_slices_partialInsertionSortCmpFunc_int_34_8 : gAt l_slices_partialInsertionSortCmpFunc_int_34 8 = ⟨(some 120), .iaddr (.t 117) (.t 119) 1, none⟩ := idE rfl
@[go_sem] theorem g_slices_partialInsertionSortCmpFunc_int_34_9 : gAt l_slices_partialInsertionSortCmpFunc_int_34 9 = ⟨(some 121), .load (.t 120) 1 false, none⟩ := idE rfl
@[go_sem] theorem g_slices_partialInsertionSortCmpFunc_int_34_10 : gAt l_slices_partialInsertionSortCmpFunc_int_34 10 = ⟨(some 122), .callv (.t 112) [(.t 116), (.t 121)], none⟩ := idE rfl
@[go_sem] theorem g_slices_partialInsertionSortCmpFunc_int_34_11 : gAt l_slices_partialInsertionSortCmpFunc_int_34 11 = ⟨(some 123), .bin .lss (.t 122) (.c (.int .i64 0)), none⟩ := idE rfl
@[go_sem] theorem g_slices_partialInsertionSortCmpFunc_int_34_12 : gAt l_slices_partialInsertionSortCmpFunc_int_34 12 = ⟨(some 124), .un .not (.t 123), none⟩ := idE rfl
def slices_partialInsertionSortCmpFunc_int_34 : IR := .dops l_slices_partialInsertionSortCmpFunc_int_34 [(0, []), (1, []), (2, []), (3, []), (4, []), (5, []), (6, []), (7, []), (8, []), (9, []), (10, []), (11, []), (12, [])]
@[go_sem] theorem w_slices_partialInsertionSortCmpFunc_int_34 : wp P slices_partialInsertionSortCmpFunc_int_34 Q e H = wpD P l_slices_partialInsertionSortCmpFunc_int_34 [(0, []), (1, []), (2, []), (3, []), (4, []), (5, []), (6, []), (7, []), (8, []), (9, []), (10, []), (11, []), (12, [])] (Q .normal) e H := idE rfl
def slices_partialInsertionSortCmpFunc_int_35 : IR := .cond (.t 124) (.exit 6) .skip
@[go_sem] theorem w_slices_partialInsertionSortCmpFunc_int_35 : wp P slices_partialInsertionSortCmpFunc_int_35 Q e H = condW P ((.t 124) : X) (.exit 6) .skip Q e H := idE rfl
def l_slices_partialInsertionSortCmpFunc_int_36 : List GOp := [⟨(some 125), .mv (.t 0), none⟩,
    ⟨(some 126), .mv (.t 12), none⟩,
    ⟨(some 127), .mv (.t 0), none⟩,
    ⟨(some 128), .mv (.t 12), none⟩,
    ⟨(some 129), .bin .sub (.t 128) (.c (.int .i64 1)), none⟩,
    ⟨(some 130), .mv (.t 0), none⟩,
    ⟨(some 131), .mv (.t 12), none⟩,
    ⟨(some 132), .bin .sub (.t 131) (.c (.int .i64 1)), none⟩,
    ⟨(some 133), .iaddr (.t 130) (.t 132) 1, none⟩,
    ⟨(some 134), .load (.t 133) 1 false, none⟩,
    ⟨(some 135), .mv (.t 0), none⟩,
    ⟨(some 136), .mv (.t 12), none⟩,
    ⟨(some 137), .iaddr (.t 135) (.t 136) 1, none⟩,
    ⟨(some 138), .load (.t 137) 1 false, none⟩,
    ⟨(some 139), .iaddr (.t 125) (.t 126) 1, none⟩,
    ⟨none, .store (.t 139) 1 (.t 134), none⟩,
    ⟨(some 140), .iaddr (.t 127) (.t 129) 1, none⟩,
    ⟨none, .store (.t 140) 1 (.t 138), none⟩]
@[go_sem] theorem g_slices_partialInsertionSortCmpFunc_int_36_0 : gAt l_slices_partialInsertionSortCmpFunc_int_36 0 = ⟨(some 125), .mv (.t 0), none⟩ := idE rfl
@[go_sem] theorem g_slices_partialInsertionSortCmpFunc_int_36_1 : gAt l_slices_partialInsertionSortCmpFunc_int_36 1 = ⟨(some 126), .mv (.t 12), none⟩ := idE rfl
@[go_sem] theorem g_slices_partialInsertionSortCmpFunc_int_36_2 : gAt l_slices_partialInsertionSortCmpFunc_int_36 2 = ⟨(some 127), .mv (.t 0), none⟩ := idE rfl
@[go_sem] theorem g_slices_partialInsertionSortCmpFunc_int_36_3 : gAt l_slices_partialInsertionSortCmpFunc_int_36 3 = ⟨(some 128), .mv (.t 12), none⟩ := idE rfl
@[go_sem] theorem g_slices_partialInsertionSortCmpFunc_int_36_4 : gAt l_slices_partialInsertionSortCmpFunc_int_36 4 = ⟨(some 129), .bin .sub (.t 128) (.c (.int .i64 1)), none⟩ := idE rfl
@[go_sem] theorem g_slices_partialInsertionSortCmpFunc_int_36_5 : gAt l_slices_partialInsertionSortCmpFunc_int_36 5 = ⟨(some 130), .mv (.t 0), none⟩ := idE rfl
@[go_sem] theorem g_slices_partialInsertionSortCmpFunc_int_36_6 : gAt l_slices_partialInsertionSortCmpFunc_int_36 6 = ⟨(some 131), .mv (.t 12), none⟩ := idE rfl
@[go_sem] theorem g_slices_partialInsertionSortCmpFunc_int_36_7 : gAt l_slices_partialInsertionSortCmpFunc_int_36 7 = ⟨(some 132), .bin .sub (.t 131) (.c (.int .i64 1)), none⟩ := idE rfl
@[go_sem] theorem g_slices_partialInsertionSortCmpFunc_int_36_8 : gAt l_slices_partialInsertionSortCmpFunc_int_36 8 = ⟨(some 133), .iaddr (.t 130) (.t 132) 1, none⟩ := idE rfl
@[go_sem] theorem g_slices_partialInsertionSortCmpFunc_int_36_9 : gAt l_slices_partialInsertionSortCmpFunc_int_36 9 = ⟨(some 134), .load (.t 133) 1 false, none⟩ := idE rfl
@[go_sem] theorem g_slices_partialInsertionSortCmpFunc_int_36_10 : gAt l_slices_partialInsertionSortCmpFunc_int_36 10 = ⟨(some 135), .mv (.t 0), none⟩ := idE rfl
@[go_sem] theorem g_slices_partialInsertionSortCmpFunc_int_36_11 : gAt l_slices_partialInsertionSortCmpFunc_int_36 11 = ⟨(some 136), .mv (.t 12), none⟩ := idE rfl
@[go_sem] theorem g_slices_partialInsertionSortCmpFunc_int_36_12 : gAt l_slices_partialInsertionSortCmpFunc_int_36 12 = ⟨(some 137), .iaddr (.t 135) (.t 136) 1, none⟩ := idE rfl
@[go_sem] theorem g_slices_partialInsertionSortCmpFunc_int_36_13 : gAt l_slices_partialInsertionSortCmpFunc_int_36 13 = ⟨(some 138), .load (.t 137) 1 false, none⟩ := idE rfl
@[go_sem] theorem g_slices_partialInsertionSortCmpFunc_int_36_14 : gAt l_slices_partialInsertionSortCmpFunc_int_36 14 = ⟨(some 139), .iaddr (.t 125) (.t 126) 1, none⟩ := idE rfl
@[go_sem] theorem g_slices_partialInsertionSortCmpFunc_int_36_15 : gAt l_slices_partialInsertionSortCmpFunc_int_36 15 = ⟨none, .store (.t 139) 1 (.t 134), none⟩ := idE rfl
@[go_sem] theorem g_slices_partialInsertionSortCmpFunc_int_36_16 : gAt l_slices_partialInsertionSortCmpFunc_int_36 16 = ⟨(some 140), .iaddr (.t 127) (.t 129) 1, none⟩ := idE rfl
@[go_sem] theorem g_slices_partialInsertionSortCmpFunc_int_36_17 : gAt l_slices_partialInsertionSortCmpFunc_int_36 17 = ⟨none, .store (.t 140) 1 (.t 138), none⟩ := idE rfl
def slices_partialInsertionSortCmpFunc_int_36 : IR := .dops l_slices_partialInsertionSortCmpFunc_int_36 [(0, []), (1, []), (2, []), (3, []), (4, []), (5, []), (6, []), (7, []), (8, []), (9, []), (10, []), (11, []), (12, []), (13, []), (14, []), (15, []), (16, []), (17, [])]
@[go_sem] theorem w_slices_partialInsertionSortCmpFunc_int_36 : wp P slices_partialInsertionSortCmpFunc_int_36 Q e H = wpD P l_slices_partialInsertionSortCmpFunc_int_36 [(0, []), (1, []), (2, []), (3, []), (4, []), (5, []), (6, []), (7, []), (8, []), (9, []), (10, []), (11, []), (12, []), (13, []), (14, []), (15, []), (16, []), (17, [])] (Q .normal) e H := idE rfl
def slices_partialInsertionSortCmpFunc_int_37 : IR := .block 7 (.seq (.seq slices_partialInsertionSortCmpFunc_int_34 slices_partialInsertionSortCmpFunc_int_35) slices_partialInsertionSortCmpFunc_int_36)
@[go_sem] theorem w_slices_partialInsertionSortCmpFunc_int_37 : wp P slices_partialInsertionSortCmpFunc_int_37 Q e H = wp P (.seq (.seq slices_partialInsertionSortCmpFunc_int_34 slices_partialInsertionSortCmpFunc_int_35) slices_partialInsertionSortCmpFunc_int_36) (blockQ 7 Q) e H := idE rfl
@[go_sem] def l_slices_partialInsertionSortCmpFunc_int_38 : List GOp := [⟨(some 110), .mv (.t 12), none⟩,
    ⟨(some 111), .bin .add (.t 110) (.c (.int .i64 1)), none⟩,
    ⟨(some 12), .mv (.t 111), none⟩]
def slices_partialInsertionSortCmpFunc_int_38 : IR := .ops l_slices_partialInsertionSortCmpFunc_int_38
@[go_sem] theorem w_slices_partialInsertionSortCmpFunc_int_38 : wp P slices_partialInsertionSortCmpFunc_int_38 Q e H = wpL P l_slices_partialInsertionSortCmpFunc_int_38 (Q .normal) e H := idE rfl
def slices_partialInsertionSortCmpFunc_int_39 : IR := .loop (.seq (.seq slices_partialInsertionSortCmpFunc_int_32 slices_partialInsertionSortCmpFunc_int_33) (.seq slices_partialInsertionSortCmpFunc_int_37 slices_partialInsertionSortCmpFunc_int_38))
def slices_partialInsertionSortCmpFunc_int_40 : IR := .block 6 slices_partialInsertionSortCmpFunc_int_39
@[go_sem] theorem w_slices_partialInsertionSortCmpFunc_int_40 : wp P slices_partialInsertionSortCmpFunc_int_40 Q e H = wp P slices_partialInsertionSortCmpFunc_int_39 (blockQ 6 Q) e H := idE rfl
def slices_partialInsertionSortCmpFunc_int_41 : IR := .cond (.t 104) (.seq slices_partialInsertionSortCmpFunc_int_31 slices_partialInsertionSortCmpFunc_int_40) .skip
@[go_sem] theorem w_slices_partialInsertionSortCmpFunc_int_41 : wp P slices_partialInsertionSortCmpFunc_int_41 Q e H = condW P ((.t 104) : X) (.seq slices_partialInsertionSortCmpFunc_int_31 slices_partialInsertionSortCmpFunc_int_40) .skip Q e H := idE rfl
def slices_partialInsertionSortCmpFunc_int_42 : IR := .block 1 (.seq slices_partialInsertionSortCmpFunc_int_10 (.seq (.seq slices_partialInsertionSortCmpFunc_int_11 slices_partialInsertionSortCmpFunc_int_13) (.seq (.seq slices_partialInsertionSortCmpFunc_int_14 slices_partialInsertionSortCmpFunc_int_16) (.seq slices_partialInsertionSortCmpFunc_int_17 (.seq (.seq slices_partialInsertionSortCmpFunc_int_18 slices_partialInsertionSortCmpFunc_int_29) (.seq slices_partialInsertionSortCmpFunc_int_30 slices_partialInsertionSortCmpFunc_int_41))))))
@[go_sem] theorem w_slices_partialInsertionSortCmpFunc_int_42 : wp P slices_partialInsertionSortCmpFunc_int_42 Q e H = wp P (.seq slices_partialInsertionSortCmpFunc_int_10 (.seq (.seq slices_partialInsertionSortCmpFunc_int_11 slices_partialInsertionSortCmpFunc_int_13) (.seq (.seq slices_partialInsertionSortCmpFunc_int_14 slices_partialInsertionSortCmpFunc_int_16) (.seq slices_partialInsertionSortCmpFunc_int_17 (.seq (.seq slices_partialInsertionSortCmpFunc_int_18 slices_partialInsertionSortCmpFunc_int_29) (.seq slices_partialInsertionSortCmpFunc_int_30 slices_partialInsertionSortCmpFunc_int_41)))))) (blockQ 1 Q) e H := idE rfl
@[go_sem] def l_slices_partialInsertionSortCmpFunc_int_43 : List GOp := [⟨(some 17), .mv (.t 10), none⟩,
    ⟨(some 18), .bin .add (.t 17) (.c (.int .i64 1)), none⟩,
    ⟨(some 10), .mv (.t 18), none⟩]
def slices_partialInsertionSortCmpFunc_int_43 : IR := .ops l_slices_partialInsertionSortCmpFunc_int_43
@[go_sem] theorem w_slices_partialInsertionSortCmpFunc_int_43 : wp P slices_partialInsertionSortCmpFunc_int_43 Q e H = wpL P l_slices_partialInsertionSortCmpFunc_int_43 (Q .normal) e H := idE rfl
def slices_partialInsertionSortCmpFunc_int_44 : IR := .loop (.seq (.seq slices_partialInsertionSortCmpFunc_int_3 slices_partialInsertionSortCmpFunc_int_4) (.seq slices_partialInsertionSortCmpFunc_int_42 slices_partialInsertionSortCmpFunc_int_43))
def slices_partialInsertionSortCmpFunc_int_45 : IR := .block 0 slices_partialInsertionSortCmpFunc_int_44
@[go_sem] theorem w_slices_partialInsertionSortCmpFunc_int_45 : wp P slices_partialInsertionSortCmpFunc_int_45 Q e H = wp P slices_partialInsertionSortCmpFunc_int_44 (blockQ 0 Q) e H := idE rfl
@[go_sem] def l_slices_partialInsertionSortCmpFunc_int_46 : List GOp := [⟨(some 8), .mv (.c (.bool false)), none⟩]
def slices_partialInsertionSortCmpFunc_int_46 : IR := .ops l_slices_partialInsertionSortCmpFunc_int_46
@[go_sem] theorem w_slices_partialInsertionSortCmpFunc_int_46 : wp P slices_partialInsertionSortCmpFunc_int_46 Q e H = wpL P l_slices_partialInsertionSortCmpFunc_int_46 (Q .normal) e H := idE rfl
@[go_sem] def l_slices_partitionEqualCmpFunc_int_0 : List GOp := [⟨(some 10), .mv (.c (.int .i64 0)), none⟩]
def slices_partitionEqualCmpFunc_int_0 : IR := .ops l_slices_partitionEqualCmpFunc_int_0
@[go_sem] theorem w_slices_partitionEqualCmpFunc_int_0 : wp P slices_partitionEqualCmpFunc_int_0 Q e H = wpL P l_slices_partitionEqualCmpFunc_int_0 (Q .normal) e H := idE rfl
def l_slices_partitionEqualCmpFunc_int_1 : List GOp := [⟨(some 13), .mv (.t 0), none⟩,
    ⟨(some 14), .mv (.t 1), none⟩,
    ⟨(some 15), .mv (.t 0), none⟩,
    ⟨(some 16), .mv (.t 3), none⟩,
    ⟨(some 17), .mv (.t 0), none⟩,
    ⟨(some 18), .mv (.t 3), none⟩,
    ⟨(some 19), .iaddr (.t 17) (.t 18) 1, none⟩,
    ⟨(some 20), .load (.t 19) 1 false, none⟩,
    ⟨(some 21), .mv (.t 0), none⟩,
    ⟨(some 22), .mv (.t 1), none⟩,
    ⟨(some 23), .iaddr (.t 21) (.t 22) 1, none⟩,
    ⟨(some 24), .load (.t 23) 1 false, none⟩,
    ⟨(some 25), .iaddr (.t 13) (.t 14) 1, none⟩,
    ⟨none, .store (.t 25) 1 (.t 20), none⟩,
    ⟨(some 26), .iaddr (.t 15) (.t 16) 1, none⟩,
    ⟨none, .store (.t 26) 1 (.t 24), none⟩]
@[go_sem] theorem g_slices_partitionEqualCmpFunc_int_1_0 : gAt l_slices_partitionEqualCmpFunc_int_1 0 = ⟨(some 13), .mv (.t 0), none⟩ := idE rfl
@[go_sem] theorem g_slices_partitionEqualCmpFunc_int_1_1 : gAt l_slices_partitionEqualCmpFunc_int_1 1 = ⟨(some 14), .mv (.t 1), none⟩ := idE rfl
@[go_sem] theorem g_slices_partitionEqualCmpFunc_int_1_2 : gAt l_slices_partitionEqualCmpFunc_int_1 2 = ⟨(some 15), .mv (.t 0), none⟩ := idE rfl
@[go_sem] theorem g_slices_partitionEqualCmpFunc_int_1_3 : gAt l_slices_partitionEqualCmpFunc_int_1 3 = ⟨(some 16), .mv (.t 3), none⟩ := idE rfl
@[go_sem] theorem g_slices_partitionEqualCmpFunc_int_1_4 : gAt l_slices_partitionEqualCmpFunc_int_1 4 = ⟨(some 17), .mv (.t 0), none⟩ := idE rfl
@[go_sem] theorem g_slices_partitionEqualCmpFunc_int_1_5 : gAt l_slices_partitionEqualCmpFunc_int_1 5 = ⟨(some 18), .mv (.t 3), none⟩ := idE rfl
@[go_sem] theorem g_slices_partitionEqualCmpFunc_int_1_6 : gAt l_slices_partitionEqualCmpFunc_int_1 6 = ⟨(some 19), .iaddr (.t 17) (.t 18) 1, none⟩ := idE rfl
@[go_sem] theorem g_slices_partitionEqualCmpFunc_int_1_7 : gAt l_slices_partitionEqualCmpFunc_int_1 7 = ⟨(some 20), .load (.t 19) 1 false, none⟩ := idE rfl
@[go_sem] theorem g_slices_partitionEqualCmpFunc_int_1_8 : gAt l_slices_partitionEqualCmpFunc_int_1 8 = ⟨(some 21), .mv (.t 0), none⟩ := idE rfl
@[go_sem] theorem g_slices_partitionEqualCmpFunc_int_1_9 : gAt l_slices_partitionEqualCmpFunc_int_1 9 = ⟨(some 22), .mv (.t 1), none⟩ := idE rfl
@[go_sem] theorem g_slices_partitionEqualCmpFunc_int_1_10 : gAt l_slices_partitionEqualCmpFunc_int_1 10 = ⟨(some 23), .iaddr (.t 21) (.t 22) 1, none⟩ := idE rfl
@[go_sem] theorem g_slices_partitionEqualCmpFunc_int_1_11 : gAt l_slices_partitionEqualCmpFunc_int_1 11 = ⟨(some 24), .load (.t 23) 1 false, none⟩ := idE rfl
@[go_sem] theorem g_slices_partitionEqualCmpFunc_int_1_12 : gAt l_slices_partitionEqualCmpFunc_int_1 12 = ⟨(some 25), .iaddr (.t 13) (.t 14) 1, none⟩ := idE rfl
@[go_sem] theorem g_slices_partitionEqualCmpFunc_int_1_13 : gAt l_slices_partitionEqualCmpFunc_int_1 13 = ⟨none, .store (.t 25) 1 (.t 20), none⟩ := idE rfl
@[go_sem] theorem g_slices_partitionEqualCmpFunc_int_1_14 : gAt l_slices_partitionEqualCmpFunc_int_1 14 = ⟨(some 26), .iaddr (.t 15) (.t 16) 1, none⟩ := idE rfl
@[go_sem] theorem g_slices_partitionEqualCmpFunc_int_1_15 : gAt l_slices_partitionEqualCmpFunc_int_1 15 = ⟨none, .store (.t 26) 1 (.t 24), none⟩ := idE rfl
def slices_partitionEqualCmpFunc_int_1 : IR := .dops l_slices_partitionEqualCmpFunc_int_1 [(0, []), (1, []), (2, []), (3, []), (4, []), (5, []), (6, []), (7, []), (8, []), (9, []), (10, []), (11, []), (12, []), (13, []), (14, []), (15, [])]
@[go_sem] theorem w_slices_partitionEqualCmpFunc_int_1 : wp P slices_partitionEqualCmpFunc_int_1 Q e H = wpD P l_slices_partitionEqualCmpFunc_int_1 [(0, []), (1, []), (2, []), (3, []), (4, []), (5, []), (6, []), (7, []), (8, []), (9, []), (10, []), (11, []), (12, []), (13, []), (14, []), (15, [])] (Q .normal) e H := idE rfl
@[go_sem] def l_slices_partitionEqualCmpFunc_int_2 : List GOp := [⟨(some 27), .mv (.t 1), none⟩,
    ⟨(some 28), .bin .add (.t 27) (.c (.int .i64 1)), none⟩,
    ⟨(some 29), .mv (.t 2), none⟩,
    ⟨(some 30), .bin .sub (.t 29) (.c (.int .i64 1)), none⟩,
    ⟨(some 11), .mv (.t 28), none⟩,
    ⟨(some 12), .mv (.t 30), none⟩]
def slices_partitionEqualCmpFunc_int_2 : IR := .ops l_slices_partitionEqualCmpFunc_int_2
@[go_sem] theorem w_slices_partitionEqualCmpFunc_int_2 : wp P slices_partitionEqualCmpFunc_int_2 Q e H = wpL P l_slices_partitionEqualCmpFunc_int_2 (Q .normal) e H := idE rfl
def l_slices_partitionEqualCmpFunc_int_3 : List GOp := [⟨(some 31), .mv (.t 11), none⟩,
    ⟨(some 32), .mv (.t 12), none⟩,
    ⟨(some 33), .bin .leq (.t 31) (.t 32), none⟩,
    ⟨(some 34), .mv (.t 33), none⟩,
    ⟨(some 35), .mv (.t 4), (some (34, true))⟩,
    ⟨(some 36), .mv (.t 0), (some (34, true))⟩,
    ⟨(some 37), .mv (.t 1), (some (34, true))⟩,
    ⟨(some 38), .iaddr (.t 36) (.t 37) 1, (some (34, true))⟩,
    ⟨(some 39), .load (.t 38) 1 false, (some (34, true))⟩,
    ⟨(some 40), .mv (.t 0), (some (34, true))⟩,
    ⟨(some 41), .mv (.t 11), (some (34, true))⟩,
    ⟨(some 42), .iaddr (.t 40) (.t 41) 1, (some (34, true))⟩,
    ⟨(some 43), .load (.t 42) 1 false, (some (34, true))⟩,
    ⟨(some 44), .callv (.t 35) [(.t 39), (.t 43)], (some (34, true))⟩,
    ⟨(some 45), .bin .lss (.t 44) (.c (.int .i64 0)), (some (34, true))⟩,
    ⟨(some 46), .un .not (.t 45), (some (34, true))⟩,
    ⟨(some 47), .pick (.t 34) (.t 46) (.c (.bool false)), none⟩]
@[go_sem] theorem g_slices_partitionEqualCmpFunc_int_3_0 : gAt l_slices_partitionEqualCmpFunc_int_3 0 = ⟨(some 31), .mv (.t 11), none⟩ := idE rfl
@[go_sem] theorem g_slices_partitionEqualCmpFunc_int_3_1 : gAt l_slices_partitionEqualCmpFunc_int_3 1 = ⟨(some 32), .mv (.t 12), none⟩ := idE rfl
@[go_sem] theorem g_slices_partitionEqualCmpFunc_int_3_2 : gAt l_slices_partitionEqualCmpFunc_int_3 2 = ⟨(some 33), .bin .leq (.t 31) (.t 32), none⟩ := idE rfl
@[go_sem] theorem g_slices_partitionEqualCmpFunc_int_3_3 : gAt l_slices_partitionEqualCmpFunc_int_3 3 = ⟨(some 34), .mv (.t 33), none⟩ := idE rfl
@[go_sem] theorem g_slices_partitionEqualCmpFunc_int_3_4 : gAt l_slices_partitionEqualCmpFunc_int_3 4 = ⟨(some 35), .mv (.t 4), (some (34, true))⟩ := idE rfl
@[go_sem] theorem g_slices_partitionEqualCmpFunc_int_3_5 : gAt l_slices_partitionEqualCmpFunc_int_3 5 = ⟨(some 36), .mv (.t 0), (some (34, true))⟩ := idE rfl
@[go_sem] theorem g_slices_partitionEqualCmpFunc_int_3_6 : gAt l_slices_partitionEqualCmpFunc_int_3 6 = ⟨(some 37), .mv (.t 1), (some (34, true))⟩ := idE rfl
@[go_sem] theorem g_slices_partitionEqualCmpFunc_int_3_7 : gAt l_slices_partitionEqualCmpFunc_int_3 7 = ⟨(some 38), .iaddr (.t 36) (.t 37) 1, (some (34, true))⟩ := idE rfl
@[go_sem] theorem g_slices_partitionEqualCmpFunc_int_3_8 : gAt l_slices_partitionEqualCmpFunc_int_3 8 = ⟨(some 39), .load (.t 38) 1 false, (some (34, true))⟩ := idE rfl
@[go_sem] theorem g_slices_partitionEqualCmpFunc_int_3_9 : gAt l_slices_partitionEqualCmpFunc_int_3 9 = ⟨(some 40), .mv (.t 0), (some (34, true))⟩ := idE rfl
@[go_sem] theorem g_slices_partitionEqualCmpFunc_int_3_10 : gAt l_slices_partitionEqualCmpFunc_int_3 10 = ⟨(some 41), .mv (.t 11), (some (34, true))⟩ := idE rfl
@[go_sem] theorem g_slices_partitionEqualCmpFunc_int_3_11 : gAt l_slices_partitionEqualCmpFunc_int_3 11 = ⟨(some 42), .iaddr (.t 40) (.t 41) 1, (some (34, true))⟩ := idE rfl
@[go_sem] theorem g_slices_partitionEqualCmpFunc_int_3_12 : gAt l_slices_partitionEqualCmpFunc_int_3 12 = ⟨(some 43), .load (.t 42) 1 false, (some (34, true))⟩ := idE rfl
@[go_sem] theorem g_slices_partitionEqualCmpFunc_int_3_13 : gAt l_slices_partitionEqualCmpFunc_int_3 13 = ⟨(some 44), .callv (.t 35) [(.t 39), (.t 43)], (some (34, true))⟩ := idE rfl
@[go_sem] theorem g_slices_partitionEqualCmpFunc_int_3_14 : gAt l_slices_partitionEqualCmpFunc_int_3 14 = ⟨(some 45), .bin .lss (.t 44) (.c (.int .i64 0)), (some (34, true))⟩ := idE rfl
@[go_sem] theorem g_slices_partitionEqualCmpFunc_int_3_15 : gAt l_slices_partitionEqualCmpFunc_int_3 15 = ⟨(some 46), .un .not (.t 45), (some (34, true))⟩ := idE rfl
@[go_sem] theorem g_slices_partitionEqualCmpFunc_int_3_16 : gAt l_slices_partitionEqualCmpFunc_int_3 16 = ⟨(some 47), .pick (.t 34) (.t 46) (.c (.bool false)), none⟩ := idE rfl
def slices_partitionEqualCmpFunc_int_3 : IR := .dops l_slices_partitionEqualCmpFunc_int_3 [(0, []), (1, []), (2, []), (3, []), (4, []), (5, []), (6, []), (7, []), (8, []), (9, []), (10, []), (11, []), (12, []), (13, []), (14, []), (15, []), (16, [])]
@[go_sem] theorem w_slices_partitionEqualCmpFunc_int_3 : wp P slices_partitionEqualCmpFunc_int_3 Q e H = wpD P l_slices_partitionEqualCmpFunc_int_3 [(0, []), (1, []), (2, []), (3, []), (4, []), (5, []), (6, []), (7, []), (8, []), (9, []), (10, []), (11, []), (12, []), (13, []), (14, []), (15, []), (16, [])] (Q .normal) e H := idE rfl
def slices_partitionEqualCmpFunc_int_4 : IR := .cond (.t 47) .skip (.exit 2)
@[go_sem] theorem w_slices_partitionEqualCmpFunc_int_4 : wp P slices_partitionEqualCmpFunc_int_4 Q e H = condW P ((.t 47) : X) .skip (.exit 2) Q e H := idE rfl
@[go_sem] def l_slices_partitionEqualCmpFunc_int_5 : List GOp := [⟨(some 48), .mv (.t 11), none⟩,
    ⟨(some 49), .bin .add (.t 48) (.c (.int .i64 1)), none⟩,
    ⟨(some 11), .mv (.t 49), none⟩]
def slices_partitionEqualCmpFunc_int_5 : IR := .ops l_slices_partitionEqualCmpFunc_int_5
@[go_sem] theorem w_slices_partitionEqualCmpFunc_int_5 : wp P slices_partitionEqualCmpFunc_int_5 Q e H = wpL P l_slices_partitionEqualCmpFunc_int_5 (Q .normal) e H := idE rfl
def slices_partitionEqualCmpFunc_int_6 : IR := .block 3 slices_partitionEqualCmpFunc_int_5
@[go_sem] theorem w_slices_partitionEqualCmpFunc_int_6 : wp P slices_partitionEqualCmpFunc_int_6 Q e H = wp P slices_partitionEqualCmpFunc_int_5 (blockQ 3 Q) e H := idE rfl
def slices_partitionEqualCmpFunc_int_7 : IR := .loop (.seq (.seq slices_partitionEqualCmpFunc_int_3 slices_partitionEqualCmpFunc_int_4) slices_partitionEqualCmpFunc_int_6)
def slices_partitionEqualCmpFunc_int_8 : IR := .block 2 slices_partitionEqualCmpFunc_int_7
@[go_sem] theorem w_slices_partitionEqualCmpFunc_int_8 : wp P slices_partitionEqualCmpFunc_int_8 Q e H = wp P slices_partitionEqualCmpFunc_int_7 (blockQ 2 Q) e H := idE rfl
def l_slices_partitionEqualCmpFunc_int_9 : List GOp := [⟨(some 50), .mv (.t 11), none⟩,
    ⟨(some 51), .mv (.t 12), none⟩,
    ⟨(some 52), .bin .leq (.t 50) (.t 51), none⟩,
    ⟨(some 53), .mv (.t 52), none⟩,
    ⟨(some 54), .mv (.t 4), (some (53, true))⟩,
    ⟨(some 55), .mv (.t 0), (some (53, true))⟩,
    ⟨(some 56), .mv (.t 1), (some (53, true))⟩,
    ⟨(some 57), .iaddr (.t 55) (.t 56) 1, (some (53, true))⟩,
    ⟨(some 58), .load (.t 57) 1 false, (some (53, true))⟩,
    ⟨(some 59), .mv (.t 0), (some (53, true))⟩,
    ⟨(some 60), .mv (.t 12), (some (53, true))⟩,
    ⟨(some 61), .iaddr (.t 59) (.t 60) 1, (some (53, true))⟩,
    ⟨(some 62), .load (.t 61) 1 false, (some (53, true))⟩,
    ⟨(some 63), .callv (.t 54) [(.t 58), (.t 62)], (some (53, true))⟩,
    ⟨(some 64), .bin .lss (.t 63) (.c (.int .i64 0)), (some (53, true))⟩,
    ⟨(some 65), .pick (.t 53) (.t 64) (.c (.bool false)), none⟩]
@[go_sem] theorem g_slices_partitionEqualCmpFunc_int_9_0 : gAt l_slices_partitionEqualCmpFunc_int_9 0 = ⟨(some 50), .mv (.t 11), none⟩ := idE rfl
@[go_sem] theorem g_slices_partitionEqualCmpFunc_int_9_1 : gAt l_slices_partitionEqualCmpFunc_int_9 1 = ⟨(some 51), .mv (.t 12), none⟩ := idE rfl
@[go_sem] theorem g_slices_partitionEqualCmpFunc_int_9_2 : gAt l_slices_partitionEqualCmpFunc_int_9 2 = ⟨(some 52), .bin .leq (.t 50) (.t 51), none⟩ := idE rfl
@[go_sem] theorem g_slices_partitionEqualCmpFunc_int_9_3 : gAt l_slices_partitionEqualCmpFunc_int_9 3 = ⟨(some 53), .mv (.t 52), none⟩ := idE rfl
@[go_sem] theorem g_slices_partitionEqualCmpFunc_int_9_4 : gAt l_slices_partitionEqualCmpFunc_int_9 4 = ⟨(some 54), .mv (.t 4), (some (53, true))⟩ := idE rfl
@[go_sem] theorem g_slices_partitionEqualCmpFunc_int_9_5 : gAt l_slices_partitionEqualCmpFunc_int_9 5 = ⟨(some 55), .mv (.t 0), (some (53, true))⟩ := idE rfl
@[go_sem] theorem g_slices_partitionEqualCmpFunc_int_9_6 : gAt l_slices_partitionEqualCmpFunc_int_9 6 = ⟨(some 56), .mv (.t 1), (some (53, true))⟩ := idE rfl
@[go_sem] theorem g_slices_partitionEqualCmpFunc_int_9_7 : gAt l_slices_partitionEqualCmpFunc_int_9 7 = ⟨(some 57), .iaddr (.t 55) (.t 56) 1, (some (53, true))⟩ := idE rfl
@[go_sem] theorem g_slices_partitionEqualCmpFunc_int_9_8 : gAt l_slices_partitionEqualCmpFunc_int_9 8 = ⟨(some 58), .load (.t 57) 1 false, (some (53, true))⟩ := idE rfl
@[go_sem] theorem g_slices_partitionEqualCmpFunc_int_9_9 : gAt l_slices_partitionEqualCmpFunc_int_9 9 = ⟨(some 59), .mv (.t 0), (some (53, true))⟩ := idE rfl
@[go_sem] theorem g_slices_partitionEqualCmpFunc_int_9_10 : gAt l_slices_partitionEqualCmpFunc_int_9 10 = ⟨(some 60), .mv (.t 12), (some (53, true))⟩ := idE rfl
@[go_sem] theorem g_slices_partitionEqualCmpFunc_int_9_11 : gAt l_slices_partitionEqualCmpFunc_int_9 11 = ⟨(some 61), .iaddr (.t 59) (.t 60) 1, (some (53, true))⟩ := idE rfl
@[go_sem] theorem g_slices_partitionEqualCmpFunc_int_9_12 : gAt l_slices_partitionEqualCmpFunc_int_9 12 = ⟨(some 62), .load (.t 61) 1 false, (some (53, true))⟩ := idE rfl
@[go_sem] theorem g_slices_partitionEqualCmpFunc_int_9_13 : gAt l_slices_partitionEqualCmpFunc_int_9 13 = ⟨(some 63), .callv (.t 54) [(.t 58), (.t 62)], (some (53, true))⟩ := idE rfl
@[go_sem] theorem g_slices_partitionEqualCmpFunc_int_9_14 : gAt l_slices_partitionEqualCmpFunc_int_9 14 = ⟨(some 64), .bin .lss (.t 63) (.c (.int .i64 0)), (some (53, true))⟩ := idE rfl
@[go_sem] theorem g_slices_partitionEqualCmpFunc_int_9_15 : gAt l_slices_partitionEqualCmpFunc_int_9 15 = ⟨(some 65), .pick (.t 53) (.t 64) (.c (.bool false)), none⟩ := idE rfl
def slices_partitionEqualCmpFunc_int_9 : IR := .dops l_slices_partitionEqualCmpFunc_int_9 [(0, []), (1, []), (2, []), (3, []), (4, []), (5, []), (6, []), (7, []), (8, []), (9, []), (10, []), (11, []), (12, []), (13, []), (14, []), (15, [])]
@[go_sem] theorem w_slices_partitionEqualCmpFunc_int_9 : wp P slices_partitionEqualCmpFunc_int_9 Q e H = wpD P l_slices_partitionEqualCmpFunc_int_9 [(0, []), (1, []), (2, []), (3, []), (4, []), (5, []), (6, []), (7, []), (8, []), (9, []), (10, []), (11, []), (12, []), (13, []), (14, []), (15, [])] (Q .normal) e H := idE rfl
def slices_partitionEqualCmpFunc_int_10 : IR := .cond (.t 65) .skip (.exit 4)
@[go_sem] theorem w_slices_partitionEqualCmpFunc_int_10 : wp P slices_partitionEqualCmpFunc_int_10 Q e H = condW P ((.t 65) : X) .skip (.exit 4) Q e H := idE rfl
@[go_sem] def l_slices_partitionEqualCmpFunc_int_11 : List GOp := [⟨(some 66), .mv (.t 12), none⟩,
    ⟨(some 67), .bin .sub (.t 66) (.c (.int .i64 1)), none⟩,
    ⟨(some 12), .mv (.t 67), none⟩]
def slices_partitionEqualCmpFunc_int_11 : IR := .ops l_slices_partitionEqualCmpFunc_int_11
@[go_sem] theorem w_slices_partitionEqualCmpFunc_int_11 : wp P slices_partitionEqualCmpFunc_int_11 Q e H = wpL P l_slices_partitionEqualCmpFunc_int_11 (Q .normal) e H := idE rfl
def slices_partitionEqualCmpFunc_int_12 : IR := .block 5 slices_partitionEqualCmpFunc_int_11
@[go_sem] theorem w_slices_partitionEqualCmpFunc_int_12 : wp P slices_partitionEqualCmpFunc_int_12 Q e H = wp P slices_partitionEqualCmpFunc_int_11 (blockQ 5 Q) e H := idE rfl
def slices_partitionEqualCmpFunc_int_13 : IR := .loop (.seq (.seq slices_partitionEqualCmpFunc_int_9 slices_partitionEqualCmpFunc_int_10) slices_partitionEqualCmpFunc_int_12)
def slices_partitionEqualCmpFunc_int_14 : IR := .block 4 slices_partitionEqualCmpFunc_int_13
@[go_sem] theorem w_slices_partitionEqualCmpFunc_int_14 : wp P slices_partitionEqualCmpFunc_int_14 Q e H = wp P slices_partitionEqualCmpFunc_int_13 (blockQ 4 Q) e H := idE rfl
@[go_sem] def l_slices_partitionEqualCmpFunc_int_15 : List GOp := [⟨(some 68), .mv (.t 11), none⟩,
    ⟨(some 69), .mv (.t 12), none⟩,
    ⟨(some 70), .bin .gtr (.t 68) (.t 69), none⟩]
def slices_partitionEqualCmpFunc_int_15 : IR := .ops l_slices_partitionEqualCmpFunc_int_15
@[go_sem] theorem w_slices_partitionEqualCmpFunc_int_15 : wp P slices_partitionEqualCmpFunc_int_15 Q e H = wpL P l_slices_partitionEqualCmpFunc_int_15 (Q .normal) e H := idE rfl
def slices_partitionEqualCmpFunc_int_16 : IR := .cond (.t 70) (.exit 0) .skip
@[go_sem] theorem w_slices_partitionEqualCmpFunc_int_16 : wp P slices_partitionEqualCmpFunc_int_16 Q e H = condW P ((.t 70) : X) (.exit 0) .skip Q e H := idE rfl
def l_slices_partitionEqualCmpFunc_int_17 : List GOp := [⟨(some 71), .mv (.t 0), none⟩,
    ⟨(some 72), .mv (.t 11), none⟩,
    ⟨(some 73), .mv (.t 0), none⟩,
    ⟨(some 74), .mv (.t 12), none⟩,
    ⟨(some 75), .mv (.t 0), none⟩,
    ⟨(some 76), .mv (.t 12), none⟩,
    ⟨(some 77), .iaddr (.t 75) (.t 76) 1, none⟩,
    ⟨(some 78), .load (.t 77) 1 false, none⟩,
    ⟨(some 79), .mv (.t 0), none⟩,
    ⟨(some 80), .mv (.t 11), none⟩,
    ⟨(some 81), .iaddr (.t 79) (.t 80) 1, none⟩,
    ⟨(some 82), .load (.t 81) 1 false, none⟩,
    ⟨(some 83), .iaddr (.t 71) (.t 72) 1, none⟩,
    ⟨none, .store (.t 83) 1 (.t 78), none⟩,
    ⟨(some 84), .iaddr (.t 73) (.t 74) 1, none⟩,
    ⟨none, .store (.t 84) 1 (.t 82), none⟩]
@[go_sem] theorem g_slices_partitionEqualCmpFunc_int_17_0 : gAt l_slices_partitionEqualCmpFunc_int_17 0 = ⟨(some 71), .mv (.t 0), none⟩ := idE rfl
@[go_sem] theorem g_slices_partitionEqualCmpFunc_int_17_1 : gAt l_slices_partitionEqualCmpFunc_int_17 1 = ⟨(some 72), .mv (.t 11), none⟩ := idE rfl
@[go_sem] theorem g_slices_partitionEqualCmpFunc_int_17_2 : gAt l_slices_partitionEqualCmpFunc_int_17 2 = ⟨(some 73), .mv (.t 0), none⟩ := idE rfl
@[go_sem] theorem g_slices_partitionEqualCmpFunc_int_17_3 : gAt l_slices_partitionEqualCmpFunc_int_17 3 = ⟨(some 74), .mv (.t 12), none⟩ := idE rfl
@[go_sem] theorem g_slices_partitionEqualCmpFunc_int_17_4 : gAt l_slices_partitionEqualCmpFunc_int_17 4 = ⟨(some 75), .mv (.t 0), none⟩ := idE rfl
@[go_sem] theorem g_slices_partitionEqualCmpFunc_int_17_5 : gAt l_slices_partitionEqualCmpFunc_int_17 5 = ⟨(some 76), .mv (.t 12), none⟩ := idE rfl
@[go_sem] theorem g_slices_partitionEqualCmpFunc_int_17_6 : gAt l_slices_partitionEqualCmpFunc_int_17 6 = ⟨(some 77), .iaddr (.t 75) (.t 76) 1, none⟩ := idE rfl
@[go_sem] theorem g_slices_partitionEqualCmpFunc_int_17_7 : gAt l_slices_partitionEqualCmpFunc_int_17 7 = ⟨(some 78), .load (.t 77) 1 false, none⟩ := idE rfl
@[go_sem] theorem g_slices_partitionEqualCmpFunc_int_17_8 : gAt l_slices_partitionEqualCmpFunc_int_17 8 = ⟨(some 79), .mv (.t 0), none⟩ := idE rfl
@[go_sem] theorem g_slices_partitionEqualCmpFunc_int_17_9 : gAt l_slices_partitionEqualCmpFunc_int_17 9 = ⟨(some 80), .mv (.t 11), none⟩ := idE rfl
@[go_sem] theorem g_slices_partitionEqualCmpFunc_int_17_10 : gAt l_slices_partitionEqualCmpFunc_int_17 10 = ⟨(some 81), .iaddr (.t 79) (.t 80) 1, none⟩ := idE rfl
@[go_sem] theorem g_slices_partitionEqualCmpFunc_int_17_11 : gAt l_slices_partitionEqualCmpFunc_int_17 11 = ⟨(some 82), .load (.t 81) 1 false, none⟩ := idE rfl
@[go_sem] theorem g_slices_partitionEqualCmpFunc_int_17_12 : gAt l_slices_partitionEqualCmpFunc_int_17 12 = ⟨(some 83), .iaddr (.t 71) (.t 72) 1, none⟩ := idE rfl
@[go_sem] theorem g_slices_partitionEqualCmpFunc_int_17_13 : gAt l_slices_partitionEqualCmpFunc_int_17 13 = ⟨none, .store (.t 83) 1 (.t 78), none⟩ := idE rfl
@[go_sem] theorem g_slices_partitionEqualCmpFunc_int_17_14 : gAt l_slices_partitionEqualCmpFunc_int_17 14 = ⟨(some 84), .iaddr (.t 73) (.t 74) 1, none⟩ := idE rfl
@[go_sem] theorem g_slices_partitionEqualCmpFunc_int_17_15 : gAt l_slices_partitionEqualCmpFunc_int_17 15 = ⟨none, .store (.t 84) 1 (.t 82), none⟩ := idE rfl
def slices_partitionEqualCmpFunc_int_17 : IR := .dops l_slices_partitionEqualCmpFunc_int_17 [(0, []), (1, []), (2, []), (3, []), (4, []), (5, []), (6, []), (7, []), (8, []), (9, []), (10, []), (11, []), (12, []), (13, []), (14, []), (15, [])]
@[go_sem] theorem w_slices_partitionEqualCmpFunc_int_17 : wp P slices_partitionEqualCmpFunc_int_17 Q e H = wpD P l_slices_partitionEqualCmpFunc_int_17 [(0, []), (1, []), (2, []), (3, []), (4, []), (5, []), (6, []), (7, []), (8, []), (9, []), (10, []), (11, []), (12, []), (13, []), (14, []), (15, [])] (Q .normal) e H := idE rfl
@[go_sem] def l_slices_partitionEqualCmpFunc_int_18 : List GOp := [⟨(some 85), .mv (.t 11), none⟩,
    ⟨(some 86), .bin .add (.t 85) (.c (.int .i64 1)), none⟩,
    ⟨(some 11), .mv (.t 86), none⟩]
def slices_partitionEqualCmpFunc_int_18 : IR := .ops l_slices_partitionEqualCmpFunc_int_18
@[go_sem] theorem w_slices_partitionEqualCmpFunc_int_18 : wp P slices_partitionEqualCmpFunc_int_18 Q e H = wpL P l_slices_partitionEqualCmpFunc_int_18 (Q .normal) e H := idE rfl
@[go_sem] def l_slices_partitionEqualCmpFunc_int_19 : List GOp := [⟨(some 87), .mv (.t 12), none⟩,
    ⟨(some 88), .bin .sub (.t 87) (.c (.int .i64 1)), none⟩,
    ⟨(some 12), .mv (.t 88), none⟩]
def slices_partitionEqualCmpFunc_int_19 : IR := .ops l_slices_partitionEqualCmpFunc_int_19
@[go_sem] theorem w_slices_partitionEqualCmpFunc_int_19 : wp P slices_partitionEqualCmpFunc_int_19 Q e H = wpL P l_slices_partitionEqualCmpFunc_int_19 (Q .normal) e H := idE rfl
def slices_partitionEqualCmpFunc_int_20 : IR := .block 1 (.seq slices_partitionEqualCmpFunc_int_8 (.seq slices_partitionEqualCmpFunc_int_14 (.seq (.seq slices_partitionEqualCmpFunc_int_15 slices_partitionEqualCmpFunc_int_16) (.seq slices_partitionEqualCmpFunc_int_17 (.seq slices_partitionEqualCmpFunc_int_18 slices_partitionEqualCmpFunc_int_19)))))
@[go_sem] theorem w_slices_partitionEqualCmpFunc_int_20 : wp P slices_partitionEqualCmpFunc_int_20 Q e H = wp P (.seq slices_partitionEqualCmpFunc_int_8 (.seq slices_partitionEqualCmpFunc_int_14 (.seq (.seq slices_partitionEqualCmpFunc_int_15 slices_partitionEqualCmpFunc_int_16) (.seq slices_partitionEqualCmpFunc_int_17 (.seq slices_partitionEqualCmpFunc_int_18 slices_partitionEqualCmpFunc_int_19))))) (blockQ 1 Q) e H := idE rfl
def slices_partitionEqualCmpFunc_int_21 : IR := .loop slices_partitionEqualCmpFunc_int_20
def slices_partitionEqualCmpFunc_int_22 : IR := .block 0 slices_partitionEqualCmpFunc_int_21
@[go_sem] theorem w_slices_partitionEqualCmpFunc_int_22 : wp P slices_partitionEqualCmpFunc_int_22 Q e H = wp P slices_partitionEqualCmpFunc_int_21 (blockQ 0 Q) e H := idE rfl
@[go_sem] def l_slices_partitionEqualCmpFunc_int_23 : List GOp := [⟨(some 89), .mv (.t 11), none⟩,
    ⟨(some 10), .mv (.t 89), none⟩]
def slices_partitionEqualCmpFunc_int_23 : IR := .ops l_slices_partitionEqualCmpFunc_int_23
@[go_sem] theorem w_slices_partitionEqualCmpFunc_int_23 : wp P slices_partitionEqualCmpFunc_int_23 Q e H = wpL P l_slices_partitionEqualCmpFunc_int_23 (Q .normal) e H := idE rfl
@[go_sem] def l_slices_partitionCmpFunc_int_0 : List GOp := [⟨(some 10), .mv (.c (.int .i64 0)), none⟩,
    ⟨(some 11), .mv (.c (.bool false)), none⟩]
def slices_partitionCmpFunc_int_0 : IR := .ops l_slices_partitionCmpFunc_int_0
@[go_sem] theorem w_slices_partitionCmpFunc_int_0 : wp P slices_partitionCmpFunc_int_0 Q e H = wpL P l_slices_partitionCmpFunc_int_0 (Q .normal) e H := idE rfl
def l_slices_partitionCmpFunc_int_1 : List GOp := [⟨(some 14), .mv (.t 0), none⟩,
    ⟨(some 15), .mv (.t 1), none⟩,
    ⟨(some 16), .mv (.t 0), none⟩,
    ⟨(some 17), .mv (.t 3), none⟩,
    ⟨(some 18), .mv (.t 0), none⟩,
    ⟨(some 19), .mv (.t 3), none⟩,
    ⟨(some 20), .iaddr (.t 18) (.t 19) 1, none⟩,
    ⟨(some 21), .load (.t 20) 1 false, none⟩,
    ⟨(some 22), .mv (.t 0), none⟩,
    ⟨(some 23), .mv (.t 1), none⟩,
    ⟨(some 24), .iaddr (.t 22) (.t 23) 1, none⟩,
    ⟨(some 25), .load (.t 24) 1 false, none⟩,
    ⟨(some 26), .iaddr (.t 14) (.t 15) 1, none⟩,
    ⟨none, .store (.t 26) 1 (.t 21), none⟩,
    ⟨(some 27), .iaddr (.t 16) (.t 17) 1, none⟩,
    ⟨none, .store (.t 27) 1 (.t 25), none⟩]
@[go_sem] theorem g_slices_partitionCmpFunc_int_1_0 : gAt l_slices_partitionCmpFunc_int_1 0 = ⟨(some 14), .mv (.t 0), none⟩ := idE rfl
@[go_sem] theorem g_slices_partitionCmpFunc_int_1_1 : gAt l_slices_partitionCmpFunc_int_1 1 = ⟨(some 15), .mv (.t 1), none⟩ := idE rfl
@[go_sem] theorem g_slices_partitionCmpFunc_int_1_2 : gAt l_slices_partitionCmpFunc_int_1 2 = ⟨(some 16), .mv (.t 0), none⟩ := idE rfl
@[go_sem] theorem g_slices_partitionCmpFunc_int_1_3 : gAt l_slices_partitionCmpFunc_int_1 3 = ⟨(some 17), .mv (.t 3), none⟩ := idE rfl
@[go_sem] theorem g_slices_partitionCmpFunc_int_1_4 : gAt l_slices_partitionCmpFunc_int_1 4 = ⟨(some 18), .mv (.t 0), none⟩ := idE rfl
@[go_sem] theorem g_slices_partitionCmpFunc_int_1_5 : gAt l_slices_partitionCmpFunc_int_1 5 = ⟨(some 19), .mv (.t 3), none⟩ := idE rfl
@[go_sem] theorem g_slices_partitionCmpFunc_int_1_6 : gAt l_slices_partitionCmpFunc_int_1 6 = ⟨(some 20), .iaddr (.t 18) (.t 19) 1, none⟩ := idE rfl
@[go_sem] theorem g_slices_partitionCmpFunc_int_1_7 : gAt l_slices_partitionCmpFunc_int_1 7 = ⟨(some 21), .load (.t 20) 1 false, none⟩ := idE rfl
@[go_sem] theorem g_slices_partitionCmpFunc_int_1_8 : gAt l_slices_partitionCmpFunc_int_1 8 = ⟨(some 22), .mv (.t 0), none⟩ := idE rfl
@[go_sem] theorem g_slices_partitionCmpFunc_int_1_9 : gAt l_slices_partitionCmpFunc_int_1 9 = ⟨(some 23), .mv (.t 1), none⟩ := idE rfl
@[go_sem] theorem g_slices_partitionCmpFunc_int_1_10 : gAt l_slices_partitionCmpFunc_int_1 10 = ⟨(some 24), .iaddr (.t 22) (.t 23) 1, none⟩ := idE rfl
@[go_sem] theorem g_slices_partitionCmpFunc_int_1_11 : gAt l_slices_partitionCmpFunc_int_1 11 = ⟨(some 25), .load (.t 24) 1 false, none⟩ := idE rfl
@[go_sem] theorem g_slices_partitionCmpFunc_int_1_12 : gAt l_slices_partitionCmpFunc_int_1 12 = ⟨(some 26), .iaddr (.t 14) (.t 15) 1, none⟩ := idE rfl
@[go_sem] theorem g_slices_partitionCmpFunc_int_1_13 : gAt l_slices_partitionCmpFunc_int_1 13 = ⟨none, .store (.t 26) 1 (.t 21), none⟩ := idE rfl
@[go_sem] theorem g_slices_partitionCmpFunc_int_1_14 : gAt l_slices_partitionCmpFunc_int_1 14 = ⟨(some 27), .iaddr (.t 16) (.t 17) 1, none⟩ := idE rfl
@[go_sem] theorem g_slices_partitionCmpFunc_int_1_15 : gAt l_slices_partitionCmpFunc_int_1 15 = ⟨none, .store (.t 27) 1 (.t 25), none⟩ := idE rfl
def slices_partitionCmpFunc_int_1 : IR := .dops l_slices_partitionCmpFunc_int_1 [(0, []), (1, []), (2, []), (3, []), (4, []), (5, []), (6, []), (7, []), (8, []), (9, []), (10, []), (11, []), (12, []), (13, []), (14, []), (15, [])]
@[go_sem] theorem w_slices_partitionCmpFunc_int_1 : wp P slices_partitionCmpFunc_int_1 Q e H = wpD P l_slices_partitionCmpFunc_int_1 [(0, []), (1, []), (2, []), (3, []), (4, []), (5, []), (6, []), (7, []), (8, []), (9, []), (10, []), (11, []), (12, []), (13, []), (14, []), (15, [])] (Q .normal) e H := idE rfl
@[go_sem] def l_slices_partitionCmpFunc_int_2 : List GOp := [⟨(some 28), .mv (.t 1), none⟩,
    ⟨(some 29), .bin .add (.t 28) (.c (.int .i64 1)), none⟩,
    ⟨(some 30), .mv (.t 2), none⟩,
    ⟨(some 31), .bin .sub (.t 30) (.c (.int .i64 1)), none⟩,
    ⟨(some 12), .mv (.t 29), none⟩,
    ⟨(some 13), .mv (.t 31), none⟩]
def slices_partitionCmpFunc_int_2 : IR := .ops l_slices_partitionCmpFunc_int_2
@[go_sem] theorem w_slices_partitionCmpFunc_int_2 : wp P slices_partitionCmpFunc_int_2 Q e H = wpL P l_slices_partitionCmpFunc_int_2 (Q .normal) e H := idE rfl
def l_slices_partitionCmpFunc_int_3 : List GOp := [⟨(some 32), .mv (.t 12), none⟩,
    ⟨(some 33), .mv (.t 13), none⟩,
    ⟨(some 34), .bin .leq (.t 32) (.t 33), none⟩,
    ⟨(some 35), .mv (.t 34), none⟩,
    ⟨(some 36), .mv (.t 4), (some (35, true))⟩,
    ⟨(some 37), .mv (.t 0), (some (35, true))⟩,
    ⟨(some 38), .mv (.t 12), (some (35, true))⟩,
    ⟨(some 39), .iaddr (.t 37) (.t 38) 1, (some (35, true))⟩,
    ⟨(some 40), .load (.t 39) 1 false, (some (35, true))⟩,
    ⟨(some 41), .mv (.t 0), (some (35, true))⟩,
    ⟨(some 42), .mv (.t 1), (some (35, true))⟩,
    ⟨(some 43), .iaddr (.t 41) (.t 42) 1, (some (35, true))⟩,
    ⟨(some 44), .load (.t 43) 1 false, (some (35, true))⟩,
    ⟨(some 45), .callv (.t 36) [(.t 40), (.t 44)], (some (35, true))⟩,
    ⟨(some 46), .bin .lss (.t 45) (.c (.int .i64 0)), (some (35, true))⟩,
    ⟨(some 47), .pick (.t 35) (.t 46) (.c (.bool false)), none⟩]
@[go_sem] theorem g_slices_partitionCmpFunc_int_3_0 : gAt l_slices_partitionCmpFunc_int_3 0 = ⟨(some 32), .mv (.t 12), none⟩ := idE rfl
@[go_sem] theorem g_slices_partitionCmpFunc_int_3_1 : gAt l_slices_partitionCmpFunc_int_3 1 = ⟨(some 33), .mv (.t 13), none⟩ := idE rfl
@[go_sem] theorem g_slices_partitionCmpFunc_int_3_2 : gAt l_slices_partitionCmpFunc_int_3 2 = ⟨(some 34), .bin .leq (.t 32) (.t 33), none⟩ := idE rfl
@[go_sem] theorem g_slices_partitionCmpFunc_int_3_3 : gAt l_slices_partitionCmpFunc_int_3 3 = ⟨(some 35), .mv (.t 34), none⟩ := idE rfl
@[go_sem] theorem g_slices_partitionCmpFunc_int_3_4 : gAt l_slices_partitionCmpFunc_int_3 4 = ⟨(some 36), .mv (.t 4), (some (35, true))⟩ := idE rfl
@[go_sem] theorem g_slices_partitionCmpFunc_int_3_5 : gAt l_slices_partitionCmpFunc_int_3 5 = ⟨(some 37), .mv (.t 0), (some (35, true))⟩ := idE rfl
@[go_sem] theorem g_slices_partitionCmpFunc_int_3_6 : gAt l_slices_partitionCmpFunc_int_3 6 = ⟨(some 38), .mv (.t 12), (some (35, true))⟩ := idE rfl
@[go_sem] theorem g_slices_partitionCmpFunc_int_3_7 : gAt l_slices_partitionCmpFunc_int_3 7 = ⟨(some 39), .iaddr (.t 37) (.t 38) 1, (some (35, true))⟩ := idE rfl
@[go_sem] theorem g_slices_partitionCmpFunc_int_3_8 : gAt l_slices_partitionCmpFunc_int_3 8 = ⟨(some 40), .load (.t 39) 1 false, (some (35, true))⟩ := idE rfl
@[go_sem] theorem g_slices_partitionCmpFunc_int_3_9 : gAt l_slices_partitionCmpFunc_int_3 9 = ⟨(some 41), .mv (.t 0), (some (35, true))⟩ := idE rfl
@[go_sem] theorem g_slices_partitionCmpFunc_int_3_10 : gAt l_slices_partitionCmpFunc_int_3 10 = ⟨(some 42), .mv (.t 1), (some (35, true))⟩ := idE rfl
@[go_sem] theorem g_slices_partitionCmpFunc_int_3_11 : gAt l_slices_partitionCmpFunc_int_3 11 = ⟨(some 43), .iaddr (.t 41) (.t 42) 1, (some (35, true))⟩ := idE rfl
@[go_sem] theorem g_slices_partitionCmpFunc_int_3_12 : gAt l_slices_partitionCmpFunc_int_3 12 = ⟨(some 44), .load (.t 43) 1 false, (some (35, true))⟩ := idE rfl
@[go_sem] theorem g_slices_partitionCmpFunc_int_3_13 : gAt l_slices_partitionCmpFunc_int_3 13 = ⟨(some 45), .callv (.t 36) [(.t 40), (.t 44)], (some (35, true))⟩ := idE rfl
@[go_sem] theorem g_slices_partitionCmpFunc_int_3_14 : gAt l_slices_partitionCmpFunc_int_3 14 = ⟨(some 46), .bin .lss (.t 45) (.c (.int .i64 0)), (some (35, true))⟩ := idE rfl
@[go_sem] theorem g_slices_partitionCmpFunc_int_3_15 : gAt l_slices_partitionCmpFunc_int_3 15 = ⟨(some 47), .pick (.t 35) (.t 46) (.c (.bool false)), none⟩ := idE rfl
def slices_partitionCmpFunc_int_3 : IR := .dops l_slices_partitionCmpFunc_int_3 [(0, []), (1, []), (2, []), (3, []), (4, []), (5, []), (6, []), (7, []), (8, []), (9, []), (10, []), (11, []), (12, []), (13, []), (14, []), (15, [])]
@[go_sem] theorem w_slices_partitionCmpFunc_int_3 : wp P slices_partitionCmpFunc_int_3 Q e H = wpD P l_slices_partitionCmpFunc_int_3 [(0, []), (1, []), (2, []), (3, []), (4, []), (5, []), (6, []), (7, []), (8, []), (9, []), (10, []), (11, []), (12, []), (13, []), (14, []), (15, [])] (Q .normal) e H := idE rfl
def slices_partitionCmpFunc_int_4 : IR := .cond (.t 47) .skip (.exit 0)
@[go_sem] theorem w_slices_partitionCmpFunc_int_4 : wp P slices_partitionCmpFunc_int_4 Q e H = condW P ((.t 47) : X) .skip (.exit 0) Q e H := idE rfl
@[go_sem] def l_slices_partitionCmpFunc_int_5 : List GOp := [⟨(some 48), .mv (.t 12), none⟩,
    ⟨(some 49), .bin .add (.t 48) (.c (.int .i64 1)), none⟩,
    ⟨(some 12), .mv (.t 49), none⟩]
def slices_partitionCmpFunc_int_5 : IR := .ops l_slices_partitionCmpFunc_int_5
@[go_sem] theorem w_slices_partitionCmpFunc_int_5 : wp P slices_partitionCmpFunc_int_5 Q e H = wpL P l_slices_partitionCmpFunc_int_5 (Q .normal) e H := idE rfl
def slices_partitionCmpFunc_int_6 : IR := .block 1 slices_partitionCmpFunc_int_5
@[go_sem] theorem w_slices_partitionCmpFunc_int_6 : wp P slices_partitionCmpFunc_int_6 Q e H = wp P slices_partitionCmpFunc_int_5 (blockQ 1 Q) e H := idE rfl
def slices_partitionCmpFunc_int_7 : IR := .loop (.seq (.seq slices_partitionCmpFunc_int_3 slices_partitionCmpFunc_int_4) slices_partitionCmpFunc_int_6)
def slices_partitionCmpFunc_int_8 : IR := .block 0 slices_partitionCmpFunc_int_7
@[go_sem] theorem w_slices_partitionCmpFunc_int_8 : wp P slices_partitionCmpFunc_int_8 Q e H = wp P slices_partitionCmpFunc_int_7 (blockQ 0 Q) e H := idE rfl
def l_slices_partitionCmpFunc_int_9 : List GOp := [⟨(some 50), .mv (.t 12), none⟩,
    ⟨(some 51), .mv (.t 13), none⟩,
    ⟨(some 52), .bin .leq (.t 50) (.t 51), none⟩,
    ⟨(some 53), .mv (.t 52), none⟩,
    ⟨(some 54), .mv (.t 4), (some (53, true))⟩,
    ⟨(some 55), .mv (.t 0), (some (53, true))⟩,
    ⟨(some 56), .mv (.t 13), (some (53, true))⟩,
    ⟨(some 57), .iaddr (.t 55) (.t 56) 1, (some (53, true))⟩,
    ⟨(some 58), .load (.t 57) 1 false, (some (53, true))⟩,
    ⟨(some 59), .mv (.t 0), (some (53, true))⟩,
    ⟨(some 60), .mv (.t 1), (some (53, true))⟩,
    ⟨(some 61), .iaddr (.t 59) (.t 60) 1, (some (53, true))⟩,
    ⟨(some 62), .load (.t 61) 1 false, (some (53, true))⟩,
    ⟨(some 63), .callv (.t 54) [(.t 58), (.t 62)], (some (53, true))⟩,
    ⟨(some 64), .bin .lss (.t 63) (.c (.int .i64 0)), (some (53, true))⟩,
    ⟨(some 65), .un .not (.t 64), (some (53, true))⟩,
    ⟨(some 66), .pick (.t 53) (.t 65) (.c (.bool false)), none⟩]
@[go_sem] theorem g_slices_partitionCmpFunc_int_9_0 : gAt l_slices_partitionCmpFunc_int_9 0 = ⟨(some 50), .mv (.t 12), none⟩ := idE rfl
@[go_sem] theorem g_slices_partitionCmpFunc_int_9_1 : gAt l_slices_partitionCmpFunc_int_9 1 = ⟨(some 51), .mv (.t 13), none⟩ := idE rfl
@[go_sem] theorem g_slices_partitionCmpFunc_int_9_2 : gAt l_slices_partitionCmpFunc_int_9 2 = ⟨(some 52), .bin .leq (.t 50) (.t 51), none⟩ := idE rfl
@[go_sem] theorem g_slices_partitionCmpFunc_int_9_3 : gAt l_slices_partitionCmpFunc_int_9 3 = ⟨(some 53), .mv (.t 52), none⟩ := idE rfl
@[go_sem] theorem g_slices_partitionCmpFunc_int_9_4 : gAt l_slices_partitionCmpFunc_int_9 4 = ⟨(some 54), .mv (.t 4), (some (53, true))⟩ := idE rfl
@[go_sem] theorem g_slices_partitionCmpFunc_int_9_5 : gAt l_slices_partitionCmpFunc_int_9 5 = ⟨(some 55), .mv (.t 0), (some (53, true))⟩ := idE rfl
@[go_sem] theorem g_slices_partitionCmpFunc_int_9_6 : gAt l_slices_partitionCmpFunc_int_9 6 = ⟨(some 56), .mv (.t 13), (some (53, true))⟩ := idE rfl
@[go_sem] theorem g_slices_partitionCmpFunc_int_9_7 : gAt l_slices_partitionCmpFunc_int_9 7 = ⟨(some 57), .iaddr (.t 55) (.t 56) 1, (some (53, true))⟩ := idE rfl
@[go_sem] theorem g_slices_partitionCmpFunc_int_9_8 : gAt l_slices_partitionCmpFunc_int_9 8 = ⟨(some 58), .load (.t 57) 1 false, (some (53, true))⟩ := idE rfl
@[go_sem] theorem g_slices_partitionCmpFunc_int_9_9 : gAt l_slices_partitionCmpFunc_int_9 9 = ⟨(some 59), .mv (.t 0), (some (53, true))⟩ := idE rfl
@[go_sem] theorem g_slices_partitionCmpFunc_int_9_10 : gAt l_slices_partitionCmpFunc_int_9 10 = ⟨(some 60), .mv (.t 1), (some (53, true))⟩ := idE rfl
@[go_sem] theorem g_slices_partitionCmpFunc_int_9_11 : gAt l_slices_partitionCmpFunc_int_9 11 = ⟨(some 61), .iaddr (.t 59) (.t 60) 1, (some (53, true))⟩ := idE rfl
@[go_sem] theorem g_slices_partitionCmpFunc_int_9_12 : gAt l_slices_partitionCmpFunc_int_9 12 = ⟨(some 62), .load (.t 61) 1 false, (some (53, true))⟩ := idE rfl
@[go_sem] theorem g_slices_partitionCmpFunc_int_9_13 : gAt l_slices_partitionCmpFunc_int_9 13 = ⟨(some 63), .callv (.t 54) [(.t 58), (.t 62)], (some (53, true))⟩ := idE rfl
@[go_sem] theorem g_slices_partitionCmpFunc_int_9_14 : gAt l_slices_partitionCmpFunc_int_9 14 = ⟨(some 64), .bin .lss (.t 63) (.c (.int .i64 0)), (some (53, true))⟩ := idE rfl
@[go_sem] theorem g_slices_partitionCmpFunc_int_9_15 : gAt l_slices_partitionCmpFunc_int_9 15 = ⟨(some 65), .un .not (.t 64), (some (53, true))⟩ := idE rfl
@[go_sem] theorem g_slices_partitionCmpFunc_int_9_16 : gAt l_slices_partitionCmpFunc_int_9 16 = ⟨(some 66), .pick (.t 53) (.t 65) (.c (.bool false)), none⟩ := idE rfl
def slices_partitionCmpFunc_int_9 : IR := .dops l_slices_partitionCmpFunc_int_9 [(0, []), (1, []), (2, []), (3, []), (4, []), (5, []), (6, []), (7, []), (8, []), (9, []), (10, []), (11, []), (12, []), (13, []), (14, []), (15, []), (16, [])]
@[go_sem] theorem w_slices_partitionCmpFunc_int_9 : wp P slices_partitionCmpFunc_int_9 Q e H = wpD P l_slices_partitionCmpFunc_int_9 [(0, []), (1, []), (2, []), (3, []), (4, []), (5, []), (6, []), (7, []), (8, []), (9, []), (10, []), (11, []), (12, []), (13, []), (14, []), (15, []), (16, [])] (Q .normal) e H := idE rfl
def slices_partitionCmpFunc_int_10 : IR := .cond (.t 66) .skip (.exit 2)
@[go_sem] theorem w_slices_partitionCmpFunc_int_10 : wp P slices_partitionCmpFunc_int_10 Q e H = condW P ((.t 66) : X) .skip (.exit 2) Q e H := idE rfl
@[go_sem] def l_slices_partitionCmpFunc_int_11 : List GOp := [⟨(some 67), .mv (.t 13), none⟩,
    ⟨(some 68), .bin .sub (.t 67) (.c (.int .i64 1)), none⟩,
    ⟨(some 13), .mv (.t 68), none⟩]
def slices_partitionCmpFunc_int_11 : IR := .ops l_slices_partitionCmpFunc_int_11
@[go_sem] theorem w_slices_partitionCmpFunc_int_11 : wp P slices_partitionCmpFunc_int_11 Q e H = wpL P l_slices_partitionCmpFunc_int_11 (Q .normal) e H := idE rfl
def slices_partitionCmpFunc_int_12 : IR := .block 3 slices_partitionCmpFunc_int_11
@[go_sem] theorem w_slices_partitionCmpFunc_int_12 : wp P slices_partitionCmpFunc_int_12 Q e H = wp P slices_partitionCmpFunc_int_11 (blockQ 3 Q) e H := idE rfl
def slices_partitionCmpFunc_int_13 : IR := .loop (.seq (.seq slices_partitionCmpFunc_int_9 slices_partitionCmpFunc_int_10) slices_partitionCmpFunc_int_12)
def slices_partitionCmpFunc_int_14 : IR := .block 2 slices_partitionCmpFunc_int_13
@[go_sem] theorem w_slices_partitionCmpFunc_int_14 : wp P slices_partitionCmpFunc_int_14 Q e H = wp P slices_partitionCmpFunc_int_13 (blockQ 2 Q) e H := idE rfl
@[go_sem] def l_slices_partitionCmpFunc_int_15 : List GOp := [⟨(some 69), .mv (.t 12), none⟩,
    ⟨(some 70), .mv (.t 13), none⟩,
    ⟨(some 71), .bin .gtr (.t 69) (.t 70), none⟩]
def slices_partitionCmpFunc_int_15 : IR := .ops l_slices_partitionCmpFunc_int_15
@[go_sem] theorem w_slices_partitionCmpFunc_int_15 : wp P slices_partitionCmpFunc_int_15 Q e H = wpL P l_slices_partitionCmpFunc_int_15 (Q .normal) e H := idE rfl
def l_slices_partitionCmpFunc_int_16 : List GOp := [⟨(some 72), .mv (.t 0), none⟩,
    ⟨(some 73), .mv (.t 13), none⟩,
    ⟨(some 74), .mv (.t 0), none⟩,
    ⟨(some 75), .mv (.t 1), none⟩,
    ⟨(some 76), .mv (.t 0), none⟩,
    ⟨(some 77), .mv (.t 1), none⟩,
    ⟨(some 78), .iaddr (.t 76) (.t 77) 1, none⟩,
    ⟨(some 79), .load (.t 78) 1 false, none⟩,
    ⟨(some 80), .mv (.t 0), none⟩,
    ⟨(some 81), .mv (.t 13), none⟩,
    ⟨(some 82), .iaddr (.t 80) (.t 81) 1, none⟩,
    ⟨(some 83), .load (.t 82) 1 false, none⟩,
    ⟨(some 84), .iaddr (.t 72) (.t 73) 1, none⟩,
    ⟨none, .store (.t 84) 1 (.t 79), none⟩,
    ⟨(some 85), .iaddr (.t 74) (.t 75) 1, none⟩,
    ⟨none, .store (.t 85) 1 (.t 83), none⟩]
@[go_sem] theorem g_slices_partitionCmpFunc_int_16_0 : gAt l_slices_partitionCmpFunc_int_16 0 = ⟨(some 72), .mv (.t 0), none⟩ := idE rfl
@[go_sem] theorem g_slices_partitionCmpFunc_int_16_1 : gAt l_slices_partitionCmpFunc_int_16 1 = ⟨(some 73), .mv (.t 13), none⟩ := idE rfl
@[go_sem] theorem g_slices_partitionCmpFunc_int_16_2 : gAt l_slices_partitionCmpFunc_int_16 2 = ⟨(some 74), .mv (.t 0), none⟩ := idE rfl
@[go_sem] theorem g_slices_partitionCmpFunc_int_16_3 : gAt l_slices_partitionCmpFunc_int_16 3 = ⟨(some 75), .mv (.t 1), none⟩ := idE rfl
@[go_sem] theorem g_slices_partitionCmpFunc_int_16_4 : gAt l_slices_partitionCmpFunc_int_16 4 = ⟨(some 76), .mv (.t 0), none⟩ := idE rfl
@[go_sem] theorem g_slices_partitionCmpFunc_int_16_5 : gAt l_slices_partitionCmpFunc_int_16 5 = ⟨(some 77), .mv (.t 1), none⟩ := idE rfl
@[go_sem] theorem g_slices_partitionCmpFunc_int_16_6 : gAt l_slices_partitionCmpFunc_int_16 6 = ⟨(some 78), .iaddr (.t 76) (.t 77) 1, none⟩ := idE rfl
@[go_sem] theorem g_slices_partitionCmpFunc_int_16_7 : gAt l_slices_partitionCmpFunc_int_16 7 = ⟨(some 79), .load (.t 78) 1 false, none⟩ := idE rfl
@[go_sem] theorem g_slices_partitionCmpFunc_int_16_8 : gAt l_slices_partitionCmpFunc_int_16 8 = ⟨(some 80), .mv (.t 0), none⟩ := idE rfl
@[go_sem] theorem g_slices_partitionCmpFunc_int_16_9 : gAt l_slices_partitionCmpFunc_int_16 9 = ⟨(some 81), .mv (.t 13), none⟩ := idE rfl
@[go_sem] theorem g_slices_partitionCmpFunc_int_16_10 : gAt l_slices_partitionCmpFunc_int_16 10 = ⟨(some 82), .iaddr (.t 80) (.t 81) 1, none⟩ := idE rfl
@[go_sem] theorem g_slices_partitionCmpFunc_int_16_11 : gAt l_slices_partitionCmpFunc_int_16 11 = ⟨(some 83), .load (.t 82) 1 false, none⟩ := idE rfl
@[go_sem] theorem g_slices_partitionCmpFunc_int_16_12 : gAt l_slices_partitionCmpFunc_int_16 12 = ⟨(some 84), .iaddr (.t 72) (.t 73) 1, none⟩ := idE rfl
@[go_sem] theorem g_slices_partitionCmpFunc_int_16_13 : gAt l_slices_partitionCmpFunc_int_16 13 = ⟨none, .store (.t 84) 1 (.t 79), none⟩ := idE rfl
@[go_sem] theorem g_slices_partitionCmpFunc_int_16_14 : gAt l_slices_partitionCmpFunc_int_16 14 = ⟨(some 85), .iaddr (.t 74) (.t 75) 1, none⟩ := idE rfl
@[go_sem] theorem g_slices_partitionCmpFunc_int_16_15 : gAt l_slices_partitionCmpFunc_int_16 15 = ⟨none, .store (.t 85) 1 (.t 83), none⟩ := idE rfl
def slices_partitionCmpFunc_int_16 : IR := .dops l_slices_partitionCmpFunc_int_16 [(0, []), (1, []), (2, []), (3, []), (4, []), (5, []), (6, []), (7, []), (8, []), (9, []), (10, []), (11, []), (12, []), (13, []), (14, []), (15, [])]
@[go_sem] theorem w_slices_partitionCmpFunc_int_16 : wp P slices_partitionCmpFunc_int_16 Q e H = wpD P l_slices_partitionCmpFunc_int_16 [(0, []), (1, []), (2, []), (3, []), (4, []), (5, []), (6, []), (7, []), (8, []), (9, []), (10, []), (11, []), (12, []), (13, []), (14, []), (15, [])] (Q .normal) e H := idE rfl
@[go_sem] def l_slices_partitionCmpFunc_int_17 : List GOp := [⟨(some 86), .mv (.t 13), none⟩,
    ⟨(some 10), .mv (.t 86), none⟩,
    ⟨(some 11), .mv (.c (.bool true)), none⟩]
def slices_partitionCmpFunc_int_17 : IR := .ops l_slices_partitionCmpFunc_int_17
@[go_sem] theorem w_slices_partitionCmpFunc_int_17 : wp P slices_partitionCmpFunc_int_17 Q e H = wpL P l_slices_partitionCmpFunc_int_17 (Q .normal) e H := idE rfl
def slices_partitionCmpFunc_int_18 : IR := .cond (.t 71) (.seq slices_partitionCmpFunc_int_16 (.seq slices_partitionCmpFunc_int_17 .ret)) .skip
@[go_sem] theorem w_slices_partitionCmpFunc_int_18 : wp P slices_partitionCmpFunc_int_18 Q e H = condW P ((.t 71) : X) (.seq slices_partitionCmpFunc_int_16 (.seq slices_partitionCmpFunc_int_17 .ret)) .skip Q e H := idE rfl
def l_slices_partitionCmpFunc_int_19 : List GOp := [⟨(some 87), .mv (.t 0), none⟩,
    ⟨(some 88), .mv (.t 12), none⟩,
    ⟨(some 89), .mv (.t 0), none⟩,
    ⟨(some 90), .mv (.t 13), none⟩,
    ⟨(some 91), .mv (.t 0), none⟩,
    ⟨(some 92), .mv (.t 13), none⟩,
    ⟨(some 93), .iaddr (.t 91) (.t 92) 1, none⟩,
    ⟨(some 94), .load (.t 93) 1 false, none⟩,
    ⟨(some 95), .mv (.t 0), none⟩,
    ⟨(some 96), .mv (.t 12), none⟩,
    ⟨(some 97), .iaddr (.t 95) (.t 96) 1, none⟩,
    ⟨(some 98), .load (.t 97) 1 false, none⟩,
    ⟨(some 99), .iaddr (.t 87) (.t 88) 1, none⟩,
    ⟨none, .store (.t 99) 1 (.t 94), none⟩,
    ⟨(some 100), .iaddr (.t 89) (.t 90) 1, none⟩,
    ⟨none, .store (.t 100) 1 (.t 98), none⟩]
@[go_sem] theorem g_slices_partitionCmpFunc_int_19_0 : gAt l_slices_partitionCmpFunc_int_19 0 = ⟨(some 87), .mv (.t 0), none⟩ := idE rfl
@[go_sem] theorem g_slices_partitionCmpFunc_int_19_1 : gAt l_slices_partitionCmpFunc_int_19 1 = ⟨(some 88), .mv (.t 12), none⟩ := idE rfl
@[go_sem] theorem g_slices_partitionCmpFunc_int_19_2 : gAt l_slices_partitionCmpFunc_int_19 2 = ⟨(some 89), .mv (.t 0), none⟩ := idE rfl
@[go_sem] theorem g_slices_partitionCmpFunc_int_19_3 : gAt l_slices_partitionCmpFunc_int_19 3 = ⟨(some 90), .mv (.t 13), none⟩ := idE rfl
@[go_sem] theorem g_slices_partitionCmpFunc_int_19_4 : gAt l_slices_partitionCmpFunc_int_19 4 = ⟨(some 91), .mv (.t 0), none⟩ := idE rfl
@[go_sem] theorem g_slices_partitionCmpFunc_int_19_5 : gAt l_slices_partitionCmpFunc_int_19 5 = ⟨(some 92), .mv (.t 13), none⟩ := idE rfl
@[go_sem] theorem g_slices_partitionCmpFunc_int_19_6 : gAt l_slices_partitionCmpFunc_int_19 6 = ⟨(some 93), .iaddr (.t 91) (.t 92) 1, none⟩ := idE rfl
@[go_sem] theorem g_slices_partitionCmpFunc_int_19_7 : gAt l_slices_partitionCmpFunc_int_19 7 = ⟨(some 94), .load (.t 93) 1 false, none⟩ := idE rfl
@[go_sem] theorem g_slices_partitionCmpFunc_int_19_8 : gAt l_slices_partitionCmpFunc_int_19 8 = ⟨(some 95), .mv (.t 0), none⟩ := idE rfl
@[go_sem] theorem g_slices_partitionCmpFunc_int_19_9 : gAt l_slices_partitionCmpFunc_int_19 9 = ⟨(some 96), .mv (.t 12), none⟩ := idE rfl
@[go_sem] theorem g_slices_partitionCmpFunc_int_19_10 : gAt l_slices_partitionCmpFunc_int_19 10 = ⟨(some 97), .iaddr (.t 95) (.t 96) 1, none⟩ := idE rfl
@[go_sem] theorem g_slices_partitionCmpFunc_int_19_11 : gAt l_slices_partitionCmpFunc_int_19 11 = ⟨(some 98), .load (.t 97) 1 false, none⟩ := idE rfl
@[go_sem] theorem g_slices_partitionCmpFunc_int_19_12 : gAt l_slices_partitionCmpFunc_int_19 12 = ⟨(some 99), .iaddr (.t 87) (.t 88) 1, none⟩ := idE rfl
@[go_sem] theorem g_slices_partitionCmpFunc_int_19_13 : gAt l_slices_partitionCmpFunc_int_19 13 = ⟨none, .store (.t 99) 1 (.t 94), none⟩ := idE rfl
@[go_sem] theorem g_slices_partitionCmpFunc_int_19_14 : gAt l_slices_partitionCmpFunc_int_19 14 = ⟨(some 100), .iaddr (.t 89) (.t 90) 1, none⟩ := idE rfl
@[go_sem] theorem g_slices_partitionCmpFunc_int_19_15 : gAt l_slices_partitionCmpFunc_int_19 15 = ⟨none, .store (.t 100) 1 (.t 98), none⟩ := idE rfl
def slices_partitionCmpFunc_int_19 : IR := .dops l_slices_partitionCmpFunc_int_19 [(0, []), (1, []), (2, []), (3, []), (4, []), (5, []), (6, []), (7, []), (8, []), (9, []), (10, []), (11, []), (12, []), (13, []), (14, []), (15, [])]
@[go_sem] theorem w_slices_partitionCmpFunc_int_19 : wp P slices_partitionCmpFunc_int_19 Q e H = wpD P l_slices_partitionCmpFunc_int_19 [(0, []), (1, []), (2, []), (3, []), (4, []), (5, []), (6, []), (7, []), (8, []), (9, []), (10, []), (11, []), (12, []), (13, []), (14, []), (15, [])] (Q .normal) e H := idE rfl
@[go_sem] def l_slices_partitionCmpFunc_int_20 : List GOp := [⟨(some 101), .mv (.t 12), none⟩,
    ⟨(some 102), .bin .add (.t 101) (.c (.int .i64 1)), none⟩,
    ⟨(some 12), .mv (.t 102), none⟩]
def slices_partitionCmpFunc_int_20 : IR := .ops l_slices_partitionCmpFunc_int_20
@[go_sem] theorem w_slices_partitionCmpFunc_int_20 : wp P slices_partitionCmpFunc_int_20 Q e H = wpL P l_slices_partitionCmpFunc_int_20 (Q .normal) e H := idE rfl
@[go_sem] def l_slices_partitionCmpFunc_int_21 : List GOp := [⟨(some 103), .mv (.t 13), none⟩,
    ⟨(some 104), .bin .sub (.t 103) (.c (.int .i64 1)), none⟩,
    ⟨(some 13), .mv (.t 104), none⟩]
def slices_partitionCmpFunc_int_21 : IR := .ops l_slices_partitionCmpFunc_int_21
@[go_sem] theorem w_slices_partitionCmpFunc_int_21 : wp P slices_partitionCmpFunc_int_21 Q e H = wpL P l_slices_partitionCmpFunc_int_21 (Q .normal) e H := idE rfl
def l_slices_partitionCmpFunc_int_22 : List GOp := [⟨(some 105), .mv (.t 12), none⟩,
    ⟨(some 106), .mv (.t 13), none⟩,
    ⟨(some 107), .bin .leq (.t 105) (.t 106), none⟩,
    ⟨(some 108), .mv (.t 107), none⟩,
    ⟨(some 109), .mv (.t 4), (some (108, true))⟩,
    ⟨(some 110), .mv (.t 0), (some (108, true))⟩,
    ⟨(some 111), .mv (.t 12), (some (108, true))⟩,
    ⟨(some 112), .iaddr (.t 110) (.t 111) 1, (some (108, true))⟩,
    ⟨(some 113), .load (.t 112) 1 false, (some (108, true))⟩,
    ⟨(some 114), .mv (.t 0), (some (108, true))⟩,
    ⟨(some 115), .mv (.t 1), (some (108, true))⟩,
    ⟨(some 116), .iaddr (.t 114) (.t 115) 1, (some (108, true))⟩,
    ⟨(some 117), .load (.t 116) 1 false, (some (108, true))⟩,
    ⟨(some 118), .callv (.t 109) [(.t 113), (.t 117)], (some (108, true))⟩,
    ⟨(some 119), .bin .lss (.t 118) (.c (.int .i64 0)), (some (108, true))⟩,
    ⟨(some 120), .pick (.t 108) (.t 119) (.c (.bool false)), none⟩]
@[go_sem] theorem g_slices_partitionCmpFunc_int_22_0 : gAt l_slices_partitionCmpFunc_int_22 0 = ⟨(some 105), .mv (.t 12), none⟩ := idE rfl
@[go_sem] theorem g_slices_partitionCmpFunc_int_22_1 : gAt l_slices_partitionCmpFunc_int_22 1 = ⟨(some 106), .mv (.t 13), none⟩ := idE rfl
@[go_sem] theorem g_slices_partitionCmpFunc_int_22_2 : gAt l_slices_partitionCmpFunc_int_22 2 = ⟨(some 107), .bin .leq (.t 105) (.t 106), none⟩ := idE rfl
@[go_sem] theorem g_slices_partitionCmpFunc_int_22_3 : gAt l_slices_partitionCmpFunc_int_22 3 = ⟨(some 108), .mv (.t 107), none⟩ := idE rfl
@[go_sem] theorem g_slices_partitionCmpFunc_int_22_4 : gAt l_slices_partitionCmpFunc_int_22 4 = ⟨(some 109), .mv (.t 4), (some (108, true))⟩ := idE rfl
@[go_sem] theorem g_slices_partitionCmpFunc_int_22_5 : gAt l_slices_partitionCmpFunc_int_22 5 = ⟨(some 110), .mv (.t 0), (some (108, true))⟩ := idE rfl
@[go_sem] theorem g_slices_partitionCmpFunc_int_22_6 : gAt l_slices_partitionCmpFunc_int_22 6 = ⟨(some 111), .mv (.t 12), (some (108, true))⟩ := idE rfl
@[go_sem] theorem g_slices_partitionCmpFunc_int_22_7 : gAt l_slices_partitionCmpFunc_int_22 7 = ⟨(some 112), .iaddr (.t 110) (.t 111) 1, (some (108, true))⟩ := idE rfl
@[go_sem] theorem g_slices_partitionCmpFunc_int_22_8 : gAt l_slices_partitionCmpFunc_int_22 8 = ⟨(some 113), .load (.t 112) 1 false, (some (108, true))⟩ := idE rfl
@[go_sem] theorem g_slices_partitionCmpFunc_int_22_9 : gAt l_slices_partitionCmpFunc_int_22 9 = ⟨(some 114), .mv (.t 0), (some (108, true))⟩ := idE rfl
@[go_sem] theorem g_slices_partitionCmpFunc_int_22_10 : gAt l_slices_partitionCmpFunc_int_22 10 = ⟨(some 115), .mv (.t 1), (some (108, true))⟩ := idE rfl
@[go_sem] theorem g_slices_partitionCmpFunc_int_22_11 : gAt l_slices_partitionCmpFunc_int_22 11 = ⟨(some 116), .iaddr (.t 114) (.t 115) 1, (some (108, true))⟩ := idE rfl
@[go_sem] theorem g_slices_partitionCmpFunc_int_22_12 : gAt l_slices_partitionCmpFunc_int_22 12 = ⟨(some 117), .load (.t 116) 1 false, (some (108, true))⟩ := idE rfl
@[go_sem] theorem g_slices_partitionCmpFunc_int_22_13 : gAt l_slices_partitionCmpFunc_int_22 13 = ⟨(some 118), .callv (.t 109) [(.t 113), (.t 117)], (some (108, true))⟩ := idE rfl
@[go_sem] theorem g_slices_partitionCmpFunc_int_22_14 : gAt l_slices_partitionCmpFunc_int_22 14 = ⟨(some 119), .bin .lss (.t 118) (.c (.int .i64 0)), (some (108, true))⟩ := idE rfl
@[go_sem] theorem g_slices_partitionCmpFunc_int_22_15 : gAt l_slices_partitionCmpFunc_int_22 15 = ⟨(some 120), .pick (.t 108) (.t 119) (.c (.bool false)), none⟩ := idE rfl
def slices_partitionCmpFunc_int_22 : IR := .dops l_slices_partitionCmpFunc_int_22 [(0, []), (1, []), (2, []), (3, []), (4, []), (5, []), (6, []), (7, []), (8, []), (9, []), (10, []), (11, []), (12, []), (13, []), (14, []), (15, [])]
@[go_sem] theorem w_slices_partitionCmpFunc_int_22 : wp P slices_partitionCmpFunc_int_22 Q e H = wpD P l_slices_partitionCmpFunc_int_22 [(0, []), (1, []), (2, []), (3, []), (4, []), (5, []), (6, []), (7, []), (8, []), (9, []), (10, []), (11, []), (12, []), (13, []), (14, []), (15, [])] (Q .normal) e H := idE rfl
def slices_partitionCmpFunc_int_23 : IR := .cond (.t 120) .skip (.exit 6)
@[go_sem] theorem w_slices_partitionCmpFunc_int_23 : wp P slices_partitionCmpFunc_int_23 Q e H = condW P ((.t 120) : X) .skip (.exit 6) Q e H := idE rfl
@[go_sem] def l_slices_partitionCmpFunc_int_24 : List GOp := [⟨(some 121), .mv (.t 12), none⟩,
    ⟨(some 122), .bin .add (.t 121) (.c (.int .i64 1)), none⟩,
    ⟨(some 12), .mv (.t 122), none⟩]
def slices_partitionCmpFunc_int_24 : IR := .ops l_slices_partitionCmpFunc_int_24
@[go_sem] theorem w_slices_partitionCmpFunc_int_24 : wp P slices_partitionCmpFunc_int_24 Q e H = wpL P l_slices_partitionCmpFunc_int_24 (Q .normal) e H := idE rfl
def slices_partitionCmpFunc_int_25 : IR := .block 7 slices_partitionCmpFunc_int_24
@[go_sem] theorem w_slices_partitionCmpFunc_int_25 : wp P slices_partitionCmpFunc_int_25 Q e H = wp P slices_partitionCmpFunc_int_24 (blockQ 7 Q) e H := idE rfl
def slices_partitionCmpFunc_int_26 : IR := .loop (.seq (.seq slices_partitionCmpFunc_int_22 slices_partitionCmpFunc_int_23) slices_partitionCmpFunc_int_25)
def slices_partitionCmpFunc_int_27 : IR := .block 6 slices_partitionCmpFunc_int_26
@[go_sem] theorem w_slices_partitionCmpFunc_int_27 : wp P slices_partitionCmpFunc_int_27 Q e H = wp P slices_partitionCmpFunc_int_26 (blockQ 6 Q) e H := idE rfl
def l_slices_partitionCmpFunc_int_28 : List GOp := [⟨(some 123), .mv (.t 12), none⟩,
    ⟨(some 124), .mv (.t 13), none⟩,
    ⟨(some 125), .bin .leq (.t 123) (.t 124), none⟩,
    ⟨(some 126), .mv (.t 125), none⟩,
    ⟨(some 127), .mv (.t 4), (some (126, true))⟩,
    ⟨(some 128), .mv (.t 0), (some (126, true))⟩,
    ⟨(some 129), .mv (.t 13), (some (126, true))⟩,
    ⟨(some 130), .iaddr (.t 128) (.t 129) 1, (some (126, true))⟩,
    ⟨(some 131), .load (.t 130) 1 false, (some (126, true))⟩,
    ⟨(some 132), .mv (.t 0), (some (126, true))⟩,
    ⟨(some 133), .mv (.t 1), (some (126, true))⟩,
    ⟨(some 134), .iaddr (.t 132) (.t 133) 1, (some (126, true))⟩,
    ⟨(some 135), .load (.t 134) 1 false, (some (126, true))⟩,
    ⟨(some 136), .callv (.t 127) [(.t 131), (.t 135)], (some (126, true))⟩,
    ⟨(some 137), .bin .lss (.t 136) (.c (.int .i64 0)), (some (126, true))⟩,
    ⟨(some 138), .un .not (.t 137), (some (126, true))⟩,
    ⟨(some 139), .pick (.t 126) (.t 138) (.c (.bool false)), none⟩]
@[go_sem] theorem g_slices_partitionCmpFunc_int_28_0 : gAt l_slices_partitionCmpFunc_int_28 0 = ⟨(some 123), .mv (.t 12), none⟩ := idE rfl
@[go_sem] theorem g_slices_partitionCmpFunc_int_28_1 : gAt l_slices_partitionCmpFunc_int_28 1 = ⟨(some 124), .mv (.t 13), none⟩ := idE rfl
@[go_sem] theorem g_slices_partitionCmpFunc_int_28_2 : gAt l_slices_partitionCmpFunc_int_28 2 = ⟨(some 125), .bin .leq (.t 123) (.t 124), none⟩ := idE rfl
@[go_sem] theorem g_slices_partitionCmpFunc_int_28_3 : gAt l_slices_partitionCmpFunc_int_28 3 = ⟨(some 126), .mv (.t 125), none⟩ := idE rfl
@[go_sem] theorem g_slices_partitionCmpFunc_int_28_4 : gAt l_slices_partitionCmpFunc_int_28 4 = ⟨(some 127), .mv (.t 4), (some (126, true))⟩ := idE rfl
@[go_sem] theorem g_slices_partitionCmpFunc_int_28_5 : gAt l_slices_partitionCmpFunc_int_28 5 = ⟨(some 128), .mv (.t 0), (some (126, true))⟩ := idE rfl
@[go_sem] theorem g_slices_partitionCmpFunc_int_28_6 : gAt l_slices_partitionCmpFunc_int_28 6 = ⟨(some 129), .mv (.t 13), (some (126, true))⟩ := idE rfl
@[go_sem] theorem g_slices_partitionCmpFunc_int_28_7 : gAt l_slices_partitionCmpFunc_int_28 7 = ⟨(some 130), .iaddr (.t 128) (.t 129) 1, (some (126, true))⟩ := idE rfl
@[go_sem] theorem g_slices_partitionCmpFunc_int_28_8 : gAt l_slices_partitionCmpFunc_int_28 8 = ⟨(some 131), .load (.t 130) 1 false, (some (126, true))⟩ := idE rfl
@[go_sem] theorem g_slices_partitionCmpFunc_int_28_9 : gAt l_slices_partitionCmpFunc_int_28 9 = ⟨(some 132), .mv (.t 0), (some (126, true))⟩ := idE rfl
@[go_sem] theorem g_slices_partitionCmpFunc_int_28_10 : gAt l_slices_partitionCmpFunc_int_28 10 = ⟨(some 133), .mv (.t 1), (some (126, true))⟩ := idE rfl
@[go_sem] theorem g_slices_partitionCmpFunc_int_28_11 : gAt l_slices_partitionCmpFunc_int_28 11 = ⟨(some 134), .iaddr (.t 132) (.t 133) 1, (some (126, true))⟩ := idE rfl
@[go_sem] theorem g_slices_partitionCmpFunc_int_28_12 : gAt l_slices_partitionCmpFunc_int_28 12 = ⟨(some 135), .load (.t 134) 1 false, (some (126, true))⟩ := idE rfl
@[go_sem] theorem g_slices_partitionCmpFunc_int_28_13 : gAt l_slices_partitionCmpFunc_int_28 13 = ⟨(some 136), .callv (.t 127) [(.t 131), (.t 135)], (some (126, true))⟩ := idE rfl
@[go_sem] theorem g_slices_partitionCmpFunc_int_28_14 : gAt l_slices_partitionCmpFunc_int_28 14 = ⟨(some 137), .bin .lss (.t 136) (.c (.int .i64 0)), (some (126, true))⟩ := idE rfl
@[go_sem] theorem g_slices_partitionCmpFunc_int_28_15 : gAt l_slices_partitionCmpFunc_int_28 15 = ⟨(some 138), .un .not (.t 137), (some (126, true))⟩ := idE rfl
@[go_sem] theorem g_slices_partitionCmpFunc_int_28_16 : gAt l_slices_partitionCmpFunc_int_28 16 = ⟨(some 139), .pick (.t 126) (.t 138) (.c (.bool false)), none⟩ := idE rfl
def slices_partitionCmpFunc_int_28 : IR := .dops l_slices_partitionCmpFunc_int_28 [(0, []), (1, []), (2, []), (3, []), (4, []), (5, []), (6, []), (7, []), (8, []), (9, []), (10, []), (11, []), (12, []), (13, []), (14, []), (15, []), (16, [])]
@[go_sem] theorem w_slices_partitionCmpFunc_int_28 : wp P slices_partitionCmpFunc_int_28 Q e H = wpD P l_slices_partitionCmpFunc_int_28 [(0, []), (1, []), (2, []), (3, []), (4, []), (5, []), (6, []), (7, []), (8, []), (9, []), (10, []), (11, []), (12, []), (13, []), (14, []), (15, []), (16, [])] (Q .normal) e H := idE rfl
def slices_partitionCmpFunc_int_29 : IR := .cond (.t 139) .skip (.exit 8)
@[go_sem] theorem w_slices_partitionCmpFunc_int_29 : wp P slices_partitionCmpFunc_int_29 Q e H = condW P ((.t 139) : X) .skip (.exit 8) Q e H := idE rfl
@[go_sem] def l_slices_partitionCmpFunc_int_30 : List GOp := [⟨(some 140), .mv (.t 13), none⟩,
    ⟨(some 141), .bin .sub (.t 140) (.c (.int .i64 1)), none⟩,
    ⟨(some 13), .mv (.t 141), none⟩]
def slices_partitionCmpFunc_int_30 : IR := .ops l_slices_partitionCmpFunc_int_30
@[go_sem] theorem w_slices_partitionCmpFunc_int_30 : wp P slices_partitionCmpFunc_int_30 Q e H = wpL P l_slices_partitionCmpFunc_int_30 (Q .normal) e H := idE rfl
def slices_partitionCmpFunc_int_31 : IR := .block 9 slices_partitionCmpFunc_int_30
@[go_sem] theorem w_slices_partitionCmpFunc_int_31 : wp P slices_partitionCmpFunc_int_31 Q e H = wp P slices_partitionCmpFunc_int_30 (blockQ 9 Q) e H := idE rfl
def slices_partitionCmpFunc_int_32 : IR := .loop (.seq (.seq slices_partitionCmpFunc_int_28 slices_partitionCmpFunc_int_29) slices_partitionCmpFunc_int_31)
def slices_partitionCmpFunc_int_33 : IR := .block 8 slices_partitionCmpFunc_int_32
@[go_sem] theorem w_slices_partitionCmpFunc_int_33 : wp P slices_partitionCmpFunc_int_33 Q e H = wp P slices_partitionCmpFunc_int_32 (blockQ 8 Q) e H := idE rfl
@[go_sem] def l_slices_partitionCmpFunc_int_34 : List GOp := [⟨(some 142), .mv (.t 12), none⟩,
    ⟨(some 143), .mv (.t 13), none⟩,
    ⟨(some 144), .bin .gtr (.t 142) (.t 143), none⟩]
def slices_partitionCmpFunc_int_34 : IR := .ops l_slices_partitionCmpFunc_int_34
@[go_sem] theorem w_slices_partitionCmpFunc_int_34 : wp P slices_partitionCmpFunc_int_34 Q e H = wpL P l_slices_partitionCmpFunc_int_34 (Q .normal) e H := idE rfl
def slices_partitionCmpFunc_int_35 : IR := .cond (.t 144) (.exit 4) .skip
@[go_sem] theorem w_slices_partitionCmpFunc_int_35 : wp P slices_partitionCmpFunc_int_35 Q e H = condW P ((.t 144) : X) (.exit 4) .skip Q e H := idE rfl
def l_slices_partitionCmpFunc_int_36 : List GOp := [⟨(some 145), .mv (.t 0), none⟩,
    ⟨(some 146), .mv (.t 12), none⟩,
    ⟨(some 147), .mv (.t 0), none⟩,
    ⟨(some 148), .mv (.t 13), none⟩,
    ⟨(some 149), .mv (.t 0), none⟩,
    ⟨(some 150), .mv (.t 13), none⟩,
    ⟨(some 151), .iaddr (.t 149) (.t 150) 1, none⟩,
    ⟨(some 152), .load (.t 151) 1 false, none⟩,
    ⟨(some 153), .mv (.t 0), none⟩,
    ⟨(some 154), .mv (.t 12), none⟩,
    ⟨(some 155), .iaddr (.t 153) (.t 154) 1, none⟩,
    ⟨(some 156), .load (.t 155) 1 false, none⟩,
    ⟨(some 157), .iaddr (.t 145) (.t 146) 1, none⟩,
    ⟨none, .store (.t 157) 1 (.t 152), none⟩,
    ⟨(some 158), .iaddr (.t 147) (.t 148) 1, none⟩,
    ⟨none, .store (.t 158) 1 (.t 156), none⟩]
@[go_sem] theorem g_slices_partitionCmpFunc_int_36_0 : gAt l_slices_partitionCmpFunc_int_36 0 = ⟨(some 145), .mv (.t 0), none⟩ := idE rfl
@[go_sem] theorem g_slices_partitionCmpFunc_int_36_1 : gAt l_slices_partitionCmpFunc_int_36 1 = ⟨(some 146), .mv (.t 12), none⟩ := idE rfl
@[go_sem] theorem g_slices_partitionCmpFunc_int_36_2 : gAt l_slices_partitionCmpFunc_int_36 2 = ⟨(some 147), .mv (.t 0), none⟩ := idE rfl
@[go_sem] theorem g_slices_partitionCmpFunc_int_36_3 : gAt l_slices_partitionCmpFunc_int_36 3 = ⟨(some 148), .mv (.t 13), none⟩ := idE rfl
@[go_sem] theorem g_slices_partitionCmpFunc_int_36_4 : gAt l_slices_partitionCmpFunc_int_36 4 = ⟨(some 149), .mv (.t 0), none⟩ := idE rfl
@[go_sem] theorem g_slices_partitionCmpFunc_int_36_5 : gAt l_slices_partitionCmpFunc_int_36 5 = ⟨(some 150), .mv (.t 13), none⟩ := idE rfl
@[go_sem] theorem g_slices_partitionCmpFunc_int_36_6 : gAt l_slices_partitionCmpFunc_int_36 6 = ⟨(some 151), .iaddr (.t 149) (.t 150) 1, none⟩ := idE rfl
@[go_sem] theorem g_slices_partitionCmpFunc_int_36_7 : gAt l_slices_partitionCmpFunc_int_36 7 = ⟨(some 152), .load (.t 151) 1 false, none⟩ := idE rfl
@[go_sem] theorem g_slices_partitionCmpFunc_int_36_8 : gAt l_slices_partitionCmpFunc_int_36 8 = ⟨(some 153), .mv (.t 0), none⟩ := idE rfl
@[go_sem] theorem g_slices_partitionCmpFunc_int_36_9 : gAt l_slices_partitionCmpFunc_int_36 9 = ⟨(some 154), .mv (.t 12), none⟩ := idE rfl
@[go_sem] theorem g_slices_partitionCmpFunc_int_36_10 : gAt l_slices_partitionCmpFunc_int_36 10 = ⟨(some 155), .iaddr (.t 153) (.t 154) 1, none⟩ := idE rfl
@[go_sem] theorem g_slices_partitionCmpFunc_int_36_11 : gAt l_slices_partitionCmpFunc_int_36 11 = ⟨(some 156), .load (.t 155) 1 false, none⟩ := idE rfl
@[go_sem] theorem g_slices_partitionCmpFunc_int_36_12 : gAt l_slices_partitionCmpFunc_int_36 12 = ⟨(some 157), .iaddr (.t 145) (.t 146) 1, none⟩ := idE rfl
@[go_sem] theorem g_slices_partitionCmpFunc_int_36_13 : gAt l_slices_partitionCmpFunc_int_36 13 = ⟨none, .store (.t 157) 1 (.t 152), none⟩ := idE rfl
@[go_sem] theorem g_slices_partitionCmpFunc_int_36_14 : gAt l_slices_partitionCmpFunc_int_36 14 = ⟨(some 158), .iaddr (.t 147) (.t 148) 1, none⟩ := idE rfl
@[go_sem] theorem g_slices_partitionCmpFunc_int_36_15 : gAt l_slices_partitionCmpFunc_int_36 15 = ⟨none, .store (.t 158) 1 (.t 156), none⟩ := idE rfl
def slices_partitionCmpFunc_int_36 : IR := .dops l_slices_partitionCmpFunc_int_36 [(0, []), (1, []), (2, []), (3, []), (4, []), (5, []), (6, []), (7, []), (8, []), (9, []), (10, []), (11, []), (12, []), (13, []), (14, []), (15, [])]
@[go_sem] theorem w_slices_partitionCmpFunc_int_36 : wp P slices_partitionCmpFunc_int_36 Q e H = wpD P l_slices_partitionCmpFunc_int_36 [(0, []), (1, []), (2, []), (3, []), (4, []), (5, []), (6, []), (7, []), (8, []), (9, []), (10, []), (11, []), (12, []), (13, []), (14, []), (15, [])] (Q .normal) e H := idE rfl
@[go_sem] def l_slices_partitionCmpFunc_int_37 : List GOp := [⟨(some 159), .mv (.t 12), none⟩,
    ⟨(some 160), .bin .add (.t 159) (.c (.int .i64 1)), none⟩,
    ⟨(some 12), .mv (.t 160), none⟩]
def slices_partitionCmpFunc_int_37 : IR := .ops l_slices_partitionCmpFunc_int_37
@[go_sem] theorem w_slices_partitionCmpFunc_int_37 : wp P slices_partitionCmpFunc_int_37 Q e H = wpL P l_slices_partitionCmpFunc_int_37 (Q .normal) e H := idE rfl
@[go_sem] def l_slices_partitionCmpFunc_int_38 : List GOp := [⟨(some 161), .mv (.t 13), none⟩,
    ⟨(some 162), .bin .sub (.t 161) (.c (.int .i64 1)), none⟩,
    ⟨(some 13), .mv (.t 162), none⟩]
def slices_partitionCmpFunc_int_38 : IR := .ops l_slices_partitionCmpFunc_int_38
@[go_sem] theorem w_slices_partitionCmpFunc_int_38 : wp P slices_partitionCmpFunc_int_38 Q e H = wpL P l_slices_partitionCmpFunc_int_38 (Q .normal) e H := idE rfl
def slices_partitionCmpFunc_int_39 : IR := .block 5 (.seq slices_partitionCmpFunc_int_27 (.seq slices_partitionCmpFunc_int_33 (.seq (.seq slices_partitionCmpFunc_int_34 slices_partitionCmpFunc_int_35) (.seq slices_partitionCmpFunc_int_36 (.seq slices_partitionCmpFunc_int_37 slices_partitionCmpFunc_int_38)))))
@[go_sem] theorem w_slices_partitionCmpFunc_int_39 : wp P slices_partitionCmpFunc_int_39 Q e H = wp P (.seq slices_partitionCmpFunc_int_27 (.seq slices_partitionCmpFunc_int_33 (.seq (.seq slices_partitionCmpFunc_int_34 slices_partitionCmpFunc_int_35) (.seq slices_partitionCmpFunc_int_36 (.seq slices_partitionCmpFunc_int_37 slices_partitionCmpFunc_int_38))))) (blockQ 5 Q) e H := idE rfl
def slices_partitionCmpFunc_int_40 : IR := .loop slices_partitionCmpFunc_int_39
def slices_partitionCmpFunc_int_41 : IR := .block 4 slices_partitionCmpFunc_int_40
@[go_sem] theorem w_slices_partitionCmpFunc_int_41 : wp P slices_partitionCmpFunc_int_41 Q e H = wp P slices_partitionCmpFunc_int_40 (blockQ 4 Q) e H := idE rfl
def l_slices_partitionCmpFunc_int_42 : List GOp := [⟨(some 163), .mv (.t 0), none⟩,
    ⟨(some 164), .mv (.t 13), none⟩,
    ⟨(some 165), .mv (.t 0), none⟩,
    ⟨(some 166), .mv (.t 1), none⟩,
    ⟨(some 167), .mv (.t 0), none⟩,
    ⟨(some 168), .mv (.t 1), none⟩,
    ⟨(some 169), .iaddr (.t 167) (.t 168) 1, none⟩,
    ⟨(some 170), .load (.t 169) 1 false, none⟩,
    ⟨(some 171), .mv (.t 0), none⟩,
    ⟨(some 172), .mv (.t 13), none⟩,
    ⟨(some 173), .iaddr (.t 171) (.t 172) 1, none⟩,
    ⟨(some 174), .load (.t 173) 1 false, none⟩,
    ⟨(some 175), .iaddr (.t 163) (.t 164) 1, none⟩,
    ⟨none, .store (.t 175) 1 (.t 170), none⟩,
    ⟨(some 176), .iaddr (.t 165) (.t 166) 1, none⟩,
    ⟨none, .store (.t 176) 1 (.t 174), none⟩]
@[go_sem] theorem g_slices_partitionCmpFunc_int_42_0 : gAt l_slices_partitionCmpFunc_int_42 0 = ⟨(some 163), .mv (.t 0), none⟩ := idE rfl
@[go_sem] theorem g_slices_partitionCmpFunc_int_42_1 : gAt l_slices_partitionCmpFunc_int_42 1 = ⟨(some 164), .mv (.t 13), none⟩ := idE rfl
@[go_sem] theorem g_slices_partitionCmpFunc_int_42_2 : gAt l_slices_partitionCmpFunc_int_42 2 = ⟨(some 165), .mv (.t 0), none⟩ := idE rfl
@[go_sem] theorem g_slices_partitionCmpFunc_int_42_3 : gAt l_slices_partitionCmpFunc_int_42 3 = ⟨(some 166), .mv (.t 1), none⟩ := idE rfl
@[go_sem] theorem g_slices_partitionCmpFunc_int_42_4 : gAt l_slices_partitionCmpFunc_int_42 4 = ⟨(some 167), .mv (.t 0), none⟩ := idE rfl
@[go_sem] theorem g_slices_partitionCmpFunc_int_42_5 : gAt l_slices_partitionCmpFunc_int_42 5 = ⟨(some 168), .mv (.t 1), none⟩ := idE rfl
@[go_sem] theorem g_slices_partitionCmpFunc_int_42_6 : gAt l_slices_partitionCmpFunc_int_42 6 = ⟨(some 169), .iaddr (.t 167) (.t 168) 1, none⟩ := idE rfl
@[go_sem] theorem g_slices_partitionCmpFunc_int_42_7 : gAt l_slices_partitionCmpFunc_int_42 7 = ⟨(some 170), .load (.t 169) 1 false, none⟩ := idE rfl
@[go_sem] theorem g_slices_partitionCmpFunc_int_42_8 : gAt l_slices_partitionCmpFunc_int_42 8 = ⟨(some 171), .mv (.t 0), none⟩ := idE rfl
@[go_sem] theorem g_slices_partitionCmpFunc_int_42_9 : gAt l_slices_partitionCmpFunc_int_42 9 = ⟨(some 172), .mv (.t 13), none⟩ := idE rfl
@[go_sem] theorem g_slices_partitionCmpFunc_int_42_10 : gAt l_slices_partitionCmpFunc_int_42 10 = ⟨(some 173), .iaddr (.t 171) (.t 172) 1, none⟩ := idE rfl
@[go_sem] theorem g_slices_partitionCmpFunc_int_42_11 : gAt l_slices_partitionCmpFunc_int_42 11 = ⟨(some 174), .load (.t 173) 1 false, none⟩ := idE rfl
@[go_sem] theorem g_slices_partitionCmpFunc_int_42_12 : gAt l_slices_partitionCmpFunc_int_42 12 = ⟨(some 175), .iaddr (.t 163) (.t 164) 1, none⟩ := idE rfl
@[go_sem] theorem g_slices_partitionCmpFunc_int_42_13 : gAt l_slices_partitionCmpFunc_int_42 13 = ⟨none, .store (.t 175) 1 (.t 170), none⟩ := idE rfl
@[go_sem] theorem g_slices_partitionCmpFunc_int_42_14 : gAt l_slices_partitionCmpFunc_int_42 14 = ⟨(some 176), .iaddr (.t 165) (.t 166) 1, none⟩ := idE rfl
@[go_sem] theorem g_slices_partitionCmpFunc_int_42_15 : gAt l_slices_partitionCmpFunc_int_42 15 = ⟨none, .store (.t 176) 1 (.t 174), none⟩ := idE rfl
def slices_partitionCmpFunc_int_42 : IR := .dops l_slices_partitionCmpFunc_int_42 [(0, []), (1, []), (2, []), (3, []), (4, []), (5, []), (6, []), (7, []), (8, []), (9, []), (10, []), (11, []), (12, []), (13, []), (14, []), (15, [])]
@[go_sem] theorem w_slices_partitionCmpFunc_int_42 : wp P slices_partitionCmpFunc_int_42 Q e H = wpD P l_slices_partitionCmpFunc_int_42 [(0, []), (1, []), (2, []), (3, []), (4, []), (5, []), (6, []), (7, []), (8, []), (9, []), (10, []), (11, []), (12, []), (13, []), (14, []), (15, [])] (Q .normal) e H := idE rfl
@[go_sem] def l_slices_partitionCmpFunc_int_43 : List GOp := [⟨(some 177), .mv (.t 13), none⟩,
    ⟨(some 10), .mv (.t 177), none⟩,
    ⟨(some 11), .mv (.c (.bool false)), none⟩]
def slices_partitionCmpFunc_int_43 : IR := .ops l_slices_partitionCmpFunc_int_43
@[go_sem] theorem w_slices_partitionCmpFunc_int_43 : wp P slices_partitionCmpFunc_int_43 Q e H = wpL P l_slices_partitionCmpFunc_int_43 (Q .normal) e H := idE rfl
@[go_sem] def l_slices_pdqsortCmpFunc_int_0 : List GOp := [⟨(some 10), .mv (.c (.bool true)), none⟩]
def slices_pdqsortCmpFunc_int_0 : IR := .ops l_slices_pdqsortCmpFunc_int_0
@[go_sem] theorem w_slices_pdqsortCmpFunc_int_0 : wp P slices_pdqsortCmpFunc_int_0 Q e H = wpL P l_slices_pdqsortCmpFunc_int_0 (Q .normal) e H := idE rfl
@[go_sem] def l_slices_pdqsortCmpFunc_int_1 : List GOp := [⟨(some 11), .mv (.c (.bool true)), none⟩]
def slices_pdqsortCmpFunc_int_1 : IR := .ops l_slices_pdqsortCmpFunc_int_1
@[go_sem] theorem w_slices_pdqsortCmpFunc_int_1 : wp P slices_pdqsortCmpFunc_int_1 Q e H = wpL P l_slices_pdqsortCmpFunc_int_1 (Q .normal) e H := idE rfl
@[go_sem] def l_slices_pdqsortCmpFunc_int_2 : List GOp := [⟨(some 21), .mv (.t 2), none⟩,
    ⟨(some 22), .mv (.t 1), none⟩,
    ⟨(some 23), .bin .sub (.t 21) (.t 22), none⟩,
    ⟨(some 12), .mv (.t 23), none⟩]
def slices_pdqsortCmpFunc_int_2 : IR := .ops l_slices_pdqsortCmpFunc_int_2
@[go_sem] theorem w_slices_pdqsortCmpFunc_int_2 : wp P slices_pdqsortCmpFunc_int_2 Q e H = wpL P l_slices_pdqsortCmpFunc_int_2 (Q .normal) e H := idE rfl
@[go_sem] def l_slices_pdqsortCmpFunc_int_3 : List GOp := [⟨(some 24), .mv (.t 12), none⟩,
    ⟨(some 25), .bin .leq (.t 24) (.c (.int .i64 12)), none⟩]
def slices_pdqsortCmpFunc_int_3 : IR := .ops l_slices_pdqsortCmpFunc_int_3
@[go_sem] theorem w_slices_pdqsortCmpFunc_int_3 : wp P slices_pdqsortCmpFunc_int_3 Q e H = wpL P l_slices_pdqsortCmpFunc_int_3 (Q .normal) e H := idE rfl
@[go_sem] def l_slices_pdqsortCmpFunc_int_4 : List GOp := [⟨(some 26), .mv (.t 0), none⟩,
    ⟨(some 27), .mv (.t 1), none⟩,
    ⟨(some 28), .mv (.t 2), none⟩,
    ⟨(some 29), .mv (.t 4), none⟩,
    ⟨(some 30), .call (n_slices_insertionSortCmpFunc_int) [(.t 26), (.t 27), (.t 28), (.t 29)], none⟩]
def slices_pdqsortCmpFunc_int_4 : IR := .ops l_slices_pdqsortCmpFunc_int_4
@[go_sem] theorem w_slices_pdqsortCmpFunc_int_4 : wp P slices_pdqsortCmpFunc_int_4 Q e H = wpL P l_slices_pdqsortCmpFunc_int_4 (Q .normal) e H := idE rfl
def slices_pdqsortCmpFunc_int_5 : IR := .cond (.t 25) (.seq slices_pdqsortCmpFunc_int_4 .ret) .skip
@[go_sem] theorem w_slices_pdqsortCmpFunc_int_5 : wp P slices_pdqsortCmpFunc_int_5 Q e H = condW P ((.t 25) : X) (.seq slices_pdqsortCmpFunc_int_4 .ret) .skip Q e H := idE rfl
@[go_sem] def l_slices_pdqsortCmpFunc_int_6 : List GOp := [⟨(some 31), .mv (.t 3), none⟩,
    ⟨(some 32), .bin .eql (.t 31) (.c (.int .i64 0)), none⟩]
def slices_pdqsortCmpFunc_int_6 : IR := .ops l_slices_pdqsortCmpFunc_int_6
@[go_sem] theorem w_slices_pdqsortCmpFunc_int_6 : wp P slices_pdqsortCmpFunc_int_6 Q e H = wpL P l_slices_pdqsortCmpFunc_int_6 (Q .normal) e H := idE rfl
@[go_sem] def l_slices_pdqsortCmpFunc_int_7 : List GOp := [⟨(some 33), .mv (.t 0), none⟩,
    ⟨(some 34), .mv (.t 1), none⟩,
    ⟨(some 35), .mv (.t 2), none⟩,
    ⟨(some 36), .mv (.t 4), none⟩,
    ⟨(some 37), .call (n_slices_heapSortCmpFunc_int) [(.t 33), (.t 34), (.t 35), (.t 36)], none⟩]
def slices_pdqsortCmpFunc_int_7 : IR := .ops l_slices_pdqsortCmpFunc_int_7
@[go_sem] theorem w_slices_pdqsortCmpFunc_int_7 : wp P slices_pdqsortCmpFunc_int_7 Q e H = wpL P l_slices_pdqsortCmpFunc_int_7 (Q .normal) e H := idE rfl
def slices_pdqsortCmpFunc_int_8 : IR := .cond (.t 32) (.seq slices_pdqsortCmpFunc_int_7 .ret) .skip
@[go_sem] theorem w_slices_pdqsortCmpFunc_int_8 : wp P slices_pdqsortCmpFunc_int_8 Q e H = condW P ((.t 32) : X) (.seq slices_pdqsortCmpFunc_int_7 .ret) .skip Q e H := idE rfl
@[go_sem] def l_slices_pdqsortCmpFunc_int_9 : List GOp := [⟨(some 38), .mv (.t 10), none⟩,
    ⟨(some 39), .un .not (.t 38), none⟩]
def slices_pdqsortCmpFunc_int_9 : IR := .ops l_slices_pdqsortCmpFunc_int_9
@[go_sem] theorem w_slices_pdqsortCmpFunc_int_9 : wp P slices_pdqsortCmpFunc_int_9 Q e H = wpL P l_slices_pdqsortCmpFunc_int_9 (Q .normal) e H := idE rfl
@[go_sem] def l_slices_pdqsortCmpFunc_int_10 : List GOp := [⟨(some 40), .mv (.t 0), none⟩,
    ⟨(some 41), .mv (.t 1), none⟩,
    ⟨(some 42), .mv (.t 2), none⟩,
    ⟨(some 43), .mv (.t 4), none⟩,
    ⟨(some 44), .call (n_slices_breakPatternsCmpFunc_int) [(.t 40), (.t 41), (.t 42), (.t 43)], none⟩]
def slices_pdqsortCmpFunc_int_10 : IR := .ops l_slices_pdqsortCmpFunc_int_10
@[go_sem] theorem w_slices_pdqsortCmpFunc_int_10 : wp P slices_pdqsortCmpFunc_int_10 Q e H = wpL P l_slices_pdqsortCmpFunc_int_10 (Q .normal) e H := idE rfl
@[go_sem] def l_slices_pdqsortCmpFunc_int_11 : List GOp := [⟨(some 45), .mv (.t 3), none⟩,
    ⟨(some 46), .bin .sub (.t 45) (.c (.int .i64 1)), none⟩,
    ⟨(some 3), .mv (.t 46), none⟩]
def slices_pdqsortCmpFunc_int_11 : IR := .ops l_slices_pdqsortCmpFunc_int_11
@[go_sem] theorem w_slices_pdqsortCmpFunc_int_11 : wp P slices_pdqsortCmpFunc_int_11 Q e H = wpL P l_slices_pdqsortCmpFunc_int_11 (Q .normal) e H := idE rfl
def slices_pdqsortCmpFunc_int_12 : IR := .cond (.t 39) (.seq slices_pdqsortCmpFunc_int_10 slices_pdqsortCmpFunc_int_11) .skip
@[go_sem] theorem w_slices_pdqsortCmpFunc_int_12 : wp P slices_pdqsortCmpFunc_int_12 Q e H = condW P ((.t 39) : X) (.seq slices_pdqsortCmpFunc_int_10 slices_pdqsortCmpFunc_int_11) .skip Q e H := idE rfl
@[go_sem] def l_slices_pdqsortCmpFunc_int_13 : List GOp := [⟨(some 48), .mv (.t 0), none⟩,
    ⟨(some 49), .mv (.t 1), none⟩,
    ⟨(some 50), .mv (.t 2), none⟩,
    ⟨(some 51), .mv (.t 4), none⟩,
    ⟨(some 52), .call (n_slices_choosePivotCmpFunc_int) [(.t 48), (.t 49), (.t 50), (.t 51)], none⟩,
    ⟨(some 47), .mv (.t 52), none⟩,
    ⟨(some 53), .ext (.t 47) 0, none⟩,
    ⟨(some 54), .ext (.t 47) 1, none⟩,
    ⟨(some 13), .mv (.t 53), none⟩,
    ⟨(some 14), .mv (.t 54), none⟩]
def slices_pdqsortCmpFunc_int_13 : IR := .ops l_slices_pdqsortCmpFunc_int_13
@[go_sem] theorem w_slices_pdqsortCmpFunc_int_13 : wp P slices_pdqsortCmpFunc_int_13 Q e H = wpL P l_slices_pdqsortCmpFunc_int_13 (Q .normal) e H := idE rfl
@[go_sem] def l_slices_pdqsortCmpFunc_int_14 : List GOp := [⟨(some 55), .mv (.t 14), none⟩,
    ⟨(some 56), .bin .eql (.t 55) (.c (.int .i64 2)), none⟩]
def slices_pdqsortCmpFunc_int_14 : IR := .ops l_slices_pdqsortCmpFunc_int_14
@[go_sem] theorem w_slices_pdqsortCmpFunc_int_14 : wp P slices_pdqsortCmpFunc_int_14 Q e H = wpL P l_slices_pdqsortCmpFunc_int_14 (Q .normal) e H := idE rfl
@[go_sem] def l_slices_pdqsortCmpFunc_int_15 : List GOp := [⟨(some 57), .mv (.t 0), none⟩,
    ⟨(some 58), .mv (.t 1), none⟩,
    ⟨(some 59), .mv (.t 2), none⟩,
    ⟨(some 60), .mv (.t 4), none⟩,
    ⟨(some 61), .call (n_slices_reverseRangeCmpFunc_int) [(.t 57), (.t 58), (.t 59), (.t 60)], none⟩]
def slices_pdqsortCmpFunc_int_15 : IR := .ops l_slices_pdqsortCmpFunc_int_15
@[go_sem] theorem w_slices_pdqsortCmpFunc_int_15 : wp P slices_pdqsortCmpFunc_int_15 Q e H = wpL P l_slices_pdqsortCmpFunc_int_15 (Q .normal) e H := idE rfl
@[go_sem] def l_slices_pdqsortCmpFunc_int_16 : List GOp := [⟨(some 62), .mv (.t 2), none⟩,
    ⟨(some 63), .bin .sub (.t 62) (.c (.int .i64 1)), none⟩,
    ⟨(some 64), .mv (.t 13), none⟩,
    ⟨(some 65), .mv (.t 1), none⟩,
    ⟨(some 66), .bin .sub (.t 64) (.t 65), none⟩,
    ⟨(some 67), .bin .sub (.t 63) (.t 66), none⟩,
    ⟨(some 13), .mv (.t 67), none⟩]
def slices_pdqsortCmpFunc_int_16 : IR := .ops l_slices_pdqsortCmpFunc_int_16
@[go_sem] theorem w_slices_pdqsortCmpFunc_int_16 : wp P slices_pdqsortCmpFunc_int_16 Q e H = wpL P l_slices_pdqsortCmpFunc_int_16 (Q .normal) e H := idE rfl
@[go_sem] def l_slices_pdqsortCmpFunc_int_17 : List GOp := [⟨(some 14), .mv (.c (.int .i64 1)), none⟩]
def slices_pdqsortCmpFunc_int_17 : IR := .ops l_slices_pdqsortCmpFunc_int_17
@[go_sem] theorem w_slices_pdqsortCmpFunc_int_17 : wp P slices_pdqsortCmpFunc_int_17 Q e H = wpL P l_slices_pdqsortCmpFunc_int_17 (Q .normal) e H := idE rfl
def slices_pdqsortCmpFunc_int_18 : IR := .cond (.t 56) (.seq slices_pdqsortCmpFunc_int_15 (.seq slices_pdqsortCmpFunc_int_16 slices_pdqsortCmpFunc_int_17)) .skip
@[go_sem] theorem w_slices_pdqsortCmpFunc_int_18 : wp P slices_pdqsortCmpFunc_int_18 Q e H = condW P ((.t 56) : X) (.seq slices_pdqsortCmpFunc_int_15 (.seq slices_pdqsortCmpFunc_int_16 slices_pdqsortCmpFunc_int_17)) .skip Q e H := idE rfl
@[go_sem] def l_slices_pdqsortCmpFunc_int_19 : List GOp := [⟨(some 68), .mv (.t 10), none⟩,
    ⟨(some 69), .mv (.t 68), none⟩,
    ⟨(some 70), .mv (.t 11), (some (69, true))⟩,
    ⟨(some 71), .pick (.t 69) (.t 70) (.c (.bool false)), none⟩,
    ⟨(some 72), .mv (.t 71), none⟩,
    ⟨(some 73), .mv (.t 14), (some (72, true))⟩,
    ⟨(some 74), .bin .eql (.t 73) (.c (.int .i64 1)), (some (72, true))⟩,
    ⟨(some 75), .pick (.t 72) (.t 74) (.c (.bool false)), none⟩]
def slices_pdqsortCmpFunc_int_19 : IR := .ops l_slices_pdqsortCmpFunc_int_19
@[go_sem] theorem w_slices_pdqsortCmpFunc_int_19 : wp P slices_pdqsortCmpFunc_int_19 Q e H = wpL P l_slices_pdqsortCmpFunc_int_19 (Q .normal) e H := idE rfl
@[go_sem] def l_slices_pdqsortCmpFunc_int_20 : List GOp := [⟨(some 76), .mv (.t 0), none⟩,
    ⟨(some 77), .mv (.t 1), none⟩,
    ⟨(some 78), .mv (.t 2), none⟩,
    ⟨(some 79), .mv (.t 4), none⟩,
    ⟨(some 80), .call (n_slices_partialInsertionSortCmpFunc_int) [(.t 76), (.t 77), (.t 78), (.t 79)], none⟩]
def slices_pdqsortCmpFunc_int_20 : IR := .ops l_slices_pdqsortCmpFunc_int_20
@[go_sem] theorem w_slices_pdqsortCmpFunc_int_20 : wp P slices_pdqsortCmpFunc_int_20 Q e H = wpL P l_slices_pdqsortCmpFunc_int_20 (Q .normal) e H := idE rfl
def slices_pdqsortCmpFunc_int_21 : IR := .cond (.t 80) .ret .skip
@[go_sem] theorem w_slices_pdqsortCmpFunc_int_21 : wp P slices_pdqsortCmpFunc_int_21 Q e H = condW P ((.t 80) : X) .ret .skip Q e H := idE rfl
def slices_pdqsortCmpFunc_int_22 : IR := .cond (.t 75) (.seq slices_pdqsortCmpFunc_int_20 slices_pdqsortCmpFunc_int_21) .skip
@[go_sem] theorem w_slices_pdqsortCmpFunc_int_22 : wp P slices_pdqsortCmpFunc_int_22 Q e H = condW P ((.t 75) : X) (.seq slices_pdqsortCmpFunc_int_20 slices_pdqsortCmpFunc_int_21) .skip Q e H := idE rfl
def l_slices_pdqsortCmpFunc_int_23 : List GOp := [⟨(some 81), .mv (.t 1), none⟩,
    ⟨(some 82), .bin .gtr (.t 81) (.c (.int .i64 0)), none⟩,
    ⟨(some 83), .mv (.t 82), none⟩,
    ⟨(some 84), .mv (.t 4), (some (83, true))⟩,
    ⟨(some 85), .mv (.t 0), (some (83, true))⟩,
    ⟨(some 86), .mv (.t 1), (some (83, true))⟩,
    ⟨(some 87), .bin .sub (.t 86) (.c (.int .i64 1)), (some (83, true))⟩,
    ⟨(some 88), .iaddr (.t 85) (.t 87) 1, (some (83, true))⟩,
    ⟨(some 89), .load (.t 88) 1 false, (some (83, true))⟩,
    ⟨(some 90), .mv (.t 0), (some (83, true))⟩,
    ⟨(some 91), .mv (.t 13), (some (83, true))⟩,
    ⟨(some 92), .iaddr (.t 90) (.t 91) 1, (some (83, true))⟩,
    ⟨(some 93), .load (.t 92) 1 false, (some (83, true))⟩,
    ⟨(some 94), .callv (.t 84) [(.t 89), (.t 93)], (some (83, true))⟩,
    ⟨(some 95), .bin .lss (.t 94) (.c (.int .i64 0)), (some (83, true))⟩,
    ⟨(some 96), .un .not (.t 95), (some (83, true))⟩,
    ⟨(some 97), .pick (.t 83) (.t 96) (.c (.bool false)), none⟩]
@[go_sem] theorem g_slices_pdqsortCmpFunc_int_23_0 : gAt l_slices_pdqsortCmpFunc_int_23 0 = ⟨(some 81), .mv (.t 1), none⟩ := idE rfl
@[go_sem] theorem g_slices_pdqsortCmpFunc_int_23_1 : gAt l_slices_pdqsortCmpFunc_int_23 1 = ⟨(some 82), .bin .gtr (.t 81) (.c (.int .i64 0)), none⟩ := idE rfl
@[go_sem] theorem g_slices_pdqsortCmpFunc_int_23_2 : gAt l_slices_pdqsortCmpFunc_int_23 2 = ⟨(some 83), .mv (.t 82), none⟩ := idE rfl
@[go_sem] theorem g_slices_pdqsortCmpFunc_int_23_3 : gAt l_slices_pdqsortCmpFunc_int_23 3 = ⟨(some 84), .mv (.t 4), (some (83, true))⟩ := idE rfl
@[go_sem] theorem g_slices_pdqsortCmpFunc_int_23_4 : gAt l_slices_pdqsortCmpFunc_int_23 4 = ⟨(some 85), .mv (.t 0), (some (83, true))⟩ := idE rfl
@[go_sem] theorem g_slices_pdqsortCmpFunc_int_23_5 : gAt l_slices_pdqsortCmpFunc_int_23 5 = ⟨(some 86), .mv (.t 1), (some (83, true))⟩ := idE rfl
@[go_sem] theorem g_slices_pdqsortCmpFunc_int_23_6 : gAt l_slices_pdqsortCmpFunc_int_23 6 = ⟨(some 87), .bin .sub (.t 86) (.c (.int .i64 1)), (some (83, true))⟩ := idE rfl
@[go_sem] theorem g_slices_pdqsortCmpFunc_int_23_7 : gAt l_slices_pdqsortCmpFunc_int_23 7 = ⟨(some 88), .iaddr (.t 85) (.t 87) 1, (some (83, true))⟩ := idE rfl
@[go_sem] theorem g_slices_pdqsortCmpFunc_int_23_8 : gAt l_slices_pdqsortCmpFunc_int_23 8 = ⟨(some 89), .load (.t 88) 1 false, (some (83, true))⟩ := idE rfl
@[go_sem] theorem g_slices_pdqsortCmpFunc_int_23_9 : gAt l_slices_pdqsortCmpFunc_int_23 9 = ⟨(some 90), .mv (.t 0), (some (83, true))⟩ := idE rfl
@[go_sem] theorem g_slices_pdqsortCmpFunc_int_23_10 : gAt l_slices_pdqsortCmpFunc_int_23 10 = ⟨(some 91), .mv (.t 13), (some (83, true))⟩ := idE rfl
@[go_sem] theorem g_slices_pdqsortCmpFunc_int_23_11 : gAt l_slices_pdqsortCmpFunc_int_23 11 = ⟨(some 92), .iaddr (.t 90) (.t 91) 1, (some (83, true))⟩ := idE rfl
@[go_sem] theorem g_slices_pdqsortCmpFunc_int_23_12 : gAt l_slices_pdqsortCmpFunc_int_23 12 = ⟨(some 93), .load (.t 92) 1 false, (some (83, true))⟩ := idE rfl
@[go_sem] theorem g_slices_pdqsortCmpFunc_int_23_13 : gAt l_slices_pdqsortCmpFunc_int_23 13 = ⟨(some 94), .callv (.t 84) [(.t 89), (.t 93)], (some (83, true))⟩ := idE rfl
@[go_sem] theorem g_slices_pdqsortCmpFunc_int_23_14 : gAt l_slices_pdqsortCmpFunc_int_23 14 = ⟨(some 95), .bin .lss (.t 94) (.c (.int .i64 0)), (some (83, true))⟩ := idE rfl
@[go_sem] theorem g_slices_pdqsortCmpFunc_int_23_15 : gAt l_slices_pdqsortCmpFunc_int_23 15 = ⟨(some 96), .un .not (.t 95), (some (83, true))⟩ := idE rfl
@[go_sem] theorem g_slices_pdqsortCmpFunc_int_23_16 : gAt l_slices_pdqsortCmpFunc_int_23 16 = ⟨(some 97), .pick (.t 83) (.t 96) (.c (.bool false)), none⟩ := idE rfl
def slices_pdqsortCmpFunc_int_23 : IR := .dops l_slices_pdqsortCmpFunc_int_23 [(0, []), (1, []), (2, []), (3, []), (4, []), (5, []), (6, []), (7, []), (8, []), (9, []), (10, []), (11, []), (12, []), (13, []), (14, []), (15, []), (16, [])]
@[go_sem] theorem w_slices_pdqsortCmpFunc_int_23 : wp P slices_pdqsortCmpFunc_int_23 Q e H = wpD P l_slices_pdqsortCmpFunc_int_23 [(0, []), (1, []), (2, []), (3, []), (4, []), (5, []), (6, []), (7, []), (8, []), (9, []), (10, []), (11, []), (12, []), (13, []), (14, []), (15, []), (16, [])] (Q .normal) e H := idE rfl
@[go_sem] def l_slices_pdqsortCmpFunc_int_24 : List GOp := [⟨(some 98), .mv (.t 0), none⟩,
    ⟨(some 99), .mv (.t 1), none⟩,
    ⟨(some 100), .mv (.t 2), none⟩,
    ⟨(some 101), .mv (.t 13), none⟩,
    ⟨(some 102), .mv (.t 4), none⟩,
    ⟨(some 103), .call (n_slices_partitionEqualCmpFunc_int) [(.t 98), (.t 99), (.t 100), (.t 101), (.t 102)], none⟩,
    ⟨(some 15), .mv (.t 103), none⟩]
def slices_pdqsortCmpFunc_int_24 : IR := .ops l_slices_pdqsortCmpFunc_int_24
@[go_sem] theorem w_slices_pdqsortCmpFunc_int_24 : wp P slices_pdqsortCmpFunc_int_24 Q e H = wpL P l_slices_pdqsortCmpFunc_int_24 (Q .normal) e H := idE rfl
@[go_sem] def l_slices_pdqsortCmpFunc_int_25 : List GOp := [⟨(some 104), .mv (.t 15), none⟩,
    ⟨(some 1), .mv (.t 104), none⟩]
def slices_pdqsortCmpFunc_int_25 : IR := .ops l_slices_pdqsortCmpFunc_int_25
@[go_sem] theorem w_slices_pdqsortCmpFunc_int_25 : wp P slices_pdqsortCmpFunc_int_25 Q e H = wpL P l_slices_pdqsortCmpFunc_int_25 (Q .normal) e H := idE rfl
def slices_pdqsortCmpFunc_int_26 : IR := .cond (.t 97) (.seq slices_pdqsortCmpFunc_int_24 (.seq slices_pdqsortCmpFunc_int_25 (.exit 1))) .skip
@[go_sem] theorem w_slices_pdqsortCmpFunc_int_26 : wp P slices_pdqsortCmpFunc_int_26 Q e H = condW P ((.t 97) : X) (.seq slices_pdqsortCmpFunc_int_24 (.seq slices_pdqsortCmpFunc_int_25 (.exit 1))) .skip Q e H := idE rfl
@[go_sem] def l_slices_pdqsortCmpFunc_int_27 : List GOp := [⟨(some 106), .mv (.t 0), none⟩,
    ⟨(some 107), .mv (.t 1), none⟩,
    ⟨(some 108), .mv (.t 2), none⟩,
    ⟨(some 109), .mv (.t 13), none⟩,
    ⟨(some 110), .mv (.t 4), none⟩,
    ⟨(some 111), .call (n_slices_partitionCmpFunc_int) [(.t 106), (.t 107), (.t 108), (.t 109), (.t 110)], none⟩,
    ⟨(some 105), .mv (.t 111), none⟩,
    ⟨(some 112), .ext (.t 105) 0, none⟩,
    ⟨(some 113), .ext (.t 105) 1, none⟩,
    ⟨(some 16), .mv (.t 112), none⟩,
    ⟨(some 17), .mv (.t 113), none⟩]
def slices_pdqsortCmpFunc_int_27 : IR := .ops l_slices_pdqsortCmpFunc_int_27
@[go_sem] theorem w_slices_pdqsortCmpFunc_int_27 : wp P slices_pdqsortCmpFunc_int_27 Q e H = wpL P l_slices_pdqsortCmpFunc_int_27 (Q .normal) e H := idE rfl
@[go_sem] def l_slices_pdqsortCmpFunc_int_28 : List GOp := [⟨(some 114), .mv (.t 17), none⟩,
    ⟨(some 11), .mv (.t 114), none⟩]
def slices_pdqsortCmpFunc_int_28 : IR := .ops l_slices_pdqsortCmpFunc_int_28
@[go_sem] theorem w_slices_pdqsortCmpFunc_int_28 : wp P slices_pdqsortCmpFunc_int_28 Q e H = wpL P l_slices_pdqsortCmpFunc_int_28 (Q .normal) e H := idE rfl
@[go_sem] def l_slices_pdqsortCmpFunc_int_29 : List GOp := [⟨(some 115), .mv (.t 16), none⟩,
    ⟨(some 116), .mv (.t 1), none⟩,
    ⟨(some 117), .bin .sub (.t 115) (.t 116), none⟩,
    ⟨(some 118), .mv (.t 2), none⟩,
    ⟨(some 119), .mv (.t 16), none⟩,
    ⟨(some 120), .bin .sub (.t 118) (.t 119), none⟩,
    ⟨(some 18), .mv (.t 117), none⟩,
    ⟨(some 19), .mv (.t 120), none⟩]
def slices_pdqsortCmpFunc_int_29 : IR := .ops l_slices_pdqsortCmpFunc_int_29
@[go_sem] theorem w_slices_pdqsortCmpFunc_int_29 : wp P slices_pdqsortCmpFunc_int_29 Q e H = wpL P l_slices_pdqsortCmpFunc_int_29 (Q .normal) e H := idE rfl
@[go_sem] def l_slices_pdqsortCmpFunc_int_30 : List GOp := [⟨(some 121), .mv (.t 12), none⟩,
    ⟨(some 122), .bin .quo (.t 121) (.c (.int .i64 8)), none⟩,
    ⟨(some 20), .mv (.t 122), none⟩]
def slices_pdqsortCmpFunc_int_30 : IR := .ops l_slices_pdqsortCmpFunc_int_30
@[go_sem] theorem w_slices_pdqsortCmpFunc_int_30 : wp P slices_pdqsortCmpFunc_int_30 Q e H = wpL P l_slices_pdqsortCmpFunc_int_30 (Q .normal) e H := idE rfl
@[go_sem] def l_slices_pdqsortCmpFunc_int_31 : List GOp := [⟨(some 123), .mv (.t 18), none⟩,
    ⟨(some 124), .mv (.t 19), none⟩,
    ⟨(some 125), .bin .lss (.t 123) (.t 124), none⟩]
def slices_pdqsortCmpFunc_int_31 : IR := .ops l_slices_pdqsortCmpFunc_int_31
@[go_sem] theorem w_slices_pdqsortCmpFunc_int_31 : wp P slices_pdqsortCmpFunc_int_31 Q e H = wpL P l_slices_pdqsortCmpFunc_int_31 (Q .normal) e H := idE rfl
@[go_sem] def l_slices_pdqsortCmpFunc_int_32 : List GOp := [⟨(some 126), .mv (.t 18), none⟩,
    ⟨(some 127), .mv (.t 20), none⟩,
    ⟨(some 128), .bin .geq (.t 126) (.t 127), none⟩,
    ⟨(some 10), .mv (.t 128), none⟩]
def slices_pdqsortCmpFunc_int_32 : IR := .ops l_slices_pdqsortCmpFunc_int_32
@[go_sem] theorem w_slices_pdqsortCmpFunc_int_32 : wp P slices_pdqsortCmpFunc_int_32 Q e H = wpL P l_slices_pdqsortCmpFunc_int_32 (Q .normal) e H := idE rfl
@[go_sem] def l_slices_pdqsortCmpFunc_int_33 : List GOp := [⟨(some 129), .mv (.t 0), none⟩,
    ⟨(some 130), .mv (.t 1), none⟩,
    ⟨(some 131), .mv (.t 16), none⟩,
    ⟨(some 132), .mv (.t 3), none⟩,
    ⟨(some 133), .mv (.t 4), none⟩,
    ⟨(some 134), .call (n_slices_pdqsortCmpFunc_int) [(.t 129), (.t 130), (.t 131), (.t 132), (.t 133)], none⟩]
def slices_pdqsortCmpFunc_int_33 : IR := .ops l_slices_pdqsortCmpFunc_int_33
@[go_sem] theorem w_slices_pdqsortCmpFunc_int_33 : wp P slices_pdqsortCmpFunc_int_33 Q e H = wpL P l_slices_pdqsortCmpFunc_int_33 (Q .normal) e H := idE rfl
@[go_sem] def l_slices_pdqsortCmpFunc_int_34 : List GOp := [⟨(some 135), .mv (.t 16), none⟩,
    ⟨(some 136), .bin .add (.t 135) (.c (.int .i64 1)), none⟩,
    ⟨(some 1), .mv (.t 136), none⟩]
def slices_pdqsortCmpFunc_int_34 : IR := .ops l_slices_pdqsortCmpFunc_int_34
@[go_sem] theorem w_slices_pdqsortCmpFunc_int_34 : wp P slices_pdqsortCmpFunc_int_34 Q e H = wpL P l_slices_pdqsortCmpFunc_int_34 (Q .normal) e H := idE rfl
@[go_sem] def l_slices_pdqsortCmpFunc_int_35 : List GOp := [⟨(some 137), .mv (.t 19), none⟩,
    ⟨(some 138), .mv (.t 20), none⟩,
    ⟨(some 139), .bin .geq (.t 137) (.t 138), none⟩,
    ⟨(some 10), .mv (.t 139), none⟩]
def slices_pdqsortCmpFunc_int_35 : IR := .ops l_slices_pdqsortCmpFunc_int_35
@[go_sem] theorem w_slices_pdqsortCmpFunc_int_35 : wp P slices_pdqsortCmpFunc_int_35 Q e H = wpL P l_slices_pdqsortCmpFunc_int_35 (Q .normal) e H := idE rfl
@[go_sem] def l_slices_pdqsortCmpFunc_int_36 : List GOp := [⟨(some 140), .mv (.t 0), none⟩,
    ⟨(some 141), .mv (.t 16), none⟩,
    ⟨(some 142), .bin .add (.t 141) (.c (.int .i64 1)), none⟩,
    ⟨(some 143), .mv (.t 2), none⟩,
    ⟨(some 144), .mv (.t 3), none⟩,
    ⟨(some 145), .mv (.t 4), none⟩,
    ⟨(some 146), .call (n_slices_pdqsortCmpFunc_int) [(.t 140), (.t 142), (.t 143), (.t 144), (.t 145)], none⟩]
def slices_pdqsortCmpFunc_int_36 : IR := .ops l_slices_pdqsortCmpFunc_int_36
@[go_sem] theorem w_slices_pdqsortCmpFunc_int_36 : wp P slices_pdqsortCmpFunc_int_36 Q e H = wpL P l_slices_pdqsortCmpFunc_int_36 (Q .normal) e H := idE rfl
@[go_sem] def l_slices_pdqsortCmpFunc_int_37 : List GOp := [⟨(some 147), .mv (.t 16), none⟩,
    ⟨(some 2), .mv (.t 147), none⟩]
def slices_pdqsortCmpFunc_int_37 : IR := .ops l_slices_pdqsortCmpFunc_int_37
@[go_sem] theorem w_slices_pdqsortCmpFunc_int_37 : wp P slices_pdqsortCmpFunc_int_37 Q e H = wpL P l_slices_pdqsortCmpFunc_int_37 (Q .normal) e H := idE rfl
def slices_pdqsortCmpFunc_int_38 : IR := .cond (.t 125) (.seq slices_pdqsortCmpFunc_int_32 (.seq slices_pdqsortCmpFunc_int_33 slices_pdqsortCmpFunc_int_34)) (.seq slices_pdqsortCmpFunc_int_35 (.seq slices_pdqsortCmpFunc_int_36 slices_pdqsortCmpFunc_int_37))
@[go_sem] theorem w_slices_pdqsortCmpFunc_int_38 : wp P slices_pdqsortCmpFunc_int_38 Q e H = condW P ((.t 125) : X) (.seq slices_pdqsortCmpFunc_int_32 (.seq slices_pdqsortCmpFunc_int_33 slices_pdqsortCmpFunc_int_34)) (.seq slices_pdqsortCmpFunc_int_35 (.seq slices_pdqsortCmpFunc_int_36 slices_pdqsortCmpFunc_int_37)) Q e H := idE rfl
def slices_pdqsortCmpFunc_int_39 : IR := .block 1 (.seq slices_pdqsortCmpFunc_int_2 (.seq (.seq slices_pdqsortCmpFunc_int_3 slices_pdqsortCmpFunc_int_5) (.seq (.seq slices_pdqsortCmpFunc_int_6 slices_pdqsortCmpFunc_int_8) (.seq (.seq slices_pdqsortCmpFunc_int_9 slices_pdqsortCmpFunc_int_12) (.seq slices_pdqsortCmpFunc_int_13 (.seq (.seq slices_pdqsortCmpFunc_int_14 slices_pdqsortCmpFunc_int_18) (.seq (.seq slices_pdqsortCmpFunc_int_19 slices_pdqsortCmpFunc_int_22) (.seq (.seq slices_pdqsortCmpFunc_int_23 slices_pdqsortCmpFunc_int_26) (.seq slices_pdqsortCmpFunc_int_27 (.seq slices_pdqsortCmpFunc_int_28 (.seq slices_pdqsortCmpFunc_int_29 (.seq slices_pdqsortCmpFunc_int_30 (.seq slices_pdqsortCmpFunc_int_31 slices_pdqsortCmpFunc_int_38)))))))))))))
@[go_sem] theorem w_slices_pdqsortCmpFunc_int_39 : wp P slices_pdqsortCmpFunc_int_39 Q e H = wp P (.seq slices_pdqsortCmpFunc_int_2 (.seq (.seq slices_pdqsortCmpFunc_int_3 slices_pdqsortCmpFunc_int_5) (.seq (.seq slices_pdqsortCmpFunc_int_6 slices_pdqsortCmpFunc_int_8) (.seq (.seq slices_pdqsortCmpFunc_int_9 slices_pdqsortCmpFunc_int_12) (.seq slices_pdqsortCmpFunc_int_13 (.seq (.seq slices_pdqsortCmpFunc_int_14 slices_pdqsortCmpFunc_int_18) (.seq (.seq slices_pdqsortCmpFunc_int_19 slices_pdqsortCmpFunc_int_22) (.seq (.seq slices_pdqsortCmpFunc_int_23 slices_pdqsortCmpFunc_int_26) (.seq slices_pdqsortCmpFunc_int_27 (.seq slices_pdqsortCmpFunc_int_28 (.seq slices_pdqsortCmpFunc_int_29 (.seq slices_pdqsortCmpFunc_int_30 (.seq slices_pdqsortCmpFunc_int_31 slices_pdqsortCmpFunc_int_38))))))))))))) (blockQ 1 Q) e H := idE rfl
def slices_pdqsortCmpFunc_int_40 : IR := .loop slices_pdqsortCmpFunc_int_39
def slices_pdqsortCmpFunc_int_41 : IR := .block 0 slices_pdqsortCmpFunc_int_40
@[go_sem] theorem w_slices_pdqsortCmpFunc_int_41 : wp P slices_pdqsortCmpFunc_int_41 Q e H = wp P slices_pdqsortCmpFunc_int_40 (blockQ 0 Q) e H := idE rfl
@[go_sem] def l_slices_SortFunc_Sint_int_0 : List GOp := [⟨(some 5), .mv (.t 0), none⟩,
    ⟨(some 6), .len (.t 5), none⟩,
    ⟨(some 4), .mv (.t 6), none⟩]
def slices_SortFunc_Sint_int_0 : IR := .ops l_slices_SortFunc_Sint_int_0
@[go_sem] theorem w_slices_SortFunc_Sint_int_0 : wp P slices_SortFunc_Sint_int_0 Q e H = wpL P l_slices_SortFunc_Sint_int_0 (Q .normal) e H := idE rfl
@[go_sem] def l_slices_SortFunc_Sint_int_1 : List GOp := [⟨(some 7), .mv (.t 0), none⟩,
    ⟨(some 8), .mv (.t 4), none⟩,
    ⟨(some 9), .mv (.t 4), none⟩,
    ⟨(some 10), .cvi .u64 (.t 9), none⟩,
    ⟨(some 11), .call (n_math_bits_Len) [(.t 10)], none⟩,
    ⟨(some 12), .mv (.t 1), none⟩,
    ⟨(some 13), .call (n_slices_pdqsortCmpFunc_int) [(.t 7), (.c (.int .i64 0)), (.t 8), (.t 11), (.t 12)], none⟩]
def slices_SortFunc_Sint_int_1 : IR := .ops l_slices_SortFunc_Sint_int_1
@[go_sem] theorem w_slices_SortFunc_Sint_int_1 : wp P slices_SortFunc_Sint_int_1 Q e H = wpL P l_slices_SortFunc_Sint_int_1 (Q .normal) e H := idE rfl
@[go_sem] def l_cmp_isNaN_int_0 : List GOp := [⟨(some 2), .mv (.c (.bool false)), none⟩]
def cmp_isNaN_int_0 : IR := .ops l_cmp_isNaN_int_0
@[go_sem] theorem w_cmp_isNaN_int_0 : wp P cmp_isNaN_int_0 Q e H = wpL P l_cmp_isNaN_int_0 (Q .normal) e H := idE rfl
@[go_sem] def l_cmp_isNaN_int_1 : List GOp := [⟨(some 3), .mv (.t 0), none⟩,
    ⟨(some 4), .mv (.t 0), none⟩,
    ⟨(some 5), .bin .neq (.t 3) (.t 4), none⟩,
    ⟨(some 2), .mv (.t 5), none⟩]
def cmp_isNaN_int_1 : IR := .ops l_cmp_isNaN_int_1
@[go_sem] theorem w_cmp_isNaN_int_1 : wp P cmp_isNaN_int_1 Q e H = wpL P l_cmp_isNaN_int_1 (Q .normal) e H := idE rfl
def F_cmp_isNaN_int : IFn := ⟨1, 6, [.t 2], (.seq cmp_isNaN_int_0 (.seq cmp_isNaN_int_1 .ret))⟩
theorem c_cmp_isNaN_int : compFn Try.prog [(0, [], []), (1, [], [])] Try.f141 = some F_cmp_isNaN_int := by kernel_rfl
theorem a_cmp_isNaN_int (hl : args.length = 1) (h : wp Try.prog (.seq cmp_isNaN_int_0 (.seq cmp_isNaN_int_1 .ret)) (postQ [.t 2] R) (env0 args) H) : ACall Try.prog n_cmp_isNaN_int args H R :=
  acall_of_wp mixed Try.func141 c_cmp_isNaN_int (by kernel_rfl) hl h
@[go_sem] def l_cmp_Compare_int_0 : List GOp := [⟨(some 4), .mv (.c (.int .i64 0)), none⟩]
def cmp_Compare_int_0 : IR := .ops l_cmp_Compare_int_0
@[go_sem] theorem w_cmp_Compare_int_0 : wp P cmp_Compare_int_0 Q e H = wpL P l_cmp_Compare_int_0 (Q .normal) e H := idE rfl
@[go_sem] def l_cmp_Compare_int_1 : List GOp := [⟨(some 7), .mv (.t 0), none⟩,
    ⟨(some 8), .call (n_cmp_isNaN_int) [(.t 7)], none⟩,
    ⟨(some 5), .mv (.t 8), none⟩]
def cmp_Compare_int_1 : IR := .ops l_cmp_Compare_int_1
@[go_sem] theorem w_cmp_Compare_int_1 : wp P cmp_Compare_int_1 Q e H = wpL P l_cmp_Compare_int_1 (Q .normal) e H := idE rfl
@[go_sem] def l_cmp_Compare_int_2 : List GOp := [⟨(some 9), .mv (.t 1), none⟩,
    ⟨(some 10), .call (n_cmp_isNaN_int) [(.t 9)], none⟩,
    ⟨(some 6), .mv (.t 10), none⟩]
def cmp_Compare_int_2 : IR := .ops l_cmp_Compare_int_2
@[go_sem] theorem w_cmp_Compare_int_2 : wp P cmp_Compare_int_2 Q e H = wpL P l_cmp_Compare_int_2 (Q .normal) e H := idE rfl
@[go_sem] def l_cmp_Compare_int_3 : List GOp := [⟨(some 11), .mv (.t 5), none⟩]
def cmp_Compare_int_3 : IR := .ops l_cmp_Compare_int_3
@[go_sem] theorem w_cmp_Compare_int_3 : wp P cmp_Compare_int_3 Q e H = wpL P l_cmp_Compare_int_3 (Q .normal) e H := idE rfl
@[go_sem] def l_cmp_Compare_int_4 : List GOp := [⟨(some 12), .mv (.t 6), none⟩]
def cmp_Compare_int_4 : IR := .ops l_cmp_Compare_int_4
@[go_sem] theorem w_cmp_Compare_int_4 : wp P cmp_Compare_int_4 Q e H = wpL P l_cmp_Compare_int_4 (Q .normal) e H := idE rfl
@[go_sem] def l_cmp_Compare_int_5 : List GOp := [⟨(some 4), .mv (.c (.int .i64 0)), none⟩]
def cmp_Compare_int_5 : IR := .ops l_cmp_Compare_int_5
@[go_sem] theorem w_cmp_Compare_int_5 : wp P cmp_Compare_int_5 Q e H = wpL P l_cmp_Compare_int_5 (Q .normal) e H := idE rfl
def cmp_Compare_int_6 : IR := .cond (.t 12) (.seq cmp_Compare_int_5 .ret) .skip
@[go_sem] theorem w_cmp_Compare_int_6 : wp P cmp_Compare_int_6 Q e H = condW P ((.t 12) : X) (.seq cmp_Compare_int_5 .ret) .skip Q e H := idE rfl
@[go_sem] def l_cmp_Compare_int_7 : List GOp := [⟨(some 4), .mv (.c (.int .i64 (-1))), none⟩]
def cmp_Compare_int_7 : IR := .ops l_cmp_Compare_int_7
@[go_sem] theorem w_cmp_Compare_int_7 : wp P cmp_Compare_int_7 Q e H = wpL P l_cmp_Compare_int_7 (Q .normal) e H := idE rfl
def cmp_Compare_int_8 : IR := .cond (.t 11) (.seq (.seq cmp_Compare_int_4 cmp_Compare_int_6) (.seq cmp_Compare_int_7 .ret)) .skip
@[go_sem] theorem w_cmp_Compare_int_8 : wp P cmp_Compare_int_8 Q e H = condW P ((.t 11) : X) (.seq (.seq cmp_Compare_int_4 cmp_Compare_int_6) (.seq cmp_Compare_int_7 .ret)) .skip Q e H := idE rfl
@[go_sem] def l_cmp_Compare_int_9 : List GOp := [⟨(some 13), .mv (.t 6), none⟩]
def cmp_Compare_int_9 : IR := .ops l_cmp_Compare_int_9
@[go_sem] theorem w_cmp_Compare_int_9 : wp P cmp_Compare_int_9 Q e H = wpL P l_cmp_Compare_int_9 (Q .normal) e H := idE rfl
@[go_sem] def l_cmp_Compare_int_10 : List GOp := [⟨(some 4), .mv (.c (.int .i64 1)), none⟩]
def cmp_Compare_int_10 : IR := .ops l_cmp_Compare_int_10
@[go_sem] theorem w_cmp_Compare_int_10 : wp P cmp_Compare_int_10 Q e H = wpL P l_cmp_Compare_int_10 (Q .normal) e H := idE rfl
def cmp_Compare_int_11 : IR := .cond (.t 13) (.seq cmp_Compare_int_10 .ret) .skip
@[go_sem] theorem w_cmp_Compare_int_11 : wp P cmp_Compare_int_11 Q e H = condW P ((.t 13) : X) (.seq cmp_Compare_int_10 .ret) .skip Q e H := idE rfl
@[go_sem] def l_cmp_Compare_int_12 : List GOp := [⟨(some 14), .mv (.t 0), none⟩,
    ⟨(some 15), .mv (.t 1), none⟩,
    ⟨(some 16), .bin .lss (.t 14) (.t 15), none⟩]
def cmp_Compare_int_12 : IR := .ops l_cmp_Compare_int_12
@[go_sem] theorem w_cmp_Compare_int_12 : wp P cmp_Compare_int_12 Q e H = wpL P l_cmp_Compare_int_12 (Q .normal) e H := idE rfl
@[go_sem] def l_cmp_Compare_int_13 : List GOp := [⟨(some 4), .mv (.c (.int .i64 (-1))), none⟩]
def cmp_Compare_int_13 : IR := .ops l_cmp_Compare_int_13
@[go_sem] theorem w_cmp_Compare_int_13 : wp P cmp_Compare_int_13 Q e H = wpL P l_cmp_Compare_int_13 (Q .normal) e H := idE rfl
def cmp_Compare_int_14 : IR := .cond (.t 16) (.seq cmp_Compare_int_13 .ret) .skip
@[go_sem] theorem w_cmp_Compare_int_14 : wp P cmp_Compare_int_14 Q e H = condW P ((.t 16) : X) (.seq cmp_Compare_int_13 .ret) .skip Q e H := idE rfl
@[go_sem] def l_cmp_Compare_int_15 : List GOp := [⟨(some 17), .mv (.t 0), none⟩,
    ⟨(some 18), .mv (.t 1), none⟩,
    ⟨(some 19), .bin .gtr (.t 17) (.t 18), none⟩]
def cmp_Compare_int_15 : IR := .ops l_cmp_Compare_int_15
@[go_sem] theorem w_cmp_Compare_int_15 : wp P cmp_Compare_int_15 Q e H = wpL P l_cmp_Compare_int_15 (Q .normal) e H := idE rfl
@[go_sem] def l_cmp_Compare_int_16 : List GOp := [⟨(some 4), .mv (.c (.int .i64 1)), none⟩]
def cmp_Compare_int_16 : IR := .ops l_cmp_Compare_int_16
@[go_sem] theorem w_cmp_Compare_int_16 : wp P cmp_Compare_int_16 Q e H = wpL P l_cmp_Compare_int_16 (Q .normal) e H := idE rfl
def cmp_Compare_int_17 : IR := .cond (.t 19) (.seq cmp_Compare_int_16 .ret) .skip
@[go_sem] theorem w_cmp_Compare_int_17 : wp P cmp_Compare_int_17 Q e H = condW P ((.t 19) : X) (.seq cmp_Compare_int_16 .ret) .skip Q e H := idE rfl
@[go_sem] def l_cmp_Compare_int_18 : List GOp := [⟨(some 4), .mv (.c (.int .i64 0)), none⟩]
def cmp_Compare_int_18 : IR := .ops l_cmp_Compare_int_18
@[go_sem] theorem w_cmp_Compare_int_18 : wp P cmp_Compare_int_18 Q e H = wpL P l_cmp_Compare_int_18 (Q .normal) e H := idE rfl
def F_cmp_Compare_int : IFn := ⟨2, 20, [.t 4], (.seq cmp_Compare_int_0 (.seq cmp_Compare_int_1 (.seq cmp_Compare_int_2 (.seq (.seq cmp_Compare_int_3 cmp_Compare_int_8) (.seq (.seq cmp_Compare_int_9 cmp_Compare_int_11) (.seq (.seq cmp_Compare_int_12 cmp_Compare_int_14) (.seq (.seq cmp_Compare_int_15 cmp_Compare_int_17) (.seq cmp_Compare_int_18 .ret))))))))⟩
theorem c_cmp_Compare_int : compFn Try.prog [(0, [], []), (1, [], []), (2, [], []), (3, [], []), (4, [], []), (5, [], []), (6, [], []), (7, [], []), (8, [], []), (9, [], []), (10, [], []), (11, [], []), (12, [], []), (13, [], [])] Try.f129 = some F_cmp_Compare_int := by kernel_rfl
theorem a_cmp_Compare_int (hl : args.length = 2) (h : wp Try.prog (.seq cmp_Compare_int_0 (.seq cmp_Compare_int_1 (.seq cmp_Compare_int_2 (.seq (.seq cmp_Compare_int_3 cmp_Compare_int_8) (.seq (.seq cmp_Compare_int_9 cmp_Compare_int_11) (.seq (.seq cmp_Compare_int_12 cmp_Compare_int_14) (.seq (.seq cmp_Compare_int_15 cmp_Compare_int_17) (.seq cmp_Compare_int_18 .ret)))))))) (postQ [.t 4] R) (env0 args) H) : ACall Try.prog n_cmp_Compare_int args H R :=
  acall_of_wp mixed Try.func129 c_cmp_Compare_int (by kernel_rfl) hl h
@[go_sem] def l_cmp_Or_int_0 : List GOp := [⟨(some 2), .mv (.c (.int .i64 0)), none⟩]
def cmp_Or_int_0 : IR := .ops l_cmp_Or_int_0
@[go_sem] theorem w_cmp_Or_int_0 : wp P cmp_Or_int_0 Q e H = wpL P l_cmp_Or_int_0 (Q .normal) e H := idE rfl
@[go_sem] def l_cmp_Or_int_1 : List GOp := [⟨(some 3), .mv (.c (.int .i64 0)), none⟩]
def cmp_Or_int_1 : IR := .ops l_cmp_Or_int_1
@[go_sem] theorem w_cmp_Or_int_1 : wp P cmp_Or_int_1 Q e H = wpL P l_cmp_Or_int_1 (Q .normal) e H := idE rfl
@[go_sem] def l_cmp_Or_int_2 : List GOp := [⟨(some 6), .mv (.t 0), none⟩,
    ⟨(some 7), .len (.t 6), none⟩,
    ⟨(some 8), .mv (.c (.int .i64 0)), none⟩]
def cmp_Or_int_2 : IR := .ops l_cmp_Or_int_2
@[go_sem] theorem w_cmp_Or_int_2 : wp P cmp_Or_int_2 Q e H = wpL P l_cmp_Or_int_2 (Q .normal) e H := idE rfl
@[go_sem] def l_cmp_Or_int_3 : List GOp := [⟨(some 9), .bin .lss (.t 8) (.t 7), none⟩]
def cmp_Or_int_3 : IR := .ops l_cmp_Or_int_3
@[go_sem] theorem w_cmp_Or_int_3 : wp P cmp_Or_int_3 Q e H = wpL P l_cmp_Or_int_3 (Q .normal) e H := idE rfl
def cmp_Or_int_4 : IR := .cond (.t 9) .skip (.exit 0)
@[go_sem] theorem w_cmp_Or_int_4 : wp P cmp_Or_int_4 Q e H = condW P ((.t 9) : X) .skip (.exit 0) Q e H := idE rfl
@[go_sem] def l_cmp_Or_int_5 : List GOp := [⟨(some 10), .iaddr (.t 6) (.t 8) 1, none⟩,
    ⟨(some 11), .load (.t 10) 1 false, none⟩,
    ⟨(some 5), .mv (.t 11), none⟩]
def cmp_Or_int_5 : IR := .ops l_cmp_Or_int_5
@[go_sem] theorem w_cmp_Or_int_5 : wp P cmp_Or_int_5 Q e H = wpL P l_cmp_Or_int_5 (Q .normal) e H := idE rfl
@[go_sem] def l_cmp_Or_int_6 : List GOp := [⟨(some 12), .mv (.t 5), none⟩,
    ⟨(some 13), .mv (.t 3), none⟩,
    ⟨(some 14), .bin .neq (.t 12) (.t 13), none⟩]
def cmp_Or_int_6 : IR := .ops l_cmp_Or_int_6
@[go_sem] theorem w_cmp_Or_int_6 : wp P cmp_Or_int_6 Q e H = wpL P l_cmp_Or_int_6 (Q .normal) e H := idE rfl
@[go_sem] def l_cmp_Or_int_7 : List GOp := [⟨(some 15), .mv (.t 5), none⟩,
    ⟨(some 2), .mv (.t 15), none⟩]
def cmp_Or_int_7 : IR := .ops l_cmp_Or_int_7
@[go_sem] theorem w_cmp_Or_int_7 : wp P cmp_Or_int_7 Q e H = wpL P l_cmp_Or_int_7 (Q .normal) e H := idE rfl
def cmp_Or_int_8 : IR := .cond (.t 14) (.seq cmp_Or_int_7 .ret) .skip
@[go_sem] theorem w_cmp_Or_int_8 : wp P cmp_Or_int_8 Q e H = condW P ((.t 14) : X) (.seq cmp_Or_int_7 .ret) .skip Q e H := idE rfl
def cmp_Or_int_9 : IR := .block 1 (.seq cmp_Or_int_5 (.seq cmp_Or_int_6 cmp_Or_int_8))
@[go_sem] theorem w_cmp_Or_int_9 : wp P cmp_Or_int_9 Q e H = wp P (.seq cmp_Or_int_5 (.seq cmp_Or_int_6 cmp_Or_int_8)) (blockQ 1 Q) e H := idE rfl
@[go_sem] def l_cmp_Or_int_10 : List GOp := [⟨(some 16), .bin .add (.t 8) (.c (.int .i64 1)), none⟩,
    ⟨(some 8), .mv (.t 16), none⟩]
def cmp_Or_int_10 : IR := .ops l_cmp_Or_int_10
@[go_sem] theorem w_cmp_Or_int_10 : wp P cmp_Or_int_10 Q e H = wpL P l_cmp_Or_int_10 (Q .normal) e H := idE rfl
def cmp_Or_int_11 : IR := .loop (.seq cmp_Or_int_3 (.seq cmp_Or_int_4 (.seq cmp_Or_int_9 cmp_Or_int_10)))
def cmp_Or_int_12 : IR := .block 0 cmp_Or_int_11
@[go_sem] theorem w_cmp_Or_int_12 : wp P cmp_Or_int_12 Q e H = wp P cmp_Or_int_11 (blockQ 0 Q) e H := idE rfl
@[go_sem] def l_cmp_Or_int_13 : List GOp := [⟨(some 17), .mv (.t 3), none⟩,
    ⟨(some 2), .mv (.t 17), none⟩]
def cmp_Or_int_13 : IR := .ops l_cmp_Or_int_13
@[go_sem] theorem w_cmp_Or_int_13 : wp P cmp_Or_int_13 Q e H = wpL P l_cmp_Or_int_13 (Q .normal) e H := idE rfl
def F_cmp_Or_int : IFn := ⟨1, 18, [.t 2], (.seq cmp_Or_int_0 (.seq cmp_Or_int_1 (.seq (.seq cmp_Or_int_2 cmp_Or_int_12) (.seq cmp_Or_int_13 .ret))))⟩
theorem c_cmp_Or_int : compFn Try.prog [(0, [], []), (1, [], []), (2, [], []), (3, [], []), (4, [], []), (5, [], []), (6, [], []), (7, [], []), (8, [], [])] Try.f128 = some F_cmp_Or_int := by kernel_rfl
theorem a_cmp_Or_int (hl : args.length = 1) (h : wp Try.prog (.seq cmp_Or_int_0 (.seq cmp_Or_int_1 (.seq (.seq cmp_Or_int_2 cmp_Or_int_12) (.seq cmp_Or_int_13 .ret)))) (postQ [.t 2] R) (env0 args) H) : ACall Try.prog n_cmp_Or_int args H R :=
  acall_of_wp mixed Try.func128 c_cmp_Or_int (by kernel_rfl) hl h
@[go_sem] def l_impl_clauseOf_1_0 : List GOp := [⟨(some 4), .mv (.c (.int .i64 0)), none⟩]
def impl_clauseOf_1_0 : IR := .ops l_impl_clauseOf_1_0
@[go_sem] theorem w_impl_clauseOf_1_0 : wp P impl_clauseOf_1_0 Q e H = wpL P l_impl_clauseOf_1_0 (Q .normal) e H := idE rfl
@[go_sem] def l_impl_clauseOf_1_1 : List GOp := [⟨(some 5), .mv (.t 0), none⟩,
    ⟨(some 6), .call (n_impl_atomOf) [(.t 5)], none⟩,
    ⟨(some 7), .mv (.t 1), none⟩,
    ⟨(some 8), .call (n_impl_atomOf) [(.t 7)], none⟩,
    ⟨(some 9), .call (n_cmp_Compare_int) [(.t 6), (.t 8)], none⟩,
    ⟨(some 10), .mv (.t 0), none⟩,
    ⟨(some 11), .mv (.t 1), none⟩,
    ⟨(some 12), .call (n_cmp_Compare_int) [(.t 10), (.t 11)], none⟩,
    ⟨(some 13), .bslc 1 2 [(.int .i64 0)] [(0, (.t 9)), (1, (.t 12))], none⟩,
    ⟨(some 14), .call (n_cmp_Or_int) [(.t 13)], none⟩,
    ⟨(some 4), .mv (.t 14), none⟩]
def impl_clauseOf_1_1 : IR := .ops l_impl_clauseOf_1_1
@[go_sem] theorem w_impl_clauseOf_1_1 : wp P impl_clauseOf_1_1 Q e H = wpL P l_impl_clauseOf_1_1 (Q .normal) e H := idE rfl
def F_impl_clauseOf_1 : IFn := ⟨2, 15, [.t 4], (.seq impl_clauseOf_1_0 (.seq impl_clauseOf_1_1 .ret))⟩
theorem c_impl_clauseOf_1 : compFn Try.prog [(0, [], []), (1, [], [])] Try.f127 = some F_impl_clauseOf_1 := by kernel_rfl
theorem a_impl_clauseOf_1 (hl : args.length = 2) (h : wp Try.prog (.seq impl_clauseOf_1_0 (.seq impl_clauseOf_1_1 .ret)) (postQ [.t 4] R) (env0 args) H) : ACall Try.prog n_impl_clauseOf_1 args H R :=
  acall_of_wp mixed Try.func127 c_impl_clauseOf_1 (by kernel_rfl) hl h
@[go_sem] def l_slices_Compact_Sint_int_0 : List GOp := [⟨(some 2), .mv (.c (.sl none 0 0 true 0)), none⟩]
def slices_Compact_Sint_int_0 : IR := .ops l_slices_Compact_Sint_int_0
@[go_sem] theorem w_slices_Compact_Sint_int_0 : wp P slices_Compact_Sint_int_0 Q e H = wpL P l_slices_Compact_Sint_int_0 (Q .normal) e H := idE rfl
@[go_sem] def l_slices_Compact_Sint_int_1 : List GOp := [⟨(some 6), .mv (.t 0), none⟩,
    ⟨(some 7), .len (.t 6), none⟩,
    ⟨(some 8), .bin .lss (.t 7) (.c (.int .i64 2)), none⟩]
def slices_Compact_Sint_int_1 : IR := .ops l_slices_Compact_Sint_int_1
@[go_sem] theorem w_slices_Compact_Sint_int_1 : wp P slices_Compact_Sint_int_1 Q e H = wpL P l_slices_Compact_Sint_int_1 (Q .normal) e H := idE rfl
@[go_sem] def l_slices_Compact_Sint_int_2 : List GOp := [⟨(some 9), .mv (.t 0), none⟩,
    ⟨(some 2), .mv (.t 9), none⟩]
def slices_Compact_Sint_int_2 : IR := .ops l_slices_Compact_Sint_int_2
@[go_sem] theorem w_slices_Compact_Sint_int_2 : wp P slices_Compact_Sint_int_2 Q e H = wpL P l_slices_Compact_Sint_int_2 (Q .normal) e H := idE rfl
def slices_Compact_Sint_int_3 : IR := .cond (.t 8) (.seq slices_Compact_Sint_int_2 .ret) .skip
@[go_sem] theorem w_slices_Compact_Sint_int_3 : wp P slices_Compact_Sint_int_3 Q e H = condW P ((.t 8) : X) (.seq slices_Compact_Sint_int_2 .ret) .skip Q e H := idE rfl
@[go_sem] def l_slices_Compact_Sint_int_4 : List GOp := [⟨(some 3), .mv (.c (.int .i64 1)), none⟩]
def slices_Compact_Sint_int_4 : IR := .ops l_slices_Compact_Sint_int_4
@[go_sem] theorem w_slices_Compact_Sint_int_4 : wp P slices_Compact_Sint_int_4 Q e H = wpL P l_slices_Compact_Sint_int_4 (Q .normal) e H := idE rfl
@[go_sem] def l_slices_Compact_Sint_int_5 : List GOp := [⟨(some 10), .mv (.t 3), none⟩,
    ⟨(some 11), .mv (.t 0), none⟩,
    ⟨(some 12), .len (.t 11), none⟩,
    ⟨(some 13), .bin .lss (.t 10) (.t 12), none⟩]
def slices_Compact_Sint_int_5 : IR := .ops l_slices_Compact_Sint_int_5
@[go_sem] theorem w_slices_Compact_Sint_int_5 : wp P slices_Compact_Sint_int_5 Q e H = wpL P l_slices_Compact_Sint_int_5 (Q .normal) e H := idE rfl
def slices_Compact_Sint_int_6 : IR := .cond (.t 13) .skip (.exit 0)
@[go_sem] theorem w_slices_Compact_Sint_int_6 : wp P slices_Compact_Sint_int_6 Q e H = condW P ((.t 13) : X) .skip (.exit 0) Q e H := idE rfl
def l_slices_Compact_Sint_int_7 : List GOp := [⟨(some 16), .mv (.t 0), none⟩,
    ⟨(some 17), .mv (.t 3), none⟩,
    ⟨(some 18), .iaddr (.t 16) (.t 17) 1, none⟩,
    ⟨(some 19), .load (.t 18) 1 false, none⟩,
    ⟨(some 20), .mv (.t 0), none⟩,
    ⟨(some 21), .mv (.t 3), none⟩,
    ⟨(some 22), .bin .sub (.t 21) (.c (.int .i64 1)), none⟩,
    ⟨(some 23), .iaddr (.t 20) (.t 22) 1, none⟩,
    ⟨(some 24), .load (.t 23) 1 false, none⟩,
    ⟨(some 25), .bin .eql (.t 19) (.t 24), none⟩]
@[go_sem] theorem g_slices_Compact_Sint_int_7_0 : gAt l_slices_Compact_Sint_int_7 0 = ⟨(some 16), .mv (.t 0), none⟩ := idE rfl
@[go_sem] theorem g_slices_Compact_Sint_int_7_1 : gAt l_slices_Compact_Sint_int_7 1 = ⟨(some 17), .mv (.t 3), none⟩ := idE rfl
@[go_sem] theorem g_slices_Compact_Sint_int_7_2 : gAt l_slices_Compact_Sint_int_7 2 = ⟨(some 18), .iaddr (.t 16) (.t 17) 1, none⟩ := idE rfl
@[go_sem] theorem g_slices_Compact_Sint_int_7_3 : gAt l_slices_Compact_Sint_int_7 3 = ⟨(some 19), .load (.t 18) 1 false, none⟩ := idE rfl
@[go_sem] theorem g_slices_Compact_Sint_int_7_4 : gAt l_slices_Compact_Sint_int_7 4 = ⟨(some 20), .mv (.t 0), none⟩ := idE rfl
@[go_sem] theorem g_slices_Compact_Sint_int_7_5 : gAt l_slices_Compact_Sint_int_7 5 = ⟨(some 21), .mv (.t 3), none⟩ := idE rfl
@[go_sem] theorem g_slices_Compact_Sint_int_7_6 : gAt l_slices_Compact_Sint_int_7 6 = ⟨(some 22), .bin .sub (.t 21) (.c (.int .i64 1)), none⟩ := idE rfl
@[go_sem] theorem g_slices_Compact_Sint_int_7_7 : gAt l_slices_Compact_Sint_int_7 7 = ⟨(some 23), .iaddr (.t 20) (.t 22) 1, none⟩ := idE rfl
@[go_sem] theorem g_slices_Compact_Sint_int_7_8 : gAt l_slices_Compact_Sint_int_7 8 = ⟨(some 24), .load (.t 23) 1 false, none⟩ := idE rfl
@[go_sem] theorem g_slices_Compact_Sint_int_7_9 : gAt l_slices_Compact_Sint_int_7 9 = ⟨(some 25), .bin .eql (.t 19) (.t 24), none⟩ := idE rfl
def slices_Compact_Sint_int_7 : IR := .dops l_slices_Compact_Sint_int_7 [(0, []), (1, []), (2, []), (3, []), (4, []), (5, []), (6, []), (7, []), (8, []), (9, [])]
@[go_sem] theorem w_slices_Compact_Sint_int_7 : wp P slices_Compact_Sint_int_7 Q e H = wpD P l_slices_Compact_Sint_int_7 [(0, []), (1, []), (2, []), (3, []), (4, []), (5, []), (6, []), (7, []), (8, []), (9, [])] (Q .normal) e H := idE rfl
@[go_sem] def l_slices_Compact_Sint_int_8 : List GOp := [⟨(some 26), .mv (.t 0), none⟩,
    ⟨(some 27), .mv (.t 3), none⟩,
    ⟨(some 28), .slc 1 (.t 26) (some (.t 27)) none none, none⟩,
    ⟨(some 4), .mv (.t 28), none⟩]
def slices_Compact_Sint_int_8 : IR := .ops l_slices_Compact_Sint_int_8
@[go_sem] theorem w_slices_Compact_Sint_int_8 : wp P slices_Compact_Sint_int_8 Q e H = wpL P l_slices_Compact_Sint_int_8 (Q .normal) e H := idE rfl
@[go_sem] def l_slices_Compact_Sint_int_9 : List GOp := [⟨(some 5), .mv (.c (.int .i64 1)), none⟩]
def slices_Compact_Sint_int_9 : IR := .ops l_slices_Compact_Sint_int_9
@[go_sem] theorem w_slices_Compact_Sint_int_9 : wp P slices_Compact_Sint_int_9 Q e H = wpL P l_slices_Compact_Sint_int_9 (Q .normal) e H := idE rfl
@[go_sem] def l_slices_Compact_Sint_int_10 : List GOp := [⟨(some 29), .mv (.t 5), none⟩,
    ⟨(some 30), .mv (.t 4), none⟩,
    ⟨(some 31), .len (.t 30), none⟩,
    ⟨(some 32), .bin .lss (.t 29) (.t 31), none⟩]
def slices_Compact_Sint_int_10 : IR := .ops l_slices_Compact_Sint_int_10
@[go_sem] theorem w_slices_Compact_Sint_int_10 : wp P slices_Compact_Sint_int_10 Q e H = wpL P l_slices_Compact_Sint_int_10 (Q .normal) e H := idE rfl
def slices_Compact_Sint_int_11 : IR := .cond (.t 32) .skip (.exit 2)
@[go_sem] theorem w_slices_Compact_Sint_int_11 : wp P slices_Compact_Sint_int_11 Q e H = condW P ((.t 32) : X) .skip (.exit 2) Q e H := idE rfl
def l_slices_Compact_Sint_int_12 : List GOp := [⟨(some 35), .mv (.t 4), none⟩,
    ⟨(some 36), .mv (.t 5), none⟩,
    ⟨(some 37), .iaddr (.t 35) (.t 36) 1, none⟩,
    ⟨(some 38), .load (.t 37) 1 false, none⟩,
    ⟨(some 39), .mv (.t 4), none⟩,
    ⟨(some 40), .mv (.t 5), none⟩,
    ⟨(some 41), .bin .sub (.t 40) (.c (.int .i64 1)), none⟩,
    ⟨(some 42), .iaddr (.t 39) (.t 41) 1, none⟩,
    ⟨(some 43), .load (.t 42) 1 false, none⟩,
    ⟨(some 44), .bin .neq (.t 38) (.t 43), none⟩]
@[go_sem] theorem g_slices_Compact_Sint_int_12_0 : gAt l_slices_Compact_Sint_int_12 0 = ⟨(some 35), .mv (.t 4), none⟩ := idE rfl
@[go_sem] theorem g_slices_Compact_Sint_int_12_1 : gAt l_slices_Compact_Sint_int_12 1 = ⟨(some 36), .mv (.t 5), none⟩ := idE rfl
@[go_sem] theorem g_slices_Compact_Sint_int_12_2 : gAt l_slices_Compact_Sint_int_12 2 = ⟨(some 37), .iaddr (.t 35) (.t 36) 1, none⟩ := idE rfl
@[go_sem] theorem g_slices_Compact_Sint_int_12_3 : gAt l_slices_Compact_Sint_int_12 3 = ⟨(some 38), .load (.t 37) 1 false, none⟩ := idE rfl
@[go_sem] theorem g_slices_Compact_Sint_int_12_4 : gAt l_slices_Compact_Sint_int_12 4 = ⟨(some 39), .mv (.t 4), none⟩ := idE rfl
@[go_sem] theorem g_slices_Compact_Sint_int_12_5 : gAt l_slices_Compact_Sint_int_12 5 = ⟨(some 40), .mv (.t 5), none⟩ := idE rfl
@[go_sem] theorem g_slices_Compact_Sint_int_12_6 : gAt l_slices_Compact_Sint_int_12 6 = ⟨(some 41), .bin .sub (.t 40) (.c (.int .i64 1)), none⟩ := idE rfl
@[go_sem] theorem g_slices_Compact_Sint_int_12_7 : gAt l_slices_Compact_Sint_int_12 7 = ⟨(some 42), .iaddr (.t 39) (.t 41) 1, none⟩ := idE rfl
@[go_sem] theorem g_slices_Compact_Sint_int_12_8 : gAt l_slices_Compact_Sint_int_12 8 = ⟨(some 43), .load (.t 42) 1 false, none⟩ := idE rfl
@[go_sem] theorem g_slices_Compact_Sint_int_12_9 : gAt l_slices_Compact_Sint_int_12 9 = ⟨(some 44), .bin .neq (.t 38) (.t 43), none⟩ := idE rfl
def slices_Compact_Sint_int_12 : IR := .dops l_slices_Compact_Sint_int_12 [(0, []), (1, []), (2, []), (3, []), (4, []), (5, []), (6, []), (7, []), (8, []), (9, [])]
@[go_sem] theorem w_slices_Compact_Sint_int_12 : wp P slices_Compact_Sint_int_12 Q e H = wpD P l_slices_Compact_Sint_int_12 [(0, []), (1, []), (2, []), (3, []), (4, []), (5, []), (6, []), (7, []), (8, []), (9, [])] (Q .normal) e H := idE rfl
@[go_sem] def l_slices_Compact_Sint_int_13 : List GOp := [⟨(some 45), .mv (.t 0), none⟩,
    ⟨(some 46), .mv (.t 3), none⟩,
    ⟨(some 47), .mv (.t 4), none⟩,
    ⟨(some 48), .mv (.t 5), none⟩,
    ⟨(some 49), .iaddr (.t 47) (.t 48) 1, none⟩,
    ⟨(some 50), .load (.t 49) 1 false, none⟩,
    ⟨(some 51), .iaddr (.t 45) (.t 46) 1, none⟩,
    ⟨none, .store (.t 51) 1 (.t 50), none⟩]
def slices_Compact_Sint_int_13 : IR := .ops l_slices_Compact_Sint_int_13
@[go_sem] theorem w_slices_Compact_Sint_int_13 : wp P slices_Compact_Sint_int_13 Q e H = wpL P l_slices_Compact_Sint_int_13 (Q .normal) e H := idE rfl
@[go_sem] def l_slices_Compact_Sint_int_14 : List GOp := [⟨(some 52), .mv (.t 3), none⟩,
    ⟨(some 53), .bin .add (.t 52) (.c (.int .i64 1)), none⟩,
    ⟨(some 3), .mv (.t 53), none⟩]
def slices_Compact_Sint_int_14 : IR := .ops l_slices_Compact_Sint_int_14
@[go_sem] theorem w_slices_Compact_Sint_int_14 : wp P slices_Compact_Sint_int_14 Q e H = wpL P l_slices_Compact_Sint_int_14 (Q .normal) e H := idE rfl
def slices_Compact_Sint_int_15 : IR := .cond (.t 44) (.seq slices_Compact_Sint_int_13 slices_Compact_Sint_int_14) .skip
@[go_sem] theorem w_slices_Compact_Sint_int_15 : wp P slices_Compact_Sint_int_15 Q e H = condW P ((.t 44) : X) (.seq slices_Compact_Sint_int_13 slices_Compact_Sint_int_14) .skip Q e H := idE rfl
def slices_Compact_Sint_int_16 : IR := .block 3 (.seq slices_Compact_Sint_int_12 slices_Compact_Sint_int_15)
@[go_sem] theorem w_slices_Compact_Sint_int_16 : wp P slices_Compact_Sint_int_16 Q e H = wp P (.seq slices_Compact_Sint_int_12 slices_Compact_Sint_int_15) (blockQ 3 Q) e H := idE rfl
@[go_sem] def l_slices_Compact_Sint_int_17 : List GOp := [⟨(some 33), .mv (.t 5), none⟩,
    ⟨(some 34), .bin .add (.t 33) (.c (.int .i64 1)), none⟩,
    ⟨(some 5), .mv (.t 34), none⟩]
def slices_Compact_Sint_int_17 : IR := .ops l_slices_Compact_Sint_int_17
@[go_sem] theorem w_slices_Compact_Sint_int_17 : wp P slices_Compact_Sint_int_17 Q e H = wpL P l_slices_Compact_Sint_int_17 (Q .normal) e H := idE rfl
def slices_Compact_Sint_int_18 : IR := .loop (.seq (.seq slices_Compact_Sint_int_10 slices_Compact_Sint_int_11) (.seq slices_Compact_Sint_int_16 slices_Compact_Sint_int_17))
def slices_Compact_Sint_int_19 : IR := .block 2 slices_Compact_Sint_int_18
@[go_sem] theorem w_slices_Compact_Sint_int_19 : wp P slices_Compact_Sint_int_19 Q e H = wp P slices_Compact_Sint_int_18 (blockQ 2 Q) e H := idE rfl
@[go_sem] def l_slices_Compact_Sint_int_20 : List GOp := [⟨(some 54), .mv (.t 0), none⟩,
    ⟨(some 55), .mv (.t 3), none⟩,
    ⟨(some 56), .slc 1 (.t 54) (some (.t 55)) none none, none⟩,
    ⟨none, .clear [(.int .i64 0)] (.t 56), none⟩]
def slices_Compact_Sint_int_20 : IR := .ops l_slices_Compact_Sint_int_20
@[go_sem] theorem w_slices_Compact_Sint_int_20 : wp P slices_Compact_Sint_int_20 Q e H = wpL P l_slices_Compact_Sint_int_20 (Q .normal) e H := idE rfl
@[go_sem] def l_slices_Compact_Sint_int_21 : List GOp := [⟨(some 57), .mv (.t 0), none⟩,
    ⟨(some 58), .mv (.t 3), none⟩,
    ⟨(some 59), .slc 1 (.t 57) none (some (.t 58)) none, none⟩,
    ⟨(some 2), .mv (.t 59), none⟩]
def slices_Compact_Sint_int_21 : IR := .ops l_slices_Compact_Sint_int_21
@[go_sem] theorem w_slices_Compact_Sint_int_21 : wp P slices_Compact_Sint_int_21 Q e H = wpL P l_slices_Compact_Sint_int_21 (Q .normal) e H := idE rfl
def slices_Compact_Sint_int_22 : IR := .cond (.t 25) (.seq slices_Compact_Sint_int_8 (.seq (.seq slices_Compact_Sint_int_9 slices_Compact_Sint_int_19) (.seq slices_Compact_Sint_int_20 (.seq slices_Compact_Sint_int_21 .ret)))) .skip
@[go_sem] theorem w_slices_Compact_Sint_int_22 : wp P slices_Compact_Sint_int_22 Q e H = condW P ((.t 25) : X) (.seq slices_Compact_Sint_int_8 (.seq (.seq slices_Compact_Sint_int_9 slices_Compact_Sint_int_19) (.seq slices_Compact_Sint_int_20 (.seq slices_Compact_Sint_int_21 .ret)))) .skip Q e H := idE rfl
def slices_Compact_Sint_int_23 : IR := .block 1 (.seq slices_Compact_Sint_int_7 slices_Compact_Sint_int_22)
@[go_sem] theorem w_slices_Compact_Sint_int_23 : wp P slices_Compact_Sint_int_23 Q e H = wp P (.seq slices_Compact_Sint_int_7 slices_Compact_Sint_int_22) (blockQ 1 Q) e H := idE rfl
@[go_sem] def l_slices_Compact_Sint_int_24 : List GOp := [⟨(some 14), .mv (.t 3), none⟩,
    ⟨(some 15), .bin .add (.t 14) (.c (.int .i64 1)), none⟩,
    ⟨(some 3), .mv (.t 15), none⟩]
def slices_Compact_Sint_int_24 : IR := .ops l_slices_Compact_Sint_int_24
@[go_sem] theorem w_slices_Compact_Sint_int_24 : wp P slices_Compact_Sint_int_24 Q e H = wpL P l_slices_Compact_Sint_int_24 (Q .normal) e H := idE rfl
def slices_Compact_Sint_int_25 : IR := .loop (.seq (.seq slices_Compact_Sint_int_5 slices_Compact_Sint_int_6) (.seq slices_Compact_Sint_int_23 slices_Compact_Sint_int_24))
def slices_Compact_Sint_int_26 : IR := .block 0 slices_Compact_Sint_int_25
@[go_sem] theorem w_slices_Compact_Sint_int_26 : wp P slices_Compact_Sint_int_26 Q e H = wp P slices_Compact_Sint_int_25 (blockQ 0 Q) e H := idE rfl
@[go_sem] def l_slices_Compact_Sint_int_27 : List GOp := [⟨(some 60), .mv (.t 0), none⟩,
    ⟨(some 2), .mv (.t 60), none⟩]
def slices_Compact_Sint_int_27 : IR := .ops l_slices_Compact_Sint_int_27
@[go_sem] theorem w_slices_Compact_Sint_int_27 : wp P slices_Compact_Sint_int_27 Q e H = wpL P l_slices_Compact_Sint_int_27 (Q .normal) e H := idE rfl
def F_slices_Compact_Sint_int : IFn := ⟨1, 61, [.t 2], (.seq slices_Compact_Sint_int_0 (.seq (.seq slices_Compact_Sint_int_1 slices_Compact_Sint_int_3) (.seq (.seq slices_Compact_Sint_int_4 slices_Compact_Sint_int_26) (.seq slices_Compact_Sint_int_27 .ret))))⟩
theorem c_slices_Compact_Sint_int : compFn Try.prog [(0, [], []), (1, [], []), (2, [], []), (3, [], []), (4, [], []), (6, [(0, []), (1, []), (2, []), (3, []), (4, []), (5, []), (6, []), (7, []), (8, []), (9, [])], []), (7, [], []), (8, [], []), (9, [], []), (11, [(0, []), (1, []), (2, []), (3, []), (4, []), (5, []), (6, []), (7, []), (8, []), (9, [])], []), (12, [], []), (13, [], []), (10, [], []), (14, [], []), (15, [], []), (5, [], []), (16, [], [])] Try.f130 = some F_slices_Compact_Sint_int := by kernel_rfl
theorem a_slices_Compact_Sint_int (hl : args.length = 1) (h : wp Try.prog (.seq slices_Compact_Sint_int_0 (.seq (.seq slices_Compact_Sint_int_1 slices_Compact_Sint_int_3) (.seq (.seq slices_Compact_Sint_int_4 slices_Compact_Sint_int_26) (.seq slices_Compact_Sint_int_27 .ret)))) (postQ [.t 2] R) (env0 args) H) : ACall Try.prog n_slices_Compact_Sint_int args H R :=
  acall_of_wp mixed Try.func130 c_slices_Compact_Sint_int (by kernel_rfl) hl h
@[go_sem] def l_impl_clone_int_0 : List GOp := [⟨(some 2), .mv (.c (.sl none 0 0 true 0)), none⟩]
def impl_clone_int_0 : IR := .ops l_impl_clone_int_0
@[go_sem] theorem w_impl_clone_int_0 : wp P impl_clone_int_0 Q e H = wpL P l_impl_clone_int_0 (Q .normal) e H := idE rfl
@[go_sem] def l_impl_clone_int_1 : List GOp := [⟨(some 4), .mv (.t 0), none⟩,
    ⟨(some 5), .len (.t 4), none⟩,
    ⟨(some 6), .bin .eql (.t 5) (.c (.int .i64 0)), none⟩]
def impl_clone_int_1 : IR := .ops l_impl_clone_int_1
@[go_sem] theorem w_impl_clone_int_1 : wp P impl_clone_int_1 Q e H = wpL P l_impl_clone_int_1 (Q .normal) e H := idE rfl
@[go_sem] def l_impl_clone_int_2 : List GOp := [⟨(some 2), .mv (.c (.sl none 0 0 true 0)), none⟩]
def impl_clone_int_2 : IR := .ops l_impl_clone_int_2
@[go_sem] theorem w_impl_clone_int_2 : wp P impl_clone_int_2 Q e H = wpL P l_impl_clone_int_2 (Q .normal) e H := idE rfl
def impl_clone_int_3 : IR := .cond (.t 6) (.seq impl_clone_int_2 .ret) .skip
@[go_sem] theorem w_impl_clone_int_3 : wp P impl_clone_int_3 Q e H = condW P ((.t 6) : X) (.seq impl_clone_int_2 .ret) .skip Q e H := idE rfl
@[go_sem] def l_impl_clone_int_4 : List GOp := [⟨(some 7), .mv (.t 0), none⟩,
    ⟨(some 8), .len (.t 7), none⟩,
    ⟨(some 9), .mks [(.int .i64 0)] 8 (.t 8), none⟩,
    ⟨(some 3), .mv (.t 9), none⟩]
def impl_clone_int_4 : IR := .ops l_impl_clone_int_4
@[go_sem] theorem w_impl_clone_int_4 : wp P impl_clone_int_4 Q e H = wpL P l_impl_clone_int_4 (Q .normal) e H := idE rfl
@[go_sem] def l_impl_clone_int_5 : List GOp := [⟨(some 10), .mv (.t 3), none⟩,
    ⟨(some 11), .mv (.t 0), none⟩,
    ⟨(some 12), .copy 1 (.t 10) (.t 11), none⟩]
def impl_clone_int_5 : IR := .ops l_impl_clone_int_5
@[go_sem] theorem w_impl_clone_int_5 : wp P impl_clone_int_5 Q e H = wpL P l_impl_clone_int_5 (Q .normal) e H := idE rfl
@[go_sem] def l_impl_clone_int_6 : List GOp := [⟨(some 13), .mv (.t 3), none⟩,
    ⟨(some 2), .mv (.t 13), none⟩]
def impl_clone_int_6 : IR := .ops l_impl_clone_int_6
@[go_sem] theorem w_impl_clone_int_6 : wp P impl_clone_int_6 Q e H = wpL P l_impl_clone_int_6 (Q .normal) e H := idE rfl
def F_impl_clone_int : IFn := ⟨1, 14, [.t 2], (.seq impl_clone_int_0 (.seq (.seq impl_clone_int_1 impl_clone_int_3) (.seq impl_clone_int_4 (.seq impl_clone_int_5 (.seq impl_clone_int_6 .ret)))))⟩
theorem c_impl_clone_int : compFn Try.prog [(0, [], []), (1, [], []), (2, [], []), (3, [], []), (4, [], []), (5, [], [])] Try.f74 = some F_impl_clone_int := by kernel_rfl
theorem a_impl_clone_int (hl : args.length = 1) (h : wp Try.prog (.seq impl_clone_int_0 (.seq (.seq impl_clone_int_1 impl_clone_int_3) (.seq impl_clone_int_4 (.seq impl_clone_int_5 (.seq impl_clone_int_6 .ret))))) (postQ [.t 2] R) (env0 args) H) : ACall Try.prog n_impl_clone_int args H R :=
  acall_of_wp mixed Try.func74 c_impl_clone_int (by kernel_rfl) hl h
@[go_sem] def l_impl_clauseOf_0 : List GOp := [⟨(some 2), .mv (.c (.sl none 0 0 true 0)), none⟩,
    ⟨(some 3), .mv (.c (.bool false)), none⟩]
def impl_clauseOf_0 : IR := .ops l_impl_clauseOf_0
@[go_sem] theorem w_impl_clauseOf_0 : wp P impl_clauseOf_0 Q e H = wpL P l_impl_clauseOf_0 (Q .normal) e H := idE rfl
@[go_sem] def l_impl_clauseOf_1 : List GOp := [⟨(some 6), .mv (.t 0), none⟩,
    ⟨(some 7), .call (n_slices_Clone_Sint_int) [(.t 6)], none⟩,
    ⟨(some 4), .mv (.t 7), none⟩]
def impl_clauseOf_1 : IR := .ops l_impl_clauseOf_1
@[go_sem] theorem w_impl_clauseOf_1 : wp P impl_clauseOf_1 Q e H = wpL P l_impl_clauseOf_1 (Q .normal) e H := idE rfl
@[go_sem] def l_impl_clauseOf_2 : List GOp := [⟨(some 8), .mv (.t 4), none⟩,
    ⟨(some 9), .call (n_slices_SortFunc_Sint_int) [(.t 8), (.c (.fn (n_impl_clauseOf_1) []))], none⟩]
def impl_clauseOf_2 : IR := .ops l_impl_clauseOf_2
@[go_sem] theorem w_impl_clauseOf_2 : wp P impl_clauseOf_2 Q e H = wpL P l_impl_clauseOf_2 (Q .normal) e H := idE rfl
@[go_sem] def l_impl_clauseOf_3 : List GOp := [⟨(some 10), .mv (.t 4), none⟩,
    ⟨(some 11), .call (n_slices_Compact_Sint_int) [(.t 10)], none⟩,
    ⟨(some 4), .mv (.t 11), none⟩]
def impl_clauseOf_3 : IR := .ops l_impl_clauseOf_3
@[go_sem] theorem w_impl_clauseOf_3 : wp P impl_clauseOf_3 Q e H = wpL P l_impl_clauseOf_3 (Q .normal) e H := idE rfl
@[go_sem] def l_impl_clauseOf_4 : List GOp := [⟨(some 5), .mv (.c (.int .i64 1)), none⟩]
def impl_clauseOf_4 : IR := .ops l_impl_clauseOf_4
@[go_sem] theorem w_impl_clauseOf_4 : wp P impl_clauseOf_4 Q e H = wpL P l_impl_clauseOf_4 (Q .normal) e H := idE rfl
@[go_sem] def l_impl_clauseOf_5 : List GOp := [⟨(some 12), .mv (.t 5), none⟩,
    ⟨(some 13), .mv (.t 4), none⟩,
    ⟨(some 14), .len (.t 13), none⟩,
    ⟨(some 15), .bin .lss (.t 12) (.t 14), none⟩]
def impl_clauseOf_5 : IR := .ops l_impl_clauseOf_5
@[go_sem] theorem w_impl_clauseOf_5 : wp P impl_clauseOf_5 Q e H = wpL P l_impl_clauseOf_5 (Q .normal) e H := idE rfl
def impl_clauseOf_6 : IR := .cond (.t 15) .skip (.exit 0)
@[go_sem] theorem w_impl_clauseOf_6 : wp P impl_clauseOf_6 Q e H = condW P ((.t 15) : X) .skip (.exit 0) Q e H := idE rfl
def l_impl_clauseOf_7 : List GOp := [⟨(some 18), .mv (.t 4), none⟩,
    ⟨(some 19), .mv (.t 5), none⟩,
    ⟨(some 20), .iaddr (.t 18) (.t 19) 1, none⟩,
    ⟨(some 21), .load (.t 20) 1 false, none⟩,
    ⟨(some 22), .mv (.t 4), none⟩,
    ⟨(some 23), .mv (.t 5), none⟩,
    ⟨(some 24), .bin .sub (.t 23) (.c (.int .i64 1)), none⟩,
    ⟨(some 25), .iaddr (.t 22) (.t 24) 1, none⟩,
    ⟨(some 26), .load (.t 25) 1 false, none⟩,
    ⟨(some 27), .un .neg (.t 26), none⟩,
    ⟨(some 28), .bin .eql (.t 21) (.t 27), none⟩]
@[go_sem] theorem g_impl_clauseOf_7_0 : gAt l_impl_clauseOf_7 0 = ⟨(some 18), .mv (.t 4), none⟩ := idE rfl
@[go_sem] theorem g_impl_clauseOf_7_1 : gAt l_impl_clauseOf_7 1 = ⟨(some 19), .mv (.t 5), none⟩ := idE rfl
@[go_sem] theorem g_impl_clauseOf_7_2 : gAt l_impl_clauseOf_7 2 = ⟨(some 20), .iaddr (.t 18) (.t 19) 1, none⟩ := idE rfl
@[go_sem] theorem g_impl_clauseOf_7_3 : gAt l_impl_clauseOf_7 3 = ⟨(some 21), .load (.t 20) 1 false, none⟩ := idE rfl
@[go_sem] theorem g_impl_clauseOf_7_4 : gAt l_impl_clauseOf_7 4 = ⟨(some 22), .mv (.t 4), none⟩ := idE rfl
@[go_sem] theorem g_impl_clauseOf_7_5 : gAt l_impl_clauseOf_7 5 = ⟨(some 23), .mv (.t 5), none⟩ := idE rfl
@[go_sem] theorem g_impl_clauseOf_7_6 : gAt l_impl_clauseOf_7 6 = ⟨(some 24), .bin .sub (.t 23) (.c (.int .i64 1)), none⟩ := idE rfl
@[go_sem] theorem g_impl_clauseOf_7_7 : gAt l_impl_clauseOf_7 7 = ⟨(some 25), .iaddr (.t 22) (.t 24) 1, none⟩ := idE rfl
@[go_sem] theorem g_impl_clauseOf_7_8 : gAt l_impl_clauseOf_7 8 = ⟨(some 26), .load (.t 25) 1 false, none⟩ := idE rfl
@[go_sem] theorem g_impl_clauseOf_7_9 : gAt l_impl_clauseOf_7 9 = ⟨(some 27), .un .neg (.t 26), none⟩ := idE rfl
@[go_sem] theorem g_impl_clauseOf_7_10 : gAt l_impl_clauseOf_7 10 = ⟨(some 28), .bin .eql (.t 21) (.t 27), none⟩ := idE rfl
def impl_clauseOf_7 : IR := .dops l_impl_clauseOf_7 [(0, []), (1, []), (2, []), (3, []), (4, []), (5, []), (6, []), (7, []), (8, []), (9, []), (10, [])]
@[go_sem] theorem w_impl_clauseOf_7 : wp P impl_clauseOf_7 Q e H = wpD P l_impl_clauseOf_7 [(0, []), (1, []), (2, []), (3, []), (4, []), (5, []), (6, []), (7, []), (8, []), (9, []), (10, [])] (Q .normal) e H := idE rfl
@[go_sem] def l_impl_clauseOf_8 : List GOp := [⟨(some 2), .mv (.c (.sl none 0 0 true 0)), none⟩,
    ⟨(some 3), .mv (.c (.bool false)), none⟩]
def impl_clauseOf_8 : IR := .ops l_impl_clauseOf_8
@[go_sem] theorem w_impl_clauseOf_8 : wp P impl_clauseOf_8 Q e H = wpL P l_impl_clauseOf_8 (Q .normal) e H := idE rfl
def impl_clauseOf_9 : IR := .cond (.t 28) (.seq impl_clauseOf_8 .ret) .skip
@[go_sem] theorem w_impl_clauseOf_9 : wp P impl_clauseOf_9 Q e H = condW P ((.t 28) : X) (.seq impl_clauseOf_8 .ret) .skip Q e H := idE rfl
def impl_clauseOf_10 : IR := .block 1 (.seq impl_clauseOf_7 impl_clauseOf_9)
@[go_sem] theorem w_impl_clauseOf_10 : wp P impl_clauseOf_10 Q e H = wp P (.seq impl_clauseOf_7 impl_clauseOf_9) (blockQ 1 Q) e H := idE rfl
@[go_sem] def l_impl_clauseOf_11 : List GOp := [⟨(some 16), .mv (.t 5), none⟩,
    ⟨(some 17), .bin .add (.t 16) (.c (.int .i64 1)), none⟩,
    ⟨(some 5), .mv (.t 17), none⟩]
def impl_clauseOf_11 : IR := .ops l_impl_clauseOf_11
@[go_sem] theorem w_impl_clauseOf_11 : wp P impl_clauseOf_11 Q e H = wpL P l_impl_clauseOf_11 (Q .normal) e H := idE rfl
def impl_clauseOf_12 : IR := .loop (.seq (.seq impl_clauseOf_5 impl_clauseOf_6) (.seq impl_clauseOf_10 impl_clauseOf_11))
def impl_clauseOf_13 : IR := .block 0 impl_clauseOf_12
@[go_sem] theorem w_impl_clauseOf_13 : wp P impl_clauseOf_13 Q e H = wp P impl_clauseOf_12 (blockQ 0 Q) e H := idE rfl
@[go_sem] def l_impl_clauseOf_14 : List GOp := [⟨(some 29), .mv (.t 4), none⟩,
    ⟨(some 30), .call (n_impl_clone_int) [(.t 29)], none⟩,
    ⟨(some 2), .mv (.t 30), none⟩,
    ⟨(some 3), .mv (.c (.bool true)), none⟩]
def impl_clauseOf_14 : IR := .ops l_impl_clauseOf_14
@[go_sem] theorem w_impl_clauseOf_14 : wp P impl_clauseOf_14 Q e H = wpL P l_impl_clauseOf_14 (Q .normal) e H := idE rfl
def F_impl_clauseOf : IFn := ⟨1, 31, [.t 2, .t 3], (.seq impl_clauseOf_0 (.seq impl_clauseOf_1 (.seq impl_clauseOf_2 (.seq impl_clauseOf_3 (.seq (.seq impl_clauseOf_4 impl_clauseOf_13) (.seq impl_clauseOf_14 .ret))))))⟩
theorem c_impl_clauseOf : compFn Try.prog [(0, [], []), (1, [], []), (2, [], []), (3, [], []), (4, [], []), (5, [], []), (7, [(0, []), (1, []), (2, []), (3, []), (4, []), (5, []), (6, []), (7, []), (8, []), (9, []), (10, [])], []), (8, [], []), (6, [], []), (9, [], [])] Try.f96 = some F_impl_clauseOf := by kernel_rfl
theorem a_impl_clauseOf (hl : args.length = 1) (h : wp Try.prog (.seq impl_clauseOf_0 (.seq impl_clauseOf_1 (.seq impl_clauseOf_2 (.seq impl_clauseOf_3 (.seq (.seq impl_clauseOf_4 impl_clauseOf_13) (.seq impl_clauseOf_14 .ret)))))) (postQ [.t 2, .t 3] R) (env0 args) H) : ACall Try.prog n_impl_clauseOf args H R :=
  acall_of_wp mixed Try.func96 c_impl_clauseOf (by kernel_rfl) hl h
@[go_sem] def l_impl_hunt_under_0 : List GOp := [⟨(some 4), .mv (.c (.bool false)), none⟩]
def impl_hunt_under_0 : IR := .ops l_impl_hunt_under_0
@[go_sem] theorem w_impl_hunt_under_0 : wp P impl_hunt_under_0 Q e H = wpL P l_impl_hunt_under_0 (Q .normal) e H := idE rfl
@[go_sem] def l_impl_hunt_under_1 : List GOp := [⟨(some 12), .mv (.t 0), none⟩,
    ⟨(some 13), .nilck (.t 12), none⟩,
    ⟨(some 14), .faddr (.t 13) 0, none⟩,
    ⟨(some 15), .faddr (.t 14) 0, none⟩,
    ⟨(some 16), .load (.t 15) 1 false, none⟩,
    ⟨(some 17), .mv (.t 1), none⟩,
    ⟨(some 18), .call (n_impl_signs) [(.t 16), (.t 17)], none⟩,
    ⟨(some 5), .mv (.t 18), none⟩]
def impl_hunt_under_1 : IR := .ops l_impl_hunt_under_1
@[go_sem] theorem w_impl_hunt_under_1 : wp P impl_hunt_under_1 Q e H = wpL P l_impl_hunt_under_1 (Q .normal) e H := idE rfl
@[go_sem] def l_impl_hunt_under_2 : List GOp := [⟨(some 6), .mv (.c (.int .i64 0)), none⟩]
def impl_hunt_under_2 : IR := .ops l_impl_hunt_under_2
@[go_sem] theorem w_impl_hunt_under_2 : wp P impl_hunt_under_2 Q e H = wpL P l_impl_hunt_under_2 (Q .normal) e H := idE rfl
@[go_sem] def l_impl_hunt_under_3 : List GOp := [⟨(some 19), .mv (.t 0), none⟩,
    ⟨(some 20), .nilck (.t 19), none⟩,
    ⟨(some 21), .faddr (.t 20) 0, none⟩,
    ⟨(some 22), .faddr (.t 21) 1, none⟩,
    ⟨(some 23), .load (.t 22) 1 false, none⟩,
    ⟨(some 24), .mv (.t 5), none⟩,
    ⟨(some 25), .call (n_impl_forced) [(.t 23), (.t 24)], none⟩]
def impl_hunt_under_3 : IR := .ops l_impl_hunt_under_3
@[go_sem] theorem w_impl_hunt_under_3 : wp P impl_hunt_under_3 Q e H = wpL P l_impl_hunt_under_3 (Q .normal) e H := idE rfl
@[go_sem] def l_impl_hunt_under_4 : List GOp := [⟨(some 26), .mv (.t 0), none⟩,
    ⟨(some 27), .nilck (.t 26), none⟩,
    ⟨(some 28), .faddr (.t 27) 0, none⟩,
    ⟨(some 29), .faddr (.t 28) 0, none⟩,
    ⟨(some 30), .load (.t 29) 1 false, none⟩,
    ⟨(some 7), .mv (.t 30), none⟩]
def impl_hunt_under_4 : IR := .ops l_impl_hunt_under_4
@[go_sem] theorem w_impl_hunt_under_4 : wp P impl_hunt_under_4 Q e H = wpL P l_impl_hunt_under_4 (Q .normal) e H := idE rfl
@[go_sem] def l_impl_hunt_under_5 : List GOp := [⟨(some 31), .mv (.t 7), none⟩,
    ⟨(some 32), .bin .gtr (.t 31) (.c (.int .i64 0)), none⟩]
def impl_hunt_under_5 : IR := .ops l_impl_hunt_under_5
@[go_sem] theorem w_impl_hunt_under_5 : wp P impl_hunt_under_5 Q e H = wpL P l_impl_hunt_under_5 (Q .normal) e H := idE rfl
def impl_hunt_under_6 : IR := .cond (.t 32) .skip (.exit 0)
@[go_sem] theorem w_impl_hunt_under_6 : wp P impl_hunt_under_6 Q e H = condW P ((.t 32) : X) .skip (.exit 0) Q e H := idE rfl
@[go_sem] def l_impl_hunt_under_7 : List GOp := [⟨(some 35), .mv (.t 5), none⟩,
    ⟨(some 36), .mv (.t 7), none⟩,
    ⟨(some 37), .iaddr (.t 35) (.t 36) 1, none⟩,
    ⟨(some 38), .load (.t 37) 1 false, none⟩,
    ⟨(some 39), .bin .eql (.t 38) (.c (.int .i64 0)), none⟩]
def impl_hunt_under_7 : IR := .ops l_impl_hunt_under_7
@[go_sem] theorem w_impl_hunt_under_7 : wp P impl_hunt_under_7 Q e H = wpL P l_impl_hunt_under_7 (Q .normal) e H := idE rfl
@[go_sem] def l_impl_hunt_under_8 : List GOp := [⟨(some 40), .mv (.t 7), none⟩,
    ⟨(some 6), .mv (.t 40), none⟩]
def impl_hunt_under_8 : IR := .ops l_impl_hunt_under_8
@[go_sem] theorem w_impl_hunt_under_8 : wp P impl_hunt_under_8 Q e H = wpL P l_impl_hunt_under_8 (Q .normal) e H := idE rfl
def impl_hunt_under_9 : IR := .cond (.t 39) impl_hunt_under_8 .skip
@[go_sem] theorem w_impl_hunt_under_9 : wp P impl_hunt_under_9 Q e H = condW P ((.t 39) : X) impl_hunt_under_8 .skip Q e H := idE rfl
def impl_hunt_under_10 : IR := .block 1 (.seq impl_hunt_under_7 impl_hunt_under_9)
@[go_sem] theorem w_impl_hunt_under_10 : wp P impl_hunt_under_10 Q e H = wp P (.seq impl_hunt_under_7 impl_hunt_under_9) (blockQ 1 Q) e H := idE rfl
@[go_sem] def l_impl_hunt_under_11 : List GOp := [⟨(some 33), .mv (.t 7), none⟩,
    ⟨(some 34), .bin .sub (.t 33) (.c (.int .i64 1)), none⟩,
    ⟨(some 7), .mv (.t 34), none⟩]
def impl_hunt_under_11 : IR := .ops l_impl_hunt_under_11
@[go_sem] theorem w_impl_hunt_under_11 : wp P impl_hunt_under_11 Q e H = wpL P l_impl_hunt_under_11 (Q .normal) e H := idE rfl
def impl_hunt_under_12 : IR := .loop (.seq (.seq impl_hunt_under_5 impl_hunt_under_6) (.seq impl_hunt_under_10 impl_hunt_under_11))
def impl_hunt_under_13 : IR := .block 0 impl_hunt_under_12
@[go_sem] theorem w_impl_hunt_under_13 : wp P impl_hunt_under_13 Q e H = wp P impl_hunt_under_12 (blockQ 0 Q) e H := idE rfl
@[go_sem] def l_impl_hunt_under_14 : List GOp := [⟨(some 41), .mv (.t 6), none⟩,
    ⟨(some 42), .bin .eql (.t 41) (.c (.int .i64 0)), none⟩]
def impl_hunt_under_14 : IR := .ops l_impl_hunt_under_14
@[go_sem] theorem w_impl_hunt_under_14 : wp P impl_hunt_under_14 Q e H = wpL P l_impl_hunt_under_14 (Q .normal) e H := idE rfl
@[go_sem] def l_impl_hunt_under_15 : List GOp := [⟨(some 43), .mv (.t 0), none⟩,
    ⟨(some 44), .mv (.t 0), none⟩,
    ⟨(some 45), .nilck (.t 44), none⟩,
    ⟨(some 46), .faddr (.t 45) 0, none⟩,
    ⟨(some 47), .faddr (.t 46) 0, none⟩,
    ⟨(some 48), .load (.t 47) 1 false, none⟩,
    ⟨(some 49), .mks [(.int .i64 0)] 8 (.t 48), none⟩,
    ⟨(some 50), .nilck (.t 43), none⟩,
    ⟨(some 51), .faddr (.t 50) 4, none⟩,
    ⟨none, .store (.t 51) 1 (.t 49), none⟩]
def impl_hunt_under_15 : IR := .ops l_impl_hunt_under_15
@[go_sem] theorem w_impl_hunt_under_15 : wp P impl_hunt_under_15 Q e H = wpL P l_impl_hunt_under_15 (Q .normal) e H := idE rfl
@[go_sem] def l_impl_hunt_under_16 : List GOp := [⟨(some 52), .mv (.t 0), none⟩,
    ⟨(some 53), .nilck (.t 52), none⟩,
    ⟨(some 54), .faddr (.t 53) 4, none⟩,
    ⟨(some 55), .load (.t 54) 1 false, none⟩,
    ⟨(some 56), .len (.t 55), none⟩,
    ⟨(some 57), .mv (.c (.int .i64 0)), none⟩]
def impl_hunt_under_16 : IR := .ops l_impl_hunt_under_16
@[go_sem] theorem w_impl_hunt_under_16 : wp P impl_hunt_under_16 Q e H = wpL P l_impl_hunt_under_16 (Q .normal) e H := idE rfl
@[go_sem] def l_impl_hunt_under_17 : List GOp := [⟨(some 58), .bin .lss (.t 57) (.t 56), none⟩]
def impl_hunt_under_17 : IR := .ops l_impl_hunt_under_17
@[go_sem] theorem w_impl_hunt_under_17 : wp P impl_hunt_under_17 Q e H = wpL P l_impl_hunt_under_17 (Q .normal) e H := idE rfl
def impl_hunt_under_18 : IR := .cond (.t 58) .skip (.exit 2)
@[go_sem] theorem w_impl_hunt_under_18 : wp P impl_hunt_under_18 Q e H = condW P ((.t 58) : X) .skip (.exit 2) Q e H := idE rfl
@[go_sem] def l_impl_hunt_under_19 : List GOp := [⟨(some 59), .mv (.t 57), none⟩,
    ⟨(some 8), .mv (.t 59), none⟩]
def impl_hunt_under_19 : IR := .ops l_impl_hunt_under_19
@[go_sem] theorem w_impl_hunt_under_19 : wp P impl_hunt_under_19 Q e H = wpL P l_impl_hunt_under_19 (Q .normal) e H := idE rfl
def l_impl_hunt_under_20 : List GOp := [⟨(some 60), .mv (.t 0), none⟩,
    ⟨(some 61), .nilck (.t 60), none⟩,
    ⟨(some 62), .faddr (.t 61) 4, none⟩,
    ⟨(some 63), .load (.t 62) 1 false, none⟩,
    ⟨(some 64), .mv (.t 8), none⟩,
    ⟨(some 65), .mv (.t 5), none⟩,
    ⟨(some 66), .mv (.t 8), none⟩,
    ⟨(some 67), .bin .add (.t 66) (.c (.int .i64 1)), none⟩,
    ⟨(some 68), .iaddr (.t 65) (.t 67) 1, none⟩,
    ⟨(some 69), .load (.t 68) 1 false, none⟩,
    ⟨(some 70), .bin .gtr (.t 69) (.c (.int .i64 0)), none⟩,
    ⟨(some 71), .call (n_impl_bit) [(.t 70)], none⟩,
    ⟨(some 72), .iaddr (.t 63) (.t 64) 1, none⟩,
    ⟨none, .store (.t 72) 1 (.t 71), none⟩]
@[go_sem] theorem g_impl_hunt_under_20_0 : gAt l_impl_hunt_under_20 0 = ⟨(some 60), .mv (.t 0), none⟩ := idE rfl
@[go_sem] theorem g_impl_hunt_under_20_1 : gAt l_impl_hunt_under_20 1 = ⟨(some 61), .nilck (.t 60), none⟩ := idE rfl
@[go_sem] theorem g_impl_hunt_under_20_2 : gAt l_impl_hunt_under_20 2 = ⟨(some 62), .faddr (.t 61) 4, none⟩ := idE rfl
@[go_sem] theorem g_impl_hunt_under_20_3 : gAt l_impl_hunt_under_20 3 = ⟨(some 63), .load (.t 62) 1 false, none⟩ := idE rfl
@[go_sem] theorem g_impl_hunt_under_20_4 : gAt l_impl_hunt_under_20 4 = ⟨(some 64), .mv (.t 8), none⟩ := idE rfl
@[go_sem] theorem g_impl_hunt_under_20_5 : gAt l_impl_hunt_under_20 5 = ⟨(some 65), .mv (.t 5), none⟩ := idE rfl
@[go_sem] theorem g_impl_hunt_under_20_6 : gAt l_impl_hunt_under_20 6 = ⟨(some 66), .mv (.t 8), none⟩ := idE rfl
@[go_sem] theorem g_impl_hunt_under_20_7 : gAt l_impl_hunt_under_20 7 = ⟨(some 67), .bin .add (.t 66) (.c (.int .i64 1)), none⟩ := idE rfl
@[go_sem] theorem g_impl_hunt_under_20_8 : gAt l_impl_hunt_under_20 8 = ⟨(some 68), .iaddr (.t 65) (.t 67) 1, none⟩ := idE rfl
@[go_sem] theorem g_impl_hunt_under_20_9 : gAt l_impl_hunt_under_20 9 = ⟨(some 69), .load (.t 68) 1 false, none⟩ := idE rfl
@[go_sem] theorem g_impl_hunt_under_20_10 : gAt l_impl_hunt_under_20 10 = ⟨(some 70), .bin .gtr (.t 69) (.c (.int .i64 0)), none⟩ := idE rfl
@[go_sem] theorem g_impl_hunt_under_20_11 : gAt l_impl_hunt_under_20 11 = ⟨(some 71), .call (n_impl_bit) [(.t 70)], none⟩ := idE rfl
@[go_sem] theorem g_impl_hunt_under_20_12 : gAt l_impl_hunt_under_20 12 = ⟨(some 72), .iaddr (.t 63) (.t 64) 1, none⟩ := idE rfl
@[go_sem] theorem g_impl_hunt_under_20_13 : gAt l_impl_hunt_under_20 13 = ⟨none, .store (.t 72) 1 (.t 71), none⟩ := idE rfl
def impl_hunt_under_20 : IR := .dops l_impl_hunt_under_20 [(0, []), (1, []), (2, []), (3, []), (4, []), (5, []), (6, []), (7, []), (8, []), (9, []), (10, []), (11, [3]), (12, []), (13, [])]
@[go_sem] theorem w_impl_hunt_under_20 : wp P impl_hunt_under_20 Q e H = wpD P l_impl_hunt_under_20 [(0, []), (1, []), (2, []), (3, []), (4, []), (5, []), (6, []), (7, []), (8, []), (9, []), (10, []), (11, [3]), (12, []), (13, [])] (Q .normal) e H := idE rfl
def impl_hunt_under_21 : IR := .block 3 (.seq impl_hunt_under_19 impl_hunt_under_20)
@[go_sem] theorem w_impl_hunt_under_21 : wp P impl_hunt_under_21 Q e H = wp P (.seq impl_hunt_under_19 impl_hunt_under_20) (blockQ 3 Q) e H := idE rfl
@[go_sem] def l_impl_hunt_under_22 : List GOp := [⟨(some 73), .bin .add (.t 57) (.c (.int .i64 1)), none⟩,
    ⟨(some 57), .mv (.t 73), none⟩]
def impl_hunt_under_22 : IR := .ops l_impl_hunt_under_22
@[go_sem] theorem w_impl_hunt_under_22 : wp P impl_hunt_under_22 Q e H = wpL P l_impl_hunt_under_22 (Q .normal) e H := idE rfl
def impl_hunt_under_23 : IR := .loop (.seq impl_hunt_under_17 (.seq impl_hunt_under_18 (.seq impl_hunt_under_21 impl_hunt_under_22)))
def impl_hunt_under_24 : IR := .block 2 impl_hunt_under_23
@[go_sem] theorem w_impl_hunt_under_24 : wp P impl_hunt_under_24 Q e H = wp P impl_hunt_under_23 (blockQ 2 Q) e H := idE rfl
@[go_sem] def l_impl_hunt_under_25 : List GOp := [⟨(some 4), .mv (.c (.bool true)), none⟩]
def impl_hunt_under_25 : IR := .ops l_impl_hunt_under_25
@[go_sem] theorem w_impl_hunt_under_25 : wp P impl_hunt_under_25 Q e H = wpL P l_impl_hunt_under_25 (Q .normal) e H := idE rfl
def impl_hunt_under_26 : IR := .cond (.t 42) (.seq impl_hunt_under_15 (.seq (.seq impl_hunt_under_16 impl_hunt_under_24) (.seq impl_hunt_under_25 .ret))) .skip
@[go_sem] theorem w_impl_hunt_under_26 : wp P impl_hunt_under_26 Q e H = condW P ((.t 42) : X) (.seq impl_hunt_under_15 (.seq (.seq impl_hunt_under_16 impl_hunt_under_24) (.seq impl_hunt_under_25 .ret))) .skip Q e H := idE rfl
@[go_sem] def l_impl_hunt_under_27 : List GOp := [⟨(some 74), .mv (.t 0), none⟩,
    ⟨(some 75), .nilck (.t 74), none⟩,
    ⟨(some 76), .faddr (.t 75) 3, none⟩,
    ⟨(some 77), .load (.t 76) 1 false, none⟩,
    ⟨(some 78), .bin .add (.t 77) (.c (.int .i64 1)), none⟩,
    ⟨(some 79), .nilck (.t 74), none⟩,
    ⟨(some 80), .faddr (.t 79) 3, none⟩,
    ⟨none, .store (.t 80) 1 (.t 78), none⟩]
def impl_hunt_under_27 : IR := .ops l_impl_hunt_under_27
@[go_sem] theorem w_impl_hunt_under_27 : wp P impl_hunt_under_27 Q e H = wpL P l_impl_hunt_under_27 (Q .normal) e H := idE rfl
@[go_sem] def l_impl_hunt_under_28 : List GOp := [⟨(some 81), .mv (.t 0), none⟩,
    ⟨(some 82), .mv (.t 1), none⟩,
    ⟨(some 83), .call (n_slices_Clip_Sint_int) [(.t 82)], none⟩,
    ⟨(some 84), .mv (.t 6), none⟩,
    ⟨(some 85), .un .neg (.t 84), none⟩,
    ⟨(some 86), .bslc 1 1 [(.int .i64 0)] [(0, (.t 85))], none⟩,
    ⟨(some 87), .app 1 8 (.t 83) (.t 86), none⟩,
    ⟨(some 88), .call (n_impl_hunt_under) [(.t 81), (.t 87)], none⟩,
    ⟨(some 89), .mv (.t 88), none⟩,
    ⟨(some 90), .mv (.t 0), (some (89, false))⟩,
    ⟨(some 91), .mv (.t 1), (some (89, false))⟩,
    ⟨(some 92), .call (n_slices_Clip_Sint_int) [(.t 91)], (some (89, false))⟩,
    ⟨(some 93), .mv (.t 6), (some (89, false))⟩,
    ⟨(some 94), .bslo 1 1 [(.int .i64 0)] [(0, (.t 93))], (some (89, false))⟩,
    ⟨(some 95), .app 1 8 (.t 92) (.t 94), (some (89, false))⟩,
    ⟨(some 96), .call (n_impl_hunt_under) [(.t 90), (.t 95)], (some (89, false))⟩,
    ⟨(some 97), .pick (.t 89) (.c (.bool true)) (.t 96), none⟩]
def impl_hunt_under_28 : IR := .ops l_impl_hunt_under_28
@[go_sem] theorem w_impl_hunt_under_28 : wp P impl_hunt_under_28 Q e H = wpL P l_impl_hunt_under_28 (Q .normal) e H := idE rfl
@[go_sem] def l_impl_hunt_under_29 : List GOp := [⟨(some 4), .mv (.c (.bool true)), none⟩]
def impl_hunt_under_29 : IR := .ops l_impl_hunt_under_29
@[go_sem] theorem w_impl_hunt_under_29 : wp P impl_hunt_under_29 Q e H = wpL P l_impl_hunt_under_29 (Q .normal) e H := idE rfl
def impl_hunt_under_30 : IR := .cond (.t 97) (.seq impl_hunt_under_29 .ret) .skip
@[go_sem] theorem w_impl_hunt_under_30 : wp P impl_hunt_under_30 Q e H = condW P ((.t 97) : X) (.seq impl_hunt_under_29 .ret) .skip Q e H := idE rfl
def impl_hunt_under_31 : IR := .cond (.t 25) (.seq (.seq impl_hunt_under_4 impl_hunt_under_13) (.seq (.seq impl_hunt_under_14 impl_hunt_under_26) (.seq impl_hunt_under_27 (.seq impl_hunt_under_28 impl_hunt_under_30)))) .skip
@[go_sem] theorem w_impl_hunt_under_31 : wp P impl_hunt_under_31 Q e H = condW P ((.t 25) : X) (.seq (.seq impl_hunt_under_4 impl_hunt_under_13) (.seq (.seq impl_hunt_under_14 impl_hunt_under_26) (.seq impl_hunt_under_27 (.seq impl_hunt_under_28 impl_hunt_under_30)))) .skip Q e H := idE rfl
@[go_sem] def l_impl_hunt_under_32 : List GOp := [⟨(some 98), .mv (.t 0), none⟩,
    ⟨(some 99), .nilck (.t 98), none⟩,
    ⟨(some 100), .faddr (.t 99) 2, none⟩,
    ⟨(some 101), .load (.t 100) 1 false, none⟩,
    ⟨(some 102), .len (.t 101), none⟩,
    ⟨(some 103), .bin .eql (.t 102) (.c (.int .i64 600)), none⟩]
def impl_hunt_under_32 : IR := .ops l_impl_hunt_under_32
@[go_sem] theorem w_impl_hunt_under_32 : wp P impl_hunt_under_32 Q e H = wpL P l_impl_hunt_under_32 (Q .normal) e H := idE rfl
@[go_sem] def l_impl_hunt_under_33 : List GOp := [⟨(some 104), .mv (.t 0), none⟩,
    ⟨(some 105), .nilck (.t 104), none⟩,
    ⟨(some 106), .faddr (.t 105) 5, none⟩,
    ⟨none, .store (.t 106) 1 (.c (.bool true)), none⟩]
def impl_hunt_under_33 : IR := .ops l_impl_hunt_under_33
@[go_sem] theorem w_impl_hunt_under_33 : wp P impl_hunt_under_33 Q e H = wpL P l_impl_hunt_under_33 (Q .normal) e H := idE rfl
@[go_sem] def l_impl_hunt_under_34 : List GOp := [⟨(some 4), .mv (.c (.bool true)), none⟩]
def impl_hunt_under_34 : IR := .ops l_impl_hunt_under_34
@[go_sem] theorem w_impl_hunt_under_34 : wp P impl_hunt_under_34 Q e H = wpL P l_impl_hunt_under_34 (Q .normal) e H := idE rfl
def impl_hunt_under_35 : IR := .cond (.t 103) (.seq impl_hunt_under_33 (.seq impl_hunt_under_34 .ret)) .skip
@[go_sem] theorem w_impl_hunt_under_35 : wp P impl_hunt_under_35 Q e H = condW P ((.t 103) : X) (.seq impl_hunt_under_33 (.seq impl_hunt_under_34 .ret)) .skip Q e H := idE rfl
@[go_sem] def l_impl_hunt_under_36 : List GOp := [⟨(some 9), .mv (.c (.sl none 0 0 true 0)), none⟩]
def impl_hunt_under_36 : IR := .ops l_impl_hunt_under_36
@[go_sem] theorem w_impl_hunt_under_36 : wp P impl_hunt_under_36 Q e H = wpL P l_impl_hunt_under_36 (Q .normal) e H := idE rfl
@[go_sem] def l_impl_hunt_under_37 : List GOp := [⟨(some 107), .mv (.t 1), none⟩,
    ⟨(some 108), .len (.t 107), none⟩,
    ⟨(some 109), .mv (.c (.int .i64 0)), none⟩]
def impl_hunt_under_37 : IR := .ops l_impl_hunt_under_37
@[go_sem] theorem w_impl_hunt_under_37 : wp P impl_hunt_under_37 Q e H = wpL P l_impl_hunt_under_37 (Q .normal) e H := idE rfl
@[go_sem] def l_impl_hunt_under_38 : List GOp := [⟨(some 110), .bin .lss (.t 109) (.t 108), none⟩]
def impl_hunt_under_38 : IR := .ops l_impl_hunt_under_38
@[go_sem] theorem w_impl_hunt_under_38 : wp P impl_hunt_under_38 Q e H = wpL P l_impl_hunt_under_38 (Q .normal) e H := idE rfl
def impl_hunt_under_39 : IR := .cond (.t 110) .skip (.exit 4)
@[go_sem] theorem w_impl_hunt_under_39 : wp P impl_hunt_under_39 Q e H = condW P ((.t 110) : X) .skip (.exit 4) Q e H := idE rfl
@[go_sem] def l_impl_hunt_under_40 : List GOp := [⟨(some 111), .iaddr (.t 107) (.t 109) 1, none⟩,
    ⟨(some 112), .load (.t 111) 1 false, none⟩,
    ⟨(some 11), .mv (.t 112), none⟩]
def impl_hunt_under_40 : IR := .ops l_impl_hunt_under_40
@[go_sem] theorem w_impl_hunt_under_40 : wp P impl_hunt_under_40 Q e H = wpL P l_impl_hunt_under_40 (Q .normal) e H := idE rfl
@[go_sem] def l_impl_hunt_under_41 : List GOp := [⟨(some 113), .mv (.t 9), none⟩,
    ⟨(some 114), .mv (.t 11), none⟩,
    ⟨(some 115), .un .neg (.t 114), none⟩,
    ⟨(some 116), .bslc 1 1 [(.int .i64 0)] [(0, (.t 115))], none⟩,
    ⟨(some 117), .app 1 8 (.t 113) (.t 116), none⟩,
    ⟨(some 9), .mv (.t 117), none⟩]
def impl_hunt_under_41 : IR := .ops l_impl_hunt_under_41
@[go_sem] theorem w_impl_hunt_under_41 : wp P impl_hunt_under_41 Q e H = wpL P l_impl_hunt_under_41 (Q .normal) e H := idE rfl
def impl_hunt_under_42 : IR := .block 5 (.seq impl_hunt_under_40 impl_hunt_under_41)
@[go_sem] theorem w_impl_hunt_under_42 : wp P impl_hunt_under_42 Q e H = wp P (.seq impl_hunt_under_40 impl_hunt_under_41) (blockQ 5 Q) e H := idE rfl
@[go_sem] def l_impl_hunt_under_43 : List GOp := [⟨(some 118), .bin .add (.t 109) (.c (.int .i64 1)), none⟩,
    ⟨(some 109), .mv (.t 118), none⟩]
def impl_hunt_under_43 : IR := .ops l_impl_hunt_under_43
@[go_sem] theorem w_impl_hunt_under_43 : wp P impl_hunt_under_43 Q e H = wpL P l_impl_hunt_under_43 (Q .normal) e H := idE rfl
def impl_hunt_under_44 : IR := .loop (.seq impl_hunt_under_38 (.seq impl_hunt_under_39 (.seq impl_hunt_under_42 impl_hunt_under_43)))
def impl_hunt_under_45 : IR := .block 4 impl_hunt_under_44
@[go_sem] theorem w_impl_hunt_under_45 : wp P impl_hunt_under_45 Q e H = wp P impl_hunt_under_44 (blockQ 4 Q) e H := idE rfl
@[go_sem] def l_impl_hunt_under_46 : List GOp := [⟨(some 120), .mv (.t 9), none⟩,
    ⟨(some 121), .call (n_impl_clauseOf) [(.t 120)], none⟩,
    ⟨(some 119), .mv (.t 121), none⟩,
    ⟨(some 122), .ext (.t 119) 0, none⟩,
    ⟨(some 123), .ext (.t 119) 1, none⟩,
    ⟨(some 9), .mv (.t 122), none⟩]
def impl_hunt_under_46 : IR := .ops l_impl_hunt_under_46
@[go_sem] theorem w_impl_hunt_under_46 : wp P impl_hunt_under_46 Q e H = wpL P l_impl_hunt_under_46 (Q .normal) e H := idE rfl
@[go_sem] def l_impl_hunt_under_47 : List GOp := [⟨(some 124), .mv (.t 0), none⟩,
    ⟨(some 125), .mv (.t 0), none⟩,
    ⟨(some 126), .nilck (.t 125), none⟩,
    ⟨(some 127), .faddr (.t 126) 2, none⟩,
    ⟨(some 128), .load (.t 127) 1 false, none⟩,
    ⟨(some 129), .mv (.t 9), none⟩,
    ⟨(some 130), .bslc 1 1 [(.sl none 0 0 true 0)] [(0, (.t 129))], none⟩,
    ⟨(some 131), .app 1 24 (.t 128) (.t 130), none⟩,
    ⟨(some 132), .nilck (.t 124), none⟩,
    ⟨(some 133), .faddr (.t 132) 2, none⟩,
    ⟨none, .store (.t 133) 1 (.t 131), none⟩]
def impl_hunt_under_47 : IR := .ops l_impl_hunt_under_47
@[go_sem] theorem w_impl_hunt_under_47 : wp P impl_hunt_under_47 Q e H = wpL P l_impl_hunt_under_47 (Q .normal) e H := idE rfl
@[go_sem] def l_impl_hunt_under_48 : List GOp := [⟨(some 4), .mv (.c (.bool false)), none⟩]
def impl_hunt_under_48 : IR := .ops l_impl_hunt_under_48
@[go_sem] theorem w_impl_hunt_under_48 : wp P impl_hunt_under_48 Q e H = wpL P l_impl_hunt_under_48 (Q .normal) e H := idE rfl
def F_impl_hunt_under : IFn := ⟨2, 134, [.t 4], (.seq impl_hunt_under_0 (.seq impl_hunt_under_1 (.seq impl_hunt_under_2 (.seq (.seq impl_hunt_under_3 impl_hunt_under_31) (.seq (.seq impl_hunt_under_32 impl_hunt_under_35) (.seq impl_hunt_under_36 (.seq (.seq impl_hunt_under_37 impl_hunt_under_45) (.seq impl_hunt_under_46 (.seq impl_hunt_under_47 (.seq impl_hunt_under_48 .ret))))))))))⟩
theorem c_impl_hunt_under : compFn Try.prog [(0, [], []), (1, [], []), (2, [], []), (3, [], []), (4, [], []), (5, [], []), (7, [], []), (8, [], []), (6, [], []), (9, [], []), (10, [], []), (11, [], []), (12, [], []), (13, [], []), (14, [(0, []), (1, []), (2, []), (3, []), (4, []), (5, []), (6, []), (7, []), (8, []), (9, []), (10, []), (11, [3]), (12, []), (13, [])], []), (15, [], []), (16, [], []), (17, [], []), (18, [], []), (19, [], []), (20, [], []), (21, [], []), (22, [], []), (23, [], []), (24, [], []), (25, [], []), (26, [], []), (27, [], []), (28, [], []), (29, [], []), (30, [], []), (31, [], [])] Try.f98 = some F_impl_hunt_under := by kernel_rfl
theorem a_impl_hunt_under (hl : args.length = 2) (h : wp Try.prog (.seq impl_hunt_under_0 (.seq impl_hunt_under_1 (.seq impl_hunt_under_2 (.seq (.seq impl_hunt_under_3 impl_hunt_under_31) (.seq (.seq impl_hunt_under_32 impl_hunt_under_35) (.seq impl_hunt_under_36 (.seq (.seq impl_hunt_under_37 impl_hunt_under_45) (.seq impl_hunt_under_46 (.seq impl_hunt_under_47 (.seq impl_hunt_under_48 .ret)))))))))) (postQ [.t 4] R) (env0 args) H) : ACall Try.prog n_impl_hunt_under args H R :=
  acall_of_wp mixed Try.func98 c_impl_hunt_under (by kernel_rfl) hl h
@[go_sem] def l_impl_hunted_0 : List GOp := [⟨(some 1), .box (.t 0), none⟩,
    ⟨(some 2), .mv (.c (.ptr none)), none⟩]
def impl_hunted_0 : IR := .ops l_impl_hunted_0
@[go_sem] theorem w_impl_hunted_0 : wp P impl_hunted_0 Q e H = wpL P l_impl_hunted_0 (Q .normal) e H := idE rfl
@[go_sem] def l_impl_hunted_1 : List GOp := [⟨(some 4), .load (.t 1) 2 true, none⟩,
    ⟨(some 5), .bld [(.int .i64 0), (.sl none 0 0 true 0), (.sl none 0 0 true 0), (.int .i64 0), (.sl none 0 0 true 0), (.bool false)] [(0, 2, (.t 4))], none⟩,
    ⟨(some 6), .box (.t 5), none⟩,
    ⟨(some 3), .mv (.t 6), none⟩]
def impl_hunted_1 : IR := .ops l_impl_hunted_1
@[go_sem] theorem w_impl_hunted_1 : wp P impl_hunted_1 Q e H = wpL P l_impl_hunted_1 (Q .normal) e H := idE rfl
@[go_sem] def l_impl_hunted_2 : List GOp := [⟨(some 7), .mv (.t 3), none⟩,
    ⟨(some 8), .call (n_impl_hunt_under) [(.t 7), (.c (.sl none 0 0 true 0))], none⟩]
def impl_hunted_2 : IR := .ops l_impl_hunted_2
@[go_sem] theorem w_impl_hunted_2 : wp P impl_hunted_2 Q e H = wpL P l_impl_hunted_2 (Q .normal) e H := idE rfl
@[go_sem] def l_impl_hunted_3 : List GOp := [⟨(some 9), .mv (.t 3), none⟩,
    ⟨(some 2), .mv (.t 9), none⟩]
def impl_hunted_3 : IR := .ops l_impl_hunted_3
@[go_sem] theorem w_impl_hunted_3 : wp P impl_hunted_3 Q e H = wpL P l_impl_hunted_3 (Q .normal) e H := idE rfl
def F_impl_hunted : IFn := ⟨1, 10, [.t 2], (.seq impl_hunted_0 (.seq impl_hunted_1 (.seq impl_hunted_2 (.seq impl_hunted_3 .ret))))⟩
theorem c_impl_hunted : compFn Try.prog [(0, [], []), (1, [], []), (2, [], []), (3, [], [])] Try.f64 = some F_impl_hunted := by kernel_rfl
theorem a_impl_hunted (hl : args.length = 1) (h : wp Try.prog (.seq impl_hunted_0 (.seq impl_hunted_1 (.seq impl_hunted_2 (.seq impl_hunted_3 .ret)))) (postQ [.t 2] R) (env0 args) H) : ACall Try.prog n_impl_hunted args H R :=
  acall_of_wp mixed Try.func64 c_impl_hunted (by kernel_rfl) hl h
@[go_sem] def l_impl_clone_Sint_0 : List GOp := [⟨(some 2), .mv (.c (.sl none 0 0 true 0)), none⟩]
def impl_clone_Sint_0 : IR := .ops l_impl_clone_Sint_0
@[go_sem] theorem w_impl_clone_Sint_0 : wp P impl_clone_Sint_0 Q e H = wpL P l_impl_clone_Sint_0 (Q .normal) e H := idE rfl
@[go_sem] def l_impl_clone_Sint_1 : List GOp := [⟨(some 4), .mv (.t 0), none⟩,
    ⟨(some 5), .len (.t 4), none⟩,
    ⟨(some 6), .bin .eql (.t 5) (.c (.int .i64 0)), none⟩]
def impl_clone_Sint_1 : IR := .ops l_impl_clone_Sint_1
@[go_sem] theorem w_impl_clone_Sint_1 : wp P impl_clone_Sint_1 Q e H = wpL P l_impl_clone_Sint_1 (Q .normal) e H := idE rfl
@[go_sem] def l_impl_clone_Sint_2 : List GOp := [⟨(some 2), .mv (.c (.sl none 0 0 true 0)), none⟩]
def impl_clone_Sint_2 : IR := .ops l_impl_clone_Sint_2
@[go_sem] theorem w_impl_clone_Sint_2 : wp P impl_clone_Sint_2 Q e H = wpL P l_impl_clone_Sint_2 (Q .normal) e H := idE rfl
def impl_clone_Sint_3 : IR := .cond (.t 6) (.seq impl_clone_Sint_2 .ret) .skip
@[go_sem] theorem w_impl_clone_Sint_3 : wp P impl_clone_Sint_3 Q e H = condW P ((.t 6) : X) (.seq impl_clone_Sint_2 .ret) .skip Q e H := idE rfl
@[go_sem] def l_impl_clone_Sint_4 : List GOp := [⟨(some 7), .mv (.t 0), none⟩,
    ⟨(some 8), .len (.t 7), none⟩,
    ⟨(some 9), .mks [(.sl none 0 0 true 0)] 24 (.t 8), none⟩,
    ⟨(some 3), .mv (.t 9), none⟩]
def impl_clone_Sint_4 : IR := .ops l_impl_clone_Sint_4
@[go_sem] theorem w_impl_clone_Sint_4 : wp P impl_clone_Sint_4 Q e H = wpL P l_impl_clone_Sint_4 (Q .normal) e H := idE rfl
@[go_sem] def l_impl_clone_Sint_5 : List GOp := [⟨(some 10), .mv (.t 3), none⟩,
    ⟨(some 11), .mv (.t 0), none⟩,
    ⟨(some 12), .copy 1 (.t 10) (.t 11), none⟩]
def impl_clone_Sint_5 : IR := .ops l_impl_clone_Sint_5
@[go_sem] theorem w_impl_clone_Sint_5 : wp P impl_clone_Sint_5 Q e H = wpL P l_impl_clone_Sint_5 (Q .normal) e H := idE rfl
@[go_sem] def l_impl_clone_Sint_6 : List GOp := [⟨(some 13), .mv (.t 3), none⟩,
    ⟨(some 2), .mv (.t 13), none⟩]
def impl_clone_Sint_6 : IR := .ops l_impl_clone_Sint_6
@[go_sem] theorem w_impl_clone_Sint_6 : wp P impl_clone_Sint_6 Q e H = wpL P l_impl_clone_Sint_6 (Q .normal) e H := idE rfl
def F_impl_clone_Sint : IFn := ⟨1, 14, [.t 2], (.seq impl_clone_Sint_0 (.seq (.seq impl_clone_Sint_1 impl_clone_Sint_3) (.seq impl_clone_Sint_4 (.seq impl_clone_Sint_5 (.seq impl_clone_Sint_6 .ret)))))⟩
theorem c_impl_clone_Sint : compFn Try.prog [(0, [], []), (1, [], []), (2, [], []), (3, [], []), (4, [], []), (5, [], [])] Try.f67 = some F_impl_clone_Sint := by kernel_rfl
theorem a_impl_clone_Sint (hl : args.length = 1) (h : wp Try.prog (.seq impl_clone_Sint_0 (.seq (.seq impl_clone_Sint_1 impl_clone_Sint_3) (.seq impl_clone_Sint_4 (.seq impl_clone_Sint_5 (.seq impl_clone_Sint_6 .ret))))) (postQ [.t 2] R) (env0 args) H) : ACall Try.prog n_impl_clone_Sint args H R :=
  acall_of_wp mixed Try.func67 c_impl_clone_Sint (by kernel_rfl) hl h
@[go_sem] def l_impl_Refute_0 : List GOp := [⟨(some 1), .box (.t 0), none⟩,
    ⟨(some 2), .mv (.c (.sl none 0 0 true 0)), none⟩,
    ⟨(some 3), .mv (.c (.bool false)), none⟩]
def impl_Refute_0 : IR := .ops l_impl_Refute_0
@[go_sem] theorem w_impl_Refute_0 : wp P impl_Refute_0 Q e H = wpL P l_impl_Refute_0 (Q .normal) e H := idE rfl
@[go_sem] def l_impl_Refute_1 : List GOp := [⟨(some 5), .load (.t 1) 2 true, none⟩,
    ⟨(some 6), .call (n_impl_ClausesValid) [(.t 5)], none⟩,
    ⟨(some 7), .un .not (.t 6), none⟩]
def impl_Refute_1 : IR := .ops l_impl_Refute_1
@[go_sem] theorem w_impl_Refute_1 : wp P impl_Refute_1 Q e H = wpL P l_impl_Refute_1 (Q .normal) e H := idE rfl
@[go_sem] def l_impl_Refute_2 : List GOp := [⟨(some 2), .mv (.c (.sl none 0 0 true 0)), none⟩,
    ⟨(some 3), .mv (.c (.bool false)), none⟩]
def impl_Refute_2 : IR := .ops l_impl_Refute_2
@[go_sem] theorem w_impl_Refute_2 : wp P impl_Refute_2 Q e H = wpL P l_impl_Refute_2 (Q .normal) e H := idE rfl
def impl_Refute_3 : IR := .cond (.t 7) (.seq impl_Refute_2 .ret) .skip
@[go_sem] theorem w_impl_Refute_3 : wp P impl_Refute_3 Q e H = condW P ((.t 7) : X) (.seq impl_Refute_2 .ret) .skip Q e H := idE rfl
@[go_sem] def l_impl_Refute_4 : List GOp := [⟨(some 8), .load (.t 1) 2 true, none⟩,
    ⟨(some 9), .call (n_impl_hunted) [(.t 8)], none⟩,
    ⟨(some 4), .mv (.t 9), none⟩]
def impl_Refute_4 : IR := .ops l_impl_Refute_4
@[go_sem] theorem w_impl_Refute_4 : wp P impl_Refute_4 Q e H = wpL P l_impl_Refute_4 (Q .normal) e H := idE rfl
@[go_sem] def l_impl_Refute_5 : List GOp := [⟨(some 10), .mv (.t 4), none⟩,
    ⟨(some 11), .nilck (.t 10), none⟩,
    ⟨(some 12), .faddr (.t 11) 5, none⟩,
    ⟨(some 13), .load (.t 12) 1 false, none⟩,
    ⟨(some 14), .mv (.t 13), none⟩,
    ⟨(some 15), .mv (.t 4), (some (14, false))⟩,
    ⟨(some 16), .nilck (.t 15), (some (14, false))⟩,
    ⟨(some 17), .faddr (.t 16) 4, (some (14, false))⟩,
    ⟨(some 18), .load (.t 17) 1 false, (some (14, false))⟩,
    ⟨(some 19), .eqn true .sl (.t 18), (some (14, false))⟩,
    ⟨(some 20), .pick (.t 14) (.c (.bool true)) (.t 19), none⟩]
def impl_Refute_5 : IR := .ops l_impl_Refute_5
@[go_sem] theorem w_impl_Refute_5 : wp P impl_Refute_5 Q e H = wpL P l_impl_Refute_5 (Q .normal) e H := idE rfl
@[go_sem] def l_impl_Refute_6 : List GOp := [⟨(some 2), .mv (.c (.sl none 0 0 true 0)), none⟩,
    ⟨(some 3), .mv (.c (.bool false)), none⟩]
def impl_Refute_6 : IR := .ops l_impl_Refute_6
@[go_sem] theorem w_impl_Refute_6 : wp P impl_Refute_6 Q e H = wpL P l_impl_Refute_6 (Q .normal) e H := idE rfl
def impl_Refute_7 : IR := .cond (.t 20) (.seq impl_Refute_6 .ret) .skip
@[go_sem] theorem w_impl_Refute_7 : wp P impl_Refute_7 Q e H = condW P ((.t 20) : X) (.seq impl_Refute_6 .ret) .skip Q e H := idE rfl
@[go_sem] def l_impl_Refute_8 : List GOp := [⟨(some 21), .mv (.t 4), none⟩,
    ⟨(some 22), .nilck (.t 21), none⟩,
    ⟨(some 23), .faddr (.t 22) 2, none⟩,
    ⟨(some 24), .load (.t 23) 1 false, none⟩,
    ⟨(some 25), .call (n_impl_clone_Sint) [(.t 24)], none⟩,
    ⟨(some 2), .mv (.t 25), none⟩,
    ⟨(some 3), .mv (.c (.bool true)), none⟩]
def impl_Refute_8 : IR := .ops l_impl_Refute_8
@[go_sem] theorem w_impl_Refute_8 : wp P impl_Refute_8 Q e H = wpL P l_impl_Refute_8 (Q .normal) e H := idE rfl
def F_impl_Refute : IFn := ⟨1, 26, [.t 2, .t 3], (.seq impl_Refute_0 (.seq (.seq impl_Refute_1 impl_Refute_3) (.seq impl_Refute_4 (.seq (.seq impl_Refute_5 impl_Refute_7) (.seq impl_Refute_8 .ret)))))⟩
theorem c_impl_Refute : compFn Try.prog [(0, [], []), (1, [], []), (2, [], []), (3, [], []), (4, [], []), (5, [], []), (6, [], [])] Try.f25 = some F_impl_Refute := by kernel_rfl
theorem a_impl_Refute (hl : args.length = 1) (h : wp Try.prog (.seq impl_Refute_0 (.seq (.seq impl_Refute_1 impl_Refute_3) (.seq impl_Refute_4 (.seq (.seq impl_Refute_5 impl_Refute_7) (.seq impl_Refute_8 .ret))))) (postQ [.t 2, .t 3] R) (env0 args) H) : ACall Try.prog n_impl_Refute args H R :=
  acall_of_wp mixed Try.func25 c_impl_Refute (by kernel_rfl) hl h
@[go_sem] def l_spec_l1In_0 : List GOp := [⟨(some 6), .mv (.c (.bool false)), none⟩]
def spec_l1In_0 : IR := .ops l_spec_l1In_0
@[go_sem] theorem w_spec_l1In_0 : wp P spec_l1In_0 Q e H = wpL P l_spec_l1In_0 (Q .normal) e H := idE rfl
@[go_sem] def l_spec_l1In_1 : List GOp := [⟨(some 7), .mv (.t 0), none⟩,
    ⟨(some 8), .mv (.t 1), none⟩,
    ⟨(some 9), .bin .geq (.t 7) (.t 8), none⟩,
    ⟨(some 10), .mv (.t 9), none⟩,
    ⟨(some 11), .mv (.t 0), (some (10, true))⟩,
    ⟨(some 12), .mv (.t 2), (some (10, true))⟩,
    ⟨(some 13), .bin .leq (.t 11) (.t 12), (some (10, true))⟩,
    ⟨(some 14), .pick (.t 10) (.t 13) (.c (.bool false)), none⟩,
    ⟨(some 6), .mv (.t 14), none⟩]
def spec_l1In_1 : IR := .ops l_spec_l1In_1
@[go_sem] theorem w_spec_l1In_1 : wp P spec_l1In_1 Q e H = wpL P l_spec_l1In_1 (Q .normal) e H := idE rfl
def F_spec_l1In : IFn := ⟨3, 15, [.t 6], (.seq spec_l1In_0 (.seq spec_l1In_1 .ret))⟩
theorem c_spec_l1In : compFn Try.prog [(0, [], []), (1, [], [])] Try.f55 = some F_spec_l1In := by kernel_rfl
theorem a_spec_l1In (hl : args.length = 3) (h : wp Try.prog (.seq spec_l1In_0 (.seq spec_l1In_1 .ret)) (postQ [.t 6] R) (env0 args) H) : ACall Try.prog n_spec_l1In args H R :=
  acall_of_wp mixed Try.func55 c_spec_l1In (by kernel_rfl) hl h
@[go_sem] def l_spec_l11Lit_0 : List GOp := [⟨(some 4), .mv (.c (.bool false)), none⟩]
def spec_l11Lit_0 : IR := .ops l_spec_l11Lit_0
@[go_sem] theorem w_spec_l11Lit_0 : wp P spec_l11Lit_0 Q e H = wpL P l_spec_l11Lit_0 (Q .normal) e H := idE rfl
@[go_sem] def l_spec_l11Lit_1 : List GOp := [⟨(some 5), .mv (.t 0), none⟩,
    ⟨(some 6), .bin .neq (.t 5) (.c (.int .i64 0)), none⟩,
    ⟨(some 7), .mv (.t 6), none⟩,
    ⟨(some 8), .mv (.t 0), (some (7, true))⟩,
    ⟨(some 9), .mv (.t 1), (some (7, true))⟩,
    ⟨(some 10), .un .neg (.t 9), (some (7, true))⟩,
    ⟨(some 11), .mv (.t 1), (some (7, true))⟩,
    ⟨(some 12), .call (n_spec_l1In) [(.t 8), (.t 10), (.t 11)], (some (7, true))⟩,
    ⟨(some 13), .pick (.t 7) (.t 12) (.c (.bool false)), none⟩,
    ⟨(some 4), .mv (.t 13), none⟩]
def spec_l11Lit_1 : IR := .ops l_spec_l11Lit_1
@[go_sem] theorem w_spec_l11Lit_1 : wp P spec_l11Lit_1 Q e H = wpL P l_spec_l11Lit_1 (Q .normal) e H := idE rfl
def F_spec_l11Lit : IFn := ⟨2, 14, [.t 4], (.seq spec_l11Lit_0 (.seq spec_l11Lit_1 .ret))⟩
theorem c_spec_l11Lit : compFn Try.prog [(0, [], []), (1, [], [])] Try.f105 = some F_spec_l11Lit := by kernel_rfl
theorem a_spec_l11Lit (hl : args.length = 2) (h : wp Try.prog (.seq spec_l11Lit_0 (.seq spec_l11Lit_1 .ret)) (postQ [.t 4] R) (env0 args) H) : ACall Try.prog n_spec_l11Lit args H R :=
  acall_of_wp mixed Try.func105 c_spec_l11Lit (by kernel_rfl) hl h
@[go_sem] def l_spec_ClauseValid_0 : List GOp := [⟨(some 4), .mv (.c (.bool false)), none⟩]
def spec_ClauseValid_0 : IR := .ops l_spec_ClauseValid_0
@[go_sem] theorem w_spec_ClauseValid_0 : wp P spec_ClauseValid_0 Q e H = wpL P l_spec_ClauseValid_0 (Q .normal) e H := idE rfl
@[go_sem] def l_spec_ClauseValid_1 : List GOp := [⟨(some 5), .mv (.c (.int .i64 0)), none⟩]
def spec_ClauseValid_1 : IR := .ops l_spec_ClauseValid_1
@[go_sem] theorem w_spec_ClauseValid_1 : wp P spec_ClauseValid_1 Q e H = wpL P l_spec_ClauseValid_1 (Q .normal) e H := idE rfl
@[go_sem] def l_spec_ClauseValid_2 : List GOp := [⟨(some 6), .mv (.t 5), none⟩,
    ⟨(some 7), .mv (.t 0), none⟩,
    ⟨(some 8), .len (.t 7), none⟩,
    ⟨(some 9), .bin .lss (.t 6) (.t 8), none⟩]
def spec_ClauseValid_2 : IR := .ops l_spec_ClauseValid_2
@[go_sem] theorem w_spec_ClauseValid_2 : wp P spec_ClauseValid_2 Q e H = wpL P l_spec_ClauseValid_2 (Q .normal) e H := idE rfl
def spec_ClauseValid_3 : IR := .cond (.t 9) .skip (.exit 0)
@[go_sem] theorem w_spec_ClauseValid_3 : wp P spec_ClauseValid_3 Q e H = condW P ((.t 9) : X) .skip (.exit 0) Q e H := idE rfl
def l_spec_ClauseValid_4 : List GOp := [⟨(some 12), .mv (.t 0), none⟩,
    ⟨(some 13), .mv (.t 5), none⟩,
    ⟨(some 14), .iaddr (.t 12) (.t 13) 1, none⟩,
    ⟨(some 15), .load (.t 14) 1 false, none⟩,
    ⟨(some 16), .mv (.t 1), none⟩,
    ⟨(some 17), .call (n_spec_l11Lit) [(.t 15), (.t 16)], none⟩,
    ⟨(some 18), .un .not (.t 17), none⟩,
    ⟨(some 19), .mv (.t 18), none⟩,
    ⟨(some 20), .mv (.t 5), (some (19, false))⟩,
    ⟨(some 21), .bin .gtr (.t 20) (.c (.int .i64 0)), (some (19, false))⟩,
    ⟨(some 22), .mv (.t 21), (some (19, false))⟩,
    ⟨(some 23), .mv (.t 0), (some (22, true))⟩,
    ⟨(some 24), .mv (.t 5), (some (22, true))⟩,
    ⟨(some 25), .iaddr (.t 23) (.t 24) 1, (some (22, true))⟩,
    ⟨(some 26), .load (.t 25) 1 false, (some (22, true))⟩,
    ⟨(some 27), .call (n_spec_l11Abs) [(.t 26)], (some (22, true))⟩,
    ⟨(some 28), .mv (.t 0), (some (22, true))⟩,
    ⟨(some 29), .mv (.t 5), (some (22, true))⟩,
    ⟨(some 30), .bin .sub (.t 29) (.c (.int .i64 1)), (some (22, true))⟩,
    ⟨(some 31), .iaddr (.t 28) (.t 30) 1, (some (22, true))⟩,
    ⟨(some 32), .load (.t 31) 1 false, (some (22, true))⟩,
    ⟨(some 33), .call (n_spec_l11Abs) [(.t 32)], (some (22, true))⟩,
    ⟨(some 34), .bin .leq (.t 27) (.t 33), (some (22, true))⟩,
    ⟨(some 35), .pick (.t 22) (.t 34) (.c (.bool false)), (some (19, false))⟩,
    ⟨(some 36), .pick (.t 19) (.c (.bool true)) (.t 35), none⟩]
@[go_sem] theorem g_spec_ClauseValid_4_0 : gAt l_spec_ClauseValid_4 0 = ⟨(some 12), .mv (.t 0), none⟩ := idE rfl
@[go_sem] theorem g_spec_ClauseValid_4_1 : gAt l_spec_ClauseValid_4 1 = ⟨(some 13), .mv (.t 5), none⟩ := idE rfl
@[go_sem] theorem g_spec_ClauseValid_4_2 : gAt l_spec_ClauseValid_4 2 = ⟨(some 14), .iaddr (.t 12) (.t 13) 1, none⟩ := idE rfl
@[go_sem] theorem g_spec_ClauseValid_4_3 : gAt l_spec_ClauseValid_4 3 = ⟨(some 15), .load (.t 14) 1 false, none⟩ := idE rfl
@[go_sem] theorem g_spec_ClauseValid_4_4 : gAt l_spec_ClauseValid_4 4 = ⟨(some 16), .mv (.t 1), none⟩ := idE rfl
@[go_sem] theorem g_spec_ClauseValid_4_5 : gAt l_spec_ClauseValid_4 5 = ⟨(some 17), .call (n_spec_l11Lit) [(.t 15), (.t 16)], none⟩ := idE rfl
@[go_sem] theorem g_spec_ClauseValid_4_6 : gAt l_spec_ClauseValid_4 6 = ⟨(some 18), .un .not (.t 17), none⟩ := idE rfl
@[go_sem] theorem g_spec_ClauseValid_4_7 : gAt l_spec_ClauseValid_4 7 = ⟨(some 19), .mv (.t 18), none⟩ := idE rfl
@[go_sem] theorem g_spec_ClauseValid_4_8 : gAt l_spec_ClauseValid_4 8 = ⟨(some 20), .mv (.t 5), (some (19, false))⟩ := idE rfl
@[go_sem] theorem g_spec_ClauseValid_4_9 : gAt l_spec_ClauseValid_4 9 = ⟨(some 21), .bin .gtr (.t 20) (.c (.int .i64 0)), (some (19, false))⟩ := idE rfl
@[go_sem] theorem g_spec_ClauseValid_4_10 : gAt l_spec_ClauseValid_4 10 = ⟨(some 22), .mv (.t 21), (some (19, false))⟩ := idE rfl
@[go_sem] theorem g_spec_ClauseValid_4_11 : gAt l_spec_ClauseValid_4 11 = ⟨(some 23), .mv (.t 0), (some (22, true))⟩ := idE rfl
@[go_sem] theorem g_spec_ClauseValid_4_12 : gAt l_spec_ClauseValid_4 12 = ⟨(some 24), .mv (.t 5), (some (22, true))⟩ := idE rfl
@[go_sem] theorem g_spec_ClauseValid_4_13 : gAt l_spec_ClauseValid_4 13 = ⟨(some 25), .iaddr (.t 23) (.t 24) 1, (some (22, true))⟩ := idE rfl
@[go_sem] theorem g_spec_ClauseValid_4_14 : gAt l_spec_ClauseValid_4 14 = ⟨(some 26), .load (.t 25) 1 false, (some (22, true))⟩ := idE rfl
@[go_sem] theorem g_spec_ClauseValid_4_15 : gAt l_spec_ClauseValid_4 15 = ⟨(some 27), .call (n_spec_l11Abs) [(.t 26)], (some (22, true))⟩ := idE rfl
@[go_sem] theorem g_spec_ClauseValid_4_16 : gAt l_spec_ClauseValid_4 16 = ⟨(some 28), .mv (.t 0), (some (22, true))⟩ := idE rfl
@[go_sem] theorem g_spec_ClauseValid_4_17 : gAt l_spec_ClauseValid_4 17 = ⟨(some 29), .mv (.t 5), (some (22, true))⟩ := idE rfl
@[go_sem] theorem g_spec_ClauseValid_4_18 : gAt l_spec_ClauseValid_4 18 = ⟨(some 30), .bin .sub (.t 29) (.c (.int .i64 1)), (some (22, true))⟩ := idE rfl
@[go_sem] theorem g_spec_ClauseValid_4_19 : gAt l_spec_ClauseValid_4 19 = ⟨(some 31), .iaddr (.t 28) (.t 30) 1, (some (22, true))⟩ := idE rfl
@[go_sem] theorem g_spec_ClauseValid_4_20 : gAt l_spec_ClauseValid_4 20 = ⟨(some 32), .load (.t 31) 1 false, (some (22, true))⟩ := idE rfl
@[go_sem] theorem g_spec_ClauseValid_4_21 : gAt l_spec_ClauseValid_4 21 = ⟨(some 33), .call (n_spec_l11Abs) [(.t 32)], (some (22, true))⟩ := idE rfl
@[go_sem] theorem g_spec_ClauseValid_4_22 : gAt l_spec_ClauseValid_4 22 = ⟨(some 34), .bin .leq (.t 27) (.t 33), (some (22, true))⟩ := idE rfl
@[go_sem] theorem g_spec_ClauseValid_4_23 : gAt l_spec_ClauseValid_4 23 = ⟨(some 35), .pick (.t 22) (.t 34) (.c (.bool false)), (some (19, false))⟩ := idE rfl
@[go_sem] theorem g_spec_ClauseValid_4_24 : gAt l_spec_ClauseValid_4 24 = ⟨(some 36), .pick (.t 19) (.c (.bool true)) (.t 35), none⟩ := idE rfl
def spec_ClauseValid_4 : IR := .dops l_spec_ClauseValid_4 [(0, []), (1, []), (2, []), (3, []), (4, []), (5, []), (6, []), (7, []), (8, []), (9, []), (10, []), (11, []), (12, []), (13, []), (14, []), (16, []), (17, []), (18, []), (19, []), (20, []), (15, [20]), (21, []), (22, []), (23, []), (24, [])]
@[go_sem] theorem w_spec_ClauseValid_4 : wp P spec_ClauseValid_4 Q e H = wpD P l_spec_ClauseValid_4 [(0, []), (1, []), (2, []), (3, []), (4, []), (5, []), (6, []), (7, []), (8, []), (9, []), (10, []), (11, []), (12, []), (13, []), (14, []), (16, []), (17, []), (18, []), (19, []), (20, []), (15, [20]), (21, []), (22, []), (23, []), (24, [])] (Q .normal) e H := idE rfl
@[go_sem] def l_spec_ClauseValid_5 : List GOp := [⟨(some 4), .mv (.c (.bool false)), none⟩]
def spec_ClauseValid_5 : IR := .ops l_spec_ClauseValid_5
@[go_sem] theorem w_spec_ClauseValid_5 : wp P spec_ClauseValid_5 Q e H = wpL P l_spec_ClauseValid_5 (Q .normal) e H := idE rfl
def spec_ClauseValid_6 : IR := .cond (.t 36) (.seq spec_ClauseValid_5 .ret) .skip
@[go_sem] theorem w_spec_ClauseValid_6 : wp P spec_ClauseValid_6 Q e H = condW P ((.t 36) : X) (.seq spec_ClauseValid_5 .ret) .skip Q e H := idE rfl
def spec_ClauseValid_7 : IR := .block 1 (.seq spec_ClauseValid_4 spec_ClauseValid_6)
@[go_sem] theorem w_spec_ClauseValid_7 : wp P spec_ClauseValid_7 Q e H = wp P (.seq spec_ClauseValid_4 spec_ClauseValid_6) (blockQ 1 Q) e H := idE rfl
@[go_sem] def l_spec_ClauseValid_8 : List GOp := [⟨(some 10), .mv (.t 5), none⟩,
    ⟨(some 11), .bin .add (.t 10) (.c (.int .i64 1)), none⟩,
    ⟨(some 5), .mv (.t 11), none⟩]
def spec_ClauseValid_8 : IR := .ops l_spec_ClauseValid_8
@[go_sem] theorem w_spec_ClauseValid_8 : wp P spec_ClauseValid_8 Q e H = wpL P l_spec_ClauseValid_8 (Q .normal) e H := idE rfl
def spec_ClauseValid_9 : IR := .loop (.seq (.seq spec_ClauseValid_2 spec_ClauseValid_3) (.seq spec_ClauseValid_7 spec_ClauseValid_8))
def spec_ClauseValid_10 : IR := .block 0 spec_ClauseValid_9
@[go_sem] theorem w_spec_ClauseValid_10 : wp P spec_ClauseValid_10 Q e H = wp P spec_ClauseValid_9 (blockQ 0 Q) e H := idE rfl
@[go_sem] def l_spec_ClauseValid_11 : List GOp := [⟨(some 37), .mv (.t 1), none⟩,
    ⟨(some 38), .call (n_spec_l1In) [(.t 37), (.c (.int .i64 0)), (.c (.int .i64 700))], none⟩,
    ⟨(some 4), .mv (.t 38), none⟩]
def spec_ClauseValid_11 : IR := .ops l_spec_ClauseValid_11
@[go_sem] theorem w_spec_ClauseValid_11 : wp P spec_ClauseValid_11 Q e H = wpL P l_spec_ClauseValid_11 (Q .normal) e H := idE rfl
def F_spec_ClauseValid : IFn := ⟨2, 39, [.t 4], (.seq spec_ClauseValid_0 (.seq (.seq spec_ClauseValid_1 spec_ClauseValid_10) (.seq spec_ClauseValid_11 .ret)))⟩
theorem c_spec_ClauseValid : compFn Try.prog [(0, [], []), (1, [], []), (2, [], []), (4, [(0, []), (1, []), (2, []), (3, []), (4, []), (5, []), (6, []), (7, []), (8, []), (9, []), (10, []), (11, []), (12, []), (13, []), (14, []), (16, []), (17, []), (18, []), (19, []), (20, []), (15, [20]), (21, []), (22, []), (23, []), (24, [])], []), (5, [], []), (3, [], []), (6, [], [])] Try.f71 = some F_spec_ClauseValid := by kernel_rfl
theorem a_spec_ClauseValid (hl : args.length = 2) (h : wp Try.prog (.seq spec_ClauseValid_0 (.seq (.seq spec_ClauseValid_1 spec_ClauseValid_10) (.seq spec_ClauseValid_11 .ret))) (postQ [.t 4] R) (env0 args) H) : ACall Try.prog n_spec_ClauseValid args H R :=
  acall_of_wp mixed Try.func71 c_spec_ClauseValid (by kernel_rfl) hl h
@[go_sem] def l_spec_ClausesValid_0 : List GOp := [⟨(some 1), .box (.t 0), none⟩,
    ⟨(some 2), .mv (.c (.bool false)), none⟩]
def spec_ClausesValid_0 : IR := .ops l_spec_ClausesValid_0
@[go_sem] theorem w_spec_ClausesValid_0 : wp P spec_ClausesValid_0 Q e H = wpL P l_spec_ClausesValid_0 (Q .normal) e H := idE rfl
@[go_sem] def l_spec_ClausesValid_1 : List GOp := [⟨(some 4), .faddr (.t 1) 0, none⟩,
    ⟨(some 5), .load (.t 4) 1 false, none⟩,
    ⟨(some 6), .call (n_spec_l1In) [(.t 5), (.c (.int .i64 0)), (.c (.int .i64 700))], none⟩,
    ⟨(some 7), .un .not (.t 6), none⟩,
    ⟨(some 8), .mv (.t 7), none⟩,
    ⟨(some 9), .faddr (.t 1) 1, (some (8, false))⟩,
    ⟨(some 10), .load (.t 9) 1 false, (some (8, false))⟩,
    ⟨(some 11), .len (.t 10), (some (8, false))⟩,
    ⟨(some 12), .bin .gtr (.t 11) (.c (.int .i64 2500)), (some (8, false))⟩,
    ⟨(some 13), .pick (.t 8) (.c (.bool true)) (.t 12), none⟩]
def spec_ClausesValid_1 : IR := .ops l_spec_ClausesValid_1
@[go_sem] theorem w_spec_ClausesValid_1 : wp P spec_ClausesValid_1 Q e H = wpL P l_spec_ClausesValid_1 (Q .normal) e H := idE rfl
@[go_sem] def l_spec_ClausesValid_2 : List GOp := [⟨(some 2), .mv (.c (.bool false)), none⟩]
def spec_ClausesValid_2 : IR := .ops l_spec_ClausesValid_2
@[go_sem] theorem w_spec_ClausesValid_2 : wp P spec_ClausesValid_2 Q e H = wpL P l_spec_ClausesValid_2 (Q .normal) e H := idE rfl
def spec_ClausesValid_3 : IR := .cond (.t 13) (.seq spec_ClausesValid_2 .ret) .skip
@[go_sem] theorem w_spec_ClausesValid_3 : wp P spec_ClausesValid_3 Q e H = condW P ((.t 13) : X) (.seq spec_ClausesValid_2 .ret) .skip Q e H := idE rfl
@[go_sem] def l_spec_ClausesValid_4 : List GOp := [⟨(some 3), .mv (.c (.int .i64 0)), none⟩]
def spec_ClausesValid_4 : IR := .ops l_spec_ClausesValid_4
@[go_sem] theorem w_spec_ClausesValid_4 : wp P spec_ClausesValid_4 Q e H = wpL P l_spec_ClausesValid_4 (Q .normal) e H := idE rfl
@[go_sem] def l_spec_ClausesValid_5 : List GOp := [⟨(some 14), .mv (.t 3), none⟩,
    ⟨(some 15), .faddr (.t 1) 1, none⟩,
    ⟨(some 16), .load (.t 15) 1 false, none⟩,
    ⟨(some 17), .len (.t 16), none⟩,
    ⟨(some 18), .bin .lss (.t 14) (.t 17), none⟩]
def spec_ClausesValid_5 : IR := .ops l_spec_ClausesValid_5
@[go_sem] theorem w_spec_ClausesValid_5 : wp P spec_ClausesValid_5 Q e H = wpL P l_spec_ClausesValid_5 (Q .normal) e H := idE rfl
def spec_ClausesValid_6 : IR := .cond (.t 18) .skip (.exit 0)
@[go_sem] theorem w_spec_ClausesValid_6 : wp P spec_ClausesValid_6 Q e H = condW P ((.t 18) : X) .skip (.exit 0) Q e H := idE rfl
def l_spec_ClausesValid_7 : List GOp := [⟨(some 21), .faddr (.t 1) 1, none⟩,
    ⟨(some 22), .load (.t 21) 1 false, none⟩,
    ⟨(some 23), .mv (.t 3), none⟩,
    ⟨(some 24), .iaddr (.t 22) (.t 23) 1, none⟩,
    ⟨(some 25), .load (.t 24) 1 false, none⟩,
    ⟨(some 26), .faddr (.t 1) 0, none⟩,
    ⟨(some 27), .load (.t 26) 1 false, none⟩,
    ⟨(some 28), .call (n_spec_ClauseValid) [(.t 25), (.t 27)], none⟩,
    ⟨(some 29), .un .not (.t 28), none⟩]
@[go_sem] theorem g_spec_ClausesValid_7_0 : gAt l_spec_ClausesValid_7 0 = ⟨(some 21), .faddr (.t 1) 1, none⟩ := idE rfl
@[go_sem] theorem g_spec_ClausesValid_7_1 : gAt l_spec_ClausesValid_7 1 = ⟨(some 22), .load (.t 21) 1 false, none⟩ := idE rfl
@[go_sem] theorem g_spec_ClausesValid_7_2 : gAt l_spec_ClausesValid_7 2 = ⟨(some 23), .mv (.t 3), none⟩ := idE rfl
@[go_sem] theorem g_spec_ClausesValid_7_3 : gAt l_spec_ClausesValid_7 3 = ⟨(some 24), .iaddr (.t 22) (.t 23) 1, none⟩ := idE rfl
@[go_sem] theorem g_spec_ClausesValid_7_4 : gAt l_spec_ClausesValid_7 4 = ⟨(some 25), .load (.t 24) 1 false, none⟩ := idE rfl
@[go_sem] theorem g_spec_ClausesValid_7_5 : gAt l_spec_ClausesValid_7 5 = ⟨(some 26), .faddr (.t 1) 0, none⟩ := idE rfl
@[go_sem] theorem g_spec_ClausesValid_7_6 : gAt l_spec_ClausesValid_7 6 = ⟨(some 27), .load (.t 26) 1 false, none⟩ := idE rfl
@[go_sem] theorem g_spec_ClausesValid_7_7 : gAt l_spec_ClausesValid_7 7 = ⟨(some 28), .call (n_spec_ClauseValid) [(.t 25), (.t 27)], none⟩ := idE rfl
@[go_sem] theorem g_spec_ClausesValid_7_8 : gAt l_spec_ClausesValid_7 8 = ⟨(some 29), .un .not (.t 28), none⟩ := idE rfl
def spec_ClausesValid_7 : IR := .dops l_spec_ClausesValid_7 [(0, []), (1, []), (2, []), (3, []), (4, []), (5, []), (6, []), (7, []), (8, [])]
@[go_sem] theorem w_spec_ClausesValid_7 : wp P spec_ClausesValid_7 Q e H = wpD P l_spec_ClausesValid_7 [(0, []), (1, []), (2, []), (3, []), (4, []), (5, []), (6, []), (7, []), (8, [])] (Q .normal) e H := idE rfl
@[go_sem] def l_spec_ClausesValid_8 : List GOp := [⟨(some 2), .mv (.c (.bool false)), none⟩]
def spec_ClausesValid_8 : IR := .ops l_spec_ClausesValid_8
@[go_sem] theorem w_spec_ClausesValid_8 : wp P spec_ClausesValid_8 Q e H = wpL P l_spec_ClausesValid_8 (Q .normal) e H := idE rfl
def spec_ClausesValid_9 : IR := .cond (.t 29) (.seq spec_ClausesValid_8 .ret) .skip
@[go_sem] theorem w_spec_ClausesValid_9 : wp P spec_ClausesValid_9 Q e H = condW P ((.t 29) : X) (.seq spec_ClausesValid_8 .ret) .skip Q e H := idE rfl
def spec_ClausesValid_10 : IR := .block 1 (.seq spec_ClausesValid_7 spec_ClausesValid_9)
@[go_sem] theorem w_spec_ClausesValid_10 : wp P spec_ClausesValid_10 Q e H = wp P (.seq spec_ClausesValid_7 spec_ClausesValid_9) (blockQ 1 Q) e H := idE rfl
@[go_sem] def l_spec_ClausesValid_11 : List GOp := [⟨(some 19), .mv (.t 3), none⟩,
    ⟨(some 20), .bin .add (.t 19) (.c (.int .i64 1)), none⟩,
    ⟨(some 3), .mv (.t 20), none⟩]
def spec_ClausesValid_11 : IR := .ops l_spec_ClausesValid_11
@[go_sem] theorem w_spec_ClausesValid_11 : wp P spec_ClausesValid_11 Q e H = wpL P l_spec_ClausesValid_11 (Q .normal) e H := idE rfl
def spec_ClausesValid_12 : IR := .loop (.seq (.seq spec_ClausesValid_5 spec_ClausesValid_6) (.seq spec_ClausesValid_10 spec_ClausesValid_11))
def spec_ClausesValid_13 : IR := .block 0 spec_ClausesValid_12
@[go_sem] theorem w_spec_ClausesValid_13 : wp P spec_ClausesValid_13 Q e H = wp P spec_ClausesValid_12 (blockQ 0 Q) e H := idE rfl
@[go_sem] def l_spec_ClausesValid_14 : List GOp := [⟨(some 2), .mv (.c (.bool true)), none⟩]
def spec_ClausesValid_14 : IR := .ops l_spec_ClausesValid_14
@[go_sem] theorem w_spec_ClausesValid_14 : wp P spec_ClausesValid_14 Q e H = wpL P l_spec_ClausesValid_14 (Q .normal) e H := idE rfl
def F_spec_ClausesValid : IFn := ⟨1, 30, [.t 2], (.seq spec_ClausesValid_0 (.seq (.seq spec_ClausesValid_1 spec_ClausesValid_3) (.seq (.seq spec_ClausesValid_4 spec_ClausesValid_13) (.seq spec_ClausesValid_14 .ret))))⟩
theorem c_spec_ClausesValid : compFn Try.prog [(0, [], []), (1, [], []), (2, [], []), (3, [], []), (4, [], []), (6, [(0, []), (1, []), (2, []), (3, []), (4, []), (5, []), (6, []), (7, []), (8, [])], []), (7, [], []), (5, [], []), (8, [], [])] Try.f28 = some F_spec_ClausesValid := by kernel_rfl
theorem a_spec_ClausesValid (hl : args.length = 1) (h : wp Try.prog (.seq spec_ClausesValid_0 (.seq (.seq spec_ClausesValid_1 spec_ClausesValid_3) (.seq (.seq spec_ClausesValid_4 spec_ClausesValid_13) (.seq spec_ClausesValid_14 .ret)))) (postQ [.t 2] R) (env0 args) H) : ACall Try.prog n_spec_ClausesValid args H R :=
  acall_of_wp mixed Try.func28 c_spec_ClausesValid (by kernel_rfl) hl h
@[go_sem] def l_spec_l11Given_0 : List GOp := [⟨(some 4), .mv (.c (.sl none 0 0 true 0)), none⟩]
def spec_l11Given_0 : IR := .ops l_spec_l11Given_0
@[go_sem] theorem w_spec_l11Given_0 : wp P spec_l11Given_0 Q e H = wpL P l_spec_l11Given_0 (Q .normal) e H := idE rfl
@[go_sem] def l_spec_l11Given_1 : List GOp := [⟨(some 7), .mv (.t 1), none⟩,
    ⟨(some 8), .bin .add (.t 7) (.c (.int .i64 1)), none⟩,
    ⟨(some 9), .mks [(.int .i64 0)] 8 (.t 8), none⟩,
    ⟨(some 5), .mv (.t 9), none⟩]
def spec_l11Given_1 : IR := .ops l_spec_l11Given_1
@[go_sem] theorem w_spec_l11Given_1 : wp P spec_l11Given_1 Q e H = wpL P l_spec_l11Given_1 (Q .normal) e H := idE rfl
@[go_sem] def l_spec_l11Given_2 : List GOp := [⟨(some 6), .mv (.c (.int .i64 0)), none⟩]
def spec_l11Given_2 : IR := .ops l_spec_l11Given_2
@[go_sem] theorem w_spec_l11Given_2 : wp P spec_l11Given_2 Q e H = wpL P l_spec_l11Given_2 (Q .normal) e H := idE rfl
@[go_sem] def l_spec_l11Given_3 : List GOp := [⟨(some 10), .mv (.t 6), none⟩,
    ⟨(some 11), .mv (.t 0), none⟩,
    ⟨(some 12), .len (.t 11), none⟩,
    ⟨(some 13), .bin .lss (.t 10) (.t 12), none⟩]
def spec_l11Given_3 : IR := .ops l_spec_l11Given_3
@[go_sem] theorem w_spec_l11Given_3 : wp P spec_l11Given_3 Q e H = wpL P l_spec_l11Given_3 (Q .normal) e H := idE rfl
def spec_l11Given_4 : IR := .cond (.t 13) .skip (.exit 0)
@[go_sem] theorem w_spec_l11Given_4 : wp P spec_l11Given_4 Q e H = condW P ((.t 13) : X) .skip (.exit 0) Q e H := idE rfl
def l_spec_l11Given_5 : List GOp := [⟨(some 16), .mv (.t 5), none⟩,
    ⟨(some 17), .mv (.t 0), none⟩,
    ⟨(some 18), .mv (.t 6), none⟩,
    ⟨(some 19), .iaddr (.t 17) (.t 18) 1, none⟩,
    ⟨(some 20), .load (.t 19) 1 false, none⟩,
    ⟨(some 21), .call (n_spec_l11Abs) [(.t 20)], none⟩,
    ⟨(some 22), .mv (.t 0), none⟩,
    ⟨(some 23), .mv (.t 6), none⟩,
    ⟨(some 24), .iaddr (.t 22) (.t 23) 1, none⟩,
    ⟨(some 25), .load (.t 24) 1 false, none⟩,
    ⟨(some 26), .iaddr (.t 16) (.t 21) 1, none⟩,
    ⟨none, .store (.t 26) 1 (.t 25), none⟩]
@[go_sem] theorem g_spec_l11Given_5_0 : gAt l_spec_l11Given_5 0 = ⟨(some 16), .mv (.t 5), none⟩ := idE rfl
@[go_sem] theorem g_spec_l11Given_5_1 : gAt l_spec_l11Given_5 1 = ⟨(some 17), .mv (.t 0), none⟩ := idE rfl
@[go_sem] theorem g_spec_l11Given_5_2 : gAt l_spec_l11Given_5 2 = ⟨(some 18), .mv (.t 6), none⟩ := idE rfl
@[go_sem] theorem g_spec_l11Given_5_3 : gAt l_spec_l11Given_5 3 = ⟨(some 19), .iaddr (.t 17) (.t 18) 1, none⟩ := idE rfl
@[go_sem] theorem g_spec_l11Given_5_4 : gAt l_spec_l11Given_5 4 = ⟨(some 20), .load (.t 19) 1 false, none⟩ := idE rfl
@[go_sem] theorem g_spec_l11Given_5_5 : gAt l_spec_l11Given_5 5 = ⟨(some 21), .call (n_spec_l11Abs) [(.t 20)], none⟩ := idE rfl
@[go_sem] theorem g_spec_l11Given_5_6 : gAt l_spec_l11Given_5 6 = ⟨(some 22), .mv (.t 0), none⟩ := idE rfl
@[go_sem] theorem g_spec_l11Given_5_7 : gAt l_spec_l11Given_5 7 = ⟨(some 23), .mv (.t 6), none⟩ := idE rfl
@[go_sem] theorem g_spec_l11Given_5_8 : gAt l_spec_l11Given_5 8 = ⟨(some 24), .iaddr (.t 22) (.t 23) 1, none⟩ := idE rfl
@[go_sem] theorem g_spec_l11Given_5_9 : gAt l_spec_l11Given_5 9 = ⟨(some 25), .load (.t 24) 1 false, none⟩ := idE rfl
@[go_sem] theorem g_spec_l11Given_5_10 : gAt l_spec_l11Given_5 10 = ⟨(some 26), .iaddr (.t 16) (.t 21) 1, none⟩ := idE rfl
@[go_sem] theorem g_spec_l11Given_5_11 : gAt l_spec_l11Given_5 11 = ⟨none, .store (.t 26) 1 (.t 25), none⟩ := idE rfl
def spec_l11Given_5 : IR := .dops l_spec_l11Given_5 [(0, []), (1, []), (2, []), (3, []), (4, []), (6, []), (7, []), (8, []), (9, []), (5, [9]), (10, []), (11, [])]
@[go_sem] theorem w_spec_l11Given_5 : wp P spec_l11Given_5 Q e H = wpD P l_spec_l11Given_5 [(0, []), (1, []), (2, []), (3, []), (4, []), (6, []), (7, []), (8, []), (9, []), (5, [9]), (10, []), (11, [])] (Q .normal) e H := idE rfl
def spec_l11Given_6 : IR := .block 1 spec_l11Given_5
@[go_sem] theorem w_spec_l11Given_6 : wp P spec_l11Given_6 Q e H = wp P spec_l11Given_5 (blockQ 1 Q) e H := idE rfl
@[go_sem] def l_spec_l11Given_7 : List GOp := [⟨(some 14), .mv (.t 6), none⟩,
    ⟨(some 15), .bin .add (.t 14) (.c (.int .i64 1)), none⟩,
    ⟨(some 6), .mv (.t 15), none⟩]
def spec_l11Given_7 : IR := .ops l_spec_l11Given_7
@[go_sem] theorem w_spec_l11Given_7 : wp P spec_l11Given_7 Q e H = wpL P l_spec_l11Given_7 (Q .normal) e H := idE rfl
def spec_l11Given_8 : IR := .loop (.seq (.seq spec_l11Given_3 spec_l11Given_4) (.seq spec_l11Given_6 spec_l11Given_7))
def spec_l11Given_9 : IR := .block 0 spec_l11Given_8
@[go_sem] theorem w_spec_l11Given_9 : wp P spec_l11Given_9 Q e H = wp P spec_l11Given_8 (blockQ 0 Q) e H := idE rfl
@[go_sem] def l_spec_l11Given_10 : List GOp := [⟨(some 27), .mv (.t 5), none⟩,
    ⟨(some 4), .mv (.t 27), none⟩]
def spec_l11Given_10 : IR := .ops l_spec_l11Given_10
@[go_sem] theorem w_spec_l11Given_10 : wp P spec_l11Given_10 Q e H = wpL P l_spec_l11Given_10 (Q .normal) e H := idE rfl
def F_spec_l11Given : IFn := ⟨2, 28, [.t 4], (.seq spec_l11Given_0 (.seq spec_l11Given_1 (.seq (.seq spec_l11Given_2 spec_l11Given_9) (.seq spec_l11Given_10 .ret))))⟩
theorem c_spec_l11Given : compFn Try.prog [(0, [], []), (1, [], []), (2, [], []), (3, [], []), (5, [(0, []), (1, []), (2, []), (3, []), (4, []), (6, []), (7, []), (8, []), (9, []), (5, [9]), (10, []), (11, [])], []), (4, [], []), (6, [], [])] Try.f131 = some F_spec_l11Given := by kernel_rfl
theorem a_spec_l11Given (hl : args.length = 2) (h : wp Try.prog (.seq spec_l11Given_0 (.seq spec_l11Given_1 (.seq (.seq spec_l11Given_2 spec_l11Given_9) (.seq spec_l11Given_10 .ret)))) (postQ [.t 4] R) (env0 args) H) : ACall Try.prog n_spec_l11Given args H R :=
  acall_of_wp mixed Try.func131 c_spec_l11Given (by kernel_rfl) hl h
@[go_sem] def l_spec_l11Left_0 : List GOp := [⟨(some 4), .mv (.c (.int .i64 0)), none⟩,
    ⟨(some 5), .mv (.c (.int .i64 0)), none⟩]
def spec_l11Left_0 : IR := .ops l_spec_l11Left_0
@[go_sem] theorem w_spec_l11Left_0 : wp P spec_l11Left_0 Q e H = wpL P l_spec_l11Left_0 (Q .normal) e H := idE rfl
@[go_sem] def l_spec_l11Left_1 : List GOp := [⟨(some 6), .mv (.c (.int .i64 0)), none⟩]
def spec_l11Left_1 : IR := .ops l_spec_l11Left_1
@[go_sem] theorem w_spec_l11Left_1 : wp P spec_l11Left_1 Q e H = wpL P l_spec_l11Left_1 (Q .normal) e H := idE rfl
@[go_sem] def l_spec_l11Left_2 : List GOp := [⟨(some 7), .mv (.c (.int .i64 0)), none⟩]
def spec_l11Left_2 : IR := .ops l_spec_l11Left_2
@[go_sem] theorem w_spec_l11Left_2 : wp P spec_l11Left_2 Q e H = wpL P l_spec_l11Left_2 (Q .normal) e H := idE rfl
@[go_sem] def l_spec_l11Left_3 : List GOp := [⟨(some 8), .mv (.c (.int .i64 0)), none⟩]
def spec_l11Left_3 : IR := .ops l_spec_l11Left_3
@[go_sem] theorem w_spec_l11Left_3 : wp P spec_l11Left_3 Q e H = wpL P l_spec_l11Left_3 (Q .normal) e H := idE rfl
@[go_sem] def l_spec_l11Left_4 : List GOp := [⟨(some 10), .mv (.t 8), none⟩,
    ⟨(some 11), .mv (.t 0), none⟩,
    ⟨(some 12), .len (.t 11), none⟩,
    ⟨(some 13), .bin .lss (.t 10) (.t 12), none⟩]
def spec_l11Left_4 : IR := .ops l_spec_l11Left_4
@[go_sem] theorem w_spec_l11Left_4 : wp P spec_l11Left_4 Q e H = wpL P l_spec_l11Left_4 (Q .normal) e H := idE rfl
def spec_l11Left_5 : IR := .cond (.t 13) .skip (.exit 0)
@[go_sem] theorem w_spec_l11Left_5 : wp P spec_l11Left_5 Q e H = condW P ((.t 13) : X) .skip (.exit 0) Q e H := idE rfl
@[go_sem] def l_spec_l11Left_6 : List GOp := [⟨(some 16), .mv (.t 1), none⟩,
    ⟨(some 17), .mv (.t 0), none⟩,
    ⟨(some 18), .mv (.t 8), none⟩,
    ⟨(some 19), .iaddr (.t 17) (.t 18) 1, none⟩,
    ⟨(some 20), .load (.t 19) 1 false, none⟩,
    ⟨(some 21), .call (n_spec_l11Abs) [(.t 20)], none⟩,
    ⟨(some 22), .iaddr (.t 16) (.t 21) 1, none⟩,
    ⟨(some 23), .load (.t 22) 1 false, none⟩,
    ⟨(some 9), .mv (.t 23), none⟩]
def spec_l11Left_6 : IR := .ops l_spec_l11Left_6
@[go_sem] theorem w_spec_l11Left_6 : wp P spec_l11Left_6 Q e H = wpL P l_spec_l11Left_6 (Q .normal) e H := idE rfl
@[go_sem] def l_spec_l11Left_7 : List GOp := [⟨(some 24), .mv (.t 9), none⟩,
    ⟨(some 25), .mv (.t 0), none⟩,
    ⟨(some 26), .mv (.t 8), none⟩,
    ⟨(some 27), .iaddr (.t 25) (.t 26) 1, none⟩,
    ⟨(some 28), .load (.t 27) 1 false, none⟩,
    ⟨(some 29), .bin .eql (.t 24) (.t 28), none⟩]
def spec_l11Left_7 : IR := .ops l_spec_l11Left_7
@[go_sem] theorem w_spec_l11Left_7 : wp P spec_l11Left_7 Q e H = wpL P l_spec_l11Left_7 (Q .normal) e H := idE rfl
@[go_sem] def l_spec_l11Left_8 : List GOp := [⟨(some 4), .mv (.c (.int .i64 (-1))), none⟩,
    ⟨(some 5), .mv (.c (.int .i64 0)), none⟩]
def spec_l11Left_8 : IR := .ops l_spec_l11Left_8
@[go_sem] theorem w_spec_l11Left_8 : wp P spec_l11Left_8 Q e H = wpL P l_spec_l11Left_8 (Q .normal) e H := idE rfl
def spec_l11Left_9 : IR := .cond (.t 29) (.seq spec_l11Left_8 .ret) .skip
@[go_sem] theorem w_spec_l11Left_9 : wp P spec_l11Left_9 Q e H = condW P ((.t 29) : X) (.seq spec_l11Left_8 .ret) .skip Q e H := idE rfl
@[go_sem] def l_spec_l11Left_10 : List GOp := [⟨(some 30), .mv (.t 9), none⟩,
    ⟨(some 31), .bin .eql (.t 30) (.c (.int .i64 0)), none⟩]
def spec_l11Left_10 : IR := .ops l_spec_l11Left_10
@[go_sem] theorem w_spec_l11Left_10 : wp P spec_l11Left_10 Q e H = wpL P l_spec_l11Left_10 (Q .normal) e H := idE rfl
@[go_sem] def l_spec_l11Left_11 : List GOp := [⟨(some 32), .mv (.t 6), none⟩,
    ⟨(some 33), .bin .add (.t 32) (.c (.int .i64 1)), none⟩,
    ⟨(some 6), .mv (.t 33), none⟩]
def spec_l11Left_11 : IR := .ops l_spec_l11Left_11
@[go_sem] theorem w_spec_l11Left_11 : wp P spec_l11Left_11 Q e H = wpL P l_spec_l11Left_11 (Q .normal) e H := idE rfl
@[go_sem] def l_spec_l11Left_12 : List GOp := [⟨(some 34), .mv (.t 0), none⟩,
    ⟨(some 35), .mv (.t 8), none⟩,
    ⟨(some 36), .iaddr (.t 34) (.t 35) 1, none⟩,
    ⟨(some 37), .load (.t 36) 1 false, none⟩,
    ⟨(some 7), .mv (.t 37), none⟩]
def spec_l11Left_12 : IR := .ops l_spec_l11Left_12
@[go_sem] theorem w_spec_l11Left_12 : wp P spec_l11Left_12 Q e H = wpL P l_spec_l11Left_12 (Q .normal) e H := idE rfl
def spec_l11Left_13 : IR := .cond (.t 31) (.seq spec_l11Left_11 spec_l11Left_12) .skip
@[go_sem] theorem w_spec_l11Left_13 : wp P spec_l11Left_13 Q e H = condW P ((.t 31) : X) (.seq spec_l11Left_11 spec_l11Left_12) .skip Q e H := idE rfl
def spec_l11Left_14 : IR := .block 1 (.seq spec_l11Left_6 (.seq (.seq spec_l11Left_7 spec_l11Left_9) (.seq spec_l11Left_10 spec_l11Left_13)))
@[go_sem] theorem w_spec_l11Left_14 : wp P spec_l11Left_14 Q e H = wp P (.seq spec_l11Left_6 (.seq (.seq spec_l11Left_7 spec_l11Left_9) (.seq spec_l11Left_10 spec_l11Left_13))) (blockQ 1 Q) e H := idE rfl
@[go_sem] def l_spec_l11Left_15 : List GOp := [⟨(some 14), .mv (.t 8), none⟩,
    ⟨(some 15), .bin .add (.t 14) (.c (.int .i64 1)), none⟩,
    ⟨(some 8), .mv (.t 15), none⟩]
def spec_l11Left_15 : IR := .ops l_spec_l11Left_15
@[go_sem] theorem w_spec_l11Left_15 : wp P spec_l11Left_15 Q e H = wpL P l_spec_l11Left_15 (Q .normal) e H := idE rfl
def spec_l11Left_16 : IR := .loop (.seq (.seq spec_l11Left_4 spec_l11Left_5) (.seq spec_l11Left_14 spec_l11Left_15))
def spec_l11Left_17 : IR := .block 0 spec_l11Left_16
@[go_sem] theorem w_spec_l11Left_17 : wp P spec_l11Left_17 Q e H = wp P spec_l11Left_16 (blockQ 0 Q) e H := idE rfl
@[go_sem] def l_spec_l11Left_18 : List GOp := [⟨(some 38), .mv (.t 6), none⟩,
    ⟨(some 39), .mv (.t 7), none⟩,
    ⟨(some 4), .mv (.t 38), none⟩,
    ⟨(some 5), .mv (.t 39), none⟩]
def spec_l11Left_18 : IR := .ops l_spec_l11Left_18
@[go_sem] theorem w_spec_l11Left_18 : wp P spec_l11Left_18 Q e H = wpL P l_spec_l11Left_18 (Q .normal) e H := idE rfl
def F_spec_l11Left : IFn := ⟨2, 40, [.t 4, .t 5], (.seq spec_l11Left_0 (.seq spec_l11Left_1 (.seq spec_l11Left_2 (.seq (.seq spec_l11Left_3 spec_l11Left_17) (.seq spec_l11Left_18 .ret)))))⟩
theorem c_spec_l11Left : compFn Try.prog [(0, [], []), (1, [], []), (2, [], []), (3, [], []), (4, [], []), (6, [], []), (7, [], []), (8, [], []), (9, [], []), (10, [], []), (11, [], []), (5, [], []), (12, [], [])] Try.f142 = some F_spec_l11Left := by kernel_rfl
theorem a_spec_l11Left (hl : args.length = 2) (h : wp Try.prog (.seq spec_l11Left_0 (.seq spec_l11Left_1 (.seq spec_l11Left_2 (.seq (.seq spec_l11Left_3 spec_l11Left_17) (.seq spec_l11Left_18 .ret))))) (postQ [.t 4, .t 5] R) (env0 args) H) : ACall Try.prog n_spec_l11Left args H R :=
  acall_of_wp mixed Try.func142 c_spec_l11Left (by kernel_rfl) hl h
@[go_sem] def l_spec_l11Force_0 : List GOp := [⟨(some 4), .mv (.c (.bool false)), none⟩]
def spec_l11Force_0 : IR := .ops l_spec_l11Force_0
@[go_sem] theorem w_spec_l11Force_0 : wp P spec_l11Force_0 Q e H = wpL P l_spec_l11Force_0 (Q .normal) e H := idE rfl
@[go_sem] def l_spec_l11Force_1 : List GOp := [⟨(some 5), .mv (.c (.bool true)), none⟩]
def spec_l11Force_1 : IR := .ops l_spec_l11Force_1
@[go_sem] theorem w_spec_l11Force_1 : wp P spec_l11Force_1 Q e H = wpL P l_spec_l11Force_1 (Q .normal) e H := idE rfl
@[go_sem] def l_spec_l11Force_2 : List GOp := [⟨(some 9), .mv (.t 5), none⟩]
def spec_l11Force_2 : IR := .ops l_spec_l11Force_2
@[go_sem] theorem w_spec_l11Force_2 : wp P spec_l11Force_2 Q e H = wpL P l_spec_l11Force_2 (Q .normal) e H := idE rfl
def spec_l11Force_3 : IR := .cond (.t 9) .skip (.exit 0)
@[go_sem] theorem w_spec_l11Force_3 : wp P spec_l11Force_3 Q e H = condW P ((.t 9) : X) .skip (.exit 0) Q e H := idE rfl
@[go_sem] def l_spec_l11Force_4 : List GOp := [⟨(some 5), .mv (.c (.bool false)), none⟩]
def spec_l11Force_4 : IR := .ops l_spec_l11Force_4
@[go_sem] theorem w_spec_l11Force_4 : wp P spec_l11Force_4 Q e H = wpL P l_spec_l11Force_4 (Q .normal) e H := idE rfl
@[go_sem] def l_spec_l11Force_5 : List GOp := [⟨(some 6), .mv (.c (.int .i64 0)), none⟩]
def spec_l11Force_5 : IR := .ops l_spec_l11Force_5
@[go_sem] theorem w_spec_l11Force_5 : wp P spec_l11Force_5 Q e H = wpL P l_spec_l11Force_5 (Q .normal) e H := idE rfl
@[go_sem] def l_spec_l11Force_6 : List GOp := [⟨(some 10), .mv (.t 6), none⟩,
    ⟨(some 11), .mv (.t 0), none⟩,
    ⟨(some 12), .len (.t 11), none⟩,
    ⟨(some 13), .bin .lss (.t 10) (.t 12), none⟩]
def spec_l11Force_6 : IR := .ops l_spec_l11Force_6
@[go_sem] theorem w_spec_l11Force_6 : wp P spec_l11Force_6 Q e H = wpL P l_spec_l11Force_6 (Q .normal) e H := idE rfl
def spec_l11Force_7 : IR := .cond (.t 13) .skip (.exit 2)
@[go_sem] theorem w_spec_l11Force_7 : wp P spec_l11Force_7 Q e H = condW P ((.t 13) : X) .skip (.exit 2) Q e H := idE rfl
@[go_sem] def l_spec_l11Force_8 : List GOp := [⟨(some 17), .mv (.t 0), none⟩,
    ⟨(some 18), .mv (.t 6), none⟩,
    ⟨(some 19), .iaddr (.t 17) (.t 18) 1, none⟩,
    ⟨(some 20), .load (.t 19) 1 false, none⟩,
    ⟨(some 21), .mv (.t 1), none⟩,
    ⟨(some 22), .call (n_spec_l11Left) [(.t 20), (.t 21)], none⟩,
    ⟨(some 16), .mv (.t 22), none⟩,
    ⟨(some 23), .ext (.t 16) 0, none⟩,
    ⟨(some 24), .ext (.t 16) 1, none⟩,
    ⟨(some 7), .mv (.t 23), none⟩,
    ⟨(some 8), .mv (.t 24), none⟩]
def spec_l11Force_8 : IR := .ops l_spec_l11Force_8
@[go_sem] theorem w_spec_l11Force_8 : wp P spec_l11Force_8 Q e H = wpL P l_spec_l11Force_8 (Q .normal) e H := idE rfl
@[go_sem] def l_spec_l11Force_9 : List GOp := [⟨(some 25), .mv (.t 7), none⟩,
    ⟨(some 26), .bin .eql (.t 25) (.c (.int .i64 0)), none⟩]
def spec_l11Force_9 : IR := .ops l_spec_l11Force_9
@[go_sem] theorem w_spec_l11Force_9 : wp P spec_l11Force_9 Q e H = wpL P l_spec_l11Force_9 (Q .normal) e H := idE rfl
@[go_sem] def l_spec_l11Force_10 : List GOp := [⟨(some 4), .mv (.c (.bool false)), none⟩]
def spec_l11Force_10 : IR := .ops l_spec_l11Force_10
@[go_sem] theorem w_spec_l11Force_10 : wp P spec_l11Force_10 Q e H = wpL P l_spec_l11Force_10 (Q .normal) e H := idE rfl
def spec_l11Force_11 : IR := .cond (.t 26) (.seq spec_l11Force_10 .ret) .skip
@[go_sem] theorem w_spec_l11Force_11 : wp P spec_l11Force_11 Q e H = condW P ((.t 26) : X) (.seq spec_l11Force_10 .ret) .skip Q e H := idE rfl
@[go_sem] def l_spec_l11Force_12 : List GOp := [⟨(some 27), .mv (.t 7), none⟩,
    ⟨(some 28), .bin .eql (.t 27) (.c (.int .i64 1)), none⟩]
def spec_l11Force_12 : IR := .ops l_spec_l11Force_12
@[go_sem] theorem w_spec_l11Force_12 : wp P spec_l11Force_12 Q e H = wpL P l_spec_l11Force_12 (Q .normal) e H := idE rfl
@[go_sem] def l_spec_l11Force_13 : List GOp := [⟨(some 29), .mv (.t 1), none⟩,
    ⟨(some 30), .mv (.t 8), none⟩,
    ⟨(some 31), .call (n_spec_l11Abs) [(.t 30)], none⟩,
    ⟨(some 32), .mv (.t 8), none⟩,
    ⟨(some 33), .iaddr (.t 29) (.t 31) 1, none⟩,
    ⟨none, .store (.t 33) 1 (.t 32), none⟩]
def spec_l11Force_13 : IR := .ops l_spec_l11Force_13
@[go_sem] theorem w_spec_l11Force_13 : wp P spec_l11Force_13 Q e H = wpL P l_spec_l11Force_13 (Q .normal) e H := idE rfl
@[go_sem] def l_spec_l11Force_14 : List GOp := [⟨(some 5), .mv (.c (.bool true)), none⟩]
def spec_l11Force_14 : IR := .ops l_spec_l11Force_14
@[go_sem] theorem w_spec_l11Force_14 : wp P spec_l11Force_14 Q e H = wpL P l_spec_l11Force_14 (Q .normal) e H := idE rfl
def spec_l11Force_15 : IR := .cond (.t 28) (.seq spec_l11Force_13 spec_l11Force_14) .skip
@[go_sem] theorem w_spec_l11Force_15 : wp P spec_l11Force_15 Q e H = condW P ((.t 28) : X) (.seq spec_l11Force_13 spec_l11Force_14) .skip Q e H := idE rfl
def spec_l11Force_16 : IR := .block 3 (.seq spec_l11Force_8 (.seq (.seq spec_l11Force_9 spec_l11Force_11) (.seq spec_l11Force_12 spec_l11Force_15)))
@[go_sem] theorem w_spec_l11Force_16 : wp P spec_l11Force_16 Q e H = wp P (.seq spec_l11Force_8 (.seq (.seq spec_l11Force_9 spec_l11Force_11) (.seq spec_l11Force_12 spec_l11Force_15))) (blockQ 3 Q) e H := idE rfl
@[go_sem] def l_spec_l11Force_17 : List GOp := [⟨(some 14), .mv (.t 6), none⟩,
    ⟨(some 15), .bin .add (.t 14) (.c (.int .i64 1)), none⟩,
    ⟨(some 6), .mv (.t 15), none⟩]
def spec_l11Force_17 : IR := .ops l_spec_l11Force_17
@[go_sem] theorem w_spec_l11Force_17 : wp P spec_l11Force_17 Q e H = wpL P l_spec_l11Force_17 (Q .normal) e H := idE rfl
def spec_l11Force_18 : IR := .loop (.seq (.seq spec_l11Force_6 spec_l11Force_7) (.seq spec_l11Force_16 spec_l11Force_17))
def spec_l11Force_19 : IR := .block 2 spec_l11Force_18
@[go_sem] theorem w_spec_l11Force_19 : wp P spec_l11Force_19 Q e H = wp P spec_l11Force_18 (blockQ 2 Q) e H := idE rfl
def spec_l11Force_20 : IR := .block 1 (.seq spec_l11Force_4 (.seq spec_l11Force_5 spec_l11Force_19))
@[go_sem] theorem w_spec_l11Force_20 : wp P spec_l11Force_20 Q e H = wp P (.seq spec_l11Force_4 (.seq spec_l11Force_5 spec_l11Force_19)) (blockQ 1 Q) e H := idE rfl
def spec_l11Force_21 : IR := .loop (.seq (.seq spec_l11Force_2 spec_l11Force_3) spec_l11Force_20)
def spec_l11Force_22 : IR := .block 0 spec_l11Force_21
@[go_sem] theorem w_spec_l11Force_22 : wp P spec_l11Force_22 Q e H = wp P spec_l11Force_21 (blockQ 0 Q) e H := idE rfl
@[go_sem] def l_spec_l11Force_23 : List GOp := [⟨(some 4), .mv (.c (.bool true)), none⟩]
def spec_l11Force_23 : IR := .ops l_spec_l11Force_23
@[go_sem] theorem w_spec_l11Force_23 : wp P spec_l11Force_23 Q e H = wpL P l_spec_l11Force_23 (Q .normal) e H := idE rfl
def F_spec_l11Force : IFn := ⟨2, 34, [.t 4], (.seq spec_l11Force_0 (.seq (.seq spec_l11Force_1 spec_l11Force_22) (.seq spec_l11Force_23 .ret)))⟩
theorem c_spec_l11Force : compFn Try.prog [(0, [], []), (1, [], []), (2, [], []), (3, [], []), (4, [], []), (5, [], []), (7, [], []), (8, [], []), (9, [], []), (10, [], []), (11, [], []), (12, [], []), (6, [], []), (13, [], [])] Try.f132 = some F_spec_l11Force := by kernel_rfl
theorem a_spec_l11Force (hl : args.length = 2) (h : wp Try.prog (.seq spec_l11Force_0 (.seq (.seq spec_l11Force_1 spec_l11Force_22) (.seq spec_l11Force_23 .ret))) (postQ [.t 4] R) (env0 args) H) : ACall Try.prog n_spec_l11Force args H R :=
  acall_of_wp mixed Try.func132 c_spec_l11Force (by kernel_rfl) hl h
@[go_sem] def l_spec_l12Next_0 : List GOp := [⟨(some 2), .mv (.c (.int .i64 0)), none⟩]
def spec_l12Next_0 : IR := .ops l_spec_l12Next_0
@[go_sem] theorem w_spec_l12Next_0 : wp P spec_l12Next_0 Q e H = wpL P l_spec_l12Next_0 (Q .normal) e H := idE rfl
@[go_sem] def l_spec_l12Next_1 : List GOp := [⟨(some 3), .mv (.c (.int .i64 1)), none⟩]
def spec_l12Next_1 : IR := .ops l_spec_l12Next_1
@[go_sem] theorem w_spec_l12Next_1 : wp P spec_l12Next_1 Q e H = wpL P l_spec_l12Next_1 (Q .normal) e H := idE rfl
@[go_sem] def l_spec_l12Next_2 : List GOp := [⟨(some 4), .mv (.t 3), none⟩,
    ⟨(some 5), .mv (.t 0), none⟩,
    ⟨(some 6), .len (.t 5), none⟩,
    ⟨(some 7), .bin .lss (.t 4) (.t 6), none⟩]
def spec_l12Next_2 : IR := .ops l_spec_l12Next_2
@[go_sem] theorem w_spec_l12Next_2 : wp P spec_l12Next_2 Q e H = wpL P l_spec_l12Next_2 (Q .normal) e H := idE rfl
def spec_l12Next_3 : IR := .cond (.t 7) .skip (.exit 0)
@[go_sem] theorem w_spec_l12Next_3 : wp P spec_l12Next_3 Q e H = condW P ((.t 7) : X) .skip (.exit 0) Q e H := idE rfl
@[go_sem] def l_spec_l12Next_4 : List GOp := [⟨(some 10), .mv (.t 0), none⟩,
    ⟨(some 11), .mv (.t 3), none⟩,
    ⟨(some 12), .iaddr (.t 10) (.t 11) 1, none⟩,
    ⟨(some 13), .load (.t 12) 1 false, none⟩,
    ⟨(some 14), .bin .eql (.t 13) (.c (.int .i64 0)), none⟩]
def spec_l12Next_4 : IR := .ops l_spec_l12Next_4
@[go_sem] theorem w_spec_l12Next_4 : wp P spec_l12Next_4 Q e H = wpL P l_spec_l12Next_4 (Q .normal) e H := idE rfl
@[go_sem] def l_spec_l12Next_5 : List GOp := [⟨(some 15), .mv (.t 3), none⟩,
    ⟨(some 2), .mv (.t 15), none⟩]
def spec_l12Next_5 : IR := .ops l_spec_l12Next_5
@[go_sem] theorem w_spec_l12Next_5 : wp P spec_l12Next_5 Q e H = wpL P l_spec_l12Next_5 (Q .normal) e H := idE rfl
def spec_l12Next_6 : IR := .cond (.t 14) (.seq spec_l12Next_5 .ret) .skip
@[go_sem] theorem w_spec_l12Next_6 : wp P spec_l12Next_6 Q e H = condW P ((.t 14) : X) (.seq spec_l12Next_5 .ret) .skip Q e H := idE rfl
def spec_l12Next_7 : IR := .block 1 (.seq spec_l12Next_4 spec_l12Next_6)
@[go_sem] theorem w_spec_l12Next_7 : wp P spec_l12Next_7 Q e H = wp P (.seq spec_l12Next_4 spec_l12Next_6) (blockQ 1 Q) e H := idE rfl
@[go_sem] def l_spec_l12Next_8 : List GOp := [⟨(some 8), .mv (.t 3), none⟩,
    ⟨(some 9), .bin .add (.t 8) (.c (.int .i64 1)), none⟩,
    ⟨(some 3), .mv (.t 9), none⟩]
def spec_l12Next_8 : IR := .ops l_spec_l12Next_8
@[go_sem] theorem w_spec_l12Next_8 : wp P spec_l12Next_8 Q e H = wpL P l_spec_l12Next_8 (Q .normal) e H := idE rfl
def spec_l12Next_9 : IR := .loop (.seq (.seq spec_l12Next_2 spec_l12Next_3) (.seq spec_l12Next_7 spec_l12Next_8))
def spec_l12Next_10 : IR := .block 0 spec_l12Next_9
@[go_sem] theorem w_spec_l12Next_10 : wp P spec_l12Next_10 Q e H = wp P spec_l12Next_9 (blockQ 0 Q) e H := idE rfl
@[go_sem] def l_spec_l12Next_11 : List GOp := [⟨(some 2), .mv (.c (.int .i64 0)), none⟩]
def spec_l12Next_11 : IR := .ops l_spec_l12Next_11
@[go_sem] theorem w_spec_l12Next_11 : wp P spec_l12Next_11 Q e H = wpL P l_spec_l12Next_11 (Q .normal) e H := idE rfl
def F_spec_l12Next : IFn := ⟨1, 16, [.t 2], (.seq spec_l12Next_0 (.seq (.seq spec_l12Next_1 spec_l12Next_10) (.seq spec_l12Next_11 .ret)))⟩
theorem c_spec_l12Next : compFn Try.prog [(0, [], []), (1, [], []), (2, [], []), (4, [], []), (5, [], []), (3, [], []), (6, [], [])] Try.f133 = some F_spec_l12Next := by kernel_rfl
theorem a_spec_l12Next (hl : args.length = 1) (h : wp Try.prog (.seq spec_l12Next_0 (.seq (.seq spec_l12Next_1 spec_l12Next_10) (.seq spec_l12Next_11 .ret))) (postQ [.t 2] R) (env0 args) H) : ACall Try.prog n_spec_l12Next args H R :=
  acall_of_wp mixed Try.func133 c_spec_l12Next (by kernel_rfl) hl h
end Go.M2
