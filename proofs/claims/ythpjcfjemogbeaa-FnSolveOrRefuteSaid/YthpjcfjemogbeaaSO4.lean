/- The functions, turned for the memory: printed by program. -/
import Derived.Test.YthpjcfjemogbeaaSO3
import Derived.Test.YthpjcfjemogbeaaProg
import Derived.KernelRfl
set_option linter.unusedVariables false
set_option linter.unusedSimpArgs false
set_option maxRecDepth 10000
set_option maxHeartbeats 4000000
namespace Go.M2
open Go.Proofs
variable {P : Program} {Q : Post} {e : Env} {H : Heap} {args : List AV} {R : AV → Heap → Prop}
@[go_sem] def l_Z45_0 : List GOp := [⟨(some 8), .mv (.c (.bool false)), none⟩]
def Z45_0 : IR := .ops l_Z45_0
@[go_sem] theorem w_Z45_0 : wp P Z45_0 Q e H = wpL P l_Z45_0 (Q .normal) e H := idE rfl
@[go_sem] def l_Z45_1 : List GOp := [⟨(some 13), .mv (.t 1), none⟩,
    ⟨(some 14), .bin .add (.t 13) (.c (.int .i64 1)), none⟩,
    ⟨(some 9), .mv (.t 14), none⟩]
def Z45_1 : IR := .ops l_Z45_1
@[go_sem] theorem w_Z45_1 : wp P Z45_1 Q e H = wpL P l_Z45_1 (Q .normal) e H := idE rfl
@[go_sem] def l_Z45_2 : List GOp := [⟨(some 10), .mv (.c (.int .i64 0)), none⟩]
def Z45_2 : IR := .ops l_Z45_2
@[go_sem] theorem w_Z45_2 : wp P Z45_2 Q e H = wpL P l_Z45_2 (Q .normal) e H := idE rfl
@[go_sem] def l_Z45_3 : List GOp := [⟨(some 15), .mv (.t 10), none⟩,
    ⟨(some 16), .bin .lss (.t 15) (.c (.int .i64 5)), none⟩]
def Z45_3 : IR := .ops l_Z45_3
@[go_sem] theorem w_Z45_3 : wp P Z45_3 Q e H = wpL P l_Z45_3 (Q .normal) e H := idE rfl
def Z45_4 : IR := .cond (.t 16) .skip (.exit 0)
@[go_sem] theorem w_Z45_4 : wp P Z45_4 Q e H = condW P ((.t 16) : X) .skip (.exit 0) Q e H := idE rfl
def l_Z45_5 : List GOp := [⟨(some 19), .mv (.t 9), none⟩,
    ⟨(some 20), .mv (.t 2), none⟩,
    ⟨(some 21), .bin .lss (.t 19) (.t 20), none⟩,
    ⟨(some 22), .mv (.t 21), none⟩,
    ⟨(some 23), .mv (.t 3), (some (22, true))⟩,
    ⟨(some 24), .mv (.t 0), (some (22, true))⟩,
    ⟨(some 25), .mv (.t 9), (some (22, true))⟩,
    ⟨(some 26), .iaddr (.t 24) (.t 25) 1, (some (22, true))⟩,
    ⟨(some 27), .load (.t 26) 1 false, (some (22, true))⟩,
    ⟨(some 28), .mv (.t 0), (some (22, true))⟩,
    ⟨(some 29), .mv (.t 9), (some (22, true))⟩,
    ⟨(some 30), .bin .sub (.t 29) (.c (.int .i64 1)), (some (22, true))⟩,
    ⟨(some 31), .iaddr (.t 28) (.t 30) 1, (some (22, true))⟩,
    ⟨(some 32), .load (.t 31) 1 false, (some (22, true))⟩,
    ⟨(some 33), .callv (.t 23) [(.t 27), (.t 32)], (some (22, true))⟩,
    ⟨(some 34), .bin .lss (.t 33) (.c (.int .i64 0)), (some (22, true))⟩,
    ⟨(some 35), .un .not (.t 34), (some (22, true))⟩,
    ⟨(some 36), .pick (.t 22) (.t 35) (.c (.bool false)), none⟩]
@[go_sem] theorem g_Z45_5_0 : gAt l_Z45_5 0 = ⟨(some 19), .mv (.t 9), none⟩ := idE rfl
@[go_sem] theorem g_Z45_5_1 : gAt l_Z45_5 1 = ⟨(some 20), .mv (.t 2), none⟩ := idE rfl
@[go_sem] theorem g_Z45_5_2 : gAt l_Z45_5 2 = ⟨(some 21), .bin .lss (.t 19) (.t 20), none⟩ := idE rfl
@[go_sem] theorem g_Z45_5_3 : gAt l_Z45_5 3 = ⟨(some 22), .mv (.t 21), none⟩ := idE rfl
@[go_sem] theorem g_Z45_5_4 : gAt l_Z45_5 4 = ⟨(some 23), .mv (.t 3), (some (22, true))⟩ := idE rfl
@[go_sem] theorem g_Z45_5_5 : gAt l_Z45_5 5 = ⟨(some 24), .mv (.t 0), (some (22, true))⟩ := idE rfl
@[go_sem] theorem g_Z45_5_6 : gAt l_Z45_5 6 = ⟨(some 25), .mv (.t 9), (some (22, true))⟩ := idE rfl
@[go_sem] theorem g_Z45_5_7 : gAt l_Z45_5 7 = ⟨(some 26), .iaddr (.t 24) (.t 25) 1, (some (22, true))⟩ := idE rfl
@[go_sem] theorem g_Z45_5_8 : gAt l_Z45_5 8 = ⟨(some 27), .load (.t 26) 1 false, (some (22, true))⟩ := idE rfl
@[go_sem] theorem g_Z45_5_9 : gAt l_Z45_5 9 = ⟨(some 28), .mv (.t 0), (some (22, true))⟩ := idE rfl
@[go_sem] theorem g_Z45_5_10 : gAt l_Z45_5 10 = ⟨(some 29), .mv (.t 9), (some (22, true))⟩ := idE rfl
@[go_sem] theorem g_Z45_5_11 : gAt l_Z45_5 11 = ⟨(some 30), .bin .sub (.t 29) (.c (.int .i64 1)), (some (22, true))⟩ := idE rfl
@[go_sem] theorem g_Z45_5_12 : gAt l_Z45_5 12 = ⟨(some 31), .iaddr (.t 28) (.t 30) 1, (some (22, true))⟩ := idE rfl
@[go_sem] theorem g_Z45_5_13 : gAt l_Z45_5 13 = ⟨(some 32), .load (.t 31) 1 false, (some (22, true))⟩ := idE rfl
@[go_sem] theorem g_Z45_5_14 : gAt l_Z45_5 14 = ⟨(some 33), .callv (.t 23) [(.t 27), (.t 32)], (some (22, true))⟩ := idE rfl
@[go_sem] theorem g_Z45_5_15 : gAt l_Z45_5 15 = ⟨(some 34), .bin .lss (.t 33) (.c (.int .i64 0)), (some (22, true))⟩ := idE rfl
@[go_sem] theorem g_Z45_5_16 : gAt l_Z45_5 16 = ⟨(some 35), .un .not (.t 34), (some (22, true))⟩ := idE rfl
@[go_sem] theorem g_Z45_5_17 : gAt l_Z45_5 17 = ⟨(some 36), .pick (.t 22) (.t 35) (.c (.bool false)), none⟩ := idE rfl
def Z45_5 : IR := .dops l_Z45_5 [(0, []), (1, []), (2, []), (3, []), (4, []), (5, []), (6, []), (7, []), (8, []), (9, []), (10, []), (11, []), (12, []), (13, []), (14, []), (15, []), (16, []), (17, [])]
@[go_sem] theorem w_Z45_5 : wp P Z45_5 Q e H = wpD P l_Z45_5 [(0, []), (1, []), (2, []), (3, []), (4, []), (5, []), (6, []), (7, []), (8, []), (9, []), (10, []), (11, []), (12, []), (13, []), (14, []), (15, []), (16, []), (17, [])] (Q .normal) e H := idE rfl
def Z45_6 : IR := .cond (.t 36) .skip (.exit 2)
@[go_sem] theorem w_Z45_6 : wp P Z45_6 Q e H = condW P ((.t 36) : X) .skip (.exit 2) Q e H := idE rfl
@[go_sem] def l_Z45_7 : List GOp := [⟨(some 37), .mv (.t 9), none⟩,
    ⟨(some 38), .bin .add (.t 37) (.c (.int .i64 1)), none⟩,
    ⟨(some 9), .mv (.t 38), none⟩]
def Z45_7 : IR := .ops l_Z45_7
@[go_sem] theorem w_Z45_7 : wp P Z45_7 Q e H = wpL P l_Z45_7 (Q .normal) e H := idE rfl
def Z45_8 : IR := .block 3 Z45_7
@[go_sem] theorem w_Z45_8 : wp P Z45_8 Q e H = wp P Z45_7 (blockQ 3 Q) e H := idE rfl
def Z45_9 : IR := .loop (.seq (.seq Z45_5 Z45_6) Z45_8)
def Z45_10 : IR := .block 2 Z45_9
@[go_sem] theorem w_Z45_10 : wp P Z45_10 Q e H = wp P Z45_9 (blockQ 2 Q) e H := idE rfl
@[go_sem] def l_Z45_11 : List GOp := [⟨(some 39), .mv (.t 9), none⟩,
    ⟨(some 40), .mv (.t 2), none⟩,
    ⟨(some 41), .bin .eql (.t 39) (.t 40), none⟩]
def Z45_11 : IR := .ops l_Z45_11
@[go_sem] theorem w_Z45_11 : wp P Z45_11 Q e H = wpL P l_Z45_11 (Q .normal) e H := idE rfl
@[go_sem] def l_Z45_12 : List GOp := [⟨(some 8), .mv (.c (.bool true)), none⟩]
def Z45_12 : IR := .ops l_Z45_12
@[go_sem] theorem w_Z45_12 : wp P Z45_12 Q e H = wpL P l_Z45_12 (Q .normal) e H := idE rfl
def Z45_13 : IR := .cond (.t 41) (.seq Z45_12 .ret) .skip
@[go_sem] theorem w_Z45_13 : wp P Z45_13 Q e H = condW P ((.t 41) : X) (.seq Z45_12 .ret) .skip Q e H := idE rfl
@[go_sem] def l_Z45_14 : List GOp := [⟨(some 42), .mv (.t 2), none⟩,
    ⟨(some 43), .mv (.t 1), none⟩,
    ⟨(some 44), .bin .sub (.t 42) (.t 43), none⟩,
    ⟨(some 45), .bin .lss (.t 44) (.c (.int .i64 50)), none⟩]
def Z45_14 : IR := .ops l_Z45_14
@[go_sem] theorem w_Z45_14 : wp P Z45_14 Q e H = wpL P l_Z45_14 (Q .normal) e H := idE rfl
@[go_sem] def l_Z45_15 : List GOp := [⟨(some 8), .mv (.c (.bool false)), none⟩]
def Z45_15 : IR := .ops l_Z45_15
@[go_sem] theorem w_Z45_15 : wp P Z45_15 Q e H = wpL P l_Z45_15 (Q .normal) e H := idE rfl
def Z45_16 : IR := .cond (.t 45) (.seq Z45_15 .ret) .skip
@[go_sem] theorem w_Z45_16 : wp P Z45_16 Q e H = condW P ((.t 45) : X) (.seq Z45_15 .ret) .skip Q e H := idE rfl
def l_Z45_17 : List GOp := [⟨(some 46), .mv (.t 0), none⟩,
    ⟨(some 47), .mv (.t 9), none⟩,
    ⟨(some 48), .mv (.t 0), none⟩,
    ⟨(some 49), .mv (.t 9), none⟩,
    ⟨(some 50), .bin .sub (.t 49) (.c (.int .i64 1)), none⟩,
    ⟨(some 51), .mv (.t 0), none⟩,
    ⟨(some 52), .mv (.t 9), none⟩,
    ⟨(some 53), .bin .sub (.t 52) (.c (.int .i64 1)), none⟩,
    ⟨(some 54), .iaddr (.t 51) (.t 53) 1, none⟩,
    ⟨(some 55), .load (.t 54) 1 false, none⟩,
    ⟨(some 56), .mv (.t 0), none⟩,
    ⟨(some 57), .mv (.t 9), none⟩,
    ⟨(some 58), .iaddr (.t 56) (.t 57) 1, none⟩,
    ⟨(some 59), .load (.t 58) 1 false, none⟩,
    ⟨(some 60), .iaddr (.t 46) (.t 47) 1, none⟩,
    ⟨none, .store (.t 60) 1 (.t 55), none⟩,
    ⟨(some 61), .iaddr (.t 48) (.t 50) 1, none⟩,
    ⟨none, .store (.t 61) 1 (.t 59), none⟩]
@[go_sem] theorem g_Z45_17_0 : gAt l_Z45_17 0 = ⟨(some 46), .mv (.t 0), none⟩ := idE rfl
@[go_sem] theorem g_Z45_17_1 : gAt l_Z45_17 1 = ⟨(some 47), .mv (.t 9), none⟩ := idE rfl
@[go_sem] theorem g_Z45_17_2 : gAt l_Z45_17 2 = ⟨(some 48), .mv (.t 0), none⟩ := idE rfl
@[go_sem] theorem g_Z45_17_3 : gAt l_Z45_17 3 = ⟨(some 49), .mv (.t 9), none⟩ := idE rfl
@[go_sem] theorem g_Z45_17_4 : gAt l_Z45_17 4 = ⟨(some 50), .bin .sub (.t 49) (.c (.int .i64 1)), none⟩ := idE rfl
@[go_sem] theorem g_Z45_17_5 : gAt l_Z45_17 5 = ⟨(some 51), .mv (.t 0), none⟩ := idE rfl
@[go_sem] theorem g_Z45_17_6 : gAt l_Z45_17 6 = ⟨(some 52), .mv (.t 9), none⟩ := idE rfl
@[go_sem] theorem g_Z45_17_7 : gAt l_Z45_17 7 = ⟨(some 53), .bin .sub (.t 52) (.c (.int .i64 1)), none⟩ := idE rfl
@[go_sem] theorem g_Z45_17_8 : gAt l_Z45_17 8 = ⟨(some 54), .iaddr (.t 51) (.t 53) 1, none⟩ := idE rfl
@[go_sem] theorem g_Z45_17_9 : gAt l_Z45_17 9 = ⟨(some 55), .load (.t 54) 1 false, none⟩ := idE rfl
@[go_sem] theorem g_Z45_17_10 : gAt l_Z45_17 10 = ⟨(some 56), .mv (.t 0), none⟩ := idE rfl
@[go_sem] theorem g_Z45_17_11 : gAt l_Z45_17 11 = ⟨(some 57), .mv (.t 9), none⟩ := idE rfl
@[go_sem] theorem g_Z45_17_12 : gAt l_Z45_17 12 = ⟨(some 58), .iaddr (.t 56) (.t 57) 1, none⟩ := idE rfl
@[go_sem] theorem g_Z45_17_13 : gAt l_Z45_17 13 = ⟨(some 59), .load (.t 58) 1 false, none⟩ := idE rfl
@[go_sem] theorem g_Z45_17_14 : gAt l_Z45_17 14 = ⟨(some 60), .iaddr (.t 46) (.t 47) 1, none⟩ := idE rfl
@[go_sem] theorem g_Z45_17_15 : gAt l_Z45_17 15 = ⟨none, .store (.t 60) 1 (.t 55), none⟩ := idE rfl
@[go_sem] theorem g_Z45_17_16 : gAt l_Z45_17 16 = ⟨(some 61), .iaddr (.t 48) (.t 50) 1, none⟩ := idE rfl
@[go_sem] theorem g_Z45_17_17 : gAt l_Z45_17 17 = ⟨none, .store (.t 61) 1 (.t 59), none⟩ := idE rfl
def Z45_17 : IR := .dops l_Z45_17 [(0, []), (1, []), (2, []), (3, []), (4, []), (5, []), (6, []), (7, []), (8, []), (9, []), (10, []), (11, []), (12, []), (13, []), (14, []), (15, []), (16, []), (17, [])]
@[go_sem] theorem w_Z45_17 : wp P Z45_17 Q e H = wpD P l_Z45_17 [(0, []), (1, []), (2, []), (3, []), (4, []), (5, []), (6, []), (7, []), (8, []), (9, []), (10, []), (11, []), (12, []), (13, []), (14, []), (15, []), (16, []), (17, [])] (Q .normal) e H := idE rfl
@[go_sem] def l_Z45_18 : List GOp := [⟨(some 62), .mv (.t 9), none⟩,
    ⟨(some 63), .mv (.t 1), none⟩,
    ⟨(some 64), .bin .sub (.t 62) (.t 63), none⟩,
    ⟨(some 65), .bin .geq (.t 64) (.c (.int .i64 2)), none⟩]
def Z45_18 : IR := .ops l_Z45_18
@[go_sem] theorem w_Z45_18 : wp P Z45_18 Q e H = wpL P l_Z45_18 (Q .normal) e H := idE rfl
@[go_sem] def l_Z45_19 : List GOp := [⟨(some 66), .mv (.t 9), none⟩,
    ⟨(some 67), .bin .sub (.t 66) (.c (.int .i64 1)), none⟩,
    ⟨(some 11), .mv (.t 67), none⟩]
def Z45_19 : IR := .ops l_Z45_19
@[go_sem] theorem w_Z45_19 : wp P Z45_19 Q e H = wpL P l_Z45_19 (Q .normal) e H := idE rfl
@[go_sem] def l_Z45_20 : List GOp := [⟨(some 68), .mv (.t 11), none⟩,
    ⟨(some 69), .bin .geq (.t 68) (.c (.int .i64 1)), none⟩]
def Z45_20 : IR := .ops l_Z45_20
@[go_sem] theorem w_Z45_20 : wp P Z45_20 Q e H = wpL P l_Z45_20 (Q .normal) e H := idE rfl
def Z45_21 : IR := .cond (.t 69) .skip (.exit 4)
@[go_sem] theorem w_Z45_21 : wp P Z45_21 Q e H = condW P ((.t 69) : X) .skip (.exit 4) Q e H := idE rfl
def l_Z45_22 : List GOp := [⟨(some 72), .mv (.t 3), none⟩,
    ⟨(some 73), .mv (.t 0), none⟩,
    ⟨(some 74), .mv (.t 11), none⟩,
    ⟨(some 75), .iaddr (.t 73) (.t 74) 1, none⟩,
    ⟨(some 76), .load (.t 75) 1 false, none⟩,
    ⟨(some 77), .mv (.t 0), none⟩,
    ⟨(some 78), .mv (.t 11), none⟩,
    ⟨(some 79), .bin .sub (.t 78) (.c (.int .i64 1)), none⟩,
    ⟨(some 80), .iaddr (.t 77) (.t 79) 1, none⟩,
    ⟨(some 81), .load (.t 80) 1 false, none⟩,
    ⟨(some 82), .callv (.t 72) [(.t 76), (.t 81)], none⟩,
    ⟨(some 83), .bin .lss (.t 82) (.c (.int .i64 0)), none⟩,
    ⟨(some 84), .un .not (.t 83), none⟩]
@[go_sem] theorem g_Z45_22_0 : gAt l_Z45_22 0 = ⟨(some 72), .mv (.t 3), none⟩ := idE rfl
@[go_sem] theorem g_Z45_22_1 : gAt l_Z45_22 1 = ⟨(some 73), .mv (.t 0), none⟩ := idE rfl
@[go_sem] theorem g_Z45_22_2 : gAt l_Z45_22 2 = ⟨(some 74), .mv (.t 11), none⟩ := idE rfl
@[go_sem] theorem g_Z45_22_3 : gAt l_Z45_22 3 = ⟨(some 75), .iaddr (.t 73) (.t 74) 1, none⟩ := idE rfl
@[go_sem] theorem g_Z45_22_4 : gAt l_Z45_22 4 = ⟨(some 76), .load (.t 75) 1 false, none⟩ := idE rfl
@[go_sem] theorem g_Z45_22_5 : gAt l_Z45_22 5 = ⟨(some 77), .mv (.t 0), none⟩ := idE rfl
@[go_sem] theorem g_Z45_22_6 : gAt l_Z45_22 6 = ⟨(some 78), .mv (.t 11), none⟩ := idE rfl
@[go_sem] theorem g_Z45_22_7 : gAt l_Z45_22 7 = ⟨(some 79), .bin .sub (.t 78) (.c (.int .i64 1)), none⟩ := idE rfl
@[go_sem] theorem g_Z45_22_8 : gAt l_Z45_22 8 = ⟨(some 80), .iaddr (.t 77) (.t 79) 1, none⟩ := idE rfl
@[go_sem] theorem g_Z45_22_9 : gAt l_Z45_22 9 = ⟨(some 81), .load (.t 80) 1 false, none⟩ := idE rfl
@[go_sem] theorem g_Z45_22_10 : gAt l_Z45_22 10 = ⟨(some 82), .callv (.t 72) [(.t 76), (.t 81)], none⟩ := idE rfl
@[go_sem] theorem g_Z45_22_11 : gAt l_Z45_22 11 = ⟨(some 83), .bin .lss (.t 82) (.c (.int .i64 0)), none⟩ := idE rfl
@[go_sem] theorem g_Z45_22_12 : gAt l_Z45_22 12 = ⟨(some 84), .un .not (.t 83), none⟩ := idE rfl
def Z45_22 : IR := .dops l_Z45_22 [(0, []), (1, []), (2, []), (3, []), (4, []), (5, []), (6, []), (7, []), (8, []), (9, []), (10, []), (11, []), (12, [])]
@[go_sem] theorem w_Z45_22 : wp P Z45_22 Q e H = wpD P l_Z45_22 [(0, []), (1, []), (2, []), (3, []), (4, []), (5, []), (6, []), (7, []), (8, []), (9, []), (10, []), (11, []), (12, [])] (Q .normal) e H := idE rfl
def Z45_23 : IR := .cond (.t 84) (.exit 4) .skip
@[go_sem] theorem w_Z45_23 : wp P Z45_23 Q e H = condW P ((.t 84) : X) (.exit 4) .skip Q e H := idE rfl
def l_Z45_24 : List GOp := [⟨(some 85), .mv (.t 0), none⟩,
    ⟨(some 86), .mv (.t 11), none⟩,
    ⟨(some 87), .mv (.t 0), none⟩,
    ⟨(some 88), .mv (.t 11), none⟩,
    ⟨(some 89), .bin .sub (.t 88) (.c (.int .i64 1)), none⟩,
    ⟨(some 90), .mv (.t 0), none⟩,
    ⟨(some 91), .mv (.t 11), none⟩,
    ⟨(some 92), .bin .sub (.t 91) (.c (.int .i64 1)), none⟩,
    ⟨(some 93), .iaddr (.t 90) (.t 92) 1, none⟩,
    ⟨(some 94), .load (.t 93) 1 false, none⟩,
    ⟨(some 95), .mv (.t 0), none⟩,
    ⟨(some 96), .mv (.t 11), none⟩,
    ⟨(some 97), .iaddr (.t 95) (.t 96) 1, none⟩,
    ⟨(some 98), .load (.t 97) 1 false, none⟩,
    ⟨(some 99), .iaddr (.t 85) (.t 86) 1, none⟩,
    ⟨none, .store (.t 99) 1 (.t 94), none⟩,
    ⟨(some 100), .iaddr (.t 87) (.t 89) 1, none⟩,
    ⟨none, .store (.t 100) 1 (.t 98), none⟩]
@[go_sem] theorem g_Z45_24_0 : gAt l_Z45_24 0 = ⟨(some 85), .mv (.t 0), none⟩ := idE rfl
@[go_sem] theorem g_Z45_24_1 : gAt l_Z45_24 1 = ⟨(some 86), .mv (.t 11), none⟩ := idE rfl
@[go_sem] theorem g_Z45_24_2 : gAt l_Z45_24 2 = ⟨(some 87), .mv (.t 0), none⟩ := idE rfl
@[go_sem] theorem g_Z45_24_3 : gAt l_Z45_24 3 = ⟨(some 88), .mv (.t 11), none⟩ := idE rfl
@[go_sem] theorem g_Z45_24_4 : gAt l_Z45_24 4 = ⟨(some 89), .bin .sub (.t 88) (.c (.int .i64 1)), none⟩ := idE rfl
@[go_sem] theorem g_Z45_24_5 : gAt l_Z45_24 5 = ⟨(some 90), .mv (.t 0), none⟩ := idE rfl
@[go_sem] theorem g_Z45_24_6 : gAt l_Z45_24 6 = ⟨(some 91), .mv (.t 11), none⟩ := idE rfl
@[go_sem] theorem g_Z45_24_7 : gAt l_Z45_24 7 = ⟨(some 92), .bin .sub (.t 91) (.c (.int .i64 1)), none⟩ := idE rfl
@[go_sem] theorem g_Z45_24_8 : gAt l_Z45_24 8 = ⟨(some 93), .iaddr (.t 90) (.t 92) 1, none⟩ := idE rfl
@[go_sem] theorem g_Z45_24_9 : gAt l_Z45_24 9 = ⟨(some 94), .load (.t 93) 1 false, none⟩ := idE rfl
@[go_sem] theorem g_Z45_24_10 : gAt l_Z45_24 10 = ⟨(some 95), .mv (.t 0), none⟩ := idE rfl
@[go_sem] theorem g_Z45_24_11 : gAt l_Z45_24 11 = ⟨(some 96), .mv (.t 11), none⟩ := idE rfl
@[go_sem] theorem g_Z45_24_12 : gAt l_Z45_24 12 = ⟨(some 97), .iaddr (.t 95) (.t 96) 1, none⟩ := idE rfl
@[go_sem] theorem g_Z45_24_13 : gAt l_Z45_24 13 = ⟨(some 98), .load (.t 97) 1 false, none⟩ := idE rfl
@[go_sem] theorem g_Z45_24_14 : gAt l_Z45_24 14 = ⟨(some 99), .iaddr (.t 85) (.t 86) 1, none⟩ := idE rfl
@[go_sem] theorem g_Z45_24_15 : gAt l_Z45_24 15 = ⟨none, .store (.t 99) 1 (.t 94), none⟩ := idE rfl
@[go_sem] theorem g_Z45_24_16 : gAt l_Z45_24 16 = ⟨(some 100), .iaddr (.t 87) (.t 89) 1, none⟩ := idE rfl
@[go_sem] theorem g_Z45_24_17 : gAt l_Z45_24 17 = ⟨none, .store (.t 100) 1 (.t 98), none⟩ := idE rfl
def Z45_24 : IR := .dops l_Z45_24 [(0, []), (1, []), (2, []), (3, []), (4, []), (5, []), (6, []), (7, []), (8, []), (9, []), (10, []), (11, []), (12, []), (13, []), (14, []), (15, []), (16, []), (17, [])]
@[go_sem] theorem w_Z45_24 : wp P Z45_24 Q e H = wpD P l_Z45_24 [(0, []), (1, []), (2, []), (3, []), (4, []), (5, []), (6, []), (7, []), (8, []), (9, []), (10, []), (11, []), (12, []), (13, []), (14, []), (15, []), (16, []), (17, [])] (Q .normal) e H := idE rfl
def Z45_25 : IR := .block 5 (.seq (.seq Z45_22 Z45_23) Z45_24)
@[go_sem] theorem w_Z45_25 : wp P Z45_25 Q e H = wp P (.seq (.seq Z45_22 Z45_23) Z45_24) (blockQ 5 Q) e H := idE rfl
@[go_sem] def l_Z45_26 : List GOp := [⟨(some 70), .mv (.t 11), none⟩,
    ⟨(some 71), .bin .sub (.t 70) (.c (.int .i64 1)), none⟩,
    ⟨(some 11), .mv (.t 71), none⟩]
def Z45_26 : IR := .ops l_Z45_26
@[go_sem] theorem w_Z45_26 : wp P Z45_26 Q e H = wpL P l_Z45_26 (Q .normal) e H := idE rfl
def Z45_27 : IR := .loop (.seq (.seq Z45_20 Z45_21) (.seq Z45_25 Z45_26))
def Z45_28 : IR := .block 4 Z45_27
@[go_sem] theorem w_Z45_28 : wp P Z45_28 Q e H = wp P Z45_27 (blockQ 4 Q) e H := idE rfl
def Z45_29 : IR := .cond (.t 65) (.seq Z45_19 Z45_28) .skip
@[go_sem] theorem w_Z45_29 : wp P Z45_29 Q e H = condW P ((.t 65) : X) (.seq Z45_19 Z45_28) .skip Q e H := idE rfl
@[go_sem] def l_Z45_30 : List GOp := [⟨(some 101), .mv (.t 2), none⟩,
    ⟨(some 102), .mv (.t 9), none⟩,
    ⟨(some 103), .bin .sub (.t 101) (.t 102), none⟩,
    ⟨(some 104), .bin .geq (.t 103) (.c (.int .i64 2)), none⟩]
def Z45_30 : IR := .ops l_Z45_30
@[go_sem] theorem w_Z45_30 : wp P Z45_30 Q e H = wpL P l_Z45_30 (Q .normal) e H := idE rfl
@[go_sem] def l_Z45_31 : List GOp := [⟨(some 105), .mv (.t 9), none⟩,
    ⟨(some 106), .bin .add (.t 105) (.c (.int .i64 1)), none⟩,
    ⟨(some 12), .mv (.t 106), none⟩]
def Z45_31 : IR := .ops l_Z45_31
@[go_sem] theorem w_Z45_31 : wp P Z45_31 Q e H = wpL P l_Z45_31 (Q .normal) e H := idE rfl
@[go_sem] def l_Z45_32 : List GOp := [⟨(some 107), .mv (.t 12), none⟩,
    ⟨(some 108), .mv (.t 2), none⟩,
    ⟨(some 109), .bin .lss (.t 107) (.t 108), none⟩]
def Z45_32 : IR := .ops l_Z45_32
@[go_sem] theorem w_Z45_32 : wp P Z45_32 Q e H = wpL P l_Z45_32 (Q .normal) e H := idE rfl
def Z45_33 : IR := .cond (.t 109) .skip (.exit 6)
@[go_sem] theorem w_Z45_33 : wp P Z45_33 Q e H = condW P ((.t 109) : X) .skip (.exit 6) Q e H := idE rfl
def l_Z45_34 : List GOp := [⟨(some 112), .mv (.t 3), none⟩,
    ⟨(some 113), .mv (.t 0), none⟩,
    ⟨(some 114), .mv (.t 12), none⟩,
    ⟨(some 115), .iaddr (.t 113) (.t 114) 1, none⟩,
    ⟨(some 116), .load (.t 115) 1 false, none⟩,
    ⟨(some 117), .mv (.t 0), none⟩,
    ⟨(some 118), .mv (.t 12), none⟩,
    ⟨(some 119), .bin .sub (.t 118) (.c (.int .i64 1)), none⟩,
    ⟨(some 120), .iaddr (.t 117) (.t 119) 1, none⟩,
    ⟨(some 121), .load (.t 120) 1 false, none⟩,
    ⟨(some 122), .callv (.t 112) [(.t 116), (.t 121)], none⟩,
    ⟨(some 123), .bin .lss (.t 122) (.c (.int .i64 0)), none⟩,
    ⟨(some 124), .un .not (.t 123), none⟩]
@[go_sem] theorem g_Z45_34_0 : gAt l_Z45_34 0 = ⟨(some 112), .mv (.t 3), none⟩ := idE rfl
@[go_sem] theorem g_Z45_34_1 : gAt l_Z45_34 1 = ⟨(some 113), .mv (.t 0), none⟩ := idE rfl
@[go_sem] theorem g_Z45_34_2 : gAt l_Z45_34 2 = ⟨(some 114), .mv (.t 12), none⟩ := idE rfl
@[go_sem] theorem g_Z45_34_3 : gAt l_Z45_34 3 = ⟨(some 115), .iaddr (.t 113) (.t 114) 1, none⟩ := idE rfl
@[go_sem] theorem g_Z45_34_4 : gAt l_Z45_34 4 = ⟨(some 116), .load (.t 115) 1 false, none⟩ := idE rfl
@[go_sem] theorem g_Z45_34_5 : gAt l_Z45_34 5 = ⟨(some 117), .mv (.t 0), none⟩ := idE rfl
@[go_sem] theorem g_Z45_34_6 : gAt l_Z45_34 6 = ⟨(some 118), .mv (.t 12), none⟩ := idE rfl
@[go_sem] theorem g_Z45_34_7 : gAt l_Z45_34 7 = ⟨(some 119), .bin .sub (.t 118) (.c (.int .i64 1)), none⟩ := idE rfl
@[go_sem] theorem g_Z45_34_8 : gAt l_Z45_34 8 = ⟨(some 120), .iaddr (.t 117) (.t 119) 1, none⟩ := idE rfl
@[go_sem] theorem g_Z45_34_9 : gAt l_Z45_34 9 = ⟨(some 121), .load (.t 120) 1 false, none⟩ := idE rfl
@[go_sem] theorem g_Z45_34_10 : gAt l_Z45_34 10 = ⟨(some 122), .callv (.t 112) [(.t 116), (.t 121)], none⟩ := idE rfl
@[go_sem] theorem g_Z45_34_11 : gAt l_Z45_34 11 = ⟨(some 123), .bin .lss (.t 122) (.c (.int .i64 0)), none⟩ := idE rfl
@[go_sem] theorem g_Z45_34_12 : gAt l_Z45_34 12 = ⟨(some 124), .un .not (.t 123), none⟩ := idE rfl
def Z45_34 : IR := .dops l_Z45_34 [(0, []), (1, []), (2, []), (3, []), (4, []), (5, []), (6, []), (7, []), (8, []), (9, []), (10, []), (11, []), (12, [])]
@[go_sem] theorem w_Z45_34 : wp P Z45_34 Q e H = wpD P l_Z45_34 [(0, []), (1, []), (2, []), (3, []), (4, []), (5, []), (6, []), (7, []), (8, []), (9, []), (10, []), (11, []), (12, [])] (Q .normal) e H := idE rfl
def Z45_35 : IR := .cond (.t 124) (.exit 6) .skip
@[go_sem] theorem w_Z45_35 : wp P Z45_35 Q e H = condW P ((.t 124) : X) (.exit 6) .skip Q e H := idE rfl
def l_Z45_36 : List GOp := [⟨(some 125), .mv (.t 0), none⟩,
    ⟨(some 126), .mv (.t 12), none⟩,
    ⟨(some 127), .mv (.t 0), none⟩,
    ⟨(some 128), .mv (.t 12), none⟩,
    ⟨(some 129), .bin .sub (.t 128) (.c (.int .i64 1)), none⟩,
    ⟨(some 130), .mv (.t 0), none⟩,
    ⟨(some 131), .mv (.t 12), none⟩,
    ⟨(some 132), .bin .sub (.t 131) (.c (.int .i64 1)), none⟩,
    ⟨(some 133), .iaddr (.t 130) (.t 132) 1, none⟩,
    ⟨(some 134), .load (.t 133) 1 false, none⟩,
    ⟨(some 135), .mv (.t 0), none⟩,
    ⟨(some 136), .mv (.t 12), none⟩,
    ⟨(some 137), .iaddr (.t 135) (.t 136) 1, none⟩,
    ⟨(some 138), .load (.t 137) 1 false, none⟩,
    ⟨(some 139), .iaddr (.t 125) (.t 126) 1, none⟩,
    ⟨none, .store (.t 139) 1 (.t 134), none⟩,
    ⟨(some 140), .iaddr (.t 127) (.t 129) 1, none⟩,
    ⟨none, .store (.t 140) 1 (.t 138), none⟩]
@[go_sem] theorem g_Z45_36_0 : gAt l_Z45_36 0 = ⟨(some 125), .mv (.t 0), none⟩ := idE rfl
@[go_sem] theorem g_Z45_36_1 : gAt l_Z45_36 1 = ⟨(some 126), .mv (.t 12), none⟩ := idE rfl
@[go_sem] theorem g_Z45_36_2 : gAt l_Z45_36 2 = ⟨(some 127), .mv (.t 0), none⟩ := idE rfl
@[go_sem] theorem g_Z45_36_3 : gAt l_Z45_36 3 = ⟨(some 128), .mv (.t 12), none⟩ := idE rfl
@[go_sem] theorem g_Z45_36_4 : gAt l_Z45_36 4 = ⟨(some 129), .bin .sub (.t 128) (.c (.int .i64 1)), none⟩ := idE rfl
@[go_sem] theorem g_Z45_36_5 : gAt l_Z45_36 5 = ⟨(some 130), .mv (.t 0), none⟩ := idE rfl
@[go_sem] theorem g_Z45_36_6 : gAt l_Z45_36 6 = ⟨(some 131), .mv (.t 12), none⟩ := idE rfl
@[go_sem] theorem g_Z45_36_7 : gAt l_Z45_36 7 = ⟨(some 132), .bin .sub (.t 131) (.c (.int .i64 1)), none⟩ := idE rfl
@[go_sem] theorem g_Z45_36_8 : gAt l_Z45_36 8 = ⟨(some 133), .iaddr (.t 130) (.t 132) 1, none⟩ := idE rfl
@[go_sem] theorem g_Z45_36_9 : gAt l_Z45_36 9 = ⟨(some 134), .load (.t 133) 1 false, none⟩ := idE rfl
@[go_sem] theorem g_Z45_36_10 : gAt l_Z45_36 10 = ⟨(some 135), .mv (.t 0), none⟩ := idE rfl
@[go_sem] theorem g_Z45_36_11 : gAt l_Z45_36 11 = ⟨(some 136), .mv (.t 12), none⟩ := idE rfl
@[go_sem] theorem g_Z45_36_12 : gAt l_Z45_36 12 = ⟨(some 137), .iaddr (.t 135) (.t 136) 1, none⟩ := idE rfl
@[go_sem] theorem g_Z45_36_13 : gAt l_Z45_36 13 = ⟨(some 138), .load (.t 137) 1 false, none⟩ := idE rfl
@[go_sem] theorem g_Z45_36_14 : gAt l_Z45_36 14 = ⟨(some 139), .iaddr (.t 125) (.t 126) 1, none⟩ := idE rfl
@[go_sem] theorem g_Z45_36_15 : gAt l_Z45_36 15 = ⟨none, .store (.t 139) 1 (.t 134), none⟩ := idE rfl
@[go_sem] theorem g_Z45_36_16 : gAt l_Z45_36 16 = ⟨(some 140), .iaddr (.t 127) (.t 129) 1, none⟩ := idE rfl
@[go_sem] theorem g_Z45_36_17 : gAt l_Z45_36 17 = ⟨none, .store (.t 140) 1 (.t 138), none⟩ := idE rfl
def Z45_36 : IR := .dops l_Z45_36 [(0, []), (1, []), (2, []), (3, []), (4, []), (5, []), (6, []), (7, []), (8, []), (9, []), (10, []), (11, []), (12, []), (13, []), (14, []), (15, []), (16, []), (17, [])]
@[go_sem] theorem w_Z45_36 : wp P Z45_36 Q e H = wpD P l_Z45_36 [(0, []), (1, []), (2, []), (3, []), (4, []), (5, []), (6, []), (7, []), (8, []), (9, []), (10, []), (11, []), (12, []), (13, []), (14, []), (15, []), (16, []), (17, [])] (Q .normal) e H := idE rfl
def Z45_37 : IR := .block 7 (.seq (.seq Z45_34 Z45_35) Z45_36)
@[go_sem] theorem w_Z45_37 : wp P Z45_37 Q e H = wp P (.seq (.seq Z45_34 Z45_35) Z45_36) (blockQ 7 Q) e H := idE rfl
@[go_sem] def l_Z45_38 : List GOp := [⟨(some 110), .mv (.t 12), none⟩,
    ⟨(some 111), .bin .add (.t 110) (.c (.int .i64 1)), none⟩,
    ⟨(some 12), .mv (.t 111), none⟩]
def Z45_38 : IR := .ops l_Z45_38
@[go_sem] theorem w_Z45_38 : wp P Z45_38 Q e H = wpL P l_Z45_38 (Q .normal) e H := idE rfl
def Z45_39 : IR := .loop (.seq (.seq Z45_32 Z45_33) (.seq Z45_37 Z45_38))
def Z45_40 : IR := .block 6 Z45_39
@[go_sem] theorem w_Z45_40 : wp P Z45_40 Q e H = wp P Z45_39 (blockQ 6 Q) e H := idE rfl
def Z45_41 : IR := .cond (.t 104) (.seq Z45_31 Z45_40) .skip
@[go_sem] theorem w_Z45_41 : wp P Z45_41 Q e H = condW P ((.t 104) : X) (.seq Z45_31 Z45_40) .skip Q e H := idE rfl
def Z45_42 : IR := .block 1 (.seq Z45_10 (.seq (.seq Z45_11 Z45_13) (.seq (.seq Z45_14 Z45_16) (.seq Z45_17 (.seq (.seq Z45_18 Z45_29) (.seq Z45_30 Z45_41))))))
@[go_sem] theorem w_Z45_42 : wp P Z45_42 Q e H = wp P (.seq Z45_10 (.seq (.seq Z45_11 Z45_13) (.seq (.seq Z45_14 Z45_16) (.seq Z45_17 (.seq (.seq Z45_18 Z45_29) (.seq Z45_30 Z45_41)))))) (blockQ 1 Q) e H := idE rfl
@[go_sem] def l_Z45_43 : List GOp := [⟨(some 17), .mv (.t 10), none⟩,
    ⟨(some 18), .bin .add (.t 17) (.c (.int .i64 1)), none⟩,
    ⟨(some 10), .mv (.t 18), none⟩]
def Z45_43 : IR := .ops l_Z45_43
@[go_sem] theorem w_Z45_43 : wp P Z45_43 Q e H = wpL P l_Z45_43 (Q .normal) e H := idE rfl
def Z45_44 : IR := .loop (.seq (.seq Z45_3 Z45_4) (.seq Z45_42 Z45_43))
def Z45_45 : IR := .block 0 Z45_44
@[go_sem] theorem w_Z45_45 : wp P Z45_45 Q e H = wp P Z45_44 (blockQ 0 Q) e H := idE rfl
@[go_sem] def l_Z45_46 : List GOp := [⟨(some 8), .mv (.c (.bool false)), none⟩]
def Z45_46 : IR := .ops l_Z45_46
@[go_sem] theorem w_Z45_46 : wp P Z45_46 Q e H = wpL P l_Z45_46 (Q .normal) e H := idE rfl
@[go_sem] def l_Z47_0 : List GOp := [⟨(some 10), .mv (.c (.int .i64 0)), none⟩]
def Z47_0 : IR := .ops l_Z47_0
@[go_sem] theorem w_Z47_0 : wp P Z47_0 Q e H = wpL P l_Z47_0 (Q .normal) e H := idE rfl
def l_Z47_1 : List GOp := [⟨(some 13), .mv (.t 0), none⟩,
    ⟨(some 14), .mv (.t 1), none⟩,
    ⟨(some 15), .mv (.t 0), none⟩,
    ⟨(some 16), .mv (.t 3), none⟩,
    ⟨(some 17), .mv (.t 0), none⟩,
    ⟨(some 18), .mv (.t 3), none⟩,
    ⟨(some 19), .iaddr (.t 17) (.t 18) 1, none⟩,
    ⟨(some 20), .load (.t 19) 1 false, none⟩,
    ⟨(some 21), .mv (.t 0), none⟩,
    ⟨(some 22), .mv (.t 1), none⟩,
    ⟨(some 23), .iaddr (.t 21) (.t 22) 1, none⟩,
    ⟨(some 24), .load (.t 23) 1 false, none⟩,
    ⟨(some 25), .iaddr (.t 13) (.t 14) 1, none⟩,
    ⟨none, .store (.t 25) 1 (.t 20), none⟩,
    ⟨(some 26), .iaddr (.t 15) (.t 16) 1, none⟩,
    ⟨none, .store (.t 26) 1 (.t 24), none⟩]
@[go_sem] theorem g_Z47_1_0 : gAt l_Z47_1 0 = ⟨(some 13), .mv (.t 0), none⟩ := idE rfl
@[go_sem] theorem g_Z47_1_1 : gAt l_Z47_1 1 = ⟨(some 14), .mv (.t 1), none⟩ := idE rfl
@[go_sem] theorem g_Z47_1_2 : gAt l_Z47_1 2 = ⟨(some 15), .mv (.t 0), none⟩ := idE rfl
@[go_sem] theorem g_Z47_1_3 : gAt l_Z47_1 3 = ⟨(some 16), .mv (.t 3), none⟩ := idE rfl
@[go_sem] theorem g_Z47_1_4 : gAt l_Z47_1 4 = ⟨(some 17), .mv (.t 0), none⟩ := idE rfl
@[go_sem] theorem g_Z47_1_5 : gAt l_Z47_1 5 = ⟨(some 18), .mv (.t 3), none⟩ := idE rfl
@[go_sem] theorem g_Z47_1_6 : gAt l_Z47_1 6 = ⟨(some 19), .iaddr (.t 17) (.t 18) 1, none⟩ := idE rfl
@[go_sem] theorem g_Z47_1_7 : gAt l_Z47_1 7 = ⟨(some 20), .load (.t 19) 1 false, none⟩ := idE rfl
@[go_sem] theorem g_Z47_1_8 : gAt l_Z47_1 8 = ⟨(some 21), .mv (.t 0), none⟩ := idE rfl
@[go_sem] theorem g_Z47_1_9 : gAt l_Z47_1 9 = ⟨(some 22), .mv (.t 1), none⟩ := idE rfl
@[go_sem] theorem g_Z47_1_10 : gAt l_Z47_1 10 = ⟨(some 23), .iaddr (.t 21) (.t 22) 1, none⟩ := idE rfl
@[go_sem] theorem g_Z47_1_11 : gAt l_Z47_1 11 = ⟨(some 24), .load (.t 23) 1 false, none⟩ := idE rfl
@[go_sem] theorem g_Z47_1_12 : gAt l_Z47_1 12 = ⟨(some 25), .iaddr (.t 13) (.t 14) 1, none⟩ := idE rfl
@[go_sem] theorem g_Z47_1_13 : gAt l_Z47_1 13 = ⟨none, .store (.t 25) 1 (.t 20), none⟩ := idE rfl
@[go_sem] theorem g_Z47_1_14 : gAt l_Z47_1 14 = ⟨(some 26), .iaddr (.t 15) (.t 16) 1, none⟩ := idE rfl
@[go_sem] theorem g_Z47_1_15 : gAt l_Z47_1 15 = ⟨none, .store (.t 26) 1 (.t 24), none⟩ := idE rfl
def Z47_1 : IR := .dops l_Z47_1 [(0, []), (1, []), (2, []), (3, []), (4, []), (5, []), (6, []), (7, []), (8, []), (9, []), (10, []), (11, []), (12, []), (13, []), (14, []), (15, [])]
@[go_sem] theorem w_Z47_1 : wp P Z47_1 Q e H = wpD P l_Z47_1 [(0, []), (1, []), (2, []), (3, []), (4, []), (5, []), (6, []), (7, []), (8, []), (9, []), (10, []), (11, []), (12, []), (13, []), (14, []), (15, [])] (Q .normal) e H := idE rfl
@[go_sem] def l_Z47_2 : List GOp := [⟨(some 27), .mv (.t 1), none⟩,
    ⟨(some 28), .bin .add (.t 27) (.c (.int .i64 1)), none⟩,
    ⟨(some 29), .mv (.t 2), none⟩,
    ⟨(some 30), .bin .sub (.t 29) (.c (.int .i64 1)), none⟩,
    ⟨(some 11), .mv (.t 28), none⟩,
    ⟨(some 12), .mv (.t 30), none⟩]
def Z47_2 : IR := .ops l_Z47_2
@[go_sem] theorem w_Z47_2 : wp P Z47_2 Q e H = wpL P l_Z47_2 (Q .normal) e H := idE rfl
def l_Z47_3 : List GOp := [⟨(some 31), .mv (.t 11), none⟩,
    ⟨(some 32), .mv (.t 12), none⟩,
    ⟨(some 33), .bin .leq (.t 31) (.t 32), none⟩,
    ⟨(some 34), .mv (.t 33), none⟩,
    ⟨(some 35), .mv (.t 4), (some (34, true))⟩,
    ⟨(some 36), .mv (.t 0), (some (34, true))⟩,
    ⟨(some 37), .mv (.t 1), (some (34, true))⟩,
    ⟨(some 38), .iaddr (.t 36) (.t 37) 1, (some (34, true))⟩,
    ⟨(some 39), .load (.t 38) 1 false, (some (34, true))⟩,
    ⟨(some 40), .mv (.t 0), (some (34, true))⟩,
    ⟨(some 41), .mv (.t 11), (some (34, true))⟩,
    ⟨(some 42), .iaddr (.t 40) (.t 41) 1, (some (34, true))⟩,
    ⟨(some 43), .load (.t 42) 1 false, (some (34, true))⟩,
    ⟨(some 44), .callv (.t 35) [(.t 39), (.t 43)], (some (34, true))⟩,
    ⟨(some 45), .bin .lss (.t 44) (.c (.int .i64 0)), (some (34, true))⟩,
    ⟨(some 46), .un .not (.t 45), (some (34, true))⟩,
    ⟨(some 47), .pick (.t 34) (.t 46) (.c (.bool false)), none⟩]
@[go_sem] theorem g_Z47_3_0 : gAt l_Z47_3 0 = ⟨(some 31), .mv (.t 11), none⟩ := idE rfl
@[go_sem] theorem g_Z47_3_1 : gAt l_Z47_3 1 = ⟨(some 32), .mv (.t 12), none⟩ := idE rfl
@[go_sem] theorem g_Z47_3_2 : gAt l_Z47_3 2 = ⟨(some 33), .bin .leq (.t 31) (.t 32), none⟩ := idE rfl
@[go_sem] theorem g_Z47_3_3 : gAt l_Z47_3 3 = ⟨(some 34), .mv (.t 33), none⟩ := idE rfl
@[go_sem] theorem g_Z47_3_4 : gAt l_Z47_3 4 = ⟨(some 35), .mv (.t 4), (some (34, true))⟩ := idE rfl
@[go_sem] theorem g_Z47_3_5 : gAt l_Z47_3 5 = ⟨(some 36), .mv (.t 0), (some (34, true))⟩ := idE rfl
@[go_sem] theorem g_Z47_3_6 : gAt l_Z47_3 6 = ⟨(some 37), .mv (.t 1), (some (34, true))⟩ := idE rfl
@[go_sem] theorem g_Z47_3_7 : gAt l_Z47_3 7 = ⟨(some 38), .iaddr (.t 36) (.t 37) 1, (some (34, true))⟩ := idE rfl
@[go_sem] theorem g_Z47_3_8 : gAt l_Z47_3 8 = ⟨(some 39), .load (.t 38) 1 false, (some (34, true))⟩ := idE rfl
@[go_sem] theorem g_Z47_3_9 : gAt l_Z47_3 9 = ⟨(some 40), .mv (.t 0), (some (34, true))⟩ := idE rfl
@[go_sem] theorem g_Z47_3_10 : gAt l_Z47_3 10 = ⟨(some 41), .mv (.t 11), (some (34, true))⟩ := idE rfl
@[go_sem] theorem g_Z47_3_11 : gAt l_Z47_3 11 = ⟨(some 42), .iaddr (.t 40) (.t 41) 1, (some (34, true))⟩ := idE rfl
@[go_sem] theorem g_Z47_3_12 : gAt l_Z47_3 12 = ⟨(some 43), .load (.t 42) 1 false, (some (34, true))⟩ := idE rfl
@[go_sem] theorem g_Z47_3_13 : gAt l_Z47_3 13 = ⟨(some 44), .callv (.t 35) [(.t 39), (.t 43)], (some (34, true))⟩ := idE rfl
@[go_sem] theorem g_Z47_3_14 : gAt l_Z47_3 14 = ⟨(some 45), .bin .lss (.t 44) (.c (.int .i64 0)), (some (34, true))⟩ := idE rfl
@[go_sem] theorem g_Z47_3_15 : gAt l_Z47_3 15 = ⟨(some 46), .un .not (.t 45), (some (34, true))⟩ := idE rfl
@[go_sem] theorem g_Z47_3_16 : gAt l_Z47_3 16 = ⟨(some 47), .pick (.t 34) (.t 46) (.c (.bool false)), none⟩ := idE rfl
def Z47_3 : IR := .dops l_Z47_3 [(0, []), (1, []), (2, []), (3, []), (4, []), (5, []), (6, []), (7, []), (8, []), (9, []), (10, []), (11, []), (12, []), (13, []), (14, []), (15, []), (16, [])]
@[go_sem] theorem w_Z47_3 : wp P Z47_3 Q e H = wpD P l_Z47_3 [(0, []), (1, []), (2, []), (3, []), (4, []), (5, []), (6, []), (7, []), (8, []), (9, []), (10, []), (11, []), (12, []), (13, []), (14, []), (15, []), (16, [])] (Q .normal) e H := idE rfl
def Z47_4 : IR := .cond (.t 47) .skip (.exit 2)
@[go_sem] theorem w_Z47_4 : wp P Z47_4 Q e H = condW P ((.t 47) : X) .skip (.exit 2) Q e H := idE rfl
@[go_sem] def l_Z47_5 : List GOp := [⟨(some 48), .mv (.t 11), none⟩,
    ⟨(some 49), .bin .add (.t 48) (.c (.int .i64 1)), none⟩,
    ⟨(some 11), .mv (.t 49), none⟩]
def Z47_5 : IR := .ops l_Z47_5
@[go_sem] theorem w_Z47_5 : wp P Z47_5 Q e H = wpL P l_Z47_5 (Q .normal) e H := idE rfl
def Z47_6 : IR := .block 3 Z47_5
@[go_sem] theorem w_Z47_6 : wp P Z47_6 Q e H = wp P Z47_5 (blockQ 3 Q) e H := idE rfl
def Z47_7 : IR := .loop (.seq (.seq Z47_3 Z47_4) Z47_6)
def Z47_8 : IR := .block 2 Z47_7
@[go_sem] theorem w_Z47_8 : wp P Z47_8 Q e H = wp P Z47_7 (blockQ 2 Q) e H := idE rfl
def l_Z47_9 : List GOp := [⟨(some 50), .mv (.t 11), none⟩,
    ⟨(some 51), .mv (.t 12), none⟩,
    ⟨(some 52), .bin .leq (.t 50) (.t 51), none⟩,
    ⟨(some 53), .mv (.t 52), none⟩,
    ⟨(some 54), .mv (.t 4), (some (53, true))⟩,
    ⟨(some 55), .mv (.t 0), (some (53, true))⟩,
    ⟨(some 56), .mv (.t 1), (some (53, true))⟩,
    ⟨(some 57), .iaddr (.t 55) (.t 56) 1, (some (53, true))⟩,
    ⟨(some 58), .load (.t 57) 1 false, (some (53, true))⟩,
    ⟨(some 59), .mv (.t 0), (some (53, true))⟩,
    ⟨(some 60), .mv (.t 12), (some (53, true))⟩,
    ⟨(some 61), .iaddr (.t 59) (.t 60) 1, (some (53, true))⟩,
    ⟨(some 62), .load (.t 61) 1 false, (some (53, true))⟩,
    ⟨(some 63), .callv (.t 54) [(.t 58), (.t 62)], (some (53, true))⟩,
    ⟨(some 64), .bin .lss (.t 63) (.c (.int .i64 0)), (some (53, true))⟩,
    ⟨(some 65), .pick (.t 53) (.t 64) (.c (.bool false)), none⟩]
@[go_sem] theorem g_Z47_9_0 : gAt l_Z47_9 0 = ⟨(some 50), .mv (.t 11), none⟩ := idE rfl
@[go_sem] theorem g_Z47_9_1 : gAt l_Z47_9 1 = ⟨(some 51), .mv (.t 12), none⟩ := idE rfl
@[go_sem] theorem g_Z47_9_2 : gAt l_Z47_9 2 = ⟨(some 52), .bin .leq (.t 50) (.t 51), none⟩ := idE rfl
@[go_sem] theorem g_Z47_9_3 : gAt l_Z47_9 3 = ⟨(some 53), .mv (.t 52), none⟩ := idE rfl
@[go_sem] theorem g_Z47_9_4 : gAt l_Z47_9 4 = ⟨(some 54), .mv (.t 4), (some (53, true))⟩ := idE rfl
@[go_sem] theorem g_Z47_9_5 : gAt l_Z47_9 5 = ⟨(some 55), .mv (.t 0), (some (53, true))⟩ := idE rfl
@[go_sem] theorem g_Z47_9_6 : gAt l_Z47_9 6 = ⟨(some 56), .mv (.t 1), (some (53, true))⟩ := idE rfl
@[go_sem] theorem g_Z47_9_7 : gAt l_Z47_9 7 = ⟨(some 57), .iaddr (.t 55) (.t 56) 1, (some (53, true))⟩ := idE rfl
@[go_sem] theorem g_Z47_9_8 : gAt l_Z47_9 8 = ⟨(some 58), .load (.t 57) 1 false, (some (53, true))⟩ := idE rfl
@[go_sem] theorem g_Z47_9_9 : gAt l_Z47_9 9 = ⟨(some 59), .mv (.t 0), (some (53, true))⟩ := idE rfl
@[go_sem] theorem g_Z47_9_10 : gAt l_Z47_9 10 = ⟨(some 60), .mv (.t 12), (some (53, true))⟩ := idE rfl
@[go_sem] theorem g_Z47_9_11 : gAt l_Z47_9 11 = ⟨(some 61), .iaddr (.t 59) (.t 60) 1, (some (53, true))⟩ := idE rfl
@[go_sem] theorem g_Z47_9_12 : gAt l_Z47_9 12 = ⟨(some 62), .load (.t 61) 1 false, (some (53, true))⟩ := idE rfl
@[go_sem] theorem g_Z47_9_13 : gAt l_Z47_9 13 = ⟨(some 63), .callv (.t 54) [(.t 58), (.t 62)], (some (53, true))⟩ := idE rfl
@[go_sem] theorem g_Z47_9_14 : gAt l_Z47_9 14 = ⟨(some 64), .bin .lss (.t 63) (.c (.int .i64 0)), (some (53, true))⟩ := idE rfl
@[go_sem] theorem g_Z47_9_15 : gAt l_Z47_9 15 = ⟨(some 65), .pick (.t 53) (.t 64) (.c (.bool false)), none⟩ := idE rfl
def Z47_9 : IR := .dops l_Z47_9 [(0, []), (1, []), (2, []), (3, []), (4, []), (5, []), (6, []), (7, []), (8, []), (9, []), (10, []), (11, []), (12, []), (13, []), (14, []), (15, [])]
@[go_sem] theorem w_Z47_9 : wp P Z47_9 Q e H = wpD P l_Z47_9 [(0, []), (1, []), (2, []), (3, []), (4, []), (5, []), (6, []), (7, []), (8, []), (9, []), (10, []), (11, []), (12, []), (13, []), (14, []), (15, [])] (Q .normal) e H := idE rfl
def Z47_10 : IR := .cond (.t 65) .skip (.exit 4)
@[go_sem] theorem w_Z47_10 : wp P Z47_10 Q e H = condW P ((.t 65) : X) .skip (.exit 4) Q e H := idE rfl
@[go_sem] def l_Z47_11 : List GOp := [⟨(some 66), .mv (.t 12), none⟩,
    ⟨(some 67), .bin .sub (.t 66) (.c (.int .i64 1)), none⟩,
    ⟨(some 12), .mv (.t 67), none⟩]
def Z47_11 : IR := .ops l_Z47_11
@[go_sem] theorem w_Z47_11 : wp P Z47_11 Q e H = wpL P l_Z47_11 (Q .normal) e H := idE rfl
def Z47_12 : IR := .block 5 Z47_11
@[go_sem] theorem w_Z47_12 : wp P Z47_12 Q e H = wp P Z47_11 (blockQ 5 Q) e H := idE rfl
def Z47_13 : IR := .loop (.seq (.seq Z47_9 Z47_10) Z47_12)
def Z47_14 : IR := .block 4 Z47_13
@[go_sem] theorem w_Z47_14 : wp P Z47_14 Q e H = wp P Z47_13 (blockQ 4 Q) e H := idE rfl
@[go_sem] def l_Z47_15 : List GOp := [⟨(some 68), .mv (.t 11), none⟩,
    ⟨(some 69), .mv (.t 12), none⟩,
    ⟨(some 70), .bin .gtr (.t 68) (.t 69), none⟩]
def Z47_15 : IR := .ops l_Z47_15
@[go_sem] theorem w_Z47_15 : wp P Z47_15 Q e H = wpL P l_Z47_15 (Q .normal) e H := idE rfl
def Z47_16 : IR := .cond (.t 70) (.exit 0) .skip
@[go_sem] theorem w_Z47_16 : wp P Z47_16 Q e H = condW P ((.t 70) : X) (.exit 0) .skip Q e H := idE rfl
def l_Z47_17 : List GOp := [⟨(some 71), .mv (.t 0), none⟩,
    ⟨(some 72), .mv (.t 11), none⟩,
    ⟨(some 73), .mv (.t 0), none⟩,
    ⟨(some 74), .mv (.t 12), none⟩,
    ⟨(some 75), .mv (.t 0), none⟩,
    ⟨(some 76), .mv (.t 12), none⟩,
    ⟨(some 77), .iaddr (.t 75) (.t 76) 1, none⟩,
    ⟨(some 78), .load (.t 77) 1 false, none⟩,
    ⟨(some 79), .mv (.t 0), none⟩,
    ⟨(some 80), .mv (.t 11), none⟩,
    ⟨(some 81), .iaddr (.t 79) (.t 80) 1, none⟩,
    ⟨(some 82), .load (.t 81) 1 false, none⟩,
    ⟨(some 83), .iaddr (.t 71) (.t 72) 1, none⟩,
    ⟨none, .store (.t 83) 1 (.t 78), none⟩,
    ⟨(some 84), .iaddr (.t 73) (.t 74) 1, none⟩,
    ⟨none, .store (.t 84) 1 (.t 82), none⟩]
@[go_sem] theorem g_Z47_17_0 : gAt l_Z47_17 0 = ⟨(some 71), .mv (.t 0), none⟩ := idE rfl
@[go_sem] theorem g_Z47_17_1 : gAt l_Z47_17 1 = ⟨(some 72), .mv (.t 11), none⟩ := idE rfl
@[go_sem] theorem g_Z47_17_2 : gAt l_Z47_17 2 = ⟨(some 73), .mv (.t 0), none⟩ := idE rfl
@[go_sem] theorem g_Z47_17_3 : gAt l_Z47_17 3 = ⟨(some 74), .mv (.t 12), none⟩ := idE rfl
@[go_sem] theorem g_Z47_17_4 : gAt l_Z47_17 4 = ⟨(some 75), .mv (.t 0), none⟩ := idE rfl
@[go_sem] theorem g_Z47_17_5 : gAt l_Z47_17 5 = ⟨(some 76), .mv (.t 12), none⟩ := idE rfl
@[go_sem] theorem g_Z47_17_6 : gAt l_Z47_17 6 = ⟨(some 77), .iaddr (.t 75) (.t 76) 1, none⟩ := idE rfl
@[go_sem] theorem g_Z47_17_7 : gAt l_Z47_17 7 = ⟨(some 78), .load (.t 77) 1 false, none⟩ := idE rfl
@[go_sem] theorem g_Z47_17_8 : gAt l_Z47_17 8 = ⟨(some 79), .mv (.t 0), none⟩ := idE rfl
@[go_sem] theorem g_Z47_17_9 : gAt l_Z47_17 9 = ⟨(some 80), .mv (.t 11), none⟩ := idE rfl
@[go_sem] theorem g_Z47_17_10 : gAt l_Z47_17 10 = ⟨(some 81), .iaddr (.t 79) (.t 80) 1, none⟩ := idE rfl
@[go_sem] theorem g_Z47_17_11 : gAt l_Z47_17 11 = ⟨(some 82), .load (.t 81) 1 false, none⟩ := idE rfl
@[go_sem] theorem g_Z47_17_12 : gAt l_Z47_17 12 = ⟨(some 83), .iaddr (.t 71) (.t 72) 1, none⟩ := idE rfl
@[go_sem] theorem g_Z47_17_13 : gAt l_Z47_17 13 = ⟨none, .store (.t 83) 1 (.t 78), none⟩ := idE rfl
@[go_sem] theorem g_Z47_17_14 : gAt l_Z47_17 14 = ⟨(some 84), .iaddr (.t 73) (.t 74) 1, none⟩ := idE rfl
@[go_sem] theorem g_Z47_17_15 : gAt l_Z47_17 15 = ⟨none, .store (.t 84) 1 (.t 82), none⟩ := idE rfl
def Z47_17 : IR := .dops l_Z47_17 [(0, []), (1, []), (2, []), (3, []), (4, []), (5, []), (6, []), (7, []), (8, []), (9, []), (10, []), (11, []), (12, []), (13, []), (14, []), (15, [])]
@[go_sem] theorem w_Z47_17 : wp P Z47_17 Q e H = wpD P l_Z47_17 [(0, []), (1, []), (2, []), (3, []), (4, []), (5, []), (6, []), (7, []), (8, []), (9, []), (10, []), (11, []), (12, []), (13, []), (14, []), (15, [])] (Q .normal) e H := idE rfl
@[go_sem] def l_Z47_18 : List GOp := [⟨(some 85), .mv (.t 11), none⟩,
    ⟨(some 86), .bin .add (.t 85) (.c (.int .i64 1)), none⟩,
    ⟨(some 11), .mv (.t 86), none⟩]
def Z47_18 : IR := .ops l_Z47_18
@[go_sem] theorem w_Z47_18 : wp P Z47_18 Q e H = wpL P l_Z47_18 (Q .normal) e H := idE rfl
@[go_sem] def l_Z47_19 : List GOp := [⟨(some 87), .mv (.t 12), none⟩,
    ⟨(some 88), .bin .sub (.t 87) (.c (.int .i64 1)), none⟩,
    ⟨(some 12), .mv (.t 88), none⟩]
def Z47_19 : IR := .ops l_Z47_19
@[go_sem] theorem w_Z47_19 : wp P Z47_19 Q e H = wpL P l_Z47_19 (Q .normal) e H := idE rfl
def Z47_20 : IR := .block 1 (.seq Z47_8 (.seq Z47_14 (.seq (.seq Z47_15 Z47_16) (.seq Z47_17 (.seq Z47_18 Z47_19)))))
@[go_sem] theorem w_Z47_20 : wp P Z47_20 Q e H = wp P (.seq Z47_8 (.seq Z47_14 (.seq (.seq Z47_15 Z47_16) (.seq Z47_17 (.seq Z47_18 Z47_19))))) (blockQ 1 Q) e H := idE rfl
def Z47_21 : IR := .loop Z47_20
def Z47_22 : IR := .block 0 Z47_21
@[go_sem] theorem w_Z47_22 : wp P Z47_22 Q e H = wp P Z47_21 (blockQ 0 Q) e H := idE rfl
@[go_sem] def l_Z47_23 : List GOp := [⟨(some 89), .mv (.t 11), none⟩,
    ⟨(some 10), .mv (.t 89), none⟩]
def Z47_23 : IR := .ops l_Z47_23
@[go_sem] theorem w_Z47_23 : wp P Z47_23 Q e H = wpL P l_Z47_23 (Q .normal) e H := idE rfl
@[go_sem] def l_Z46_0 : List GOp := [⟨(some 10), .mv (.c (.int .i64 0)), none⟩,
    ⟨(some 11), .mv (.c (.bool false)), none⟩]
def Z46_0 : IR := .ops l_Z46_0
@[go_sem] theorem w_Z46_0 : wp P Z46_0 Q e H = wpL P l_Z46_0 (Q .normal) e H := idE rfl
def l_Z46_1 : List GOp := [⟨(some 14), .mv (.t 0), none⟩,
    ⟨(some 15), .mv (.t 1), none⟩,
    ⟨(some 16), .mv (.t 0), none⟩,
    ⟨(some 17), .mv (.t 3), none⟩,
    ⟨(some 18), .mv (.t 0), none⟩,
    ⟨(some 19), .mv (.t 3), none⟩,
    ⟨(some 20), .iaddr (.t 18) (.t 19) 1, none⟩,
    ⟨(some 21), .load (.t 20) 1 false, none⟩,
    ⟨(some 22), .mv (.t 0), none⟩,
    ⟨(some 23), .mv (.t 1), none⟩,
    ⟨(some 24), .iaddr (.t 22) (.t 23) 1, none⟩,
    ⟨(some 25), .load (.t 24) 1 false, none⟩,
    ⟨(some 26), .iaddr (.t 14) (.t 15) 1, none⟩,
    ⟨none, .store (.t 26) 1 (.t 21), none⟩,
    ⟨(some 27), .iaddr (.t 16) (.t 17) 1, none⟩,
    ⟨none, .store (.t 27) 1 (.t 25), none⟩]
@[go_sem] theorem g_Z46_1_0 : gAt l_Z46_1 0 = ⟨(some 14), .mv (.t 0), none⟩ := idE rfl
@[go_sem] theorem g_Z46_1_1 : gAt l_Z46_1 1 = ⟨(some 15), .mv (.t 1), none⟩ := idE rfl
@[go_sem] theorem g_Z46_1_2 : gAt l_Z46_1 2 = ⟨(some 16), .mv (.t 0), none⟩ := idE rfl
@[go_sem] theorem g_Z46_1_3 : gAt l_Z46_1 3 = ⟨(some 17), .mv (.t 3), none⟩ := idE rfl
@[go_sem] theorem g_Z46_1_4 : gAt l_Z46_1 4 = ⟨(some 18), .mv (.t 0), none⟩ := idE rfl
@[go_sem] theorem g_Z46_1_5 : gAt l_Z46_1 5 = ⟨(some 19), .mv (.t 3), none⟩ := idE rfl
@[go_sem] theorem g_Z46_1_6 : gAt l_Z46_1 6 = ⟨(some 20), .iaddr (.t 18) (.t 19) 1, none⟩ := idE rfl
@[go_sem] theorem g_Z46_1_7 : gAt l_Z46_1 7 = ⟨(some 21), .load (.t 20) 1 false, none⟩ := idE rfl
@[go_sem] theorem g_Z46_1_8 : gAt l_Z46_1 8 = ⟨(some 22), .mv (.t 0), none⟩ := idE rfl
@[go_sem] theorem g_Z46_1_9 : gAt l_Z46_1 9 = ⟨(some 23), .mv (.t 1), none⟩ := idE rfl
@[go_sem] theorem g_Z46_1_10 : gAt l_Z46_1 10 = ⟨(some 24), .iaddr (.t 22) (.t 23) 1, none⟩ := idE rfl
@[go_sem] theorem g_Z46_1_11 : gAt l_Z46_1 11 = ⟨(some 25), .load (.t 24) 1 false, none⟩ := idE rfl
@[go_sem] theorem g_Z46_1_12 : gAt l_Z46_1 12 = ⟨(some 26), .iaddr (.t 14) (.t 15) 1, none⟩ := idE rfl
@[go_sem] theorem g_Z46_1_13 : gAt l_Z46_1 13 = ⟨none, .store (.t 26) 1 (.t 21), none⟩ := idE rfl
@[go_sem] theorem g_Z46_1_14 : gAt l_Z46_1 14 = ⟨(some 27), .iaddr (.t 16) (.t 17) 1, none⟩ := idE rfl
@[go_sem] theorem g_Z46_1_15 : gAt l_Z46_1 15 = ⟨none, .store (.t 27) 1 (.t 25), none⟩ := idE rfl
def Z46_1 : IR := .dops l_Z46_1 [(0, []), (1, []), (2, []), (3, []), (4, []), (5, []), (6, []), (7, []), (8, []), (9, []), (10, []), (11, []), (12, []), (13, []), (14, []), (15, [])]
@[go_sem] theorem w_Z46_1 : wp P Z46_1 Q e H = wpD P l_Z46_1 [(0, []), (1, []), (2, []), (3, []), (4, []), (5, []), (6, []), (7, []), (8, []), (9, []), (10, []), (11, []), (12, []), (13, []), (14, []), (15, [])] (Q .normal) e H := idE rfl
@[go_sem] def l_Z46_2 : List GOp := [⟨(some 28), .mv (.t 1), none⟩,
    ⟨(some 29), .bin .add (.t 28) (.c (.int .i64 1)), none⟩,
    ⟨(some 30), .mv (.t 2), none⟩,
    ⟨(some 31), .bin .sub (.t 30) (.c (.int .i64 1)), none⟩,
    ⟨(some 12), .mv (.t 29), none⟩,
    ⟨(some 13), .mv (.t 31), none⟩]
def Z46_2 : IR := .ops l_Z46_2
@[go_sem] theorem w_Z46_2 : wp P Z46_2 Q e H = wpL P l_Z46_2 (Q .normal) e H := idE rfl
def l_Z46_3 : List GOp := [⟨(some 32), .mv (.t 12), none⟩,
    ⟨(some 33), .mv (.t 13), none⟩,
    ⟨(some 34), .bin .leq (.t 32) (.t 33), none⟩,
    ⟨(some 35), .mv (.t 34), none⟩,
    ⟨(some 36), .mv (.t 4), (some (35, true))⟩,
    ⟨(some 37), .mv (.t 0), (some (35, true))⟩,
    ⟨(some 38), .mv (.t 12), (some (35, true))⟩,
    ⟨(some 39), .iaddr (.t 37) (.t 38) 1, (some (35, true))⟩,
    ⟨(some 40), .load (.t 39) 1 false, (some (35, true))⟩,
    ⟨(some 41), .mv (.t 0), (some (35, true))⟩,
    ⟨(some 42), .mv (.t 1), (some (35, true))⟩,
    ⟨(some 43), .iaddr (.t 41) (.t 42) 1, (some (35, true))⟩,
    ⟨(some 44), .load (.t 43) 1 false, (some (35, true))⟩,
    ⟨(some 45), .callv (.t 36) [(.t 40), (.t 44)], (some (35, true))⟩,
    ⟨(some 46), .bin .lss (.t 45) (.c (.int .i64 0)), (some (35, true))⟩,
    ⟨(some 47), .pick (.t 35) (.t 46) (.c (.bool false)), none⟩]
@[go_sem] theorem g_Z46_3_0 : gAt l_Z46_3 0 = ⟨(some 32), .mv (.t 12), none⟩ := idE rfl
@[go_sem] theorem g_Z46_3_1 : gAt l_Z46_3 1 = ⟨(some 33), .mv (.t 13), none⟩ := idE rfl
@[go_sem] theorem g_Z46_3_2 : gAt l_Z46_3 2 = ⟨(some 34), .bin .leq (.t 32) (.t 33), none⟩ := idE rfl
@[go_sem] theorem g_Z46_3_3 : gAt l_Z46_3 3 = ⟨(some 35), .mv (.t 34), none⟩ := idE rfl
@[go_sem] theorem g_Z46_3_4 : gAt l_Z46_3 4 = ⟨(some 36), .mv (.t 4), (some (35, true))⟩ := idE rfl
@[go_sem] theorem g_Z46_3_5 : gAt l_Z46_3 5 = ⟨(some 37), .mv (.t 0), (some (35, true))⟩ := idE rfl
@[go_sem] theorem g_Z46_3_6 : gAt l_Z46_3 6 = ⟨(some 38), .mv (.t 12), (some (35, true))⟩ := idE rfl
@[go_sem] theorem g_Z46_3_7 : gAt l_Z46_3 7 = ⟨(some 39), .iaddr (.t 37) (.t 38) 1, (some (35, true))⟩ := idE rfl
@[go_sem] theorem g_Z46_3_8 : gAt l_Z46_3 8 = ⟨(some 40), .load (.t 39) 1 false, (some (35, true))⟩ := idE rfl
@[go_sem] theorem g_Z46_3_9 : gAt l_Z46_3 9 = ⟨(some 41), .mv (.t 0), (some (35, true))⟩ := idE rfl
@[go_sem] theorem g_Z46_3_10 : gAt l_Z46_3 10 = ⟨(some 42), .mv (.t 1), (some (35, true))⟩ := idE rfl
@[go_sem] theorem g_Z46_3_11 : gAt l_Z46_3 11 = ⟨(some 43), .iaddr (.t 41) (.t 42) 1, (some (35, true))⟩ := idE rfl
@[go_sem] theorem g_Z46_3_12 : gAt l_Z46_3 12 = ⟨(some 44), .load (.t 43) 1 false, (some (35, true))⟩ := idE rfl
@[go_sem] theorem g_Z46_3_13 : gAt l_Z46_3 13 = ⟨(some 45), .callv (.t 36) [(.t 40), (.t 44)], (some (35, true))⟩ := idE rfl
@[go_sem] theorem g_Z46_3_14 : gAt l_Z46_3 14 = ⟨(some 46), .bin .lss (.t 45) (.c (.int .i64 0)), (some (35, true))⟩ := idE rfl
@[go_sem] theorem g_Z46_3_15 : gAt l_Z46_3 15 = ⟨(some 47), .pick (.t 35) (.t 46) (.c (.bool false)), none⟩ := idE rfl
def Z46_3 : IR := .dops l_Z46_3 [(0, []), (1, []), (2, []), (3, []), (4, []), (5, []), (6, []), (7, []), (8, []), (9, []), (10, []), (11, []), (12, []), (13, []), (14, []), (15, [])]
@[go_sem] theorem w_Z46_3 : wp P Z46_3 Q e H = wpD P l_Z46_3 [(0, []), (1, []), (2, []), (3, []), (4, []), (5, []), (6, []), (7, []), (8, []), (9, []), (10, []), (11, []), (12, []), (13, []), (14, []), (15, [])] (Q .normal) e H := idE rfl
def Z46_4 : IR := .cond (.t 47) .skip (.exit 0)
@[go_sem] theorem w_Z46_4 : wp P Z46_4 Q e H = condW P ((.t 47) : X) .skip (.exit 0) Q e H := idE rfl
@[go_sem] def l_Z46_5 : List GOp := [⟨(some 48), .mv (.t 12), none⟩,
    ⟨(some 49), .bin .add (.t 48) (.c (.int .i64 1)), none⟩,
    ⟨(some 12), .mv (.t 49), none⟩]
def Z46_5 : IR := .ops l_Z46_5
@[go_sem] theorem w_Z46_5 : wp P Z46_5 Q e H = wpL P l_Z46_5 (Q .normal) e H := idE rfl
def Z46_6 : IR := .block 1 Z46_5
@[go_sem] theorem w_Z46_6 : wp P Z46_6 Q e H = wp P Z46_5 (blockQ 1 Q) e H := idE rfl
def Z46_7 : IR := .loop (.seq (.seq Z46_3 Z46_4) Z46_6)
def Z46_8 : IR := .block 0 Z46_7
@[go_sem] theorem w_Z46_8 : wp P Z46_8 Q e H = wp P Z46_7 (blockQ 0 Q) e H := idE rfl
def l_Z46_9 : List GOp := [⟨(some 50), .mv (.t 12), none⟩,
    ⟨(some 51), .mv (.t 13), none⟩,
    ⟨(some 52), .bin .leq (.t 50) (.t 51), none⟩,
    ⟨(some 53), .mv (.t 52), none⟩,
    ⟨(some 54), .mv (.t 4), (some (53, true))⟩,
    ⟨(some 55), .mv (.t 0), (some (53, true))⟩,
    ⟨(some 56), .mv (.t 13), (some (53, true))⟩,
    ⟨(some 57), .iaddr (.t 55) (.t 56) 1, (some (53, true))⟩,
    ⟨(some 58), .load (.t 57) 1 false, (some (53, true))⟩,
    ⟨(some 59), .mv (.t 0), (some (53, true))⟩,
    ⟨(some 60), .mv (.t 1), (some (53, true))⟩,
    ⟨(some 61), .iaddr (.t 59) (.t 60) 1, (some (53, true))⟩,
    ⟨(some 62), .load (.t 61) 1 false, (some (53, true))⟩,
    ⟨(some 63), .callv (.t 54) [(.t 58), (.t 62)], (some (53, true))⟩,
    ⟨(some 64), .bin .lss (.t 63) (.c (.int .i64 0)), (some (53, true))⟩,
    ⟨(some 65), .un .not (.t 64), (some (53, true))⟩,
    ⟨(some 66), .pick (.t 53) (.t 65) (.c (.bool false)), none⟩]
@[go_sem] theorem g_Z46_9_0 : gAt l_Z46_9 0 = ⟨(some 50), .mv (.t 12), none⟩ := idE rfl
@[go_sem] theorem g_Z46_9_1 : gAt l_Z46_9 1 = ⟨(some 51), .mv (.t 13), none⟩ := idE rfl
@[go_sem] theorem g_Z46_9_2 : gAt l_Z46_9 2 = ⟨(some 52), .bin .leq (.t 50) (.t 51), none⟩ := idE rfl
@[go_sem] theorem g_Z46_9_3 : gAt l_Z46_9 3 = ⟨(some 53), .mv (.t 52), none⟩ := idE rfl
@[go_sem] theorem g_Z46_9_4 : gAt l_Z46_9 4 = ⟨(some 54), .mv (.t 4), (some (53, true))⟩ := idE rfl
@[go_sem] theorem g_Z46_9_5 : gAt l_Z46_9 5 = ⟨(some 55), .mv (.t 0), (some (53, true))⟩ := idE rfl
@[go_sem] theorem g_Z46_9_6 : gAt l_Z46_9 6 = ⟨(some 56), .mv (.t 13), (some (53, true))⟩ := idE rfl
@[go_sem] theorem g_Z46_9_7 : gAt l_Z46_9 7 = ⟨(some 57), .iaddr (.t 55) (.t 56) 1, (some (53, true))⟩ := idE rfl
@[go_sem] theorem g_Z46_9_8 : gAt l_Z46_9 8 = ⟨(some 58), .load (.t 57) 1 false, (some (53, true))⟩ := idE rfl
@[go_sem] theorem g_Z46_9_9 : gAt l_Z46_9 9 = ⟨(some 59), .mv (.t 0), (some (53, true))⟩ := idE rfl
@[go_sem] theorem g_Z46_9_10 : gAt l_Z46_9 10 = ⟨(some 60), .mv (.t 1), (some (53, true))⟩ := idE rfl
@[go_sem] theorem g_Z46_9_11 : gAt l_Z46_9 11 = ⟨(some 61), .iaddr (.t 59) (.t 60) 1, (some (53, true))⟩ := idE rfl
@[go_sem] theorem g_Z46_9_12 : gAt l_Z46_9 12 = ⟨(some 62), .load (.t 61) 1 false, (some (53, true))⟩ := idE rfl
@[go_sem] theorem g_Z46_9_13 : gAt l_Z46_9 13 = ⟨(some 63), .callv (.t 54) [(.t 58), (.t 62)], (some (53, true))⟩ := idE rfl
@[go_sem] theorem g_Z46_9_14 : gAt l_Z46_9 14 = ⟨(some 64), .bin .lss (.t 63) (.c (.int .i64 0)), (some (53, true))⟩ := idE rfl
@[go_sem] theorem g_Z46_9_15 : gAt l_Z46_9 15 = ⟨(some 65), .un .not (.t 64), (some (53, true))⟩ := idE rfl
@[go_sem] theorem g_Z46_9_16 : gAt l_Z46_9 16 = ⟨(some 66), .pick (.t 53) (.t 65) (.c (.bool false)), none⟩ := idE rfl
def Z46_9 : IR := .dops l_Z46_9 [(0, []), (1, []), (2, []), (3, []), (4, []), (5, []), (6, []), (7, []), (8, []), (9, []), (10, []), (11, []), (12, []), (13, []), (14, []), (15, []), (16, [])]
@[go_sem] theorem w_Z46_9 : wp P Z46_9 Q e H = wpD P l_Z46_9 [(0, []), (1, []), (2, []), (3, []), (4, []), (5, []), (6, []), (7, []), (8, []), (9, []), (10, []), (11, []), (12, []), (13, []), (14, []), (15, []), (16, [])] (Q .normal) e H := idE rfl
def Z46_10 : IR := .cond (.t 66) .skip (.exit 2)
@[go_sem] theorem w_Z46_10 : wp P Z46_10 Q e H = condW P ((.t 66) : X) .skip (.exit 2) Q e H := idE rfl
@[go_sem] def l_Z46_11 : List GOp := [⟨(some 67), .mv (.t 13), none⟩,
    ⟨(some 68), .bin .sub (.t 67) (.c (.int .i64 1)), none⟩,
    ⟨(some 13), .mv (.t 68), none⟩]
def Z46_11 : IR := .ops l_Z46_11
@[go_sem] theorem w_Z46_11 : wp P Z46_11 Q e H = wpL P l_Z46_11 (Q .normal) e H := idE rfl
def Z46_12 : IR := .block 3 Z46_11
@[go_sem] theorem w_Z46_12 : wp P Z46_12 Q e H = wp P Z46_11 (blockQ 3 Q) e H := idE rfl
def Z46_13 : IR := .loop (.seq (.seq Z46_9 Z46_10) Z46_12)
def Z46_14 : IR := .block 2 Z46_13
@[go_sem] theorem w_Z46_14 : wp P Z46_14 Q e H = wp P Z46_13 (blockQ 2 Q) e H := idE rfl
@[go_sem] def l_Z46_15 : List GOp := [⟨(some 69), .mv (.t 12), none⟩,
    ⟨(some 70), .mv (.t 13), none⟩,
    ⟨(some 71), .bin .gtr (.t 69) (.t 70), none⟩]
def Z46_15 : IR := .ops l_Z46_15
@[go_sem] theorem w_Z46_15 : wp P Z46_15 Q e H = wpL P l_Z46_15 (Q .normal) e H := idE rfl
def l_Z46_16 : List GOp := [⟨(some 72), .mv (.t 0), none⟩,
    ⟨(some 73), .mv (.t 13), none⟩,
    ⟨(some 74), .mv (.t 0), none⟩,
    ⟨(some 75), .mv (.t 1), none⟩,
    ⟨(some 76), .mv (.t 0), none⟩,
    ⟨(some 77), .mv (.t 1), none⟩,
    ⟨(some 78), .iaddr (.t 76) (.t 77) 1, none⟩,
    ⟨(some 79), .load (.t 78) 1 false, none⟩,
    ⟨(some 80), .mv (.t 0), none⟩,
    ⟨(some 81), .mv (.t 13), none⟩,
    ⟨(some 82), .iaddr (.t 80) (.t 81) 1, none⟩,
    ⟨(some 83), .load (.t 82) 1 false, none⟩,
    ⟨(some 84), .iaddr (.t 72) (.t 73) 1, none⟩,
    ⟨none, .store (.t 84) 1 (.t 79), none⟩,
    ⟨(some 85), .iaddr (.t 74) (.t 75) 1, none⟩,
    ⟨none, .store (.t 85) 1 (.t 83), none⟩]
@[go_sem] theorem g_Z46_16_0 : gAt l_Z46_16 0 = ⟨(some 72), .mv (.t 0), none⟩ := idE rfl
@[go_sem] theorem g_Z46_16_1 : gAt l_Z46_16 1 = ⟨(some 73), .mv (.t 13), none⟩ := idE rfl
@[go_sem] theorem g_Z46_16_2 : gAt l_Z46_16 2 = ⟨(some 74), .mv (.t 0), none⟩ := idE rfl
@[go_sem] theorem g_Z46_16_3 : gAt l_Z46_16 3 = ⟨(some 75), .mv (.t 1), none⟩ := idE rfl
@[go_sem] theorem g_Z46_16_4 : gAt l_Z46_16 4 = ⟨(some 76), .mv (.t 0), none⟩ := idE rfl
@[go_sem] theorem g_Z46_16_5 : gAt l_Z46_16 5 = ⟨(some 77), .mv (.t 1), none⟩ := idE rfl
@[go_sem] theorem g_Z46_16_6 : gAt l_Z46_16 6 = ⟨(some 78), .iaddr (.t 76) (.t 77) 1, none⟩ := idE rfl
@[go_sem] theorem g_Z46_16_7 : gAt l_Z46_16 7 = ⟨(some 79), .load (.t 78) 1 false, none⟩ := idE rfl
@[go_sem] theorem g_Z46_16_8 : gAt l_Z46_16 8 = ⟨(some 80), .mv (.t 0), none⟩ := idE rfl
@[go_sem] theorem g_Z46_16_9 : gAt l_Z46_16 9 = ⟨(some 81), .mv (.t 13), none⟩ := idE rfl
@[go_sem] theorem g_Z46_16_10 : gAt l_Z46_16 10 = ⟨(some 82), .iaddr (.t 80) (.t 81) 1, none⟩ := idE rfl
@[go_sem] theorem g_Z46_16_11 : gAt l_Z46_16 11 = ⟨(some 83), .load (.t 82) 1 false, none⟩ := idE rfl
@[go_sem] theorem g_Z46_16_12 : gAt l_Z46_16 12 = ⟨(some 84), .iaddr (.t 72) (.t 73) 1, none⟩ := idE rfl
@[go_sem] theorem g_Z46_16_13 : gAt l_Z46_16 13 = ⟨none, .store (.t 84) 1 (.t 79), none⟩ := idE rfl
@[go_sem] theorem g_Z46_16_14 : gAt l_Z46_16 14 = ⟨(some 85), .iaddr (.t 74) (.t 75) 1, none⟩ := idE rfl
@[go_sem] theorem g_Z46_16_15 : gAt l_Z46_16 15 = ⟨none, .store (.t 85) 1 (.t 83), none⟩ := idE rfl
def Z46_16 : IR := .dops l_Z46_16 [(0, []), (1, []), (2, []), (3, []), (4, []), (5, []), (6, []), (7, []), (8, []), (9, []), (10, []), (11, []), (12, []), (13, []), (14, []), (15, [])]
@[go_sem] theorem w_Z46_16 : wp P Z46_16 Q e H = wpD P l_Z46_16 [(0, []), (1, []), (2, []), (3, []), (4, []), (5, []), (6, []), (7, []), (8, []), (9, []), (10, []), (11, []), (12, []), (13, []), (14, []), (15, [])] (Q .normal) e H := idE rfl
@[go_sem] def l_Z46_17 : List GOp := [⟨(some 86), .mv (.t 13), none⟩,
    ⟨(some 10), .mv (.t 86), none⟩,
    ⟨(some 11), .mv (.c (.bool true)), none⟩]
def Z46_17 : IR := .ops l_Z46_17
@[go_sem] theorem w_Z46_17 : wp P Z46_17 Q e H = wpL P l_Z46_17 (Q .normal) e H := idE rfl
def Z46_18 : IR := .cond (.t 71) (.seq Z46_16 (.seq Z46_17 .ret)) .skip
@[go_sem] theorem w_Z46_18 : wp P Z46_18 Q e H = condW P ((.t 71) : X) (.seq Z46_16 (.seq Z46_17 .ret)) .skip Q e H := idE rfl
def l_Z46_19 : List GOp := [⟨(some 87), .mv (.t 0), none⟩,
    ⟨(some 88), .mv (.t 12), none⟩,
    ⟨(some 89), .mv (.t 0), none⟩,
    ⟨(some 90), .mv (.t 13), none⟩,
    ⟨(some 91), .mv (.t 0), none⟩,
    ⟨(some 92), .mv (.t 13), none⟩,
    ⟨(some 93), .iaddr (.t 91) (.t 92) 1, none⟩,
    ⟨(some 94), .load (.t 93) 1 false, none⟩,
    ⟨(some 95), .mv (.t 0), none⟩,
    ⟨(some 96), .mv (.t 12), none⟩,
    ⟨(some 97), .iaddr (.t 95) (.t 96) 1, none⟩,
    ⟨(some 98), .load (.t 97) 1 false, none⟩,
    ⟨(some 99), .iaddr (.t 87) (.t 88) 1, none⟩,
    ⟨none, .store (.t 99) 1 (.t 94), none⟩,
    ⟨(some 100), .iaddr (.t 89) (.t 90) 1, none⟩,
    ⟨none, .store (.t 100) 1 (.t 98), none⟩]
@[go_sem] theorem g_Z46_19_0 : gAt l_Z46_19 0 = ⟨(some 87), .mv (.t 0), none⟩ := idE rfl
@[go_sem] theorem g_Z46_19_1 : gAt l_Z46_19 1 = ⟨(some 88), .mv (.t 12), none⟩ := idE rfl
@[go_sem] theorem g_Z46_19_2 : gAt l_Z46_19 2 = ⟨(some 89), .mv (.t 0), none⟩ := idE rfl
@[go_sem] theorem g_Z46_19_3 : gAt l_Z46_19 3 = ⟨(some 90), .mv (.t 13), none⟩ := idE rfl
@[go_sem] theorem g_Z46_19_4 : gAt l_Z46_19 4 = ⟨(some 91), .mv (.t 0), none⟩ := idE rfl
@[go_sem] theorem g_Z46_19_5 : gAt l_Z46_19 5 = ⟨(some 92), .mv (.t 13), none⟩ := idE rfl
@[go_sem] theorem g_Z46_19_6 : gAt l_Z46_19 6 = ⟨(some 93), .iaddr (.t 91) (.t 92) 1, none⟩ := idE rfl
@[go_sem] theorem g_Z46_19_7 : gAt l_Z46_19 7 = ⟨(some 94), .load (.t 93) 1 false, none⟩ := idE rfl
@[go_sem] theorem g_Z46_19_8 : gAt l_Z46_19 8 = ⟨(some 95), .mv (.t 0), none⟩ := idE rfl
@[go_sem] theorem g_Z46_19_9 : gAt l_Z46_19 9 = ⟨(some 96), .mv (.t 12), none⟩ := idE rfl
@[go_sem] theorem g_Z46_19_10 : gAt l_Z46_19 10 = ⟨(some 97), .iaddr (.t 95) (.t 96) 1, none⟩ := idE rfl
@[go_sem] theorem g_Z46_19_11 : gAt l_Z46_19 11 = ⟨(some 98), .load (.t 97) 1 false, none⟩ := idE rfl
@[go_sem] theorem g_Z46_19_12 : gAt l_Z46_19 12 = ⟨(some 99), .iaddr (.t 87) (.t 88) 1, none⟩ := idE rfl
@[go_sem] theorem g_Z46_19_13 : gAt l_Z46_19 13 = ⟨none, .store (.t 99) 1 (.t 94), none⟩ := idE rfl
@[go_sem] theorem g_Z46_19_14 : gAt l_Z46_19 14 = ⟨(some 100), .iaddr (.t 89) (.t 90) 1, none⟩ := idE rfl
@[go_sem] theorem g_Z46_19_15 : gAt l_Z46_19 15 = ⟨none, .store (.t 100) 1 (.t 98), none⟩ := idE rfl
def Z46_19 : IR := .dops l_Z46_19 [(0, []), (1, []), (2, []), (3, []), (4, []), (5, []), (6, []), (7, []), (8, []), (9, []), (10, []), (11, []), (12, []), (13, []), (14, []), (15, [])]
@[go_sem] theorem w_Z46_19 : wp P Z46_19 Q e H = wpD P l_Z46_19 [(0, []), (1, []), (2, []), (3, []), (4, []), (5, []), (6, []), (7, []), (8, []), (9, []), (10, []), (11, []), (12, []), (13, []), (14, []), (15, [])] (Q .normal) e H := idE rfl
@[go_sem] def l_Z46_20 : List GOp := [⟨(some 101), .mv (.t 12), none⟩,
    ⟨(some 102), .bin .add (.t 101) (.c (.int .i64 1)), none⟩,
    ⟨(some 12), .mv (.t 102), none⟩]
def Z46_20 : IR := .ops l_Z46_20
@[go_sem] theorem w_Z46_20 : wp P Z46_20 Q e H = wpL P l_Z46_20 (Q .normal) e H := idE rfl
@[go_sem] def l_Z46_21 : List GOp := [⟨(some 103), .mv (.t 13), none⟩,
    ⟨(some 104), .bin .sub (.t 103) (.c (.int .i64 1)), none⟩,
    ⟨(some 13), .mv (.t 104), none⟩]
def Z46_21 : IR := .ops l_Z46_21
@[go_sem] theorem w_Z46_21 : wp P Z46_21 Q e H = wpL P l_Z46_21 (Q .normal) e H := idE rfl
def l_Z46_22 : List GOp := [⟨(some 105), .mv (.t 12), none⟩,
    ⟨(some 106), .mv (.t 13), none⟩,
    ⟨(some 107), .bin .leq (.t 105) (.t 106), none⟩,
    ⟨(some 108), .mv (.t 107), none⟩,
    ⟨(some 109), .mv (.t 4), (some (108, true))⟩,
    ⟨(some 110), .mv (.t 0), (some (108, true))⟩,
    ⟨(some 111), .mv (.t 12), (some (108, true))⟩,
    ⟨(some 112), .iaddr (.t 110) (.t 111) 1, (some (108, true))⟩,
    ⟨(some 113), .load (.t 112) 1 false, (some (108, true))⟩,
    ⟨(some 114), .mv (.t 0), (some (108, true))⟩,
    ⟨(some 115), .mv (.t 1), (some (108, true))⟩,
    ⟨(some 116), .iaddr (.t 114) (.t 115) 1, (some (108, true))⟩,
    ⟨(some 117), .load (.t 116) 1 false, (some (108, true))⟩,
    ⟨(some 118), .callv (.t 109) [(.t 113), (.t 117)], (some (108, true))⟩,
    ⟨(some 119), .bin .lss (.t 118) (.c (.int .i64 0)), (some (108, true))⟩,
    ⟨(some 120), .pick (.t 108) (.t 119) (.c (.bool false)), none⟩]
@[go_sem] theorem g_Z46_22_0 : gAt l_Z46_22 0 = ⟨(some 105), .mv (.t 12), none⟩ := idE rfl
@[go_sem] theorem g_Z46_22_1 : gAt l_Z46_22 1 = ⟨(some 106), .mv (.t 13), none⟩ := idE rfl
@[go_sem] theorem g_Z46_22_2 : gAt l_Z46_22 2 = ⟨(some 107), .bin .leq (.t 105) (.t 106), none⟩ := idE rfl
@[go_sem] theorem g_Z46_22_3 : gAt l_Z46_22 3 = ⟨(some 108), .mv (.t 107), none⟩ := idE rfl
@[go_sem] theorem g_Z46_22_4 : gAt l_Z46_22 4 = ⟨(some 109), .mv (.t 4), (some (108, true))⟩ := idE rfl
@[go_sem] theorem g_Z46_22_5 : gAt l_Z46_22 5 = ⟨(some 110), .mv (.t 0), (some (108, true))⟩ := idE rfl
@[go_sem] theorem g_Z46_22_6 : gAt l_Z46_22 6 = ⟨(some 111), .mv (.t 12), (some (108, true))⟩ := idE rfl
@[go_sem] theorem g_Z46_22_7 : gAt l_Z46_22 7 = ⟨(some 112), .iaddr (.t 110) (.t 111) 1, (some (108, true))⟩ := idE rfl
@[go_sem] theorem g_Z46_22_8 : gAt l_Z46_22 8 = ⟨(some 113), .load (.t 112) 1 false, (some (108, true))⟩ := idE rfl
@[go_sem] theorem g_Z46_22_9 : gAt l_Z46_22 9 = ⟨(some 114), .mv (.t 0), (some (108, true))⟩ := idE rfl
@[go_sem] theorem g_Z46_22_10 : gAt l_Z46_22 10 = ⟨(some 115), .mv (.t 1), (some (108, true))⟩ := idE rfl
@[go_sem] theorem g_Z46_22_11 : gAt l_Z46_22 11 = ⟨(some 116), .iaddr (.t 114) (.t 115) 1, (some (108, true))⟩ := idE rfl
@[go_sem] theorem g_Z46_22_12 : gAt l_Z46_22 12 = ⟨(some 117), .load (.t 116) 1 false, (some (108, true))⟩ := idE rfl
@[go_sem] theorem g_Z46_22_13 : gAt l_Z46_22 13 = ⟨(some 118), .callv (.t 109) [(.t 113), (.t 117)], (some (108, true))⟩ := idE rfl
@[go_sem] theorem g_Z46_22_14 : gAt l_Z46_22 14 = ⟨(some 119), .bin .lss (.t 118) (.c (.int .i64 0)), (some (108, true))⟩ := idE rfl
@[go_sem] theorem g_Z46_22_15 : gAt l_Z46_22 15 = ⟨(some 120), .pick (.t 108) (.t 119) (.c (.bool false)), none⟩ := idE rfl
def Z46_22 : IR := .dops l_Z46_22 [(0, []), (1, []), (2, []), (3, []), (4, []), (5, []), (6, []), (7, []), (8, []), (9, []), (10, []), (11, []), (12, []), (13, []), (14, []), (15, [])]
@[go_sem] theorem w_Z46_22 : wp P Z46_22 Q e H = wpD P l_Z46_22 [(0, []), (1, []), (2, []), (3, []), (4, []), (5, []), (6, []), (7, []), (8, []), (9, []), (10, []), (11, []), (12, []), (13, []), (14, []), (15, [])] (Q .normal) e H := idE rfl
def Z46_23 : IR := .cond (.t 120) .skip (.exit 6)
@[go_sem] theorem w_Z46_23 : wp P Z46_23 Q e H = condW P ((.t 120) : X) .skip (.exit 6) Q e H := idE rfl
@[go_sem] def l_Z46_24 : List GOp := [⟨(some 121), .mv (.t 12), none⟩,
    ⟨(some 122), .bin .add (.t 121) (.c (.int .i64 1)), none⟩,
    ⟨(some 12), .mv (.t 122), none⟩]
def Z46_24 : IR := .ops l_Z46_24
@[go_sem] theorem w_Z46_24 : wp P Z46_24 Q e H = wpL P l_Z46_24 (Q .normal) e H := idE rfl
def Z46_25 : IR := .block 7 Z46_24
@[go_sem] theorem w_Z46_25 : wp P Z46_25 Q e H = wp P Z46_24 (blockQ 7 Q) e H := idE rfl
def Z46_26 : IR := .loop (.seq (.seq Z46_22 Z46_23) Z46_25)
def Z46_27 : IR := .block 6 Z46_26
@[go_sem] theorem w_Z46_27 : wp P Z46_27 Q e H = wp P Z46_26 (blockQ 6 Q) e H := idE rfl
def l_Z46_28 : List GOp := [⟨(some 123), .mv (.t 12), none⟩,
    ⟨(some 124), .mv (.t 13), none⟩,
    ⟨(some 125), .bin .leq (.t 123) (.t 124), none⟩,
    ⟨(some 126), .mv (.t 125), none⟩,
    ⟨(some 127), .mv (.t 4), (some (126, true))⟩,
    ⟨(some 128), .mv (.t 0), (some (126, true))⟩,
    ⟨(some 129), .mv (.t 13), (some (126, true))⟩,
    ⟨(some 130), .iaddr (.t 128) (.t 129) 1, (some (126, true))⟩,
    ⟨(some 131), .load (.t 130) 1 false, (some (126, true))⟩,
    ⟨(some 132), .mv (.t 0), (some (126, true))⟩,
    ⟨(some 133), .mv (.t 1), (some (126, true))⟩,
    ⟨(some 134), .iaddr (.t 132) (.t 133) 1, (some (126, true))⟩,
    ⟨(some 135), .load (.t 134) 1 false, (some (126, true))⟩,
    ⟨(some 136), .callv (.t 127) [(.t 131), (.t 135)], (some (126, true))⟩,
    ⟨(some 137), .bin .lss (.t 136) (.c (.int .i64 0)), (some (126, true))⟩,
    ⟨(some 138), .un .not (.t 137), (some (126, true))⟩,
    ⟨(some 139), .pick (.t 126) (.t 138) (.c (.bool false)), none⟩]
@[go_sem] theorem g_Z46_28_0 : gAt l_Z46_28 0 = ⟨(some 123), .mv (.t 12), none⟩ := idE rfl
@[go_sem] theorem g_Z46_28_1 : gAt l_Z46_28 1 = ⟨(some 124), .mv (.t 13), none⟩ := idE rfl
@[go_sem] theorem g_Z46_28_2 : gAt l_Z46_28 2 = ⟨(some 125), .bin .leq (.t 123) (.t 124), none⟩ := idE rfl
@[go_sem] theorem g_Z46_28_3 : gAt l_Z46_28 3 = ⟨(some 126), .mv (.t 125), none⟩ := idE rfl
@[go_sem] theorem g_Z46_28_4 : gAt l_Z46_28 4 = ⟨(some 127), .mv (.t 4), (some (126, true))⟩ := idE rfl
@[go_sem] theorem g_Z46_28_5 : gAt l_Z46_28 5 = ⟨(some 128), .mv (.t 0), (some (126, true))⟩ := idE rfl
@[go_sem] theorem g_Z46_28_6 : gAt l_Z46_28 6 = ⟨(some 129), .mv (.t 13), (some (126, true))⟩ := idE rfl
@[go_sem] theorem g_Z46_28_7 : gAt l_Z46_28 7 = ⟨(some 130), .iaddr (.t 128) (.t 129) 1, (some (126, true))⟩ := idE rfl
@[go_sem] theorem g_Z46_28_8 : gAt l_Z46_28 8 = ⟨(some 131), .load (.t 130) 1 false, (some (126, true))⟩ := idE rfl
@[go_sem] theorem g_Z46_28_9 : gAt l_Z46_28 9 = ⟨(some 132), .mv (.t 0), (some (126, true))⟩ := idE rfl
@[go_sem] theorem g_Z46_28_10 : gAt l_Z46_28 10 = ⟨(some 133), .mv (.t 1), (some (126, true))⟩ := idE rfl
@[go_sem] theorem g_Z46_28_11 : gAt l_Z46_28 11 = ⟨(some 134), .iaddr (.t 132) (.t 133) 1, (some (126, true))⟩ := idE rfl
@[go_sem] theorem g_Z46_28_12 : gAt l_Z46_28 12 = ⟨(some 135), .load (.t 134) 1 false, (some (126, true))⟩ := idE rfl
@[go_sem] theorem g_Z46_28_13 : gAt l_Z46_28 13 = ⟨(some 136), .callv (.t 127) [(.t 131), (.t 135)], (some (126, true))⟩ := idE rfl
@[go_sem] theorem g_Z46_28_14 : gAt l_Z46_28 14 = ⟨(some 137), .bin .lss (.t 136) (.c (.int .i64 0)), (some (126, true))⟩ := idE rfl
@[go_sem] theorem g_Z46_28_15 : gAt l_Z46_28 15 = ⟨(some 138), .un .not (.t 137), (some (126, true))⟩ := idE rfl
@[go_sem] theorem g_Z46_28_16 : gAt l_Z46_28 16 = ⟨(some 139), .pick (.t 126) (.t 138) (.c (.bool false)), none⟩ := idE rfl
def Z46_28 : IR := .dops l_Z46_28 [(0, []), (1, []), (2, []), (3, []), (4, []), (5, []), (6, []), (7, []), (8, []), (9, []), (10, []), (11, []), (12, []), (13, []), (14, []), (15, []), (16, [])]
@[go_sem] theorem w_Z46_28 : wp P Z46_28 Q e H = wpD P l_Z46_28 [(0, []), (1, []), (2, []), (3, []), (4, []), (5, []), (6, []), (7, []), (8, []), (9, []), (10, []), (11, []), (12, []), (13, []), (14, []), (15, []), (16, [])] (Q .normal) e H := idE rfl
def Z46_29 : IR := .cond (.t 139) .skip (.exit 8)
@[go_sem] theorem w_Z46_29 : wp P Z46_29 Q e H = condW P ((.t 139) : X) .skip (.exit 8) Q e H := idE rfl
@[go_sem] def l_Z46_30 : List GOp := [⟨(some 140), .mv (.t 13), none⟩,
    ⟨(some 141), .bin .sub (.t 140) (.c (.int .i64 1)), none⟩,
    ⟨(some 13), .mv (.t 141), none⟩]
def Z46_30 : IR := .ops l_Z46_30
@[go_sem] theorem w_Z46_30 : wp P Z46_30 Q e H = wpL P l_Z46_30 (Q .normal) e H := idE rfl
def Z46_31 : IR := .block 9 Z46_30
@[go_sem] theorem w_Z46_31 : wp P Z46_31 Q e H = wp P Z46_30 (blockQ 9 Q) e H := idE rfl
def Z46_32 : IR := .loop (.seq (.seq Z46_28 Z46_29) Z46_31)
def Z46_33 : IR := .block 8 Z46_32
@[go_sem] theorem w_Z46_33 : wp P Z46_33 Q e H = wp P Z46_32 (blockQ 8 Q) e H := idE rfl
@[go_sem] def l_Z46_34 : List GOp := [⟨(some 142), .mv (.t 12), none⟩,
    ⟨(some 143), .mv (.t 13), none⟩,
    ⟨(some 144), .bin .gtr (.t 142) (.t 143), none⟩]
def Z46_34 : IR := .ops l_Z46_34
@[go_sem] theorem w_Z46_34 : wp P Z46_34 Q e H = wpL P l_Z46_34 (Q .normal) e H := idE rfl
def Z46_35 : IR := .cond (.t 144) (.exit 4) .skip
@[go_sem] theorem w_Z46_35 : wp P Z46_35 Q e H = condW P ((.t 144) : X) (.exit 4) .skip Q e H := idE rfl
def l_Z46_36 : List GOp := [⟨(some 145), .mv (.t 0), none⟩,
    ⟨(some 146), .mv (.t 12), none⟩,
    ⟨(some 147), .mv (.t 0), none⟩,
    ⟨(some 148), .mv (.t 13), none⟩,
    ⟨(some 149), .mv (.t 0), none⟩,
    ⟨(some 150), .mv (.t 13), none⟩,
    ⟨(some 151), .iaddr (.t 149) (.t 150) 1, none⟩,
    ⟨(some 152), .load (.t 151) 1 false, none⟩,
    ⟨(some 153), .mv (.t 0), none⟩,
    ⟨(some 154), .mv (.t 12), none⟩,
    ⟨(some 155), .iaddr (.t 153) (.t 154) 1, none⟩,
    ⟨(some 156), .load (.t 155) 1 false, none⟩,
    ⟨(some 157), .iaddr (.t 145) (.t 146) 1, none⟩,
    ⟨none, .store (.t 157) 1 (.t 152), none⟩,
    ⟨(some 158), .iaddr (.t 147) (.t 148) 1, none⟩,
    ⟨none, .store (.t 158) 1 (.t 156), none⟩]
@[go_sem] theorem g_Z46_36_0 : gAt l_Z46_36 0 = ⟨(some 145), .mv (.t 0), none⟩ := idE rfl
@[go_sem] theorem g_Z46_36_1 : gAt l_Z46_36 1 = ⟨(some 146), .mv (.t 12), none⟩ := idE rfl
@[go_sem] theorem g_Z46_36_2 : gAt l_Z46_36 2 = ⟨(some 147), .mv (.t 0), none⟩ := idE rfl
@[go_sem] theorem g_Z46_36_3 : gAt l_Z46_36 3 = ⟨(some 148), .mv (.t 13), none⟩ := idE rfl
@[go_sem] theorem g_Z46_36_4 : gAt l_Z46_36 4 = ⟨(some 149), .mv (.t 0), none⟩ := idE rfl
@[go_sem] theorem g_Z46_36_5 : gAt l_Z46_36 5 = ⟨(some 150), .mv (.t 13), none⟩ := idE rfl
@[go_sem] theorem g_Z46_36_6 : gAt l_Z46_36 6 = ⟨(some 151), .iaddr (.t 149) (.t 150) 1, none⟩ := idE rfl
@[go_sem] theorem g_Z46_36_7 : gAt l_Z46_36 7 = ⟨(some 152), .load (.t 151) 1 false, none⟩ := idE rfl
@[go_sem] theorem g_Z46_36_8 : gAt l_Z46_36 8 = ⟨(some 153), .mv (.t 0), none⟩ := idE rfl
@[go_sem] theorem g_Z46_36_9 : gAt l_Z46_36 9 = ⟨(some 154), .mv (.t 12), none⟩ := idE rfl
@[go_sem] theorem g_Z46_36_10 : gAt l_Z46_36 10 = ⟨(some 155), .iaddr (.t 153) (.t 154) 1, none⟩ := idE rfl
@[go_sem] theorem g_Z46_36_11 : gAt l_Z46_36 11 = ⟨(some 156), .load (.t 155) 1 false, none⟩ := idE rfl
@[go_sem] theorem g_Z46_36_12 : gAt l_Z46_36 12 = ⟨(some 157), .iaddr (.t 145) (.t 146) 1, none⟩ := idE rfl
@[go_sem] theorem g_Z46_36_13 : gAt l_Z46_36 13 = ⟨none, .store (.t 157) 1 (.t 152), none⟩ := idE rfl
@[go_sem] theorem g_Z46_36_14 : gAt l_Z46_36 14 = ⟨(some 158), .iaddr (.t 147) (.t 148) 1, none⟩ := idE rfl
@[go_sem] theorem g_Z46_36_15 : gAt l_Z46_36 15 = ⟨none, .store (.t 158) 1 (.t 156), none⟩ := idE rfl
def Z46_36 : IR := .dops l_Z46_36 [(0, []), (1, []), (2, []), (3, []), (4, []), (5, []), (6, []), (7, []), (8, []), (9, []), (10, []), (11, []), (12, []), (13, []), (14, []), (15, [])]
@[go_sem] theorem w_Z46_36 : wp P Z46_36 Q e H = wpD P l_Z46_36 [(0, []), (1, []), (2, []), (3, []), (4, []), (5, []), (6, []), (7, []), (8, []), (9, []), (10, []), (11, []), (12, []), (13, []), (14, []), (15, [])] (Q .normal) e H := idE rfl
@[go_sem] def l_Z46_37 : List GOp := [⟨(some 159), .mv (.t 12), none⟩,
    ⟨(some 160), .bin .add (.t 159) (.c (.int .i64 1)), none⟩,
    ⟨(some 12), .mv (.t 160), none⟩]
def Z46_37 : IR := .ops l_Z46_37
@[go_sem] theorem w_Z46_37 : wp P Z46_37 Q e H = wpL P l_Z46_37 (Q .normal) e H := idE rfl
@[go_sem] def l_Z46_38 : List GOp := [⟨(some 161), .mv (.t 13), none⟩,
    ⟨(some 162), .bin .sub (.t 161) (.c (.int .i64 1)), none⟩,
    ⟨(some 13), .mv (.t 162), none⟩]
def Z46_38 : IR := .ops l_Z46_38
@[go_sem] theorem w_Z46_38 : wp P Z46_38 Q e H = wpL P l_Z46_38 (Q .normal) e H := idE rfl
def Z46_39 : IR := .block 5 (.seq Z46_27 (.seq Z46_33 (.seq (.seq Z46_34 Z46_35) (.seq Z46_36 (.seq Z46_37 Z46_38)))))
@[go_sem] theorem w_Z46_39 : wp P Z46_39 Q e H = wp P (.seq Z46_27 (.seq Z46_33 (.seq (.seq Z46_34 Z46_35) (.seq Z46_36 (.seq Z46_37 Z46_38))))) (blockQ 5 Q) e H := idE rfl
def Z46_40 : IR := .loop Z46_39
def Z46_41 : IR := .block 4 Z46_40
@[go_sem] theorem w_Z46_41 : wp P Z46_41 Q e H = wp P Z46_40 (blockQ 4 Q) e H := idE rfl
def l_Z46_42 : List GOp := [⟨(some 163), .mv (.t 0), none⟩,
    ⟨(some 164), .mv (.t 13), none⟩,
    ⟨(some 165), .mv (.t 0), none⟩,
    ⟨(some 166), .mv (.t 1), none⟩,
    ⟨(some 167), .mv (.t 0), none⟩,
    ⟨(some 168), .mv (.t 1), none⟩,
    ⟨(some 169), .iaddr (.t 167) (.t 168) 1, none⟩,
    ⟨(some 170), .load (.t 169) 1 false, none⟩,
    ⟨(some 171), .mv (.t 0), none⟩,
    ⟨(some 172), .mv (.t 13), none⟩,
    ⟨(some 173), .iaddr (.t 171) (.t 172) 1, none⟩,
    ⟨(some 174), .load (.t 173) 1 false, none⟩,
    ⟨(some 175), .iaddr (.t 163) (.t 164) 1, none⟩,
    ⟨none, .store (.t 175) 1 (.t 170), none⟩,
    ⟨(some 176), .iaddr (.t 165) (.t 166) 1, none⟩,
    ⟨none, .store (.t 176) 1 (.t 174), none⟩]
@[go_sem] theorem g_Z46_42_0 : gAt l_Z46_42 0 = ⟨(some 163), .mv (.t 0), none⟩ := idE rfl
@[go_sem] theorem g_Z46_42_1 : gAt l_Z46_42 1 = ⟨(some 164), .mv (.t 13), none⟩ := idE rfl
@[go_sem] theorem g_Z46_42_2 : gAt l_Z46_42 2 = ⟨(some 165), .mv (.t 0), none⟩ := idE rfl
@[go_sem] theorem g_Z46_42_3 : gAt l_Z46_42 3 = ⟨(some 166), .mv (.t 1), none⟩ := idE rfl
@[go_sem] theorem g_Z46_42_4 : gAt l_Z46_42 4 = ⟨(some 167), .mv (.t 0), none⟩ := idE rfl
@[go_sem] theorem g_Z46_42_5 : gAt l_Z46_42 5 = ⟨(some 168), .mv (.t 1), none⟩ := idE rfl
@[go_sem] theorem g_Z46_42_6 : gAt l_Z46_42 6 = ⟨(some 169), .iaddr (.t 167) (.t 168) 1, none⟩ := idE rfl
@[go_sem] theorem g_Z46_42_7 : gAt l_Z46_42 7 = ⟨(some 170), .load (.t 169) 1 false, none⟩ := idE rfl
@[go_sem] theorem g_Z46_42_8 : gAt l_Z46_42 8 = ⟨(some 171), .mv (.t 0), none⟩ := idE rfl
@[go_sem] theorem g_Z46_42_9 : gAt l_Z46_42 9 = ⟨(some 172), .mv (.t 13), none⟩ := idE rfl
@[go_sem] theorem g_Z46_42_10 : gAt l_Z46_42 10 = ⟨(some 173), .iaddr (.t 171) (.t 172) 1, none⟩ := idE rfl
@[go_sem] theorem g_Z46_42_11 : gAt l_Z46_42 11 = ⟨(some 174), .load (.t 173) 1 false, none⟩ := idE rfl
@[go_sem] theorem g_Z46_42_12 : gAt l_Z46_42 12 = ⟨(some 175), .iaddr (.t 163) (.t 164) 1, none⟩ := idE rfl
@[go_sem] theorem g_Z46_42_13 : gAt l_Z46_42 13 = ⟨none, .store (.t 175) 1 (.t 170), none⟩ := idE rfl
@[go_sem] theorem g_Z46_42_14 : gAt l_Z46_42 14 = ⟨(some 176), .iaddr (.t 165) (.t 166) 1, none⟩ := idE rfl
@[go_sem] theorem g_Z46_42_15 : gAt l_Z46_42 15 = ⟨none, .store (.t 176) 1 (.t 174), none⟩ := idE rfl
def Z46_42 : IR := .dops l_Z46_42 [(0, []), (1, []), (2, []), (3, []), (4, []), (5, []), (6, []), (7, []), (8, []), (9, []), (10, []), (11, []), (12, []), (13, []), (14, []), (15, [])]
@[go_sem] theorem w_Z46_42 : wp P Z46_42 Q e H = wpD P l_Z46_42 [(0, []), (1, []), (2, []), (3, []), (4, []), (5, []), (6, []), (7, []), (8, []), (9, []), (10, []), (11, []), (12, []), (13, []), (14, []), (15, [])] (Q .normal) e H := idE rfl
@[go_sem] def l_Z46_43 : List GOp := [⟨(some 177), .mv (.t 13), none⟩,
    ⟨(some 10), .mv (.t 177), none⟩,
    ⟨(some 11), .mv (.c (.bool false)), none⟩]
def Z46_43 : IR := .ops l_Z46_43
@[go_sem] theorem w_Z46_43 : wp P Z46_43 Q e H = wpL P l_Z46_43 (Q .normal) e H := idE rfl
@[go_sem] def l_Z48_0 : List GOp := [⟨(some 10), .mv (.c (.bool true)), none⟩]
def Z48_0 : IR := .ops l_Z48_0
@[go_sem] theorem w_Z48_0 : wp P Z48_0 Q e H = wpL P l_Z48_0 (Q .normal) e H := idE rfl
@[go_sem] def l_Z48_1 : List GOp := [⟨(some 11), .mv (.c (.bool true)), none⟩]
def Z48_1 : IR := .ops l_Z48_1
@[go_sem] theorem w_Z48_1 : wp P Z48_1 Q e H = wpL P l_Z48_1 (Q .normal) e H := idE rfl
@[go_sem] def l_Z48_2 : List GOp := [⟨(some 21), .mv (.t 2), none⟩,
    ⟨(some 22), .mv (.t 1), none⟩,
    ⟨(some 23), .bin .sub (.t 21) (.t 22), none⟩,
    ⟨(some 12), .mv (.t 23), none⟩]
def Z48_2 : IR := .ops l_Z48_2
@[go_sem] theorem w_Z48_2 : wp P Z48_2 Q e H = wpL P l_Z48_2 (Q .normal) e H := idE rfl
@[go_sem] def l_Z48_3 : List GOp := [⟨(some 24), .mv (.t 12), none⟩,
    ⟨(some 25), .bin .leq (.t 24) (.c (.int .i64 12)), none⟩]
def Z48_3 : IR := .ops l_Z48_3
@[go_sem] theorem w_Z48_3 : wp P Z48_3 Q e H = wpL P l_Z48_3 (Q .normal) e H := idE rfl
@[go_sem] def l_Z48_4 : List GOp := [⟨(some 26), .mv (.t 0), none⟩,
    ⟨(some 27), .mv (.t 1), none⟩,
    ⟨(some 28), .mv (.t 2), none⟩,
    ⟨(some 29), .mv (.t 4), none⟩,
    ⟨(some 30), .call (n_Z40) [(.t 26), (.t 27), (.t 28), (.t 29)], none⟩]
def Z48_4 : IR := .ops l_Z48_4
@[go_sem] theorem w_Z48_4 : wp P Z48_4 Q e H = wpL P l_Z48_4 (Q .normal) e H := idE rfl
def Z48_5 : IR := .cond (.t 25) (.seq Z48_4 .ret) .skip
@[go_sem] theorem w_Z48_5 : wp P Z48_5 Q e H = condW P ((.t 25) : X) (.seq Z48_4 .ret) .skip Q e H := idE rfl
@[go_sem] def l_Z48_6 : List GOp := [⟨(some 31), .mv (.t 3), none⟩,
    ⟨(some 32), .bin .eql (.t 31) (.c (.int .i64 0)), none⟩]
def Z48_6 : IR := .ops l_Z48_6
@[go_sem] theorem w_Z48_6 : wp P Z48_6 Q e H = wpL P l_Z48_6 (Q .normal) e H := idE rfl
@[go_sem] def l_Z48_7 : List GOp := [⟨(some 33), .mv (.t 0), none⟩,
    ⟨(some 34), .mv (.t 1), none⟩,
    ⟨(some 35), .mv (.t 2), none⟩,
    ⟨(some 36), .mv (.t 4), none⟩,
    ⟨(some 37), .call (n_Z39) [(.t 33), (.t 34), (.t 35), (.t 36)], none⟩]
def Z48_7 : IR := .ops l_Z48_7
@[go_sem] theorem w_Z48_7 : wp P Z48_7 Q e H = wpL P l_Z48_7 (Q .normal) e H := idE rfl
def Z48_8 : IR := .cond (.t 32) (.seq Z48_7 .ret) .skip
@[go_sem] theorem w_Z48_8 : wp P Z48_8 Q e H = condW P ((.t 32) : X) (.seq Z48_7 .ret) .skip Q e H := idE rfl
@[go_sem] def l_Z48_9 : List GOp := [⟨(some 38), .mv (.t 10), none⟩,
    ⟨(some 39), .un .not (.t 38), none⟩]
def Z48_9 : IR := .ops l_Z48_9
@[go_sem] theorem w_Z48_9 : wp P Z48_9 Q e H = wpL P l_Z48_9 (Q .normal) e H := idE rfl
@[go_sem] def l_Z48_10 : List GOp := [⟨(some 40), .mv (.t 0), none⟩,
    ⟨(some 41), .mv (.t 1), none⟩,
    ⟨(some 42), .mv (.t 2), none⟩,
    ⟨(some 43), .mv (.t 4), none⟩,
    ⟨(some 44), .call (n_Z37) [(.t 40), (.t 41), (.t 42), (.t 43)], none⟩]
def Z48_10 : IR := .ops l_Z48_10
@[go_sem] theorem w_Z48_10 : wp P Z48_10 Q e H = wpL P l_Z48_10 (Q .normal) e H := idE rfl
@[go_sem] def l_Z48_11 : List GOp := [⟨(some 45), .mv (.t 3), none⟩,
    ⟨(some 46), .bin .sub (.t 45) (.c (.int .i64 1)), none⟩,
    ⟨(some 3), .mv (.t 46), none⟩]
def Z48_11 : IR := .ops l_Z48_11
@[go_sem] theorem w_Z48_11 : wp P Z48_11 Q e H = wpL P l_Z48_11 (Q .normal) e H := idE rfl
def Z48_12 : IR := .cond (.t 39) (.seq Z48_10 Z48_11) .skip
@[go_sem] theorem w_Z48_12 : wp P Z48_12 Q e H = condW P ((.t 39) : X) (.seq Z48_10 Z48_11) .skip Q e H := idE rfl
@[go_sem] def l_Z48_13 : List GOp := [⟨(some 48), .mv (.t 0), none⟩,
    ⟨(some 49), .mv (.t 1), none⟩,
    ⟨(some 50), .mv (.t 2), none⟩,
    ⟨(some 51), .mv (.t 4), none⟩,
    ⟨(some 52), .call (n_Z38) [(.t 48), (.t 49), (.t 50), (.t 51)], none⟩,
    ⟨(some 47), .mv (.t 52), none⟩,
    ⟨(some 53), .ext (.t 47) 0, none⟩,
    ⟨(some 54), .ext (.t 47) 1, none⟩,
    ⟨(some 13), .mv (.t 53), none⟩,
    ⟨(some 14), .mv (.t 54), none⟩]
def Z48_13 : IR := .ops l_Z48_13
@[go_sem] theorem w_Z48_13 : wp P Z48_13 Q e H = wpL P l_Z48_13 (Q .normal) e H := idE rfl
@[go_sem] def l_Z48_14 : List GOp := [⟨(some 55), .mv (.t 14), none⟩,
    ⟨(some 56), .bin .eql (.t 55) (.c (.int .i64 2)), none⟩]
def Z48_14 : IR := .ops l_Z48_14
@[go_sem] theorem w_Z48_14 : wp P Z48_14 Q e H = wpL P l_Z48_14 (Q .normal) e H := idE rfl
@[go_sem] def l_Z48_15 : List GOp := [⟨(some 57), .mv (.t 0), none⟩,
    ⟨(some 58), .mv (.t 1), none⟩,
    ⟨(some 59), .mv (.t 2), none⟩,
    ⟨(some 60), .mv (.t 4), none⟩,
    ⟨(some 61), .call (n_Z49) [(.t 57), (.t 58), (.t 59), (.t 60)], none⟩]
def Z48_15 : IR := .ops l_Z48_15
@[go_sem] theorem w_Z48_15 : wp P Z48_15 Q e H = wpL P l_Z48_15 (Q .normal) e H := idE rfl
@[go_sem] def l_Z48_16 : List GOp := [⟨(some 62), .mv (.t 2), none⟩,
    ⟨(some 63), .bin .sub (.t 62) (.c (.int .i64 1)), none⟩,
    ⟨(some 64), .mv (.t 13), none⟩,
    ⟨(some 65), .mv (.t 1), none⟩,
    ⟨(some 66), .bin .sub (.t 64) (.t 65), none⟩,
    ⟨(some 67), .bin .sub (.t 63) (.t 66), none⟩,
    ⟨(some 13), .mv (.t 67), none⟩]
def Z48_16 : IR := .ops l_Z48_16
@[go_sem] theorem w_Z48_16 : wp P Z48_16 Q e H = wpL P l_Z48_16 (Q .normal) e H := idE rfl
@[go_sem] def l_Z48_17 : List GOp := [⟨(some 14), .mv (.c (.int .i64 1)), none⟩]
def Z48_17 : IR := .ops l_Z48_17
@[go_sem] theorem w_Z48_17 : wp P Z48_17 Q e H = wpL P l_Z48_17 (Q .normal) e H := idE rfl
def Z48_18 : IR := .cond (.t 56) (.seq Z48_15 (.seq Z48_16 Z48_17)) .skip
@[go_sem] theorem w_Z48_18 : wp P Z48_18 Q e H = condW P ((.t 56) : X) (.seq Z48_15 (.seq Z48_16 Z48_17)) .skip Q e H := idE rfl
@[go_sem] def l_Z48_19 : List GOp := [⟨(some 68), .mv (.t 10), none⟩,
    ⟨(some 69), .mv (.t 68), none⟩,
    ⟨(some 70), .mv (.t 11), (some (69, true))⟩,
    ⟨(some 71), .pick (.t 69) (.t 70) (.c (.bool false)), none⟩,
    ⟨(some 72), .mv (.t 71), none⟩,
    ⟨(some 73), .mv (.t 14), (some (72, true))⟩,
    ⟨(some 74), .bin .eql (.t 73) (.c (.int .i64 1)), (some (72, true))⟩,
    ⟨(some 75), .pick (.t 72) (.t 74) (.c (.bool false)), none⟩]
def Z48_19 : IR := .ops l_Z48_19
@[go_sem] theorem w_Z48_19 : wp P Z48_19 Q e H = wpL P l_Z48_19 (Q .normal) e H := idE rfl
@[go_sem] def l_Z48_20 : List GOp := [⟨(some 76), .mv (.t 0), none⟩,
    ⟨(some 77), .mv (.t 1), none⟩,
    ⟨(some 78), .mv (.t 2), none⟩,
    ⟨(some 79), .mv (.t 4), none⟩,
    ⟨(some 80), .call (n_Z45) [(.t 76), (.t 77), (.t 78), (.t 79)], none⟩]
def Z48_20 : IR := .ops l_Z48_20
@[go_sem] theorem w_Z48_20 : wp P Z48_20 Q e H = wpL P l_Z48_20 (Q .normal) e H := idE rfl
def Z48_21 : IR := .cond (.t 80) .ret .skip
@[go_sem] theorem w_Z48_21 : wp P Z48_21 Q e H = condW P ((.t 80) : X) .ret .skip Q e H := idE rfl
def Z48_22 : IR := .cond (.t 75) (.seq Z48_20 Z48_21) .skip
@[go_sem] theorem w_Z48_22 : wp P Z48_22 Q e H = condW P ((.t 75) : X) (.seq Z48_20 Z48_21) .skip Q e H := idE rfl
def l_Z48_23 : List GOp := [⟨(some 81), .mv (.t 1), none⟩,
    ⟨(some 82), .bin .gtr (.t 81) (.c (.int .i64 0)), none⟩,
    ⟨(some 83), .mv (.t 82), none⟩,
    ⟨(some 84), .mv (.t 4), (some (83, true))⟩,
    ⟨(some 85), .mv (.t 0), (some (83, true))⟩,
    ⟨(some 86), .mv (.t 1), (some (83, true))⟩,
    ⟨(some 87), .bin .sub (.t 86) (.c (.int .i64 1)), (some (83, true))⟩,
    ⟨(some 88), .iaddr (.t 85) (.t 87) 1, (some (83, true))⟩,
    ⟨(some 89), .load (.t 88) 1 false, (some (83, true))⟩,
    ⟨(some 90), .mv (.t 0), (some (83, true))⟩,
    ⟨(some 91), .mv (.t 13), (some (83, true))⟩,
    ⟨(some 92), .iaddr (.t 90) (.t 91) 1, (some (83, true))⟩,
    ⟨(some 93), .load (.t 92) 1 false, (some (83, true))⟩,
    ⟨(some 94), .callv (.t 84) [(.t 89), (.t 93)], (some (83, true))⟩,
    ⟨(some 95), .bin .lss (.t 94) (.c (.int .i64 0)), (some (83, true))⟩,
    ⟨(some 96), .un .not (.t 95), (some (83, true))⟩,
    ⟨(some 97), .pick (.t 83) (.t 96) (.c (.bool false)), none⟩]
@[go_sem] theorem g_Z48_23_0 : gAt l_Z48_23 0 = ⟨(some 81), .mv (.t 1), none⟩ := idE rfl
@[go_sem] theorem g_Z48_23_1 : gAt l_Z48_23 1 = ⟨(some 82), .bin .gtr (.t 81) (.c (.int .i64 0)), none⟩ := idE rfl
@[go_sem] theorem g_Z48_23_2 : gAt l_Z48_23 2 = ⟨(some 83), .mv (.t 82), none⟩ := idE rfl
@[go_sem] theorem g_Z48_23_3 : gAt l_Z48_23 3 = ⟨(some 84), .mv (.t 4), (some (83, true))⟩ := idE rfl
@[go_sem] theorem g_Z48_23_4 : gAt l_Z48_23 4 = ⟨(some 85), .mv (.t 0), (some (83, true))⟩ := idE rfl
@[go_sem] theorem g_Z48_23_5 : gAt l_Z48_23 5 = ⟨(some 86), .mv (.t 1), (some (83, true))⟩ := idE rfl
@[go_sem] theorem g_Z48_23_6 : gAt l_Z48_23 6 = ⟨(some 87), .bin .sub (.t 86) (.c (.int .i64 1)), (some (83, true))⟩ := idE rfl
@[go_sem] theorem g_Z48_23_7 : gAt l_Z48_23 7 = ⟨(some 88), .iaddr (.t 85) (.t 87) 1, (some (83, true))⟩ := idE rfl
@[go_sem] theorem g_Z48_23_8 : gAt l_Z48_23 8 = ⟨(some 89), .load (.t 88) 1 false, (some (83, true))⟩ := idE rfl
@[go_sem] theorem g_Z48_23_9 : gAt l_Z48_23 9 = ⟨(some 90), .mv (.t 0), (some (83, true))⟩ := idE rfl
@[go_sem] theorem g_Z48_23_10 : gAt l_Z48_23 10 = ⟨(some 91), .mv (.t 13), (some (83, true))⟩ := idE rfl
@[go_sem] theorem g_Z48_23_11 : gAt l_Z48_23 11 = ⟨(some 92), .iaddr (.t 90) (.t 91) 1, (some (83, true))⟩ := idE rfl
@[go_sem] theorem g_Z48_23_12 : gAt l_Z48_23 12 = ⟨(some 93), .load (.t 92) 1 false, (some (83, true))⟩ := idE rfl
@[go_sem] theorem g_Z48_23_13 : gAt l_Z48_23 13 = ⟨(some 94), .callv (.t 84) [(.t 89), (.t 93)], (some (83, true))⟩ := idE rfl
@[go_sem] theorem g_Z48_23_14 : gAt l_Z48_23 14 = ⟨(some 95), .bin .lss (.t 94) (.c (.int .i64 0)), (some (83, true))⟩ := idE rfl
@[go_sem] theorem g_Z48_23_15 : gAt l_Z48_23 15 = ⟨(some 96), .un .not (.t 95), (some (83, true))⟩ := idE rfl
@[go_sem] theorem g_Z48_23_16 : gAt l_Z48_23 16 = ⟨(some 97), .pick (.t 83) (.t 96) (.c (.bool false)), none⟩ := idE rfl
def Z48_23 : IR := .dops l_Z48_23 [(0, []), (1, []), (2, []), (3, []), (4, []), (5, []), (6, []), (7, []), (8, []), (9, []), (10, []), (11, []), (12, []), (13, []), (14, []), (15, []), (16, [])]
@[go_sem] theorem w_Z48_23 : wp P Z48_23 Q e H = wpD P l_Z48_23 [(0, []), (1, []), (2, []), (3, []), (4, []), (5, []), (6, []), (7, []), (8, []), (9, []), (10, []), (11, []), (12, []), (13, []), (14, []), (15, []), (16, [])] (Q .normal) e H := idE rfl
@[go_sem] def l_Z48_24 : List GOp := [⟨(some 98), .mv (.t 0), none⟩,
    ⟨(some 99), .mv (.t 1), none⟩,
    ⟨(some 100), .mv (.t 2), none⟩,
    ⟨(some 101), .mv (.t 13), none⟩,
    ⟨(some 102), .mv (.t 4), none⟩,
    ⟨(some 103), .call (n_Z47) [(.t 98), (.t 99), (.t 100), (.t 101), (.t 102)], none⟩,
    ⟨(some 15), .mv (.t 103), none⟩]
def Z48_24 : IR := .ops l_Z48_24
@[go_sem] theorem w_Z48_24 : wp P Z48_24 Q e H = wpL P l_Z48_24 (Q .normal) e H := idE rfl
@[go_sem] def l_Z48_25 : List GOp := [⟨(some 104), .mv (.t 15), none⟩,
    ⟨(some 1), .mv (.t 104), none⟩]
def Z48_25 : IR := .ops l_Z48_25
@[go_sem] theorem w_Z48_25 : wp P Z48_25 Q e H = wpL P l_Z48_25 (Q .normal) e H := idE rfl
def Z48_26 : IR := .cond (.t 97) (.seq Z48_24 (.seq Z48_25 (.exit 1))) .skip
@[go_sem] theorem w_Z48_26 : wp P Z48_26 Q e H = condW P ((.t 97) : X) (.seq Z48_24 (.seq Z48_25 (.exit 1))) .skip Q e H := idE rfl
@[go_sem] def l_Z48_27 : List GOp := [⟨(some 106), .mv (.t 0), none⟩,
    ⟨(some 107), .mv (.t 1), none⟩,
    ⟨(some 108), .mv (.t 2), none⟩,
    ⟨(some 109), .mv (.t 13), none⟩,
    ⟨(some 110), .mv (.t 4), none⟩,
    ⟨(some 111), .call (n_Z46) [(.t 106), (.t 107), (.t 108), (.t 109), (.t 110)], none⟩,
    ⟨(some 105), .mv (.t 111), none⟩,
    ⟨(some 112), .ext (.t 105) 0, none⟩,
    ⟨(some 113), .ext (.t 105) 1, none⟩,
    ⟨(some 16), .mv (.t 112), none⟩,
    ⟨(some 17), .mv (.t 113), none⟩]
def Z48_27 : IR := .ops l_Z48_27
@[go_sem] theorem w_Z48_27 : wp P Z48_27 Q e H = wpL P l_Z48_27 (Q .normal) e H := idE rfl
@[go_sem] def l_Z48_28 : List GOp := [⟨(some 114), .mv (.t 17), none⟩,
    ⟨(some 11), .mv (.t 114), none⟩]
def Z48_28 : IR := .ops l_Z48_28
@[go_sem] theorem w_Z48_28 : wp P Z48_28 Q e H = wpL P l_Z48_28 (Q .normal) e H := idE rfl
@[go_sem] def l_Z48_29 : List GOp := [⟨(some 115), .mv (.t 16), none⟩,
    ⟨(some 116), .mv (.t 1), none⟩,
    ⟨(some 117), .bin .sub (.t 115) (.t 116), none⟩,
    ⟨(some 118), .mv (.t 2), none⟩,
    ⟨(some 119), .mv (.t 16), none⟩,
    ⟨(some 120), .bin .sub (.t 118) (.t 119), none⟩,
    ⟨(some 18), .mv (.t 117), none⟩,
    ⟨(some 19), .mv (.t 120), none⟩]
def Z48_29 : IR := .ops l_Z48_29
@[go_sem] theorem w_Z48_29 : wp P Z48_29 Q e H = wpL P l_Z48_29 (Q .normal) e H := idE rfl
@[go_sem] def l_Z48_30 : List GOp := [⟨(some 121), .mv (.t 12), none⟩,
    ⟨(some 122), .bin .quo (.t 121) (.c (.int .i64 8)), none⟩,
    ⟨(some 20), .mv (.t 122), none⟩]
def Z48_30 : IR := .ops l_Z48_30
@[go_sem] theorem w_Z48_30 : wp P Z48_30 Q e H = wpL P l_Z48_30 (Q .normal) e H := idE rfl
@[go_sem] def l_Z48_31 : List GOp := [⟨(some 123), .mv (.t 18), none⟩,
    ⟨(some 124), .mv (.t 19), none⟩,
    ⟨(some 125), .bin .lss (.t 123) (.t 124), none⟩]
def Z48_31 : IR := .ops l_Z48_31
@[go_sem] theorem w_Z48_31 : wp P Z48_31 Q e H = wpL P l_Z48_31 (Q .normal) e H := idE rfl
@[go_sem] def l_Z48_32 : List GOp := [⟨(some 126), .mv (.t 18), none⟩,
    ⟨(some 127), .mv (.t 20), none⟩,
    ⟨(some 128), .bin .geq (.t 126) (.t 127), none⟩,
    ⟨(some 10), .mv (.t 128), none⟩]
def Z48_32 : IR := .ops l_Z48_32
@[go_sem] theorem w_Z48_32 : wp P Z48_32 Q e H = wpL P l_Z48_32 (Q .normal) e H := idE rfl
@[go_sem] def l_Z48_33 : List GOp := [⟨(some 129), .mv (.t 0), none⟩,
    ⟨(some 130), .mv (.t 1), none⟩,
    ⟨(some 131), .mv (.t 16), none⟩,
    ⟨(some 132), .mv (.t 3), none⟩,
    ⟨(some 133), .mv (.t 4), none⟩,
    ⟨(some 134), .call (n_Z48) [(.t 129), (.t 130), (.t 131), (.t 132), (.t 133)], none⟩]
def Z48_33 : IR := .ops l_Z48_33
@[go_sem] theorem w_Z48_33 : wp P Z48_33 Q e H = wpL P l_Z48_33 (Q .normal) e H := idE rfl
@[go_sem] def l_Z48_34 : List GOp := [⟨(some 135), .mv (.t 16), none⟩,
    ⟨(some 136), .bin .add (.t 135) (.c (.int .i64 1)), none⟩,
    ⟨(some 1), .mv (.t 136), none⟩]
def Z48_34 : IR := .ops l_Z48_34
@[go_sem] theorem w_Z48_34 : wp P Z48_34 Q e H = wpL P l_Z48_34 (Q .normal) e H := idE rfl
@[go_sem] def l_Z48_35 : List GOp := [⟨(some 137), .mv (.t 19), none⟩,
    ⟨(some 138), .mv (.t 20), none⟩,
    ⟨(some 139), .bin .geq (.t 137) (.t 138), none⟩,
    ⟨(some 10), .mv (.t 139), none⟩]
def Z48_35 : IR := .ops l_Z48_35
@[go_sem] theorem w_Z48_35 : wp P Z48_35 Q e H = wpL P l_Z48_35 (Q .normal) e H := idE rfl
@[go_sem] def l_Z48_36 : List GOp := [⟨(some 140), .mv (.t 0), none⟩,
    ⟨(some 141), .mv (.t 16), none⟩,
    ⟨(some 142), .bin .add (.t 141) (.c (.int .i64 1)), none⟩,
    ⟨(some 143), .mv (.t 2), none⟩,
    ⟨(some 144), .mv (.t 3), none⟩,
    ⟨(some 145), .mv (.t 4), none⟩,
    ⟨(some 146), .call (n_Z48) [(.t 140), (.t 142), (.t 143), (.t 144), (.t 145)], none⟩]
def Z48_36 : IR := .ops l_Z48_36
@[go_sem] theorem w_Z48_36 : wp P Z48_36 Q e H = wpL P l_Z48_36 (Q .normal) e H := idE rfl
@[go_sem] def l_Z48_37 : List GOp := [⟨(some 147), .mv (.t 16), none⟩,
    ⟨(some 2), .mv (.t 147), none⟩]
def Z48_37 : IR := .ops l_Z48_37
@[go_sem] theorem w_Z48_37 : wp P Z48_37 Q e H = wpL P l_Z48_37 (Q .normal) e H := idE rfl
def Z48_38 : IR := .cond (.t 125) (.seq Z48_32 (.seq Z48_33 Z48_34)) (.seq Z48_35 (.seq Z48_36 Z48_37))
@[go_sem] theorem w_Z48_38 : wp P Z48_38 Q e H = condW P ((.t 125) : X) (.seq Z48_32 (.seq Z48_33 Z48_34)) (.seq Z48_35 (.seq Z48_36 Z48_37)) Q e H := idE rfl
def Z48_39 : IR := .block 1 (.seq Z48_2 (.seq (.seq Z48_3 Z48_5) (.seq (.seq Z48_6 Z48_8) (.seq (.seq Z48_9 Z48_12) (.seq Z48_13 (.seq (.seq Z48_14 Z48_18) (.seq (.seq Z48_19 Z48_22) (.seq (.seq Z48_23 Z48_26) (.seq Z48_27 (.seq Z48_28 (.seq Z48_29 (.seq Z48_30 (.seq Z48_31 Z48_38)))))))))))))
@[go_sem] theorem w_Z48_39 : wp P Z48_39 Q e H = wp P (.seq Z48_2 (.seq (.seq Z48_3 Z48_5) (.seq (.seq Z48_6 Z48_8) (.seq (.seq Z48_9 Z48_12) (.seq Z48_13 (.seq (.seq Z48_14 Z48_18) (.seq (.seq Z48_19 Z48_22) (.seq (.seq Z48_23 Z48_26) (.seq Z48_27 (.seq Z48_28 (.seq Z48_29 (.seq Z48_30 (.seq Z48_31 Z48_38))))))))))))) (blockQ 1 Q) e H := idE rfl
def Z48_40 : IR := .loop Z48_39
def Z48_41 : IR := .block 0 Z48_40
@[go_sem] theorem w_Z48_41 : wp P Z48_41 Q e H = wp P Z48_40 (blockQ 0 Q) e H := idE rfl
@[go_sem] def l_Z36_0 : List GOp := [⟨(some 5), .mv (.t 0), none⟩,
    ⟨(some 6), .len (.t 5), none⟩,
    ⟨(some 4), .mv (.t 6), none⟩]
def Z36_0 : IR := .ops l_Z36_0
@[go_sem] theorem w_Z36_0 : wp P Z36_0 Q e H = wpL P l_Z36_0 (Q .normal) e H := idE rfl
@[go_sem] def l_Z36_1 : List GOp := [⟨(some 7), .mv (.t 0), none⟩,
    ⟨(some 8), .mv (.t 4), none⟩,
    ⟨(some 9), .mv (.t 4), none⟩,
    ⟨(some 10), .cvi .u64 (.t 9), none⟩,
    ⟨(some 11), .call (n_Z26) [(.t 10)], none⟩,
    ⟨(some 12), .mv (.t 1), none⟩,
    ⟨(some 13), .call (n_Z48) [(.t 7), (.c (.int .i64 0)), (.t 8), (.t 11), (.t 12)], none⟩]
def Z36_1 : IR := .ops l_Z36_1
@[go_sem] theorem w_Z36_1 : wp P Z36_1 Q e H = wpL P l_Z36_1 (Q .normal) e H := idE rfl
@[go_sem] def l_Z2_0 : List GOp := [⟨(some 2), .mv (.c (.bool false)), none⟩]
def Z2_0 : IR := .ops l_Z2_0
@[go_sem] theorem w_Z2_0 : wp P Z2_0 Q e H = wpL P l_Z2_0 (Q .normal) e H := idE rfl
@[go_sem] def l_Z2_1 : List GOp := [⟨(some 3), .mv (.t 0), none⟩,
    ⟨(some 4), .mv (.t 0), none⟩,
    ⟨(some 5), .bin .neq (.t 3) (.t 4), none⟩,
    ⟨(some 2), .mv (.t 5), none⟩]
def Z2_1 : IR := .ops l_Z2_1
@[go_sem] theorem w_Z2_1 : wp P Z2_1 Q e H = wpL P l_Z2_1 (Q .normal) e H := idE rfl
def F_Z2 : IFn := ⟨1, 6, [.t 2], (.seq Z2_0 (.seq Z2_1 .ret))⟩
theorem c_Z2 : compFn Try.prog [(0, [], []), (1, [], [])] Try.f141 = some F_Z2 := by kernel_rfl
theorem a_Z2 (hl : args.length = 1) (h : wp Try.prog (.seq Z2_0 (.seq Z2_1 .ret)) (postQ [.t 2] R) (env0 args) H) : ACall Try.prog n_Z2 args H R :=
  acall_of_wp mixed Try.func141 c_Z2 (by kernel_rfl) hl h
@[go_sem] def l_Z0_0 : List GOp := [⟨(some 4), .mv (.c (.int .i64 0)), none⟩]
def Z0_0 : IR := .ops l_Z0_0
@[go_sem] theorem w_Z0_0 : wp P Z0_0 Q e H = wpL P l_Z0_0 (Q .normal) e H := idE rfl
@[go_sem] def l_Z0_1 : List GOp := [⟨(some 7), .mv (.t 0), none⟩,
    ⟨(some 8), .call (n_Z2) [(.t 7)], none⟩,
    ⟨(some 5), .mv (.t 8), none⟩]
def Z0_1 : IR := .ops l_Z0_1
@[go_sem] theorem w_Z0_1 : wp P Z0_1 Q e H = wpL P l_Z0_1 (Q .normal) e H := idE rfl
@[go_sem] def l_Z0_2 : List GOp := [⟨(some 9), .mv (.t 1), none⟩,
    ⟨(some 10), .call (n_Z2) [(.t 9)], none⟩,
    ⟨(some 6), .mv (.t 10), none⟩]
def Z0_2 : IR := .ops l_Z0_2
@[go_sem] theorem w_Z0_2 : wp P Z0_2 Q e H = wpL P l_Z0_2 (Q .normal) e H := idE rfl
@[go_sem] def l_Z0_3 : List GOp := [⟨(some 11), .mv (.t 5), none⟩]
def Z0_3 : IR := .ops l_Z0_3
@[go_sem] theorem w_Z0_3 : wp P Z0_3 Q e H = wpL P l_Z0_3 (Q .normal) e H := idE rfl
@[go_sem] def l_Z0_4 : List GOp := [⟨(some 12), .mv (.t 6), none⟩]
def Z0_4 : IR := .ops l_Z0_4
@[go_sem] theorem w_Z0_4 : wp P Z0_4 Q e H = wpL P l_Z0_4 (Q .normal) e H := idE rfl
@[go_sem] def l_Z0_5 : List GOp := [⟨(some 4), .mv (.c (.int .i64 0)), none⟩]
def Z0_5 : IR := .ops l_Z0_5
@[go_sem] theorem w_Z0_5 : wp P Z0_5 Q e H = wpL P l_Z0_5 (Q .normal) e H := idE rfl
def Z0_6 : IR := .cond (.t 12) (.seq Z0_5 .ret) .skip
@[go_sem] theorem w_Z0_6 : wp P Z0_6 Q e H = condW P ((.t 12) : X) (.seq Z0_5 .ret) .skip Q e H := idE rfl
@[go_sem] def l_Z0_7 : List GOp := [⟨(some 4), .mv (.c (.int .i64 (-1))), none⟩]
def Z0_7 : IR := .ops l_Z0_7
@[go_sem] theorem w_Z0_7 : wp P Z0_7 Q e H = wpL P l_Z0_7 (Q .normal) e H := idE rfl
def Z0_8 : IR := .cond (.t 11) (.seq (.seq Z0_4 Z0_6) (.seq Z0_7 .ret)) .skip
@[go_sem] theorem w_Z0_8 : wp P Z0_8 Q e H = condW P ((.t 11) : X) (.seq (.seq Z0_4 Z0_6) (.seq Z0_7 .ret)) .skip Q e H := idE rfl
@[go_sem] def l_Z0_9 : List GOp := [⟨(some 13), .mv (.t 6), none⟩]
def Z0_9 : IR := .ops l_Z0_9
@[go_sem] theorem w_Z0_9 : wp P Z0_9 Q e H = wpL P l_Z0_9 (Q .normal) e H := idE rfl
@[go_sem] def l_Z0_10 : List GOp := [⟨(some 4), .mv (.c (.int .i64 1)), none⟩]
def Z0_10 : IR := .ops l_Z0_10
@[go_sem] theorem w_Z0_10 : wp P Z0_10 Q e H = wpL P l_Z0_10 (Q .normal) e H := idE rfl
def Z0_11 : IR := .cond (.t 13) (.seq Z0_10 .ret) .skip
@[go_sem] theorem w_Z0_11 : wp P Z0_11 Q e H = condW P ((.t 13) : X) (.seq Z0_10 .ret) .skip Q e H := idE rfl
@[go_sem] def l_Z0_12 : List GOp := [⟨(some 14), .mv (.t 0), none⟩,
    ⟨(some 15), .mv (.t 1), none⟩,
    ⟨(some 16), .bin .lss (.t 14) (.t 15), none⟩]
def Z0_12 : IR := .ops l_Z0_12
@[go_sem] theorem w_Z0_12 : wp P Z0_12 Q e H = wpL P l_Z0_12 (Q .normal) e H := idE rfl
@[go_sem] def l_Z0_13 : List GOp := [⟨(some 4), .mv (.c (.int .i64 (-1))), none⟩]
def Z0_13 : IR := .ops l_Z0_13
@[go_sem] theorem w_Z0_13 : wp P Z0_13 Q e H = wpL P l_Z0_13 (Q .normal) e H := idE rfl
def Z0_14 : IR := .cond (.t 16) (.seq Z0_13 .ret) .skip
@[go_sem] theorem w_Z0_14 : wp P Z0_14 Q e H = condW P ((.t 16) : X) (.seq Z0_13 .ret) .skip Q e H := idE rfl
@[go_sem] def l_Z0_15 : List GOp := [⟨(some 17), .mv (.t 0), none⟩,
    ⟨(some 18), .mv (.t 1), none⟩,
    ⟨(some 19), .bin .gtr (.t 17) (.t 18), none⟩]
def Z0_15 : IR := .ops l_Z0_15
@[go_sem] theorem w_Z0_15 : wp P Z0_15 Q e H = wpL P l_Z0_15 (Q .normal) e H := idE rfl
@[go_sem] def l_Z0_16 : List GOp := [⟨(some 4), .mv (.c (.int .i64 1)), none⟩]
def Z0_16 : IR := .ops l_Z0_16
@[go_sem] theorem w_Z0_16 : wp P Z0_16 Q e H = wpL P l_Z0_16 (Q .normal) e H := idE rfl
def Z0_17 : IR := .cond (.t 19) (.seq Z0_16 .ret) .skip
@[go_sem] theorem w_Z0_17 : wp P Z0_17 Q e H = condW P ((.t 19) : X) (.seq Z0_16 .ret) .skip Q e H := idE rfl
@[go_sem] def l_Z0_18 : List GOp := [⟨(some 4), .mv (.c (.int .i64 0)), none⟩]
def Z0_18 : IR := .ops l_Z0_18
@[go_sem] theorem w_Z0_18 : wp P Z0_18 Q e H = wpL P l_Z0_18 (Q .normal) e H := idE rfl
def F_Z0 : IFn := ⟨2, 20, [.t 4], (.seq Z0_0 (.seq Z0_1 (.seq Z0_2 (.seq (.seq Z0_3 Z0_8) (.seq (.seq Z0_9 Z0_11) (.seq (.seq Z0_12 Z0_14) (.seq (.seq Z0_15 Z0_17) (.seq Z0_18 .ret))))))))⟩
theorem c_Z0 : compFn Try.prog [(0, [], []), (1, [], []), (2, [], []), (3, [], []), (4, [], []), (5, [], []), (6, [], []), (7, [], []), (8, [], []), (9, [], []), (10, [], []), (11, [], []), (12, [], []), (13, [], [])] Try.f129 = some F_Z0 := by kernel_rfl
theorem a_Z0 (hl : args.length = 2) (h : wp Try.prog (.seq Z0_0 (.seq Z0_1 (.seq Z0_2 (.seq (.seq Z0_3 Z0_8) (.seq (.seq Z0_9 Z0_11) (.seq (.seq Z0_12 Z0_14) (.seq (.seq Z0_15 Z0_17) (.seq Z0_18 .ret)))))))) (postQ [.t 4] R) (env0 args) H) : ACall Try.prog n_Z0 args H R :=
  acall_of_wp mixed Try.func129 c_Z0 (by kernel_rfl) hl h
@[go_sem] def l_Z1_0 : List GOp := [⟨(some 2), .mv (.c (.int .i64 0)), none⟩]
def Z1_0 : IR := .ops l_Z1_0
@[go_sem] theorem w_Z1_0 : wp P Z1_0 Q e H = wpL P l_Z1_0 (Q .normal) e H := idE rfl
@[go_sem] def l_Z1_1 : List GOp := [⟨(some 3), .mv (.c (.int .i64 0)), none⟩]
def Z1_1 : IR := .ops l_Z1_1
@[go_sem] theorem w_Z1_1 : wp P Z1_1 Q e H = wpL P l_Z1_1 (Q .normal) e H := idE rfl
@[go_sem] def l_Z1_2 : List GOp := [⟨(some 6), .mv (.t 0), none⟩,
    ⟨(some 7), .len (.t 6), none⟩,
    ⟨(some 8), .mv (.c (.int .i64 0)), none⟩]
def Z1_2 : IR := .ops l_Z1_2
@[go_sem] theorem w_Z1_2 : wp P Z1_2 Q e H = wpL P l_Z1_2 (Q .normal) e H := idE rfl
@[go_sem] def l_Z1_3 : List GOp := [⟨(some 9), .bin .lss (.t 8) (.t 7), none⟩]
def Z1_3 : IR := .ops l_Z1_3
@[go_sem] theorem w_Z1_3 : wp P Z1_3 Q e H = wpL P l_Z1_3 (Q .normal) e H := idE rfl
def Z1_4 : IR := .cond (.t 9) .skip (.exit 0)
@[go_sem] theorem w_Z1_4 : wp P Z1_4 Q e H = condW P ((.t 9) : X) .skip (.exit 0) Q e H := idE rfl
@[go_sem] def l_Z1_5 : List GOp := [⟨(some 10), .iaddr (.t 6) (.t 8) 1, none⟩,
    ⟨(some 11), .load (.t 10) 1 false, none⟩,
    ⟨(some 5), .mv (.t 11), none⟩]
def Z1_5 : IR := .ops l_Z1_5
@[go_sem] theorem w_Z1_5 : wp P Z1_5 Q e H = wpL P l_Z1_5 (Q .normal) e H := idE rfl
@[go_sem] def l_Z1_6 : List GOp := [⟨(some 12), .mv (.t 5), none⟩,
    ⟨(some 13), .mv (.t 3), none⟩,
    ⟨(some 14), .bin .neq (.t 12) (.t 13), none⟩]
def Z1_6 : IR := .ops l_Z1_6
@[go_sem] theorem w_Z1_6 : wp P Z1_6 Q e H = wpL P l_Z1_6 (Q .normal) e H := idE rfl
@[go_sem] def l_Z1_7 : List GOp := [⟨(some 15), .mv (.t 5), none⟩,
    ⟨(some 2), .mv (.t 15), none⟩]
def Z1_7 : IR := .ops l_Z1_7
@[go_sem] theorem w_Z1_7 : wp P Z1_7 Q e H = wpL P l_Z1_7 (Q .normal) e H := idE rfl
def Z1_8 : IR := .cond (.t 14) (.seq Z1_7 .ret) .skip
@[go_sem] theorem w_Z1_8 : wp P Z1_8 Q e H = condW P ((.t 14) : X) (.seq Z1_7 .ret) .skip Q e H := idE rfl
def Z1_9 : IR := .block 1 (.seq Z1_5 (.seq Z1_6 Z1_8))
@[go_sem] theorem w_Z1_9 : wp P Z1_9 Q e H = wp P (.seq Z1_5 (.seq Z1_6 Z1_8)) (blockQ 1 Q) e H := idE rfl
@[go_sem] def l_Z1_10 : List GOp := [⟨(some 16), .bin .add (.t 8) (.c (.int .i64 1)), none⟩,
    ⟨(some 8), .mv (.t 16), none⟩]
def Z1_10 : IR := .ops l_Z1_10
@[go_sem] theorem w_Z1_10 : wp P Z1_10 Q e H = wpL P l_Z1_10 (Q .normal) e H := idE rfl
def Z1_11 : IR := .loop (.seq Z1_3 (.seq Z1_4 (.seq Z1_9 Z1_10)))
def Z1_12 : IR := .block 0 Z1_11
@[go_sem] theorem w_Z1_12 : wp P Z1_12 Q e H = wp P Z1_11 (blockQ 0 Q) e H := idE rfl
@[go_sem] def l_Z1_13 : List GOp := [⟨(some 17), .mv (.t 3), none⟩,
    ⟨(some 2), .mv (.t 17), none⟩]
def Z1_13 : IR := .ops l_Z1_13
@[go_sem] theorem w_Z1_13 : wp P Z1_13 Q e H = wpL P l_Z1_13 (Q .normal) e H := idE rfl
def F_Z1 : IFn := ⟨1, 18, [.t 2], (.seq Z1_0 (.seq Z1_1 (.seq (.seq Z1_2 Z1_12) (.seq Z1_13 .ret))))⟩
theorem c_Z1 : compFn Try.prog [(0, [], []), (1, [], []), (2, [], []), (3, [], []), (4, [], []), (5, [], []), (6, [], []), (7, [], []), (8, [], [])] Try.f128 = some F_Z1 := by kernel_rfl
theorem a_Z1 (hl : args.length = 1) (h : wp Try.prog (.seq Z1_0 (.seq Z1_1 (.seq (.seq Z1_2 Z1_12) (.seq Z1_13 .ret)))) (postQ [.t 2] R) (env0 args) H) : ACall Try.prog n_Z1 args H R :=
  acall_of_wp mixed Try.func128 c_Z1 (by kernel_rfl) hl h
@[go_sem] def l_Z12_1_0 : List GOp := [⟨(some 4), .mv (.c (.int .i64 0)), none⟩]
def Z12_1_0 : IR := .ops l_Z12_1_0
@[go_sem] theorem w_Z12_1_0 : wp P Z12_1_0 Q e H = wpL P l_Z12_1_0 (Q .normal) e H := idE rfl
@[go_sem] def l_Z12_1_1 : List GOp := [⟨(some 5), .mv (.t 0), none⟩,
    ⟨(some 6), .call (n_Z9) [(.t 5)], none⟩,
    ⟨(some 7), .mv (.t 1), none⟩,
    ⟨(some 8), .call (n_Z9) [(.t 7)], none⟩,
    ⟨(some 9), .call (n_Z0) [(.t 6), (.t 8)], none⟩,
    ⟨(some 10), .mv (.t 0), none⟩,
    ⟨(some 11), .mv (.t 1), none⟩,
    ⟨(some 12), .call (n_Z0) [(.t 10), (.t 11)], none⟩,
    ⟨(some 13), .bslc 1 2 [(.int .i64 0)] [(0, (.t 9)), (1, (.t 12))], none⟩,
    ⟨(some 14), .call (n_Z1) [(.t 13)], none⟩,
    ⟨(some 4), .mv (.t 14), none⟩]
def Z12_1_1 : IR := .ops l_Z12_1_1
@[go_sem] theorem w_Z12_1_1 : wp P Z12_1_1 Q e H = wpL P l_Z12_1_1 (Q .normal) e H := idE rfl
def F_Z12_1 : IFn := ⟨2, 15, [.t 4], (.seq Z12_1_0 (.seq Z12_1_1 .ret))⟩
theorem c_Z12_1 : compFn Try.prog [(0, [], []), (1, [], [])] Try.f127 = some F_Z12_1 := by kernel_rfl
theorem a_Z12_1 (hl : args.length = 2) (h : wp Try.prog (.seq Z12_1_0 (.seq Z12_1_1 .ret)) (postQ [.t 4] R) (env0 args) H) : ACall Try.prog n_Z12_1 args H R :=
  acall_of_wp mixed Try.func127 c_Z12_1 (by kernel_rfl) hl h
@[go_sem] def l_Z31_0 : List GOp := [⟨(some 2), .mv (.c (.sl none 0 0 true 0)), none⟩]
def Z31_0 : IR := .ops l_Z31_0
@[go_sem] theorem w_Z31_0 : wp P Z31_0 Q e H = wpL P l_Z31_0 (Q .normal) e H := idE rfl
@[go_sem] def l_Z31_1 : List GOp := [⟨(some 6), .mv (.t 0), none⟩,
    ⟨(some 7), .len (.t 6), none⟩,
    ⟨(some 8), .bin .lss (.t 7) (.c (.int .i64 2)), none⟩]
def Z31_1 : IR := .ops l_Z31_1
@[go_sem] theorem w_Z31_1 : wp P Z31_1 Q e H = wpL P l_Z31_1 (Q .normal) e H := idE rfl
@[go_sem] def l_Z31_2 : List GOp := [⟨(some 9), .mv (.t 0), none⟩,
    ⟨(some 2), .mv (.t 9), none⟩]
def Z31_2 : IR := .ops l_Z31_2
@[go_sem] theorem w_Z31_2 : wp P Z31_2 Q e H = wpL P l_Z31_2 (Q .normal) e H := idE rfl
def Z31_3 : IR := .cond (.t 8) (.seq Z31_2 .ret) .skip
@[go_sem] theorem w_Z31_3 : wp P Z31_3 Q e H = condW P ((.t 8) : X) (.seq Z31_2 .ret) .skip Q e H := idE rfl
@[go_sem] def l_Z31_4 : List GOp := [⟨(some 3), .mv (.c (.int .i64 1)), none⟩]
def Z31_4 : IR := .ops l_Z31_4
@[go_sem] theorem w_Z31_4 : wp P Z31_4 Q e H = wpL P l_Z31_4 (Q .normal) e H := idE rfl
@[go_sem] def l_Z31_5 : List GOp := [⟨(some 10), .mv (.t 3), none⟩,
    ⟨(some 11), .mv (.t 0), none⟩,
    ⟨(some 12), .len (.t 11), none⟩,
    ⟨(some 13), .bin .lss (.t 10) (.t 12), none⟩]
def Z31_5 : IR := .ops l_Z31_5
@[go_sem] theorem w_Z31_5 : wp P Z31_5 Q e H = wpL P l_Z31_5 (Q .normal) e H := idE rfl
def Z31_6 : IR := .cond (.t 13) .skip (.exit 0)
@[go_sem] theorem w_Z31_6 : wp P Z31_6 Q e H = condW P ((.t 13) : X) .skip (.exit 0) Q e H := idE rfl
def l_Z31_7 : List GOp := [⟨(some 16), .mv (.t 0), none⟩,
    ⟨(some 17), .mv (.t 3), none⟩,
    ⟨(some 18), .iaddr (.t 16) (.t 17) 1, none⟩,
    ⟨(some 19), .load (.t 18) 1 false, none⟩,
    ⟨(some 20), .mv (.t 0), none⟩,
    ⟨(some 21), .mv (.t 3), none⟩,
    ⟨(some 22), .bin .sub (.t 21) (.c (.int .i64 1)), none⟩,
    ⟨(some 23), .iaddr (.t 20) (.t 22) 1, none⟩,
    ⟨(some 24), .load (.t 23) 1 false, none⟩,
    ⟨(some 25), .bin .eql (.t 19) (.t 24), none⟩]
@[go_sem] theorem g_Z31_7_0 : gAt l_Z31_7 0 = ⟨(some 16), .mv (.t 0), none⟩ := idE rfl
@[go_sem] theorem g_Z31_7_1 : gAt l_Z31_7 1 = ⟨(some 17), .mv (.t 3), none⟩ := idE rfl
@[go_sem] theorem g_Z31_7_2 : gAt l_Z31_7 2 = ⟨(some 18), .iaddr (.t 16) (.t 17) 1, none⟩ := idE rfl
@[go_sem] theorem g_Z31_7_3 : gAt l_Z31_7 3 = ⟨(some 19), .load (.t 18) 1 false, none⟩ := idE rfl
@[go_sem] theorem g_Z31_7_4 : gAt l_Z31_7 4 = ⟨(some 20), .mv (.t 0), none⟩ := idE rfl
@[go_sem] theorem g_Z31_7_5 : gAt l_Z31_7 5 = ⟨(some 21), .mv (.t 3), none⟩ := idE rfl
@[go_sem] theorem g_Z31_7_6 : gAt l_Z31_7 6 = ⟨(some 22), .bin .sub (.t 21) (.c (.int .i64 1)), none⟩ := idE rfl
@[go_sem] theorem g_Z31_7_7 : gAt l_Z31_7 7 = ⟨(some 23), .iaddr (.t 20) (.t 22) 1, none⟩ := idE rfl
@[go_sem] theorem g_Z31_7_8 : gAt l_Z31_7 8 = ⟨(some 24), .load (.t 23) 1 false, none⟩ := idE rfl
@[go_sem] theorem g_Z31_7_9 : gAt l_Z31_7 9 = ⟨(some 25), .bin .eql (.t 19) (.t 24), none⟩ := idE rfl
def Z31_7 : IR := .dops l_Z31_7 [(0, []), (1, []), (2, []), (3, []), (4, []), (5, []), (6, []), (7, []), (8, []), (9, [])]
@[go_sem] theorem w_Z31_7 : wp P Z31_7 Q e H = wpD P l_Z31_7 [(0, []), (1, []), (2, []), (3, []), (4, []), (5, []), (6, []), (7, []), (8, []), (9, [])] (Q .normal) e H := idE rfl
@[go_sem] def l_Z31_8 : List GOp := [⟨(some 26), .mv (.t 0), none⟩,
    ⟨(some 27), .mv (.t 3), none⟩,
    ⟨(some 28), .slc 1 (.t 26) (some (.t 27)) none none, none⟩,
    ⟨(some 4), .mv (.t 28), none⟩]
def Z31_8 : IR := .ops l_Z31_8
@[go_sem] theorem w_Z31_8 : wp P Z31_8 Q e H = wpL P l_Z31_8 (Q .normal) e H := idE rfl
@[go_sem] def l_Z31_9 : List GOp := [⟨(some 5), .mv (.c (.int .i64 1)), none⟩]
def Z31_9 : IR := .ops l_Z31_9
@[go_sem] theorem w_Z31_9 : wp P Z31_9 Q e H = wpL P l_Z31_9 (Q .normal) e H := idE rfl
@[go_sem] def l_Z31_10 : List GOp := [⟨(some 29), .mv (.t 5), none⟩,
    ⟨(some 30), .mv (.t 4), none⟩,
    ⟨(some 31), .len (.t 30), none⟩,
    ⟨(some 32), .bin .lss (.t 29) (.t 31), none⟩]
def Z31_10 : IR := .ops l_Z31_10
@[go_sem] theorem w_Z31_10 : wp P Z31_10 Q e H = wpL P l_Z31_10 (Q .normal) e H := idE rfl
def Z31_11 : IR := .cond (.t 32) .skip (.exit 2)
@[go_sem] theorem w_Z31_11 : wp P Z31_11 Q e H = condW P ((.t 32) : X) .skip (.exit 2) Q e H := idE rfl
def l_Z31_12 : List GOp := [⟨(some 35), .mv (.t 4), none⟩,
    ⟨(some 36), .mv (.t 5), none⟩,
    ⟨(some 37), .iaddr (.t 35) (.t 36) 1, none⟩,
    ⟨(some 38), .load (.t 37) 1 false, none⟩,
    ⟨(some 39), .mv (.t 4), none⟩,
    ⟨(some 40), .mv (.t 5), none⟩,
    ⟨(some 41), .bin .sub (.t 40) (.c (.int .i64 1)), none⟩,
    ⟨(some 42), .iaddr (.t 39) (.t 41) 1, none⟩,
    ⟨(some 43), .load (.t 42) 1 false, none⟩,
    ⟨(some 44), .bin .neq (.t 38) (.t 43), none⟩]
@[go_sem] theorem g_Z31_12_0 : gAt l_Z31_12 0 = ⟨(some 35), .mv (.t 4), none⟩ := idE rfl
@[go_sem] theorem g_Z31_12_1 : gAt l_Z31_12 1 = ⟨(some 36), .mv (.t 5), none⟩ := idE rfl
@[go_sem] theorem g_Z31_12_2 : gAt l_Z31_12 2 = ⟨(some 37), .iaddr (.t 35) (.t 36) 1, none⟩ := idE rfl
@[go_sem] theorem g_Z31_12_3 : gAt l_Z31_12 3 = ⟨(some 38), .load (.t 37) 1 false, none⟩ := idE rfl
@[go_sem] theorem g_Z31_12_4 : gAt l_Z31_12 4 = ⟨(some 39), .mv (.t 4), none⟩ := idE rfl
@[go_sem] theorem g_Z31_12_5 : gAt l_Z31_12 5 = ⟨(some 40), .mv (.t 5), none⟩ := idE rfl
@[go_sem] theorem g_Z31_12_6 : gAt l_Z31_12 6 = ⟨(some 41), .bin .sub (.t 40) (.c (.int .i64 1)), none⟩ := idE rfl
@[go_sem] theorem g_Z31_12_7 : gAt l_Z31_12 7 = ⟨(some 42), .iaddr (.t 39) (.t 41) 1, none⟩ := idE rfl
@[go_sem] theorem g_Z31_12_8 : gAt l_Z31_12 8 = ⟨(some 43), .load (.t 42) 1 false, none⟩ := idE rfl
@[go_sem] theorem g_Z31_12_9 : gAt l_Z31_12 9 = ⟨(some 44), .bin .neq (.t 38) (.t 43), none⟩ := idE rfl
def Z31_12 : IR := .dops l_Z31_12 [(0, []), (1, []), (2, []), (3, []), (4, []), (5, []), (6, []), (7, []), (8, []), (9, [])]
@[go_sem] theorem w_Z31_12 : wp P Z31_12 Q e H = wpD P l_Z31_12 [(0, []), (1, []), (2, []), (3, []), (4, []), (5, []), (6, []), (7, []), (8, []), (9, [])] (Q .normal) e H := idE rfl
@[go_sem] def l_Z31_13 : List GOp := [⟨(some 45), .mv (.t 0), none⟩,
    ⟨(some 46), .mv (.t 3), none⟩,
    ⟨(some 47), .mv (.t 4), none⟩,
    ⟨(some 48), .mv (.t 5), none⟩,
    ⟨(some 49), .iaddr (.t 47) (.t 48) 1, none⟩,
    ⟨(some 50), .load (.t 49) 1 false, none⟩,
    ⟨(some 51), .iaddr (.t 45) (.t 46) 1, none⟩,
    ⟨none, .store (.t 51) 1 (.t 50), none⟩]
def Z31_13 : IR := .ops l_Z31_13
@[go_sem] theorem w_Z31_13 : wp P Z31_13 Q e H = wpL P l_Z31_13 (Q .normal) e H := idE rfl
@[go_sem] def l_Z31_14 : List GOp := [⟨(some 52), .mv (.t 3), none⟩,
    ⟨(some 53), .bin .add (.t 52) (.c (.int .i64 1)), none⟩,
    ⟨(some 3), .mv (.t 53), none⟩]
def Z31_14 : IR := .ops l_Z31_14
@[go_sem] theorem w_Z31_14 : wp P Z31_14 Q e H = wpL P l_Z31_14 (Q .normal) e H := idE rfl
def Z31_15 : IR := .cond (.t 44) (.seq Z31_13 Z31_14) .skip
@[go_sem] theorem w_Z31_15 : wp P Z31_15 Q e H = condW P ((.t 44) : X) (.seq Z31_13 Z31_14) .skip Q e H := idE rfl
def Z31_16 : IR := .block 3 (.seq Z31_12 Z31_15)
@[go_sem] theorem w_Z31_16 : wp P Z31_16 Q e H = wp P (.seq Z31_12 Z31_15) (blockQ 3 Q) e H := idE rfl
@[go_sem] def l_Z31_17 : List GOp := [⟨(some 33), .mv (.t 5), none⟩,
    ⟨(some 34), .bin .add (.t 33) (.c (.int .i64 1)), none⟩,
    ⟨(some 5), .mv (.t 34), none⟩]
def Z31_17 : IR := .ops l_Z31_17
@[go_sem] theorem w_Z31_17 : wp P Z31_17 Q e H = wpL P l_Z31_17 (Q .normal) e H := idE rfl
def Z31_18 : IR := .loop (.seq (.seq Z31_10 Z31_11) (.seq Z31_16 Z31_17))
def Z31_19 : IR := .block 2 Z31_18
@[go_sem] theorem w_Z31_19 : wp P Z31_19 Q e H = wp P Z31_18 (blockQ 2 Q) e H := idE rfl
@[go_sem] def l_Z31_20 : List GOp := [⟨(some 54), .mv (.t 0), none⟩,
    ⟨(some 55), .mv (.t 3), none⟩,
    ⟨(some 56), .slc 1 (.t 54) (some (.t 55)) none none, none⟩,
    ⟨none, .clear [(.int .i64 0)] (.t 56), none⟩]
def Z31_20 : IR := .ops l_Z31_20
@[go_sem] theorem w_Z31_20 : wp P Z31_20 Q e H = wpL P l_Z31_20 (Q .normal) e H := idE rfl
@[go_sem] def l_Z31_21 : List GOp := [⟨(some 57), .mv (.t 0), none⟩,
    ⟨(some 58), .mv (.t 3), none⟩,
    ⟨(some 59), .slc 1 (.t 57) none (some (.t 58)) none, none⟩,
    ⟨(some 2), .mv (.t 59), none⟩]
def Z31_21 : IR := .ops l_Z31_21
@[go_sem] theorem w_Z31_21 : wp P Z31_21 Q e H = wpL P l_Z31_21 (Q .normal) e H := idE rfl
def Z31_22 : IR := .cond (.t 25) (.seq Z31_8 (.seq (.seq Z31_9 Z31_19) (.seq Z31_20 (.seq Z31_21 .ret)))) .skip
@[go_sem] theorem w_Z31_22 : wp P Z31_22 Q e H = condW P ((.t 25) : X) (.seq Z31_8 (.seq (.seq Z31_9 Z31_19) (.seq Z31_20 (.seq Z31_21 .ret)))) .skip Q e H := idE rfl
def Z31_23 : IR := .block 1 (.seq Z31_7 Z31_22)
@[go_sem] theorem w_Z31_23 : wp P Z31_23 Q e H = wp P (.seq Z31_7 Z31_22) (blockQ 1 Q) e H := idE rfl
@[go_sem] def l_Z31_24 : List GOp := [⟨(some 14), .mv (.t 3), none⟩,
    ⟨(some 15), .bin .add (.t 14) (.c (.int .i64 1)), none⟩,
    ⟨(some 3), .mv (.t 15), none⟩]
def Z31_24 : IR := .ops l_Z31_24
@[go_sem] theorem w_Z31_24 : wp P Z31_24 Q e H = wpL P l_Z31_24 (Q .normal) e H := idE rfl
def Z31_25 : IR := .loop (.seq (.seq Z31_5 Z31_6) (.seq Z31_23 Z31_24))
def Z31_26 : IR := .block 0 Z31_25
@[go_sem] theorem w_Z31_26 : wp P Z31_26 Q e H = wp P Z31_25 (blockQ 0 Q) e H := idE rfl
@[go_sem] def l_Z31_27 : List GOp := [⟨(some 60), .mv (.t 0), none⟩,
    ⟨(some 2), .mv (.t 60), none⟩]
def Z31_27 : IR := .ops l_Z31_27
@[go_sem] theorem w_Z31_27 : wp P Z31_27 Q e H = wpL P l_Z31_27 (Q .normal) e H := idE rfl
def F_Z31 : IFn := ⟨1, 61, [.t 2], (.seq Z31_0 (.seq (.seq Z31_1 Z31_3) (.seq (.seq Z31_4 Z31_26) (.seq Z31_27 .ret))))⟩
theorem c_Z31 : compFn Try.prog [(0, [], []), (1, [], []), (2, [], []), (3, [], []), (4, [], []), (6, [(0, []), (1, []), (2, []), (3, []), (4, []), (5, []), (6, []), (7, []), (8, []), (9, [])], []), (7, [], []), (8, [], []), (9, [], []), (11, [(0, []), (1, []), (2, []), (3, []), (4, []), (5, []), (6, []), (7, []), (8, []), (9, [])], []), (12, [], []), (13, [], []), (10, [], []), (14, [], []), (15, [], []), (5, [], []), (16, [], [])] Try.f130 = some F_Z31 := by kernel_rfl
theorem a_Z31 (hl : args.length = 1) (h : wp Try.prog (.seq Z31_0 (.seq (.seq Z31_1 Z31_3) (.seq (.seq Z31_4 Z31_26) (.seq Z31_27 .ret)))) (postQ [.t 2] R) (env0 args) H) : ACall Try.prog n_Z31 args H R :=
  acall_of_wp mixed Try.func130 c_Z31 (by kernel_rfl) hl h
@[go_sem] def l_Z14_0 : List GOp := [⟨(some 2), .mv (.c (.sl none 0 0 true 0)), none⟩]
def Z14_0 : IR := .ops l_Z14_0
@[go_sem] theorem w_Z14_0 : wp P Z14_0 Q e H = wpL P l_Z14_0 (Q .normal) e H := idE rfl
@[go_sem] def l_Z14_1 : List GOp := [⟨(some 4), .mv (.t 0), none⟩,
    ⟨(some 5), .len (.t 4), none⟩,
    ⟨(some 6), .bin .eql (.t 5) (.c (.int .i64 0)), none⟩]
def Z14_1 : IR := .ops l_Z14_1
@[go_sem] theorem w_Z14_1 : wp P Z14_1 Q e H = wpL P l_Z14_1 (Q .normal) e H := idE rfl
@[go_sem] def l_Z14_2 : List GOp := [⟨(some 2), .mv (.c (.sl none 0 0 true 0)), none⟩]
def Z14_2 : IR := .ops l_Z14_2
@[go_sem] theorem w_Z14_2 : wp P Z14_2 Q e H = wpL P l_Z14_2 (Q .normal) e H := idE rfl
def Z14_3 : IR := .cond (.t 6) (.seq Z14_2 .ret) .skip
@[go_sem] theorem w_Z14_3 : wp P Z14_3 Q e H = condW P ((.t 6) : X) (.seq Z14_2 .ret) .skip Q e H := idE rfl
@[go_sem] def l_Z14_4 : List GOp := [⟨(some 7), .mv (.t 0), none⟩,
    ⟨(some 8), .len (.t 7), none⟩,
    ⟨(some 9), .mks [(.int .i64 0)] 8 (.t 8), none⟩,
    ⟨(some 3), .mv (.t 9), none⟩]
def Z14_4 : IR := .ops l_Z14_4
@[go_sem] theorem w_Z14_4 : wp P Z14_4 Q e H = wpL P l_Z14_4 (Q .normal) e H := idE rfl
@[go_sem] def l_Z14_5 : List GOp := [⟨(some 10), .mv (.t 3), none⟩,
    ⟨(some 11), .mv (.t 0), none⟩,
    ⟨(some 12), .copy 1 (.t 10) (.t 11), none⟩]
def Z14_5 : IR := .ops l_Z14_5
@[go_sem] theorem w_Z14_5 : wp P Z14_5 Q e H = wpL P l_Z14_5 (Q .normal) e H := idE rfl
@[go_sem] def l_Z14_6 : List GOp := [⟨(some 13), .mv (.t 3), none⟩,
    ⟨(some 2), .mv (.t 13), none⟩]
def Z14_6 : IR := .ops l_Z14_6
@[go_sem] theorem w_Z14_6 : wp P Z14_6 Q e H = wpL P l_Z14_6 (Q .normal) e H := idE rfl
def F_Z14 : IFn := ⟨1, 14, [.t 2], (.seq Z14_0 (.seq (.seq Z14_1 Z14_3) (.seq Z14_4 (.seq Z14_5 (.seq Z14_6 .ret)))))⟩
theorem c_Z14 : compFn Try.prog [(0, [], []), (1, [], []), (2, [], []), (3, [], []), (4, [], []), (5, [], [])] Try.f74 = some F_Z14 := by kernel_rfl
theorem a_Z14 (hl : args.length = 1) (h : wp Try.prog (.seq Z14_0 (.seq (.seq Z14_1 Z14_3) (.seq Z14_4 (.seq Z14_5 (.seq Z14_6 .ret))))) (postQ [.t 2] R) (env0 args) H) : ACall Try.prog n_Z14 args H R :=
  acall_of_wp mixed Try.func74 c_Z14 (by kernel_rfl) hl h
@[go_sem] def l_Z12_0 : List GOp := [⟨(some 2), .mv (.c (.sl none 0 0 true 0)), none⟩,
    ⟨(some 3), .mv (.c (.bool false)), none⟩]
def Z12_0 : IR := .ops l_Z12_0
@[go_sem] theorem w_Z12_0 : wp P Z12_0 Q e H = wpL P l_Z12_0 (Q .normal) e H := idE rfl
@[go_sem] def l_Z12_1 : List GOp := [⟨(some 6), .mv (.t 0), none⟩,
    ⟨(some 7), .call (n_Z30) [(.t 6)], none⟩,
    ⟨(some 4), .mv (.t 7), none⟩]
def Z12_1 : IR := .ops l_Z12_1
@[go_sem] theorem w_Z12_1 : wp P Z12_1 Q e H = wpL P l_Z12_1 (Q .normal) e H := idE rfl
@[go_sem] def l_Z12_2 : List GOp := [⟨(some 8), .mv (.t 4), none⟩,
    ⟨(some 9), .call (n_Z36) [(.t 8), (.c (.fn (n_Z12_1) []))], none⟩]
def Z12_2 : IR := .ops l_Z12_2
@[go_sem] theorem w_Z12_2 : wp P Z12_2 Q e H = wpL P l_Z12_2 (Q .normal) e H := idE rfl
@[go_sem] def l_Z12_3 : List GOp := [⟨(some 10), .mv (.t 4), none⟩,
    ⟨(some 11), .call (n_Z31) [(.t 10)], none⟩,
    ⟨(some 4), .mv (.t 11), none⟩]
def Z12_3 : IR := .ops l_Z12_3
@[go_sem] theorem w_Z12_3 : wp P Z12_3 Q e H = wpL P l_Z12_3 (Q .normal) e H := idE rfl
@[go_sem] def l_Z12_4 : List GOp := [⟨(some 5), .mv (.c (.int .i64 1)), none⟩]
def Z12_4 : IR := .ops l_Z12_4
@[go_sem] theorem w_Z12_4 : wp P Z12_4 Q e H = wpL P l_Z12_4 (Q .normal) e H := idE rfl
@[go_sem] def l_Z12_5 : List GOp := [⟨(some 12), .mv (.t 5), none⟩,
    ⟨(some 13), .mv (.t 4), none⟩,
    ⟨(some 14), .len (.t 13), none⟩,
    ⟨(some 15), .bin .lss (.t 12) (.t 14), none⟩]
def Z12_5 : IR := .ops l_Z12_5
@[go_sem] theorem w_Z12_5 : wp P Z12_5 Q e H = wpL P l_Z12_5 (Q .normal) e H := idE rfl
def Z12_6 : IR := .cond (.t 15) .skip (.exit 0)
@[go_sem] theorem w_Z12_6 : wp P Z12_6 Q e H = condW P ((.t 15) : X) .skip (.exit 0) Q e H := idE rfl
def l_Z12_7 : List GOp := [⟨(some 18), .mv (.t 4), none⟩,
    ⟨(some 19), .mv (.t 5), none⟩,
    ⟨(some 20), .iaddr (.t 18) (.t 19) 1, none⟩,
    ⟨(some 21), .load (.t 20) 1 false, none⟩,
    ⟨(some 22), .mv (.t 4), none⟩,
    ⟨(some 23), .mv (.t 5), none⟩,
    ⟨(some 24), .bin .sub (.t 23) (.c (.int .i64 1)), none⟩,
    ⟨(some 25), .iaddr (.t 22) (.t 24) 1, none⟩,
    ⟨(some 26), .load (.t 25) 1 false, none⟩,
    ⟨(some 27), .un .neg (.t 26), none⟩,
    ⟨(some 28), .bin .eql (.t 21) (.t 27), none⟩]
@[go_sem] theorem g_Z12_7_0 : gAt l_Z12_7 0 = ⟨(some 18), .mv (.t 4), none⟩ := idE rfl
@[go_sem] theorem g_Z12_7_1 : gAt l_Z12_7 1 = ⟨(some 19), .mv (.t 5), none⟩ := idE rfl
@[go_sem] theorem g_Z12_7_2 : gAt l_Z12_7 2 = ⟨(some 20), .iaddr (.t 18) (.t 19) 1, none⟩ := idE rfl
@[go_sem] theorem g_Z12_7_3 : gAt l_Z12_7 3 = ⟨(some 21), .load (.t 20) 1 false, none⟩ := idE rfl
@[go_sem] theorem g_Z12_7_4 : gAt l_Z12_7 4 = ⟨(some 22), .mv (.t 4), none⟩ := idE rfl
@[go_sem] theorem g_Z12_7_5 : gAt l_Z12_7 5 = ⟨(some 23), .mv (.t 5), none⟩ := idE rfl
@[go_sem] theorem g_Z12_7_6 : gAt l_Z12_7 6 = ⟨(some 24), .bin .sub (.t 23) (.c (.int .i64 1)), none⟩ := idE rfl
@[go_sem] theorem g_Z12_7_7 : gAt l_Z12_7 7 = ⟨(some 25), .iaddr (.t 22) (.t 24) 1, none⟩ := idE rfl
@[go_sem] theorem g_Z12_7_8 : gAt l_Z12_7 8 = ⟨(some 26), .load (.t 25) 1 false, none⟩ := idE rfl
@[go_sem] theorem g_Z12_7_9 : gAt l_Z12_7 9 = ⟨(some 27), .un .neg (.t 26), none⟩ := idE rfl
@[go_sem] theorem g_Z12_7_10 : gAt l_Z12_7 10 = ⟨(some 28), .bin .eql (.t 21) (.t 27), none⟩ := idE rfl
def Z12_7 : IR := .dops l_Z12_7 [(0, []), (1, []), (2, []), (3, []), (4, []), (5, []), (6, []), (7, []), (8, []), (9, []), (10, [])]
@[go_sem] theorem w_Z12_7 : wp P Z12_7 Q e H = wpD P l_Z12_7 [(0, []), (1, []), (2, []), (3, []), (4, []), (5, []), (6, []), (7, []), (8, []), (9, []), (10, [])] (Q .normal) e H := idE rfl
@[go_sem] def l_Z12_8 : List GOp := [⟨(some 2), .mv (.c (.sl none 0 0 true 0)), none⟩,
    ⟨(some 3), .mv (.c (.bool false)), none⟩]
def Z12_8 : IR := .ops l_Z12_8
@[go_sem] theorem w_Z12_8 : wp P Z12_8 Q e H = wpL P l_Z12_8 (Q .normal) e H := idE rfl
def Z12_9 : IR := .cond (.t 28) (.seq Z12_8 .ret) .skip
@[go_sem] theorem w_Z12_9 : wp P Z12_9 Q e H = condW P ((.t 28) : X) (.seq Z12_8 .ret) .skip Q e H := idE rfl
def Z12_10 : IR := .block 1 (.seq Z12_7 Z12_9)
@[go_sem] theorem w_Z12_10 : wp P Z12_10 Q e H = wp P (.seq Z12_7 Z12_9) (blockQ 1 Q) e H := idE rfl
@[go_sem] def l_Z12_11 : List GOp := [⟨(some 16), .mv (.t 5), none⟩,
    ⟨(some 17), .bin .add (.t 16) (.c (.int .i64 1)), none⟩,
    ⟨(some 5), .mv (.t 17), none⟩]
def Z12_11 : IR := .ops l_Z12_11
@[go_sem] theorem w_Z12_11 : wp P Z12_11 Q e H = wpL P l_Z12_11 (Q .normal) e H := idE rfl
def Z12_12 : IR := .loop (.seq (.seq Z12_5 Z12_6) (.seq Z12_10 Z12_11))
def Z12_13 : IR := .block 0 Z12_12
@[go_sem] theorem w_Z12_13 : wp P Z12_13 Q e H = wp P Z12_12 (blockQ 0 Q) e H := idE rfl
@[go_sem] def l_Z12_14 : List GOp := [⟨(some 29), .mv (.t 4), none⟩,
    ⟨(some 30), .call (n_Z14) [(.t 29)], none⟩,
    ⟨(some 2), .mv (.t 30), none⟩,
    ⟨(some 3), .mv (.c (.bool true)), none⟩]
def Z12_14 : IR := .ops l_Z12_14
@[go_sem] theorem w_Z12_14 : wp P Z12_14 Q e H = wpL P l_Z12_14 (Q .normal) e H := idE rfl
def F_Z12 : IFn := ⟨1, 31, [.t 2, .t 3], (.seq Z12_0 (.seq Z12_1 (.seq Z12_2 (.seq Z12_3 (.seq (.seq Z12_4 Z12_13) (.seq Z12_14 .ret))))))⟩
theorem c_Z12 : compFn Try.prog [(0, [], []), (1, [], []), (2, [], []), (3, [], []), (4, [], []), (5, [], []), (7, [(0, []), (1, []), (2, []), (3, []), (4, []), (5, []), (6, []), (7, []), (8, []), (9, []), (10, [])], []), (8, [], []), (6, [], []), (9, [], [])] Try.f96 = some F_Z12 := by kernel_rfl
theorem a_Z12 (hl : args.length = 1) (h : wp Try.prog (.seq Z12_0 (.seq Z12_1 (.seq Z12_2 (.seq Z12_3 (.seq (.seq Z12_4 Z12_13) (.seq Z12_14 .ret)))))) (postQ [.t 2, .t 3] R) (env0 args) H) : ACall Try.prog n_Z12 args H R :=
  acall_of_wp mixed Try.func96 c_Z12 (by kernel_rfl) hl h
@[go_sem] def l_Z17_0 : List GOp := [⟨(some 4), .mv (.c (.bool false)), none⟩]
def Z17_0 : IR := .ops l_Z17_0
@[go_sem] theorem w_Z17_0 : wp P Z17_0 Q e H = wpL P l_Z17_0 (Q .normal) e H := idE rfl
@[go_sem] def l_Z17_1 : List GOp := [⟨(some 12), .mv (.t 0), none⟩,
    ⟨(some 13), .nilck (.t 12), none⟩,
    ⟨(some 14), .faddr (.t 13) 0, none⟩,
    ⟨(some 15), .faddr (.t 14) 0, none⟩,
    ⟨(some 16), .load (.t 15) 1 false, none⟩,
    ⟨(some 17), .mv (.t 1), none⟩,
    ⟨(some 18), .call (n_Z22) [(.t 16), (.t 17)], none⟩,
    ⟨(some 5), .mv (.t 18), none⟩]
def Z17_1 : IR := .ops l_Z17_1
@[go_sem] theorem w_Z17_1 : wp P Z17_1 Q e H = wpL P l_Z17_1 (Q .normal) e H := idE rfl
@[go_sem] def l_Z17_2 : List GOp := [⟨(some 6), .mv (.c (.int .i64 0)), none⟩]
def Z17_2 : IR := .ops l_Z17_2
@[go_sem] theorem w_Z17_2 : wp P Z17_2 Q e H = wpL P l_Z17_2 (Q .normal) e H := idE rfl
@[go_sem] def l_Z17_3 : List GOp := [⟨(some 19), .mv (.t 0), none⟩,
    ⟨(some 20), .nilck (.t 19), none⟩,
    ⟨(some 21), .faddr (.t 20) 0, none⟩,
    ⟨(some 22), .faddr (.t 21) 1, none⟩,
    ⟨(some 23), .load (.t 22) 1 false, none⟩,
    ⟨(some 24), .mv (.t 5), none⟩,
    ⟨(some 25), .call (n_Z15) [(.t 23), (.t 24)], none⟩]
def Z17_3 : IR := .ops l_Z17_3
@[go_sem] theorem w_Z17_3 : wp P Z17_3 Q e H = wpL P l_Z17_3 (Q .normal) e H := idE rfl
@[go_sem] def l_Z17_4 : List GOp := [⟨(some 26), .mv (.t 0), none⟩,
    ⟨(some 27), .nilck (.t 26), none⟩,
    ⟨(some 28), .faddr (.t 27) 0, none⟩,
    ⟨(some 29), .faddr (.t 28) 0, none⟩,
    ⟨(some 30), .load (.t 29) 1 false, none⟩,
    ⟨(some 7), .mv (.t 30), none⟩]
def Z17_4 : IR := .ops l_Z17_4
@[go_sem] theorem w_Z17_4 : wp P Z17_4 Q e H = wpL P l_Z17_4 (Q .normal) e H := idE rfl
@[go_sem] def l_Z17_5 : List GOp := [⟨(some 31), .mv (.t 7), none⟩,
    ⟨(some 32), .bin .gtr (.t 31) (.c (.int .i64 0)), none⟩]
def Z17_5 : IR := .ops l_Z17_5
@[go_sem] theorem w_Z17_5 : wp P Z17_5 Q e H = wpL P l_Z17_5 (Q .normal) e H := idE rfl
def Z17_6 : IR := .cond (.t 32) .skip (.exit 0)
@[go_sem] theorem w_Z17_6 : wp P Z17_6 Q e H = condW P ((.t 32) : X) .skip (.exit 0) Q e H := idE rfl
@[go_sem] def l_Z17_7 : List GOp := [⟨(some 35), .mv (.t 5), none⟩,
    ⟨(some 36), .mv (.t 7), none⟩,
    ⟨(some 37), .iaddr (.t 35) (.t 36) 1, none⟩,
    ⟨(some 38), .load (.t 37) 1 false, none⟩,
    ⟨(some 39), .bin .eql (.t 38) (.c (.int .i64 0)), none⟩]
def Z17_7 : IR := .ops l_Z17_7
@[go_sem] theorem w_Z17_7 : wp P Z17_7 Q e H = wpL P l_Z17_7 (Q .normal) e H := idE rfl
@[go_sem] def l_Z17_8 : List GOp := [⟨(some 40), .mv (.t 7), none⟩,
    ⟨(some 6), .mv (.t 40), none⟩]
def Z17_8 : IR := .ops l_Z17_8
@[go_sem] theorem w_Z17_8 : wp P Z17_8 Q e H = wpL P l_Z17_8 (Q .normal) e H := idE rfl
def Z17_9 : IR := .cond (.t 39) Z17_8 .skip
@[go_sem] theorem w_Z17_9 : wp P Z17_9 Q e H = condW P ((.t 39) : X) Z17_8 .skip Q e H := idE rfl
def Z17_10 : IR := .block 1 (.seq Z17_7 Z17_9)
@[go_sem] theorem w_Z17_10 : wp P Z17_10 Q e H = wp P (.seq Z17_7 Z17_9) (blockQ 1 Q) e H := idE rfl
@[go_sem] def l_Z17_11 : List GOp := [⟨(some 33), .mv (.t 7), none⟩,
    ⟨(some 34), .bin .sub (.t 33) (.c (.int .i64 1)), none⟩,
    ⟨(some 7), .mv (.t 34), none⟩]
def Z17_11 : IR := .ops l_Z17_11
@[go_sem] theorem w_Z17_11 : wp P Z17_11 Q e H = wpL P l_Z17_11 (Q .normal) e H := idE rfl
def Z17_12 : IR := .loop (.seq (.seq Z17_5 Z17_6) (.seq Z17_10 Z17_11))
def Z17_13 : IR := .block 0 Z17_12
@[go_sem] theorem w_Z17_13 : wp P Z17_13 Q e H = wp P Z17_12 (blockQ 0 Q) e H := idE rfl
@[go_sem] def l_Z17_14 : List GOp := [⟨(some 41), .mv (.t 6), none⟩,
    ⟨(some 42), .bin .eql (.t 41) (.c (.int .i64 0)), none⟩]
def Z17_14 : IR := .ops l_Z17_14
@[go_sem] theorem w_Z17_14 : wp P Z17_14 Q e H = wpL P l_Z17_14 (Q .normal) e H := idE rfl
@[go_sem] def l_Z17_15 : List GOp := [⟨(some 43), .mv (.t 0), none⟩,
    ⟨(some 44), .mv (.t 0), none⟩,
    ⟨(some 45), .nilck (.t 44), none⟩,
    ⟨(some 46), .faddr (.t 45) 0, none⟩,
    ⟨(some 47), .faddr (.t 46) 0, none⟩,
    ⟨(some 48), .load (.t 47) 1 false, none⟩,
    ⟨(some 49), .mks [(.int .i64 0)] 8 (.t 48), none⟩,
    ⟨(some 50), .nilck (.t 43), none⟩,
    ⟨(some 51), .faddr (.t 50) 4, none⟩,
    ⟨none, .store (.t 51) 1 (.t 49), none⟩]
def Z17_15 : IR := .ops l_Z17_15
@[go_sem] theorem w_Z17_15 : wp P Z17_15 Q e H = wpL P l_Z17_15 (Q .normal) e H := idE rfl
@[go_sem] def l_Z17_16 : List GOp := [⟨(some 52), .mv (.t 0), none⟩,
    ⟨(some 53), .nilck (.t 52), none⟩,
    ⟨(some 54), .faddr (.t 53) 4, none⟩,
    ⟨(some 55), .load (.t 54) 1 false, none⟩,
    ⟨(some 56), .len (.t 55), none⟩,
    ⟨(some 57), .mv (.c (.int .i64 0)), none⟩]
def Z17_16 : IR := .ops l_Z17_16
@[go_sem] theorem w_Z17_16 : wp P Z17_16 Q e H = wpL P l_Z17_16 (Q .normal) e H := idE rfl
@[go_sem] def l_Z17_17 : List GOp := [⟨(some 58), .bin .lss (.t 57) (.t 56), none⟩]
def Z17_17 : IR := .ops l_Z17_17
@[go_sem] theorem w_Z17_17 : wp P Z17_17 Q e H = wpL P l_Z17_17 (Q .normal) e H := idE rfl
def Z17_18 : IR := .cond (.t 58) .skip (.exit 2)
@[go_sem] theorem w_Z17_18 : wp P Z17_18 Q e H = condW P ((.t 58) : X) .skip (.exit 2) Q e H := idE rfl
@[go_sem] def l_Z17_19 : List GOp := [⟨(some 59), .mv (.t 57), none⟩,
    ⟨(some 8), .mv (.t 59), none⟩]
def Z17_19 : IR := .ops l_Z17_19
@[go_sem] theorem w_Z17_19 : wp P Z17_19 Q e H = wpL P l_Z17_19 (Q .normal) e H := idE rfl
def l_Z17_20 : List GOp := [⟨(some 60), .mv (.t 0), none⟩,
    ⟨(some 61), .nilck (.t 60), none⟩,
    ⟨(some 62), .faddr (.t 61) 4, none⟩,
    ⟨(some 63), .load (.t 62) 1 false, none⟩,
    ⟨(some 64), .mv (.t 8), none⟩,
    ⟨(some 65), .mv (.t 5), none⟩,
    ⟨(some 66), .mv (.t 8), none⟩,
    ⟨(some 67), .bin .add (.t 66) (.c (.int .i64 1)), none⟩,
    ⟨(some 68), .iaddr (.t 65) (.t 67) 1, none⟩,
    ⟨(some 69), .load (.t 68) 1 false, none⟩,
    ⟨(some 70), .bin .gtr (.t 69) (.c (.int .i64 0)), none⟩,
    ⟨(some 71), .call (n_Z10) [(.t 70)], none⟩,
    ⟨(some 72), .iaddr (.t 63) (.t 64) 1, none⟩,
    ⟨none, .store (.t 72) 1 (.t 71), none⟩]
@[go_sem] theorem g_Z17_20_0 : gAt l_Z17_20 0 = ⟨(some 60), .mv (.t 0), none⟩ := idE rfl
@[go_sem] theorem g_Z17_20_1 : gAt l_Z17_20 1 = ⟨(some 61), .nilck (.t 60), none⟩ := idE rfl
@[go_sem] theorem g_Z17_20_2 : gAt l_Z17_20 2 = ⟨(some 62), .faddr (.t 61) 4, none⟩ := idE rfl
@[go_sem] theorem g_Z17_20_3 : gAt l_Z17_20 3 = ⟨(some 63), .load (.t 62) 1 false, none⟩ := idE rfl
@[go_sem] theorem g_Z17_20_4 : gAt l_Z17_20 4 = ⟨(some 64), .mv (.t 8), none⟩ := idE rfl
@[go_sem] theorem g_Z17_20_5 : gAt l_Z17_20 5 = ⟨(some 65), .mv (.t 5), none⟩ := idE rfl
@[go_sem] theorem g_Z17_20_6 : gAt l_Z17_20 6 = ⟨(some 66), .mv (.t 8), none⟩ := idE rfl
@[go_sem] theorem g_Z17_20_7 : gAt l_Z17_20 7 = ⟨(some 67), .bin .add (.t 66) (.c (.int .i64 1)), none⟩ := idE rfl
@[go_sem] theorem g_Z17_20_8 : gAt l_Z17_20 8 = ⟨(some 68), .iaddr (.t 65) (.t 67) 1, none⟩ := idE rfl
@[go_sem] theorem g_Z17_20_9 : gAt l_Z17_20 9 = ⟨(some 69), .load (.t 68) 1 false, none⟩ := idE rfl
@[go_sem] theorem g_Z17_20_10 : gAt l_Z17_20 10 = ⟨(some 70), .bin .gtr (.t 69) (.c (.int .i64 0)), none⟩ := idE rfl
@[go_sem] theorem g_Z17_20_11 : gAt l_Z17_20 11 = ⟨(some 71), .call (n_Z10) [(.t 70)], none⟩ := idE rfl
@[go_sem] theorem g_Z17_20_12 : gAt l_Z17_20 12 = ⟨(some 72), .iaddr (.t 63) (.t 64) 1, none⟩ := idE rfl
@[go_sem] theorem g_Z17_20_13 : gAt l_Z17_20 13 = ⟨none, .store (.t 72) 1 (.t 71), none⟩ := idE rfl
def Z17_20 : IR := .dops l_Z17_20 [(0, []), (1, []), (2, []), (3, []), (4, []), (5, []), (6, []), (7, []), (8, []), (9, []), (10, []), (11, [3]), (12, []), (13, [])]
@[go_sem] theorem w_Z17_20 : wp P Z17_20 Q e H = wpD P l_Z17_20 [(0, []), (1, []), (2, []), (3, []), (4, []), (5, []), (6, []), (7, []), (8, []), (9, []), (10, []), (11, [3]), (12, []), (13, [])] (Q .normal) e H := idE rfl
def Z17_21 : IR := .block 3 (.seq Z17_19 Z17_20)
@[go_sem] theorem w_Z17_21 : wp P Z17_21 Q e H = wp P (.seq Z17_19 Z17_20) (blockQ 3 Q) e H := idE rfl
@[go_sem] def l_Z17_22 : List GOp := [⟨(some 73), .bin .add (.t 57) (.c (.int .i64 1)), none⟩,
    ⟨(some 57), .mv (.t 73), none⟩]
def Z17_22 : IR := .ops l_Z17_22
@[go_sem] theorem w_Z17_22 : wp P Z17_22 Q e H = wpL P l_Z17_22 (Q .normal) e H := idE rfl
def Z17_23 : IR := .loop (.seq Z17_17 (.seq Z17_18 (.seq Z17_21 Z17_22)))
def Z17_24 : IR := .block 2 Z17_23
@[go_sem] theorem w_Z17_24 : wp P Z17_24 Q e H = wp P Z17_23 (blockQ 2 Q) e H := idE rfl
@[go_sem] def l_Z17_25 : List GOp := [⟨(some 4), .mv (.c (.bool true)), none⟩]
def Z17_25 : IR := .ops l_Z17_25
@[go_sem] theorem w_Z17_25 : wp P Z17_25 Q e H = wpL P l_Z17_25 (Q .normal) e H := idE rfl
def Z17_26 : IR := .cond (.t 42) (.seq Z17_15 (.seq (.seq Z17_16 Z17_24) (.seq Z17_25 .ret))) .skip
@[go_sem] theorem w_Z17_26 : wp P Z17_26 Q e H = condW P ((.t 42) : X) (.seq Z17_15 (.seq (.seq Z17_16 Z17_24) (.seq Z17_25 .ret))) .skip Q e H := idE rfl
@[go_sem] def l_Z17_27 : List GOp := [⟨(some 74), .mv (.t 0), none⟩,
    ⟨(some 75), .nilck (.t 74), none⟩,
    ⟨(some 76), .faddr (.t 75) 3, none⟩,
    ⟨(some 77), .load (.t 76) 1 false, none⟩,
    ⟨(some 78), .bin .add (.t 77) (.c (.int .i64 1)), none⟩,
    ⟨(some 79), .nilck (.t 74), none⟩,
    ⟨(some 80), .faddr (.t 79) 3, none⟩,
    ⟨none, .store (.t 80) 1 (.t 78), none⟩]
def Z17_27 : IR := .ops l_Z17_27
@[go_sem] theorem w_Z17_27 : wp P Z17_27 Q e H = wpL P l_Z17_27 (Q .normal) e H := idE rfl
@[go_sem] def l_Z17_28 : List GOp := [⟨(some 81), .mv (.t 0), none⟩,
    ⟨(some 82), .mv (.t 1), none⟩,
    ⟨(some 83), .call (n_Z29) [(.t 82)], none⟩,
    ⟨(some 84), .mv (.t 6), none⟩,
    ⟨(some 85), .un .neg (.t 84), none⟩,
    ⟨(some 86), .bslc 1 1 [(.int .i64 0)] [(0, (.t 85))], none⟩,
    ⟨(some 87), .app 1 8 (.t 83) (.t 86), none⟩,
    ⟨(some 88), .call (n_Z17) [(.t 81), (.t 87)], none⟩,
    ⟨(some 89), .mv (.t 88), none⟩,
    ⟨(some 90), .mv (.t 0), (some (89, false))⟩,
    ⟨(some 91), .mv (.t 1), (some (89, false))⟩,
    ⟨(some 92), .call (n_Z29) [(.t 91)], (some (89, false))⟩,
    ⟨(some 93), .mv (.t 6), (some (89, false))⟩,
    ⟨(some 94), .bslo 1 1 [(.int .i64 0)] [(0, (.t 93))], (some (89, false))⟩,
    ⟨(some 95), .app 1 8 (.t 92) (.t 94), (some (89, false))⟩,
    ⟨(some 96), .call (n_Z17) [(.t 90), (.t 95)], (some (89, false))⟩,
    ⟨(some 97), .pick (.t 89) (.c (.bool true)) (.t 96), none⟩]
def Z17_28 : IR := .ops l_Z17_28
@[go_sem] theorem w_Z17_28 : wp P Z17_28 Q e H = wpL P l_Z17_28 (Q .normal) e H := idE rfl
@[go_sem] def l_Z17_29 : List GOp := [⟨(some 4), .mv (.c (.bool true)), none⟩]
def Z17_29 : IR := .ops l_Z17_29
@[go_sem] theorem w_Z17_29 : wp P Z17_29 Q e H = wpL P l_Z17_29 (Q .normal) e H := idE rfl
def Z17_30 : IR := .cond (.t 97) (.seq Z17_29 .ret) .skip
@[go_sem] theorem w_Z17_30 : wp P Z17_30 Q e H = condW P ((.t 97) : X) (.seq Z17_29 .ret) .skip Q e H := idE rfl
def Z17_31 : IR := .cond (.t 25) (.seq (.seq Z17_4 Z17_13) (.seq (.seq Z17_14 Z17_26) (.seq Z17_27 (.seq Z17_28 Z17_30)))) .skip
@[go_sem] theorem w_Z17_31 : wp P Z17_31 Q e H = condW P ((.t 25) : X) (.seq (.seq Z17_4 Z17_13) (.seq (.seq Z17_14 Z17_26) (.seq Z17_27 (.seq Z17_28 Z17_30)))) .skip Q e H := idE rfl
@[go_sem] def l_Z17_32 : List GOp := [⟨(some 98), .mv (.t 0), none⟩,
    ⟨(some 99), .nilck (.t 98), none⟩,
    ⟨(some 100), .faddr (.t 99) 2, none⟩,
    ⟨(some 101), .load (.t 100) 1 false, none⟩,
    ⟨(some 102), .len (.t 101), none⟩,
    ⟨(some 103), .bin .eql (.t 102) (.c (.int .i64 600)), none⟩]
def Z17_32 : IR := .ops l_Z17_32
@[go_sem] theorem w_Z17_32 : wp P Z17_32 Q e H = wpL P l_Z17_32 (Q .normal) e H := idE rfl
@[go_sem] def l_Z17_33 : List GOp := [⟨(some 104), .mv (.t 0), none⟩,
    ⟨(some 105), .nilck (.t 104), none⟩,
    ⟨(some 106), .faddr (.t 105) 5, none⟩,
    ⟨none, .store (.t 106) 1 (.c (.bool true)), none⟩]
def Z17_33 : IR := .ops l_Z17_33
@[go_sem] theorem w_Z17_33 : wp P Z17_33 Q e H = wpL P l_Z17_33 (Q .normal) e H := idE rfl
@[go_sem] def l_Z17_34 : List GOp := [⟨(some 4), .mv (.c (.bool true)), none⟩]
def Z17_34 : IR := .ops l_Z17_34
@[go_sem] theorem w_Z17_34 : wp P Z17_34 Q e H = wpL P l_Z17_34 (Q .normal) e H := idE rfl
def Z17_35 : IR := .cond (.t 103) (.seq Z17_33 (.seq Z17_34 .ret)) .skip
@[go_sem] theorem w_Z17_35 : wp P Z17_35 Q e H = condW P ((.t 103) : X) (.seq Z17_33 (.seq Z17_34 .ret)) .skip Q e H := idE rfl
@[go_sem] def l_Z17_36 : List GOp := [⟨(some 9), .mv (.c (.sl none 0 0 true 0)), none⟩]
def Z17_36 : IR := .ops l_Z17_36
@[go_sem] theorem w_Z17_36 : wp P Z17_36 Q e H = wpL P l_Z17_36 (Q .normal) e H := idE rfl
@[go_sem] def l_Z17_37 : List GOp := [⟨(some 107), .mv (.t 1), none⟩,
    ⟨(some 108), .len (.t 107), none⟩,
    ⟨(some 109), .mv (.c (.int .i64 0)), none⟩]
def Z17_37 : IR := .ops l_Z17_37
@[go_sem] theorem w_Z17_37 : wp P Z17_37 Q e H = wpL P l_Z17_37 (Q .normal) e H := idE rfl
@[go_sem] def l_Z17_38 : List GOp := [⟨(some 110), .bin .lss (.t 109) (.t 108), none⟩]
def Z17_38 : IR := .ops l_Z17_38
@[go_sem] theorem w_Z17_38 : wp P Z17_38 Q e H = wpL P l_Z17_38 (Q .normal) e H := idE rfl
def Z17_39 : IR := .cond (.t 110) .skip (.exit 4)
@[go_sem] theorem w_Z17_39 : wp P Z17_39 Q e H = condW P ((.t 110) : X) .skip (.exit 4) Q e H := idE rfl
@[go_sem] def l_Z17_40 : List GOp := [⟨(some 111), .iaddr (.t 107) (.t 109) 1, none⟩,
    ⟨(some 112), .load (.t 111) 1 false, none⟩,
    ⟨(some 11), .mv (.t 112), none⟩]
def Z17_40 : IR := .ops l_Z17_40
@[go_sem] theorem w_Z17_40 : wp P Z17_40 Q e H = wpL P l_Z17_40 (Q .normal) e H := idE rfl
@[go_sem] def l_Z17_41 : List GOp := [⟨(some 113), .mv (.t 9), none⟩,
    ⟨(some 114), .mv (.t 11), none⟩,
    ⟨(some 115), .un .neg (.t 114), none⟩,
    ⟨(some 116), .bslc 1 1 [(.int .i64 0)] [(0, (.t 115))], none⟩,
    ⟨(some 117), .app 1 8 (.t 113) (.t 116), none⟩,
    ⟨(some 9), .mv (.t 117), none⟩]
def Z17_41 : IR := .ops l_Z17_41
@[go_sem] theorem w_Z17_41 : wp P Z17_41 Q e H = wpL P l_Z17_41 (Q .normal) e H := idE rfl
def Z17_42 : IR := .block 5 (.seq Z17_40 Z17_41)
@[go_sem] theorem w_Z17_42 : wp P Z17_42 Q e H = wp P (.seq Z17_40 Z17_41) (blockQ 5 Q) e H := idE rfl
@[go_sem] def l_Z17_43 : List GOp := [⟨(some 118), .bin .add (.t 109) (.c (.int .i64 1)), none⟩,
    ⟨(some 109), .mv (.t 118), none⟩]
def Z17_43 : IR := .ops l_Z17_43
@[go_sem] theorem w_Z17_43 : wp P Z17_43 Q e H = wpL P l_Z17_43 (Q .normal) e H := idE rfl
def Z17_44 : IR := .loop (.seq Z17_38 (.seq Z17_39 (.seq Z17_42 Z17_43)))
def Z17_45 : IR := .block 4 Z17_44
@[go_sem] theorem w_Z17_45 : wp P Z17_45 Q e H = wp P Z17_44 (blockQ 4 Q) e H := idE rfl
@[go_sem] def l_Z17_46 : List GOp := [⟨(some 120), .mv (.t 9), none⟩,
    ⟨(some 121), .call (n_Z12) [(.t 120)], none⟩,
    ⟨(some 119), .mv (.t 121), none⟩,
    ⟨(some 122), .ext (.t 119) 0, none⟩,
    ⟨(some 123), .ext (.t 119) 1, none⟩,
    ⟨(some 9), .mv (.t 122), none⟩]
def Z17_46 : IR := .ops l_Z17_46
@[go_sem] theorem w_Z17_46 : wp P Z17_46 Q e H = wpL P l_Z17_46 (Q .normal) e H := idE rfl
@[go_sem] def l_Z17_47 : List GOp := [⟨(some 124), .mv (.t 0), none⟩,
    ⟨(some 125), .mv (.t 0), none⟩,
    ⟨(some 126), .nilck (.t 125), none⟩,
    ⟨(some 127), .faddr (.t 126) 2, none⟩,
    ⟨(some 128), .load (.t 127) 1 false, none⟩,
    ⟨(some 129), .mv (.t 9), none⟩,
    ⟨(some 130), .bslc 1 1 [(.sl none 0 0 true 0)] [(0, (.t 129))], none⟩,
    ⟨(some 131), .app 1 24 (.t 128) (.t 130), none⟩,
    ⟨(some 132), .nilck (.t 124), none⟩,
    ⟨(some 133), .faddr (.t 132) 2, none⟩,
    ⟨none, .store (.t 133) 1 (.t 131), none⟩]
def Z17_47 : IR := .ops l_Z17_47
@[go_sem] theorem w_Z17_47 : wp P Z17_47 Q e H = wpL P l_Z17_47 (Q .normal) e H := idE rfl
@[go_sem] def l_Z17_48 : List GOp := [⟨(some 4), .mv (.c (.bool false)), none⟩]
def Z17_48 : IR := .ops l_Z17_48
@[go_sem] theorem w_Z17_48 : wp P Z17_48 Q e H = wpL P l_Z17_48 (Q .normal) e H := idE rfl
def F_Z17 : IFn := ⟨2, 134, [.t 4], (.seq Z17_0 (.seq Z17_1 (.seq Z17_2 (.seq (.seq Z17_3 Z17_31) (.seq (.seq Z17_32 Z17_35) (.seq Z17_36 (.seq (.seq Z17_37 Z17_45) (.seq Z17_46 (.seq Z17_47 (.seq Z17_48 .ret))))))))))⟩
theorem c_Z17 : compFn Try.prog [(0, [], []), (1, [], []), (2, [], []), (3, [], []), (4, [], []), (5, [], []), (7, [], []), (8, [], []), (6, [], []), (9, [], []), (10, [], []), (11, [], []), (12, [], []), (13, [], []), (14, [(0, []), (1, []), (2, []), (3, []), (4, []), (5, []), (6, []), (7, []), (8, []), (9, []), (10, []), (11, [3]), (12, []), (13, [])], []), (15, [], []), (16, [], []), (17, [], []), (18, [], []), (19, [], []), (20, [], []), (21, [], []), (22, [], []), (23, [], []), (24, [], []), (25, [], []), (26, [], []), (27, [], []), (28, [], []), (29, [], []), (30, [], []), (31, [], [])] Try.f98 = some F_Z17 := by kernel_rfl
theorem a_Z17 (hl : args.length = 2) (h : wp Try.prog (.seq Z17_0 (.seq Z17_1 (.seq Z17_2 (.seq (.seq Z17_3 Z17_31) (.seq (.seq Z17_32 Z17_35) (.seq Z17_36 (.seq (.seq Z17_37 Z17_45) (.seq Z17_46 (.seq Z17_47 (.seq Z17_48 .ret)))))))))) (postQ [.t 4] R) (env0 args) H) : ACall Try.prog n_Z17 args H R :=
  acall_of_wp mixed Try.func98 c_Z17 (by kernel_rfl) hl h
@[go_sem] def l_Z18_0 : List GOp := [⟨(some 1), .box (.t 0), none⟩,
    ⟨(some 2), .mv (.c (.ptr none)), none⟩]
def Z18_0 : IR := .ops l_Z18_0
@[go_sem] theorem w_Z18_0 : wp P Z18_0 Q e H = wpL P l_Z18_0 (Q .normal) e H := idE rfl
@[go_sem] def l_Z18_1 : List GOp := [⟨(some 4), .load (.t 1) 2 true, none⟩,
    ⟨(some 5), .bld [(.int .i64 0), (.sl none 0 0 true 0), (.sl none 0 0 true 0), (.int .i64 0), (.sl none 0 0 true 0), (.bool false)] [(0, 2, (.t 4))], none⟩,
    ⟨(some 6), .box (.t 5), none⟩,
    ⟨(some 3), .mv (.t 6), none⟩]
def Z18_1 : IR := .ops l_Z18_1
@[go_sem] theorem w_Z18_1 : wp P Z18_1 Q e H = wpL P l_Z18_1 (Q .normal) e H := idE rfl
@[go_sem] def l_Z18_2 : List GOp := [⟨(some 7), .mv (.t 3), none⟩,
    ⟨(some 8), .call (n_Z17) [(.t 7), (.c (.sl none 0 0 true 0))], none⟩]
def Z18_2 : IR := .ops l_Z18_2
@[go_sem] theorem w_Z18_2 : wp P Z18_2 Q e H = wpL P l_Z18_2 (Q .normal) e H := idE rfl
@[go_sem] def l_Z18_3 : List GOp := [⟨(some 9), .mv (.t 3), none⟩,
    ⟨(some 2), .mv (.t 9), none⟩]
def Z18_3 : IR := .ops l_Z18_3
@[go_sem] theorem w_Z18_3 : wp P Z18_3 Q e H = wpL P l_Z18_3 (Q .normal) e H := idE rfl
def F_Z18 : IFn := ⟨1, 10, [.t 2], (.seq Z18_0 (.seq Z18_1 (.seq Z18_2 (.seq Z18_3 .ret))))⟩
theorem c_Z18 : compFn Try.prog [(0, [], []), (1, [], []), (2, [], []), (3, [], [])] Try.f64 = some F_Z18 := by kernel_rfl
theorem a_Z18 (hl : args.length = 1) (h : wp Try.prog (.seq Z18_0 (.seq Z18_1 (.seq Z18_2 (.seq Z18_3 .ret)))) (postQ [.t 2] R) (env0 args) H) : ACall Try.prog n_Z18 args H R :=
  acall_of_wp mixed Try.func64 c_Z18 (by kernel_rfl) hl h
@[go_sem] def l_Z7_0 : List GOp := [⟨(some 1), .box (.t 0), none⟩,
    ⟨(some 2), .mv (.c (.sl none 0 0 true 0)), none⟩,
    ⟨(some 3), .mv (.c (.bool false)), none⟩]
def Z7_0 : IR := .ops l_Z7_0
@[go_sem] theorem w_Z7_0 : wp P Z7_0 Q e H = wpL P l_Z7_0 (Q .normal) e H := idE rfl
@[go_sem] def l_Z7_1 : List GOp := [⟨(some 5), .load (.t 1) 2 true, none⟩,
    ⟨(some 6), .call (n_Z4) [(.t 5)], none⟩,
    ⟨(some 7), .un .not (.t 6), none⟩]
def Z7_1 : IR := .ops l_Z7_1
@[go_sem] theorem w_Z7_1 : wp P Z7_1 Q e H = wpL P l_Z7_1 (Q .normal) e H := idE rfl
@[go_sem] def l_Z7_2 : List GOp := [⟨(some 2), .mv (.c (.sl none 0 0 true 0)), none⟩,
    ⟨(some 3), .mv (.c (.bool false)), none⟩]
def Z7_2 : IR := .ops l_Z7_2
@[go_sem] theorem w_Z7_2 : wp P Z7_2 Q e H = wpL P l_Z7_2 (Q .normal) e H := idE rfl
def Z7_3 : IR := .cond (.t 7) (.seq Z7_2 .ret) .skip
@[go_sem] theorem w_Z7_3 : wp P Z7_3 Q e H = condW P ((.t 7) : X) (.seq Z7_2 .ret) .skip Q e H := idE rfl
@[go_sem] def l_Z7_4 : List GOp := [⟨(some 8), .load (.t 1) 2 true, none⟩,
    ⟨(some 9), .call (n_Z18) [(.t 8)], none⟩,
    ⟨(some 4), .mv (.t 9), none⟩]
def Z7_4 : IR := .ops l_Z7_4
@[go_sem] theorem w_Z7_4 : wp P Z7_4 Q e H = wpL P l_Z7_4 (Q .normal) e H := idE rfl
@[go_sem] def l_Z7_5 : List GOp := [⟨(some 10), .mv (.t 4), none⟩,
    ⟨(some 11), .nilck (.t 10), none⟩,
    ⟨(some 12), .faddr (.t 11) 5, none⟩,
    ⟨(some 13), .load (.t 12) 1 false, none⟩,
    ⟨(some 14), .mv (.t 13), none⟩,
    ⟨(some 15), .mv (.t 4), (some (14, false))⟩,
    ⟨(some 16), .nilck (.t 15), (some (14, false))⟩,
    ⟨(some 17), .faddr (.t 16) 4, (some (14, false))⟩,
    ⟨(some 18), .load (.t 17) 1 false, (some (14, false))⟩,
    ⟨(some 19), .eqn false .sl (.t 18), (some (14, false))⟩,
    ⟨(some 20), .pick (.t 14) (.c (.bool true)) (.t 19), none⟩]
def Z7_5 : IR := .ops l_Z7_5
@[go_sem] theorem w_Z7_5 : wp P Z7_5 Q e H = wpL P l_Z7_5 (Q .normal) e H := idE rfl
@[go_sem] def l_Z7_6 : List GOp := [⟨(some 2), .mv (.c (.sl none 0 0 true 0)), none⟩,
    ⟨(some 3), .mv (.c (.bool false)), none⟩]
def Z7_6 : IR := .ops l_Z7_6
@[go_sem] theorem w_Z7_6 : wp P Z7_6 Q e H = wpL P l_Z7_6 (Q .normal) e H := idE rfl
def Z7_7 : IR := .cond (.t 20) (.seq Z7_6 .ret) .skip
@[go_sem] theorem w_Z7_7 : wp P Z7_7 Q e H = condW P ((.t 20) : X) (.seq Z7_6 .ret) .skip Q e H := idE rfl
@[go_sem] def l_Z7_8 : List GOp := [⟨(some 21), .mv (.t 4), none⟩,
    ⟨(some 22), .nilck (.t 21), none⟩,
    ⟨(some 23), .faddr (.t 22) 4, none⟩,
    ⟨(some 24), .load (.t 23) 1 false, none⟩,
    ⟨(some 25), .call (n_Z14) [(.t 24)], none⟩,
    ⟨(some 2), .mv (.t 25), none⟩,
    ⟨(some 3), .mv (.c (.bool true)), none⟩]
def Z7_8 : IR := .ops l_Z7_8
@[go_sem] theorem w_Z7_8 : wp P Z7_8 Q e H = wpL P l_Z7_8 (Q .normal) e H := idE rfl
def F_Z7 : IFn := ⟨1, 26, [.t 2, .t 3], (.seq Z7_0 (.seq (.seq Z7_1 Z7_3) (.seq Z7_4 (.seq (.seq Z7_5 Z7_7) (.seq Z7_8 .ret)))))⟩
theorem c_Z7 : compFn Try.prog [(0, [], []), (1, [], []), (2, [], []), (3, [], []), (4, [], []), (5, [], []), (6, [], [])] Try.f31 = some F_Z7 := by kernel_rfl
theorem a_Z7 (hl : args.length = 1) (h : wp Try.prog (.seq Z7_0 (.seq (.seq Z7_1 Z7_3) (.seq Z7_4 (.seq (.seq Z7_5 Z7_7) (.seq Z7_8 .ret))))) (postQ [.t 2, .t 3] R) (env0 args) H) : ACall Try.prog n_Z7 args H R :=
  acall_of_wp mixed Try.func31 c_Z7 (by kernel_rfl) hl h
@[go_sem] def l_Z72_0 : List GOp := [⟨(some 6), .mv (.c (.bool false)), none⟩]
def Z72_0 : IR := .ops l_Z72_0
@[go_sem] theorem w_Z72_0 : wp P Z72_0 Q e H = wpL P l_Z72_0 (Q .normal) e H := idE rfl
@[go_sem] def l_Z72_1 : List GOp := [⟨(some 7), .mv (.t 0), none⟩,
    ⟨(some 8), .mv (.t 1), none⟩,
    ⟨(some 9), .bin .geq (.t 7) (.t 8), none⟩,
    ⟨(some 10), .mv (.t 9), none⟩,
    ⟨(some 11), .mv (.t 0), (some (10, true))⟩,
    ⟨(some 12), .mv (.t 2), (some (10, true))⟩,
    ⟨(some 13), .bin .leq (.t 11) (.t 12), (some (10, true))⟩,
    ⟨(some 14), .pick (.t 10) (.t 13) (.c (.bool false)), none⟩,
    ⟨(some 6), .mv (.t 14), none⟩]
def Z72_1 : IR := .ops l_Z72_1
@[go_sem] theorem w_Z72_1 : wp P Z72_1 Q e H = wpL P l_Z72_1 (Q .normal) e H := idE rfl
def F_Z72 : IFn := ⟨3, 15, [.t 6], (.seq Z72_0 (.seq Z72_1 .ret))⟩
theorem c_Z72 : compFn Try.prog [(0, [], []), (1, [], [])] Try.f55 = some F_Z72 := by kernel_rfl
theorem a_Z72 (hl : args.length = 3) (h : wp Try.prog (.seq Z72_0 (.seq Z72_1 .ret)) (postQ [.t 6] R) (env0 args) H) : ACall Try.prog n_Z72 args H R :=
  acall_of_wp mixed Try.func55 c_Z72 (by kernel_rfl) hl h
@[go_sem] def l_Z63_0 : List GOp := [⟨(some 4), .mv (.c (.bool false)), none⟩]
def Z63_0 : IR := .ops l_Z63_0
@[go_sem] theorem w_Z63_0 : wp P Z63_0 Q e H = wpL P l_Z63_0 (Q .normal) e H := idE rfl
@[go_sem] def l_Z63_1 : List GOp := [⟨(some 5), .mv (.t 0), none⟩,
    ⟨(some 6), .bin .neq (.t 5) (.c (.int .i64 0)), none⟩,
    ⟨(some 7), .mv (.t 6), none⟩,
    ⟨(some 8), .mv (.t 0), (some (7, true))⟩,
    ⟨(some 9), .mv (.t 1), (some (7, true))⟩,
    ⟨(some 10), .un .neg (.t 9), (some (7, true))⟩,
    ⟨(some 11), .mv (.t 1), (some (7, true))⟩,
    ⟨(some 12), .call (n_Z72) [(.t 8), (.t 10), (.t 11)], (some (7, true))⟩,
    ⟨(some 13), .pick (.t 7) (.t 12) (.c (.bool false)), none⟩,
    ⟨(some 4), .mv (.t 13), none⟩]
def Z63_1 : IR := .ops l_Z63_1
@[go_sem] theorem w_Z63_1 : wp P Z63_1 Q e H = wpL P l_Z63_1 (Q .normal) e H := idE rfl
def F_Z63 : IFn := ⟨2, 14, [.t 4], (.seq Z63_0 (.seq Z63_1 .ret))⟩
theorem c_Z63 : compFn Try.prog [(0, [], []), (1, [], [])] Try.f105 = some F_Z63 := by kernel_rfl
theorem a_Z63 (hl : args.length = 2) (h : wp Try.prog (.seq Z63_0 (.seq Z63_1 .ret)) (postQ [.t 4] R) (env0 args) H) : ACall Try.prog n_Z63 args H R :=
  acall_of_wp mixed Try.func105 c_Z63 (by kernel_rfl) hl h
@[go_sem] def l_Z52_0 : List GOp := [⟨(some 4), .mv (.c (.bool false)), none⟩]
def Z52_0 : IR := .ops l_Z52_0
@[go_sem] theorem w_Z52_0 : wp P Z52_0 Q e H = wpL P l_Z52_0 (Q .normal) e H := idE rfl
@[go_sem] def l_Z52_1 : List GOp := [⟨(some 5), .mv (.c (.int .i64 0)), none⟩]
def Z52_1 : IR := .ops l_Z52_1
@[go_sem] theorem w_Z52_1 : wp P Z52_1 Q e H = wpL P l_Z52_1 (Q .normal) e H := idE rfl
@[go_sem] def l_Z52_2 : List GOp := [⟨(some 6), .mv (.t 5), none⟩,
    ⟨(some 7), .mv (.t 0), none⟩,
    ⟨(some 8), .len (.t 7), none⟩,
    ⟨(some 9), .bin .lss (.t 6) (.t 8), none⟩]
def Z52_2 : IR := .ops l_Z52_2
@[go_sem] theorem w_Z52_2 : wp P Z52_2 Q e H = wpL P l_Z52_2 (Q .normal) e H := idE rfl
def Z52_3 : IR := .cond (.t 9) .skip (.exit 0)
@[go_sem] theorem w_Z52_3 : wp P Z52_3 Q e H = condW P ((.t 9) : X) .skip (.exit 0) Q e H := idE rfl
def l_Z52_4 : List GOp := [⟨(some 12), .mv (.t 0), none⟩,
    ⟨(some 13), .mv (.t 5), none⟩,
    ⟨(some 14), .iaddr (.t 12) (.t 13) 1, none⟩,
    ⟨(some 15), .load (.t 14) 1 false, none⟩,
    ⟨(some 16), .mv (.t 1), none⟩,
    ⟨(some 17), .call (n_Z63) [(.t 15), (.t 16)], none⟩,
    ⟨(some 18), .un .not (.t 17), none⟩,
    ⟨(some 19), .mv (.t 18), none⟩,
    ⟨(some 20), .mv (.t 5), (some (19, false))⟩,
    ⟨(some 21), .bin .gtr (.t 20) (.c (.int .i64 0)), (some (19, false))⟩,
    ⟨(some 22), .mv (.t 21), (some (19, false))⟩,
    ⟨(some 23), .mv (.t 0), (some (22, true))⟩,
    ⟨(some 24), .mv (.t 5), (some (22, true))⟩,
    ⟨(some 25), .iaddr (.t 23) (.t 24) 1, (some (22, true))⟩,
    ⟨(some 26), .load (.t 25) 1 false, (some (22, true))⟩,
    ⟨(some 27), .call (n_Z57) [(.t 26)], (some (22, true))⟩,
    ⟨(some 28), .mv (.t 0), (some (22, true))⟩,
    ⟨(some 29), .mv (.t 5), (some (22, true))⟩,
    ⟨(some 30), .bin .sub (.t 29) (.c (.int .i64 1)), (some (22, true))⟩,
    ⟨(some 31), .iaddr (.t 28) (.t 30) 1, (some (22, true))⟩,
    ⟨(some 32), .load (.t 31) 1 false, (some (22, true))⟩,
    ⟨(some 33), .call (n_Z57) [(.t 32)], (some (22, true))⟩,
    ⟨(some 34), .bin .leq (.t 27) (.t 33), (some (22, true))⟩,
    ⟨(some 35), .pick (.t 22) (.t 34) (.c (.bool false)), (some (19, false))⟩,
    ⟨(some 36), .pick (.t 19) (.c (.bool true)) (.t 35), none⟩]
@[go_sem] theorem g_Z52_4_0 : gAt l_Z52_4 0 = ⟨(some 12), .mv (.t 0), none⟩ := idE rfl
@[go_sem] theorem g_Z52_4_1 : gAt l_Z52_4 1 = ⟨(some 13), .mv (.t 5), none⟩ := idE rfl
@[go_sem] theorem g_Z52_4_2 : gAt l_Z52_4 2 = ⟨(some 14), .iaddr (.t 12) (.t 13) 1, none⟩ := idE rfl
@[go_sem] theorem g_Z52_4_3 : gAt l_Z52_4 3 = ⟨(some 15), .load (.t 14) 1 false, none⟩ := idE rfl
@[go_sem] theorem g_Z52_4_4 : gAt l_Z52_4 4 = ⟨(some 16), .mv (.t 1), none⟩ := idE rfl
@[go_sem] theorem g_Z52_4_5 : gAt l_Z52_4 5 = ⟨(some 17), .call (n_Z63) [(.t 15), (.t 16)], none⟩ := idE rfl
@[go_sem] theorem g_Z52_4_6 : gAt l_Z52_4 6 = ⟨(some 18), .un .not (.t 17), none⟩ := idE rfl
@[go_sem] theorem g_Z52_4_7 : gAt l_Z52_4 7 = ⟨(some 19), .mv (.t 18), none⟩ := idE rfl
@[go_sem] theorem g_Z52_4_8 : gAt l_Z52_4 8 = ⟨(some 20), .mv (.t 5), (some (19, false))⟩ := idE rfl
@[go_sem] theorem g_Z52_4_9 : gAt l_Z52_4 9 = ⟨(some 21), .bin .gtr (.t 20) (.c (.int .i64 0)), (some (19, false))⟩ := idE rfl
@[go_sem] theorem g_Z52_4_10 : gAt l_Z52_4 10 = ⟨(some 22), .mv (.t 21), (some (19, false))⟩ := idE rfl
@[go_sem] theorem g_Z52_4_11 : gAt l_Z52_4 11 = ⟨(some 23), .mv (.t 0), (some (22, true))⟩ := idE rfl
@[go_sem] theorem g_Z52_4_12 : gAt l_Z52_4 12 = ⟨(some 24), .mv (.t 5), (some (22, true))⟩ := idE rfl
@[go_sem] theorem g_Z52_4_13 : gAt l_Z52_4 13 = ⟨(some 25), .iaddr (.t 23) (.t 24) 1, (some (22, true))⟩ := idE rfl
@[go_sem] theorem g_Z52_4_14 : gAt l_Z52_4 14 = ⟨(some 26), .load (.t 25) 1 false, (some (22, true))⟩ := idE rfl
@[go_sem] theorem g_Z52_4_15 : gAt l_Z52_4 15 = ⟨(some 27), .call (n_Z57) [(.t 26)], (some (22, true))⟩ := idE rfl
@[go_sem] theorem g_Z52_4_16 : gAt l_Z52_4 16 = ⟨(some 28), .mv (.t 0), (some (22, true))⟩ := idE rfl
@[go_sem] theorem g_Z52_4_17 : gAt l_Z52_4 17 = ⟨(some 29), .mv (.t 5), (some (22, true))⟩ := idE rfl
@[go_sem] theorem g_Z52_4_18 : gAt l_Z52_4 18 = ⟨(some 30), .bin .sub (.t 29) (.c (.int .i64 1)), (some (22, true))⟩ := idE rfl
@[go_sem] theorem g_Z52_4_19 : gAt l_Z52_4 19 = ⟨(some 31), .iaddr (.t 28) (.t 30) 1, (some (22, true))⟩ := idE rfl
@[go_sem] theorem g_Z52_4_20 : gAt l_Z52_4 20 = ⟨(some 32), .load (.t 31) 1 false, (some (22, true))⟩ := idE rfl
@[go_sem] theorem g_Z52_4_21 : gAt l_Z52_4 21 = ⟨(some 33), .call (n_Z57) [(.t 32)], (some (22, true))⟩ := idE rfl
@[go_sem] theorem g_Z52_4_22 : gAt l_Z52_4 22 = ⟨(some 34), .bin .leq (.t 27) (.t 33), (some (22, true))⟩ := idE rfl
@[go_sem] theorem g_Z52_4_23 : gAt l_Z52_4 23 = ⟨(some 35), .pick (.t 22) (.t 34) (.c (.bool false)), (some (19, false))⟩ := idE rfl
@[go_sem] theorem g_Z52_4_24 : gAt l_Z52_4 24 = ⟨(some 36), .pick (.t 19) (.c (.bool true)) (.t 35), none⟩ := idE rfl
def Z52_4 : IR := .dops l_Z52_4 [(0, []), (1, []), (2, []), (3, []), (4, []), (5, []), (6, []), (7, []), (8, []), (9, []), (10, []), (11, []), (12, []), (13, []), (14, []), (16, []), (17, []), (18, []), (19, []), (20, []), (15, [20]), (21, []), (22, []), (23, []), (24, [])]
@[go_sem] theorem w_Z52_4 : wp P Z52_4 Q e H = wpD P l_Z52_4 [(0, []), (1, []), (2, []), (3, []), (4, []), (5, []), (6, []), (7, []), (8, []), (9, []), (10, []), (11, []), (12, []), (13, []), (14, []), (16, []), (17, []), (18, []), (19, []), (20, []), (15, [20]), (21, []), (22, []), (23, []), (24, [])] (Q .normal) e H := idE rfl
@[go_sem] def l_Z52_5 : List GOp := [⟨(some 4), .mv (.c (.bool false)), none⟩]
def Z52_5 : IR := .ops l_Z52_5
@[go_sem] theorem w_Z52_5 : wp P Z52_5 Q e H = wpL P l_Z52_5 (Q .normal) e H := idE rfl
def Z52_6 : IR := .cond (.t 36) (.seq Z52_5 .ret) .skip
@[go_sem] theorem w_Z52_6 : wp P Z52_6 Q e H = condW P ((.t 36) : X) (.seq Z52_5 .ret) .skip Q e H := idE rfl
def Z52_7 : IR := .block 1 (.seq Z52_4 Z52_6)
@[go_sem] theorem w_Z52_7 : wp P Z52_7 Q e H = wp P (.seq Z52_4 Z52_6) (blockQ 1 Q) e H := idE rfl
@[go_sem] def l_Z52_8 : List GOp := [⟨(some 10), .mv (.t 5), none⟩,
    ⟨(some 11), .bin .add (.t 10) (.c (.int .i64 1)), none⟩,
    ⟨(some 5), .mv (.t 11), none⟩]
def Z52_8 : IR := .ops l_Z52_8
@[go_sem] theorem w_Z52_8 : wp P Z52_8 Q e H = wpL P l_Z52_8 (Q .normal) e H := idE rfl
def Z52_9 : IR := .loop (.seq (.seq Z52_2 Z52_3) (.seq Z52_7 Z52_8))
def Z52_10 : IR := .block 0 Z52_9
@[go_sem] theorem w_Z52_10 : wp P Z52_10 Q e H = wp P Z52_9 (blockQ 0 Q) e H := idE rfl
@[go_sem] def l_Z52_11 : List GOp := [⟨(some 37), .mv (.t 1), none⟩,
    ⟨(some 38), .call (n_Z72) [(.t 37), (.c (.int .i64 0)), (.c (.int .i64 700))], none⟩,
    ⟨(some 4), .mv (.t 38), none⟩]
def Z52_11 : IR := .ops l_Z52_11
@[go_sem] theorem w_Z52_11 : wp P Z52_11 Q e H = wpL P l_Z52_11 (Q .normal) e H := idE rfl
def F_Z52 : IFn := ⟨2, 39, [.t 4], (.seq Z52_0 (.seq (.seq Z52_1 Z52_10) (.seq Z52_11 .ret)))⟩
theorem c_Z52 : compFn Try.prog [(0, [], []), (1, [], []), (2, [], []), (4, [(0, []), (1, []), (2, []), (3, []), (4, []), (5, []), (6, []), (7, []), (8, []), (9, []), (10, []), (11, []), (12, []), (13, []), (14, []), (16, []), (17, []), (18, []), (19, []), (20, []), (15, [20]), (21, []), (22, []), (23, []), (24, [])], []), (5, [], []), (3, [], []), (6, [], [])] Try.f71 = some F_Z52 := by kernel_rfl
theorem a_Z52 (hl : args.length = 2) (h : wp Try.prog (.seq Z52_0 (.seq (.seq Z52_1 Z52_10) (.seq Z52_11 .ret))) (postQ [.t 4] R) (env0 args) H) : ACall Try.prog n_Z52 args H R :=
  acall_of_wp mixed Try.func71 c_Z52 (by kernel_rfl) hl h
@[go_sem] def l_Z53_0 : List GOp := [⟨(some 1), .box (.t 0), none⟩,
    ⟨(some 2), .mv (.c (.bool false)), none⟩]
def Z53_0 : IR := .ops l_Z53_0
@[go_sem] theorem w_Z53_0 : wp P Z53_0 Q e H = wpL P l_Z53_0 (Q .normal) e H := idE rfl
@[go_sem] def l_Z53_1 : List GOp := [⟨(some 4), .faddr (.t 1) 0, none⟩,
    ⟨(some 5), .load (.t 4) 1 false, none⟩,
    ⟨(some 6), .call (n_Z72) [(.t 5), (.c (.int .i64 0)), (.c (.int .i64 700))], none⟩,
    ⟨(some 7), .un .not (.t 6), none⟩,
    ⟨(some 8), .mv (.t 7), none⟩,
    ⟨(some 9), .faddr (.t 1) 1, (some (8, false))⟩,
    ⟨(some 10), .load (.t 9) 1 false, (some (8, false))⟩,
    ⟨(some 11), .len (.t 10), (some (8, false))⟩,
    ⟨(some 12), .bin .gtr (.t 11) (.c (.int .i64 2500)), (some (8, false))⟩,
    ⟨(some 13), .pick (.t 8) (.c (.bool true)) (.t 12), none⟩]
def Z53_1 : IR := .ops l_Z53_1
@[go_sem] theorem w_Z53_1 : wp P Z53_1 Q e H = wpL P l_Z53_1 (Q .normal) e H := idE rfl
@[go_sem] def l_Z53_2 : List GOp := [⟨(some 2), .mv (.c (.bool false)), none⟩]
def Z53_2 : IR := .ops l_Z53_2
@[go_sem] theorem w_Z53_2 : wp P Z53_2 Q e H = wpL P l_Z53_2 (Q .normal) e H := idE rfl
def Z53_3 : IR := .cond (.t 13) (.seq Z53_2 .ret) .skip
@[go_sem] theorem w_Z53_3 : wp P Z53_3 Q e H = condW P ((.t 13) : X) (.seq Z53_2 .ret) .skip Q e H := idE rfl
@[go_sem] def l_Z53_4 : List GOp := [⟨(some 3), .mv (.c (.int .i64 0)), none⟩]
def Z53_4 : IR := .ops l_Z53_4
@[go_sem] theorem w_Z53_4 : wp P Z53_4 Q e H = wpL P l_Z53_4 (Q .normal) e H := idE rfl
@[go_sem] def l_Z53_5 : List GOp := [⟨(some 14), .mv (.t 3), none⟩,
    ⟨(some 15), .faddr (.t 1) 1, none⟩,
    ⟨(some 16), .load (.t 15) 1 false, none⟩,
    ⟨(some 17), .len (.t 16), none⟩,
    ⟨(some 18), .bin .lss (.t 14) (.t 17), none⟩]
def Z53_5 : IR := .ops l_Z53_5
@[go_sem] theorem w_Z53_5 : wp P Z53_5 Q e H = wpL P l_Z53_5 (Q .normal) e H := idE rfl
def Z53_6 : IR := .cond (.t 18) .skip (.exit 0)
@[go_sem] theorem w_Z53_6 : wp P Z53_6 Q e H = condW P ((.t 18) : X) .skip (.exit 0) Q e H := idE rfl
def l_Z53_7 : List GOp := [⟨(some 21), .faddr (.t 1) 1, none⟩,
    ⟨(some 22), .load (.t 21) 1 false, none⟩,
    ⟨(some 23), .mv (.t 3), none⟩,
    ⟨(some 24), .iaddr (.t 22) (.t 23) 1, none⟩,
    ⟨(some 25), .load (.t 24) 1 false, none⟩,
    ⟨(some 26), .faddr (.t 1) 0, none⟩,
    ⟨(some 27), .load (.t 26) 1 false, none⟩,
    ⟨(some 28), .call (n_Z52) [(.t 25), (.t 27)], none⟩,
    ⟨(some 29), .un .not (.t 28), none⟩]
@[go_sem] theorem g_Z53_7_0 : gAt l_Z53_7 0 = ⟨(some 21), .faddr (.t 1) 1, none⟩ := idE rfl
@[go_sem] theorem g_Z53_7_1 : gAt l_Z53_7 1 = ⟨(some 22), .load (.t 21) 1 false, none⟩ := idE rfl
@[go_sem] theorem g_Z53_7_2 : gAt l_Z53_7 2 = ⟨(some 23), .mv (.t 3), none⟩ := idE rfl
@[go_sem] theorem g_Z53_7_3 : gAt l_Z53_7 3 = ⟨(some 24), .iaddr (.t 22) (.t 23) 1, none⟩ := idE rfl
@[go_sem] theorem g_Z53_7_4 : gAt l_Z53_7 4 = ⟨(some 25), .load (.t 24) 1 false, none⟩ := idE rfl
@[go_sem] theorem g_Z53_7_5 : gAt l_Z53_7 5 = ⟨(some 26), .faddr (.t 1) 0, none⟩ := idE rfl
@[go_sem] theorem g_Z53_7_6 : gAt l_Z53_7 6 = ⟨(some 27), .load (.t 26) 1 false, none⟩ := idE rfl
@[go_sem] theorem g_Z53_7_7 : gAt l_Z53_7 7 = ⟨(some 28), .call (n_Z52) [(.t 25), (.t 27)], none⟩ := idE rfl
@[go_sem] theorem g_Z53_7_8 : gAt l_Z53_7 8 = ⟨(some 29), .un .not (.t 28), none⟩ := idE rfl
def Z53_7 : IR := .dops l_Z53_7 [(0, []), (1, []), (2, []), (3, []), (4, []), (5, []), (6, []), (7, []), (8, [])]
@[go_sem] theorem w_Z53_7 : wp P Z53_7 Q e H = wpD P l_Z53_7 [(0, []), (1, []), (2, []), (3, []), (4, []), (5, []), (6, []), (7, []), (8, [])] (Q .normal) e H := idE rfl
@[go_sem] def l_Z53_8 : List GOp := [⟨(some 2), .mv (.c (.bool false)), none⟩]
def Z53_8 : IR := .ops l_Z53_8
@[go_sem] theorem w_Z53_8 : wp P Z53_8 Q e H = wpL P l_Z53_8 (Q .normal) e H := idE rfl
def Z53_9 : IR := .cond (.t 29) (.seq Z53_8 .ret) .skip
@[go_sem] theorem w_Z53_9 : wp P Z53_9 Q e H = condW P ((.t 29) : X) (.seq Z53_8 .ret) .skip Q e H := idE rfl
def Z53_10 : IR := .block 1 (.seq Z53_7 Z53_9)
@[go_sem] theorem w_Z53_10 : wp P Z53_10 Q e H = wp P (.seq Z53_7 Z53_9) (blockQ 1 Q) e H := idE rfl
@[go_sem] def l_Z53_11 : List GOp := [⟨(some 19), .mv (.t 3), none⟩,
    ⟨(some 20), .bin .add (.t 19) (.c (.int .i64 1)), none⟩,
    ⟨(some 3), .mv (.t 20), none⟩]
def Z53_11 : IR := .ops l_Z53_11
@[go_sem] theorem w_Z53_11 : wp P Z53_11 Q e H = wpL P l_Z53_11 (Q .normal) e H := idE rfl
def Z53_12 : IR := .loop (.seq (.seq Z53_5 Z53_6) (.seq Z53_10 Z53_11))
def Z53_13 : IR := .block 0 Z53_12
@[go_sem] theorem w_Z53_13 : wp P Z53_13 Q e H = wp P Z53_12 (blockQ 0 Q) e H := idE rfl
@[go_sem] def l_Z53_14 : List GOp := [⟨(some 2), .mv (.c (.bool true)), none⟩]
def Z53_14 : IR := .ops l_Z53_14
@[go_sem] theorem w_Z53_14 : wp P Z53_14 Q e H = wpL P l_Z53_14 (Q .normal) e H := idE rfl
def F_Z53 : IFn := ⟨1, 30, [.t 2], (.seq Z53_0 (.seq (.seq Z53_1 Z53_3) (.seq (.seq Z53_4 Z53_13) (.seq Z53_14 .ret))))⟩
theorem c_Z53 : compFn Try.prog [(0, [], []), (1, [], []), (2, [], []), (3, [], []), (4, [], []), (6, [(0, []), (1, []), (2, []), (3, []), (4, []), (5, []), (6, []), (7, []), (8, [])], []), (7, [], []), (5, [], []), (8, [], [])] Try.f28 = some F_Z53 := by kernel_rfl
theorem a_Z53 (hl : args.length = 1) (h : wp Try.prog (.seq Z53_0 (.seq (.seq Z53_1 Z53_3) (.seq (.seq Z53_4 Z53_13) (.seq Z53_14 .ret)))) (postQ [.t 2] R) (env0 args) H) : ACall Try.prog n_Z53 args H R :=
  acall_of_wp mixed Try.func28 c_Z53 (by kernel_rfl) hl h
@[go_sem] def l_Z61_0 : List GOp := [⟨(some 4), .mv (.c (.sl none 0 0 true 0)), none⟩]
def Z61_0 : IR := .ops l_Z61_0
@[go_sem] theorem w_Z61_0 : wp P Z61_0 Q e H = wpL P l_Z61_0 (Q .normal) e H := idE rfl
@[go_sem] def l_Z61_1 : List GOp := [⟨(some 7), .mv (.t 1), none⟩,
    ⟨(some 8), .bin .add (.t 7) (.c (.int .i64 1)), none⟩,
    ⟨(some 9), .mks [(.int .i64 0)] 8 (.t 8), none⟩,
    ⟨(some 5), .mv (.t 9), none⟩]
def Z61_1 : IR := .ops l_Z61_1
@[go_sem] theorem w_Z61_1 : wp P Z61_1 Q e H = wpL P l_Z61_1 (Q .normal) e H := idE rfl
@[go_sem] def l_Z61_2 : List GOp := [⟨(some 6), .mv (.c (.int .i64 0)), none⟩]
def Z61_2 : IR := .ops l_Z61_2
@[go_sem] theorem w_Z61_2 : wp P Z61_2 Q e H = wpL P l_Z61_2 (Q .normal) e H := idE rfl
@[go_sem] def l_Z61_3 : List GOp := [⟨(some 10), .mv (.t 6), none⟩,
    ⟨(some 11), .mv (.t 0), none⟩,
    ⟨(some 12), .len (.t 11), none⟩,
    ⟨(some 13), .bin .lss (.t 10) (.t 12), none⟩]
def Z61_3 : IR := .ops l_Z61_3
@[go_sem] theorem w_Z61_3 : wp P Z61_3 Q e H = wpL P l_Z61_3 (Q .normal) e H := idE rfl
def Z61_4 : IR := .cond (.t 13) .skip (.exit 0)
@[go_sem] theorem w_Z61_4 : wp P Z61_4 Q e H = condW P ((.t 13) : X) .skip (.exit 0) Q e H := idE rfl
def l_Z61_5 : List GOp := [⟨(some 16), .mv (.t 5), none⟩,
    ⟨(some 17), .mv (.t 0), none⟩,
    ⟨(some 18), .mv (.t 6), none⟩,
    ⟨(some 19), .iaddr (.t 17) (.t 18) 1, none⟩,
    ⟨(some 20), .load (.t 19) 1 false, none⟩,
    ⟨(some 21), .call (n_Z57) [(.t 20)], none⟩,
    ⟨(some 22), .mv (.t 0), none⟩,
    ⟨(some 23), .mv (.t 6), none⟩,
    ⟨(some 24), .iaddr (.t 22) (.t 23) 1, none⟩,
    ⟨(some 25), .load (.t 24) 1 false, none⟩,
    ⟨(some 26), .iaddr (.t 16) (.t 21) 1, none⟩,
    ⟨none, .store (.t 26) 1 (.t 25), none⟩]
@[go_sem] theorem g_Z61_5_0 : gAt l_Z61_5 0 = ⟨(some 16), .mv (.t 5), none⟩ := idE rfl
@[go_sem] theorem g_Z61_5_1 : gAt l_Z61_5 1 = ⟨(some 17), .mv (.t 0), none⟩ := idE rfl
@[go_sem] theorem g_Z61_5_2 : gAt l_Z61_5 2 = ⟨(some 18), .mv (.t 6), none⟩ := idE rfl
@[go_sem] theorem g_Z61_5_3 : gAt l_Z61_5 3 = ⟨(some 19), .iaddr (.t 17) (.t 18) 1, none⟩ := idE rfl
@[go_sem] theorem g_Z61_5_4 : gAt l_Z61_5 4 = ⟨(some 20), .load (.t 19) 1 false, none⟩ := idE rfl
@[go_sem] theorem g_Z61_5_5 : gAt l_Z61_5 5 = ⟨(some 21), .call (n_Z57) [(.t 20)], none⟩ := idE rfl
@[go_sem] theorem g_Z61_5_6 : gAt l_Z61_5 6 = ⟨(some 22), .mv (.t 0), none⟩ := idE rfl
@[go_sem] theorem g_Z61_5_7 : gAt l_Z61_5 7 = ⟨(some 23), .mv (.t 6), none⟩ := idE rfl
@[go_sem] theorem g_Z61_5_8 : gAt l_Z61_5 8 = ⟨(some 24), .iaddr (.t 22) (.t 23) 1, none⟩ := idE rfl
@[go_sem] theorem g_Z61_5_9 : gAt l_Z61_5 9 = ⟨(some 25), .load (.t 24) 1 false, none⟩ := idE rfl
@[go_sem] theorem g_Z61_5_10 : gAt l_Z61_5 10 = ⟨(some 26), .iaddr (.t 16) (.t 21) 1, none⟩ := idE rfl
@[go_sem] theorem g_Z61_5_11 : gAt l_Z61_5 11 = ⟨none, .store (.t 26) 1 (.t 25), none⟩ := idE rfl
def Z61_5 : IR := .dops l_Z61_5 [(0, []), (1, []), (2, []), (3, []), (4, []), (6, []), (7, []), (8, []), (9, []), (5, [9]), (10, []), (11, [])]
@[go_sem] theorem w_Z61_5 : wp P Z61_5 Q e H = wpD P l_Z61_5 [(0, []), (1, []), (2, []), (3, []), (4, []), (6, []), (7, []), (8, []), (9, []), (5, [9]), (10, []), (11, [])] (Q .normal) e H := idE rfl
def Z61_6 : IR := .block 1 Z61_5
@[go_sem] theorem w_Z61_6 : wp P Z61_6 Q e H = wp P Z61_5 (blockQ 1 Q) e H := idE rfl
@[go_sem] def l_Z61_7 : List GOp := [⟨(some 14), .mv (.t 6), none⟩,
    ⟨(some 15), .bin .add (.t 14) (.c (.int .i64 1)), none⟩,
    ⟨(some 6), .mv (.t 15), none⟩]
def Z61_7 : IR := .ops l_Z61_7
@[go_sem] theorem w_Z61_7 : wp P Z61_7 Q e H = wpL P l_Z61_7 (Q .normal) e H := idE rfl
def Z61_8 : IR := .loop (.seq (.seq Z61_3 Z61_4) (.seq Z61_6 Z61_7))
def Z61_9 : IR := .block 0 Z61_8
@[go_sem] theorem w_Z61_9 : wp P Z61_9 Q e H = wp P Z61_8 (blockQ 0 Q) e H := idE rfl
@[go_sem] def l_Z61_10 : List GOp := [⟨(some 27), .mv (.t 5), none⟩,
    ⟨(some 4), .mv (.t 27), none⟩]
def Z61_10 : IR := .ops l_Z61_10
@[go_sem] theorem w_Z61_10 : wp P Z61_10 Q e H = wpL P l_Z61_10 (Q .normal) e H := idE rfl
def F_Z61 : IFn := ⟨2, 28, [.t 4], (.seq Z61_0 (.seq Z61_1 (.seq (.seq Z61_2 Z61_9) (.seq Z61_10 .ret))))⟩
theorem c_Z61 : compFn Try.prog [(0, [], []), (1, [], []), (2, [], []), (3, [], []), (5, [(0, []), (1, []), (2, []), (3, []), (4, []), (6, []), (7, []), (8, []), (9, []), (5, [9]), (10, []), (11, [])], []), (4, [], []), (6, [], [])] Try.f131 = some F_Z61 := by kernel_rfl
theorem a_Z61 (hl : args.length = 2) (h : wp Try.prog (.seq Z61_0 (.seq Z61_1 (.seq (.seq Z61_2 Z61_9) (.seq Z61_10 .ret)))) (postQ [.t 4] R) (env0 args) H) : ACall Try.prog n_Z61 args H R :=
  acall_of_wp mixed Try.func131 c_Z61 (by kernel_rfl) hl h
@[go_sem] def l_Z62_0 : List GOp := [⟨(some 4), .mv (.c (.int .i64 0)), none⟩,
    ⟨(some 5), .mv (.c (.int .i64 0)), none⟩]
def Z62_0 : IR := .ops l_Z62_0
@[go_sem] theorem w_Z62_0 : wp P Z62_0 Q e H = wpL P l_Z62_0 (Q .normal) e H := idE rfl
@[go_sem] def l_Z62_1 : List GOp := [⟨(some 6), .mv (.c (.int .i64 0)), none⟩]
def Z62_1 : IR := .ops l_Z62_1
@[go_sem] theorem w_Z62_1 : wp P Z62_1 Q e H = wpL P l_Z62_1 (Q .normal) e H := idE rfl
@[go_sem] def l_Z62_2 : List GOp := [⟨(some 7), .mv (.c (.int .i64 0)), none⟩]
def Z62_2 : IR := .ops l_Z62_2
@[go_sem] theorem w_Z62_2 : wp P Z62_2 Q e H = wpL P l_Z62_2 (Q .normal) e H := idE rfl
@[go_sem] def l_Z62_3 : List GOp := [⟨(some 8), .mv (.c (.int .i64 0)), none⟩]
def Z62_3 : IR := .ops l_Z62_3
@[go_sem] theorem w_Z62_3 : wp P Z62_3 Q e H = wpL P l_Z62_3 (Q .normal) e H := idE rfl
@[go_sem] def l_Z62_4 : List GOp := [⟨(some 10), .mv (.t 8), none⟩,
    ⟨(some 11), .mv (.t 0), none⟩,
    ⟨(some 12), .len (.t 11), none⟩,
    ⟨(some 13), .bin .lss (.t 10) (.t 12), none⟩]
def Z62_4 : IR := .ops l_Z62_4
@[go_sem] theorem w_Z62_4 : wp P Z62_4 Q e H = wpL P l_Z62_4 (Q .normal) e H := idE rfl
def Z62_5 : IR := .cond (.t 13) .skip (.exit 0)
@[go_sem] theorem w_Z62_5 : wp P Z62_5 Q e H = condW P ((.t 13) : X) .skip (.exit 0) Q e H := idE rfl
@[go_sem] def l_Z62_6 : List GOp := [⟨(some 16), .mv (.t 1), none⟩,
    ⟨(some 17), .mv (.t 0), none⟩,
    ⟨(some 18), .mv (.t 8), none⟩,
    ⟨(some 19), .iaddr (.t 17) (.t 18) 1, none⟩,
    ⟨(some 20), .load (.t 19) 1 false, none⟩,
    ⟨(some 21), .call (n_Z57) [(.t 20)], none⟩,
    ⟨(some 22), .iaddr (.t 16) (.t 21) 1, none⟩,
    ⟨(some 23), .load (.t 22) 1 false, none⟩,
    ⟨(some 9), .mv (.t 23), none⟩]
def Z62_6 : IR := .ops l_Z62_6
@[go_sem] theorem w_Z62_6 : wp P Z62_6 Q e H = wpL P l_Z62_6 (Q .normal) e H := idE rfl
@[go_sem] def l_Z62_7 : List GOp := [⟨(some 24), .mv (.t 9), none⟩,
    ⟨(some 25), .mv (.t 0), none⟩,
    ⟨(some 26), .mv (.t 8), none⟩,
    ⟨(some 27), .iaddr (.t 25) (.t 26) 1, none⟩,
    ⟨(some 28), .load (.t 27) 1 false, none⟩,
    ⟨(some 29), .bin .eql (.t 24) (.t 28), none⟩]
def Z62_7 : IR := .ops l_Z62_7
@[go_sem] theorem w_Z62_7 : wp P Z62_7 Q e H = wpL P l_Z62_7 (Q .normal) e H := idE rfl
@[go_sem] def l_Z62_8 : List GOp := [⟨(some 4), .mv (.c (.int .i64 (-1))), none⟩,
    ⟨(some 5), .mv (.c (.int .i64 0)), none⟩]
def Z62_8 : IR := .ops l_Z62_8
@[go_sem] theorem w_Z62_8 : wp P Z62_8 Q e H = wpL P l_Z62_8 (Q .normal) e H := idE rfl
def Z62_9 : IR := .cond (.t 29) (.seq Z62_8 .ret) .skip
@[go_sem] theorem w_Z62_9 : wp P Z62_9 Q e H = condW P ((.t 29) : X) (.seq Z62_8 .ret) .skip Q e H := idE rfl
@[go_sem] def l_Z62_10 : List GOp := [⟨(some 30), .mv (.t 9), none⟩,
    ⟨(some 31), .bin .eql (.t 30) (.c (.int .i64 0)), none⟩]
def Z62_10 : IR := .ops l_Z62_10
@[go_sem] theorem w_Z62_10 : wp P Z62_10 Q e H = wpL P l_Z62_10 (Q .normal) e H := idE rfl
@[go_sem] def l_Z62_11 : List GOp := [⟨(some 32), .mv (.t 6), none⟩,
    ⟨(some 33), .bin .add (.t 32) (.c (.int .i64 1)), none⟩,
    ⟨(some 6), .mv (.t 33), none⟩]
def Z62_11 : IR := .ops l_Z62_11
@[go_sem] theorem w_Z62_11 : wp P Z62_11 Q e H = wpL P l_Z62_11 (Q .normal) e H := idE rfl
@[go_sem] def l_Z62_12 : List GOp := [⟨(some 34), .mv (.t 0), none⟩,
    ⟨(some 35), .mv (.t 8), none⟩,
    ⟨(some 36), .iaddr (.t 34) (.t 35) 1, none⟩,
    ⟨(some 37), .load (.t 36) 1 false, none⟩,
    ⟨(some 7), .mv (.t 37), none⟩]
def Z62_12 : IR := .ops l_Z62_12
@[go_sem] theorem w_Z62_12 : wp P Z62_12 Q e H = wpL P l_Z62_12 (Q .normal) e H := idE rfl
def Z62_13 : IR := .cond (.t 31) (.seq Z62_11 Z62_12) .skip
@[go_sem] theorem w_Z62_13 : wp P Z62_13 Q e H = condW P ((.t 31) : X) (.seq Z62_11 Z62_12) .skip Q e H := idE rfl
def Z62_14 : IR := .block 1 (.seq Z62_6 (.seq (.seq Z62_7 Z62_9) (.seq Z62_10 Z62_13)))
@[go_sem] theorem w_Z62_14 : wp P Z62_14 Q e H = wp P (.seq Z62_6 (.seq (.seq Z62_7 Z62_9) (.seq Z62_10 Z62_13))) (blockQ 1 Q) e H := idE rfl
@[go_sem] def l_Z62_15 : List GOp := [⟨(some 14), .mv (.t 8), none⟩,
    ⟨(some 15), .bin .add (.t 14) (.c (.int .i64 1)), none⟩,
    ⟨(some 8), .mv (.t 15), none⟩]
def Z62_15 : IR := .ops l_Z62_15
@[go_sem] theorem w_Z62_15 : wp P Z62_15 Q e H = wpL P l_Z62_15 (Q .normal) e H := idE rfl
def Z62_16 : IR := .loop (.seq (.seq Z62_4 Z62_5) (.seq Z62_14 Z62_15))
def Z62_17 : IR := .block 0 Z62_16
@[go_sem] theorem w_Z62_17 : wp P Z62_17 Q e H = wp P Z62_16 (blockQ 0 Q) e H := idE rfl
@[go_sem] def l_Z62_18 : List GOp := [⟨(some 38), .mv (.t 6), none⟩,
    ⟨(some 39), .mv (.t 7), none⟩,
    ⟨(some 4), .mv (.t 38), none⟩,
    ⟨(some 5), .mv (.t 39), none⟩]
def Z62_18 : IR := .ops l_Z62_18
@[go_sem] theorem w_Z62_18 : wp P Z62_18 Q e H = wpL P l_Z62_18 (Q .normal) e H := idE rfl
def F_Z62 : IFn := ⟨2, 40, [.t 4, .t 5], (.seq Z62_0 (.seq Z62_1 (.seq Z62_2 (.seq (.seq Z62_3 Z62_17) (.seq Z62_18 .ret)))))⟩
theorem c_Z62 : compFn Try.prog [(0, [], []), (1, [], []), (2, [], []), (3, [], []), (4, [], []), (6, [], []), (7, [], []), (8, [], []), (9, [], []), (10, [], []), (11, [], []), (5, [], []), (12, [], [])] Try.f142 = some F_Z62 := by kernel_rfl
theorem a_Z62 (hl : args.length = 2) (h : wp Try.prog (.seq Z62_0 (.seq Z62_1 (.seq Z62_2 (.seq (.seq Z62_3 Z62_17) (.seq Z62_18 .ret))))) (postQ [.t 4, .t 5] R) (env0 args) H) : ACall Try.prog n_Z62 args H R :=
  acall_of_wp mixed Try.func142 c_Z62 (by kernel_rfl) hl h
@[go_sem] def l_Z60_0 : List GOp := [⟨(some 4), .mv (.c (.bool false)), none⟩]
def Z60_0 : IR := .ops l_Z60_0
@[go_sem] theorem w_Z60_0 : wp P Z60_0 Q e H = wpL P l_Z60_0 (Q .normal) e H := idE rfl
@[go_sem] def l_Z60_1 : List GOp := [⟨(some 5), .mv (.c (.bool true)), none⟩]
def Z60_1 : IR := .ops l_Z60_1
@[go_sem] theorem w_Z60_1 : wp P Z60_1 Q e H = wpL P l_Z60_1 (Q .normal) e H := idE rfl
@[go_sem] def l_Z60_2 : List GOp := [⟨(some 9), .mv (.t 5), none⟩]
def Z60_2 : IR := .ops l_Z60_2
@[go_sem] theorem w_Z60_2 : wp P Z60_2 Q e H = wpL P l_Z60_2 (Q .normal) e H := idE rfl
def Z60_3 : IR := .cond (.t 9) .skip (.exit 0)
@[go_sem] theorem w_Z60_3 : wp P Z60_3 Q e H = condW P ((.t 9) : X) .skip (.exit 0) Q e H := idE rfl
@[go_sem] def l_Z60_4 : List GOp := [⟨(some 5), .mv (.c (.bool false)), none⟩]
def Z60_4 : IR := .ops l_Z60_4
@[go_sem] theorem w_Z60_4 : wp P Z60_4 Q e H = wpL P l_Z60_4 (Q .normal) e H := idE rfl
@[go_sem] def l_Z60_5 : List GOp := [⟨(some 6), .mv (.c (.int .i64 0)), none⟩]
def Z60_5 : IR := .ops l_Z60_5
@[go_sem] theorem w_Z60_5 : wp P Z60_5 Q e H = wpL P l_Z60_5 (Q .normal) e H := idE rfl
@[go_sem] def l_Z60_6 : List GOp := [⟨(some 10), .mv (.t 6), none⟩,
    ⟨(some 11), .mv (.t 0), none⟩,
    ⟨(some 12), .len (.t 11), none⟩,
    ⟨(some 13), .bin .lss (.t 10) (.t 12), none⟩]
def Z60_6 : IR := .ops l_Z60_6
@[go_sem] theorem w_Z60_6 : wp P Z60_6 Q e H = wpL P l_Z60_6 (Q .normal) e H := idE rfl
def Z60_7 : IR := .cond (.t 13) .skip (.exit 2)
@[go_sem] theorem w_Z60_7 : wp P Z60_7 Q e H = condW P ((.t 13) : X) .skip (.exit 2) Q e H := idE rfl
@[go_sem] def l_Z60_8 : List GOp := [⟨(some 17), .mv (.t 0), none⟩,
    ⟨(some 18), .mv (.t 6), none⟩,
    ⟨(some 19), .iaddr (.t 17) (.t 18) 1, none⟩,
    ⟨(some 20), .load (.t 19) 1 false, none⟩,
    ⟨(some 21), .mv (.t 1), none⟩,
    ⟨(some 22), .call (n_Z62) [(.t 20), (.t 21)], none⟩,
    ⟨(some 16), .mv (.t 22), none⟩,
    ⟨(some 23), .ext (.t 16) 0, none⟩,
    ⟨(some 24), .ext (.t 16) 1, none⟩,
    ⟨(some 7), .mv (.t 23), none⟩,
    ⟨(some 8), .mv (.t 24), none⟩]
def Z60_8 : IR := .ops l_Z60_8
@[go_sem] theorem w_Z60_8 : wp P Z60_8 Q e H = wpL P l_Z60_8 (Q .normal) e H := idE rfl
@[go_sem] def l_Z60_9 : List GOp := [⟨(some 25), .mv (.t 7), none⟩,
    ⟨(some 26), .bin .eql (.t 25) (.c (.int .i64 0)), none⟩]
def Z60_9 : IR := .ops l_Z60_9
@[go_sem] theorem w_Z60_9 : wp P Z60_9 Q e H = wpL P l_Z60_9 (Q .normal) e H := idE rfl
@[go_sem] def l_Z60_10 : List GOp := [⟨(some 4), .mv (.c (.bool false)), none⟩]
def Z60_10 : IR := .ops l_Z60_10
@[go_sem] theorem w_Z60_10 : wp P Z60_10 Q e H = wpL P l_Z60_10 (Q .normal) e H := idE rfl
def Z60_11 : IR := .cond (.t 26) (.seq Z60_10 .ret) .skip
@[go_sem] theorem w_Z60_11 : wp P Z60_11 Q e H = condW P ((.t 26) : X) (.seq Z60_10 .ret) .skip Q e H := idE rfl
@[go_sem] def l_Z60_12 : List GOp := [⟨(some 27), .mv (.t 7), none⟩,
    ⟨(some 28), .bin .eql (.t 27) (.c (.int .i64 1)), none⟩]
def Z60_12 : IR := .ops l_Z60_12
@[go_sem] theorem w_Z60_12 : wp P Z60_12 Q e H = wpL P l_Z60_12 (Q .normal) e H := idE rfl
@[go_sem] def l_Z60_13 : List GOp := [⟨(some 29), .mv (.t 1), none⟩,
    ⟨(some 30), .mv (.t 8), none⟩,
    ⟨(some 31), .call (n_Z57) [(.t 30)], none⟩,
    ⟨(some 32), .mv (.t 8), none⟩,
    ⟨(some 33), .iaddr (.t 29) (.t 31) 1, none⟩,
    ⟨none, .store (.t 33) 1 (.t 32), none⟩]
def Z60_13 : IR := .ops l_Z60_13
@[go_sem] theorem w_Z60_13 : wp P Z60_13 Q e H = wpL P l_Z60_13 (Q .normal) e H := idE rfl
@[go_sem] def l_Z60_14 : List GOp := [⟨(some 5), .mv (.c (.bool true)), none⟩]
def Z60_14 : IR := .ops l_Z60_14
@[go_sem] theorem w_Z60_14 : wp P Z60_14 Q e H = wpL P l_Z60_14 (Q .normal) e H := idE rfl
def Z60_15 : IR := .cond (.t 28) (.seq Z60_13 Z60_14) .skip
@[go_sem] theorem w_Z60_15 : wp P Z60_15 Q e H = condW P ((.t 28) : X) (.seq Z60_13 Z60_14) .skip Q e H := idE rfl
def Z60_16 : IR := .block 3 (.seq Z60_8 (.seq (.seq Z60_9 Z60_11) (.seq Z60_12 Z60_15)))
@[go_sem] theorem w_Z60_16 : wp P Z60_16 Q e H = wp P (.seq Z60_8 (.seq (.seq Z60_9 Z60_11) (.seq Z60_12 Z60_15))) (blockQ 3 Q) e H := idE rfl
@[go_sem] def l_Z60_17 : List GOp := [⟨(some 14), .mv (.t 6), none⟩,
    ⟨(some 15), .bin .add (.t 14) (.c (.int .i64 1)), none⟩,
    ⟨(some 6), .mv (.t 15), none⟩]
def Z60_17 : IR := .ops l_Z60_17
@[go_sem] theorem w_Z60_17 : wp P Z60_17 Q e H = wpL P l_Z60_17 (Q .normal) e H := idE rfl
def Z60_18 : IR := .loop (.seq (.seq Z60_6 Z60_7) (.seq Z60_16 Z60_17))
def Z60_19 : IR := .block 2 Z60_18
@[go_sem] theorem w_Z60_19 : wp P Z60_19 Q e H = wp P Z60_18 (blockQ 2 Q) e H := idE rfl
def Z60_20 : IR := .block 1 (.seq Z60_4 (.seq Z60_5 Z60_19))
@[go_sem] theorem w_Z60_20 : wp P Z60_20 Q e H = wp P (.seq Z60_4 (.seq Z60_5 Z60_19)) (blockQ 1 Q) e H := idE rfl
def Z60_21 : IR := .loop (.seq (.seq Z60_2 Z60_3) Z60_20)
def Z60_22 : IR := .block 0 Z60_21
@[go_sem] theorem w_Z60_22 : wp P Z60_22 Q e H = wp P Z60_21 (blockQ 0 Q) e H := idE rfl
@[go_sem] def l_Z60_23 : List GOp := [⟨(some 4), .mv (.c (.bool true)), none⟩]
def Z60_23 : IR := .ops l_Z60_23
@[go_sem] theorem w_Z60_23 : wp P Z60_23 Q e H = wpL P l_Z60_23 (Q .normal) e H := idE rfl
def F_Z60 : IFn := ⟨2, 34, [.t 4], (.seq Z60_0 (.seq (.seq Z60_1 Z60_22) (.seq Z60_23 .ret)))⟩
theorem c_Z60 : compFn Try.prog [(0, [], []), (1, [], []), (2, [], []), (3, [], []), (4, [], []), (5, [], []), (7, [], []), (8, [], []), (9, [], []), (10, [], []), (11, [], []), (12, [], []), (6, [], []), (13, [], [])] Try.f132 = some F_Z60 := by kernel_rfl
theorem a_Z60 (hl : args.length = 2) (h : wp Try.prog (.seq Z60_0 (.seq (.seq Z60_1 Z60_22) (.seq Z60_23 .ret))) (postQ [.t 4] R) (env0 args) H) : ACall Try.prog n_Z60 args H R :=
  acall_of_wp mixed Try.func132 c_Z60 (by kernel_rfl) hl h
@[go_sem] def l_Z66_0 : List GOp := [⟨(some 2), .mv (.c (.int .i64 0)), none⟩]
def Z66_0 : IR := .ops l_Z66_0
@[go_sem] theorem w_Z66_0 : wp P Z66_0 Q e H = wpL P l_Z66_0 (Q .normal) e H := idE rfl
@[go_sem] def l_Z66_1 : List GOp := [⟨(some 3), .mv (.c (.int .i64 1)), none⟩]
def Z66_1 : IR := .ops l_Z66_1
@[go_sem] theorem w_Z66_1 : wp P Z66_1 Q e H = wpL P l_Z66_1 (Q .normal) e H := idE rfl
@[go_sem] def l_Z66_2 : List GOp := [⟨(some 4), .mv (.t 3), none⟩,
    ⟨(some 5), .mv (.t 0), none⟩,
    ⟨(some 6), .len (.t 5), none⟩,
    ⟨(some 7), .bin .lss (.t 4) (.t 6), none⟩]
def Z66_2 : IR := .ops l_Z66_2
@[go_sem] theorem w_Z66_2 : wp P Z66_2 Q e H = wpL P l_Z66_2 (Q .normal) e H := idE rfl
def Z66_3 : IR := .cond (.t 7) .skip (.exit 0)
@[go_sem] theorem w_Z66_3 : wp P Z66_3 Q e H = condW P ((.t 7) : X) .skip (.exit 0) Q e H := idE rfl
@[go_sem] def l_Z66_4 : List GOp := [⟨(some 10), .mv (.t 0), none⟩,
    ⟨(some 11), .mv (.t 3), none⟩,
    ⟨(some 12), .iaddr (.t 10) (.t 11) 1, none⟩,
    ⟨(some 13), .load (.t 12) 1 false, none⟩,
    ⟨(some 14), .bin .eql (.t 13) (.c (.int .i64 0)), none⟩]
def Z66_4 : IR := .ops l_Z66_4
@[go_sem] theorem w_Z66_4 : wp P Z66_4 Q e H = wpL P l_Z66_4 (Q .normal) e H := idE rfl
@[go_sem] def l_Z66_5 : List GOp := [⟨(some 15), .mv (.t 3), none⟩,
    ⟨(some 2), .mv (.t 15), none⟩]
def Z66_5 : IR := .ops l_Z66_5
@[go_sem] theorem w_Z66_5 : wp P Z66_5 Q e H = wpL P l_Z66_5 (Q .normal) e H := idE rfl
def Z66_6 : IR := .cond (.t 14) (.seq Z66_5 .ret) .skip
@[go_sem] theorem w_Z66_6 : wp P Z66_6 Q e H = condW P ((.t 14) : X) (.seq Z66_5 .ret) .skip Q e H := idE rfl
def Z66_7 : IR := .block 1 (.seq Z66_4 Z66_6)
@[go_sem] theorem w_Z66_7 : wp P Z66_7 Q e H = wp P (.seq Z66_4 Z66_6) (blockQ 1 Q) e H := idE rfl
@[go_sem] def l_Z66_8 : List GOp := [⟨(some 8), .mv (.t 3), none⟩,
    ⟨(some 9), .bin .add (.t 8) (.c (.int .i64 1)), none⟩,
    ⟨(some 3), .mv (.t 9), none⟩]
def Z66_8 : IR := .ops l_Z66_8
@[go_sem] theorem w_Z66_8 : wp P Z66_8 Q e H = wpL P l_Z66_8 (Q .normal) e H := idE rfl
def Z66_9 : IR := .loop (.seq (.seq Z66_2 Z66_3) (.seq Z66_7 Z66_8))
def Z66_10 : IR := .block 0 Z66_9
@[go_sem] theorem w_Z66_10 : wp P Z66_10 Q e H = wp P Z66_9 (blockQ 0 Q) e H := idE rfl
@[go_sem] def l_Z66_11 : List GOp := [⟨(some 2), .mv (.c (.int .i64 0)), none⟩]
def Z66_11 : IR := .ops l_Z66_11
@[go_sem] theorem w_Z66_11 : wp P Z66_11 Q e H = wpL P l_Z66_11 (Q .normal) e H := idE rfl
def F_Z66 : IFn := ⟨1, 16, [.t 2], (.seq Z66_0 (.seq (.seq Z66_1 Z66_10) (.seq Z66_11 .ret)))⟩
theorem c_Z66 : compFn Try.prog [(0, [], []), (1, [], []), (2, [], []), (4, [], []), (5, [], []), (3, [], []), (6, [], [])] Try.f133 = some F_Z66 := by kernel_rfl
theorem a_Z66 (hl : args.length = 1) (h : wp Try.prog (.seq Z66_0 (.seq (.seq Z66_1 Z66_10) (.seq Z66_11 .ret))) (postQ [.t 2] R) (env0 args) H) : ACall Try.prog n_Z66 args H R :=
  acall_of_wp mixed Try.func133 c_Z66 (by kernel_rfl) hl h
@[go_sem] def l_Z71_0 : List GOp := [⟨(some 2), .mv (.c (.sl none 0 0 true 0)), none⟩]
def Z71_0 : IR := .ops l_Z71_0
@[go_sem] theorem w_Z71_0 : wp P Z71_0 Q e H = wpL P l_Z71_0 (Q .normal) e H := idE rfl
@[go_sem] def l_Z71_1 : List GOp := [⟨(some 5), .bslc 1 0 [(.int .i64 0)] [], none⟩,
    ⟨(some 3), .mv (.t 5), none⟩]
def Z71_1 : IR := .ops l_Z71_1
@[go_sem] theorem w_Z71_1 : wp P Z71_1 Q e H = wpL P l_Z71_1 (Q .normal) e H := idE rfl
@[go_sem] def l_Z71_2 : List GOp := [⟨(some 4), .mv (.c (.int .i64 1)), none⟩]
def Z71_2 : IR := .ops l_Z71_2
@[go_sem] theorem w_Z71_2 : wp P Z71_2 Q e H = wpL P l_Z71_2 (Q .normal) e H := idE rfl
@[go_sem] def l_Z71_3 : List GOp := [⟨(some 6), .mv (.t 4), none⟩,
    ⟨(some 7), .mv (.t 0), none⟩,
    ⟨(some 8), .len (.t 7), none⟩,
    ⟨(some 9), .bin .lss (.t 6) (.t 8), none⟩]
def Z71_3 : IR := .ops l_Z71_3
@[go_sem] theorem w_Z71_3 : wp P Z71_3 Q e H = wpL P l_Z71_3 (Q .normal) e H := idE rfl
def Z71_4 : IR := .cond (.t 9) .skip (.exit 0)
@[go_sem] theorem w_Z71_4 : wp P Z71_4 Q e H = condW P ((.t 9) : X) .skip (.exit 0) Q e H := idE rfl
@[go_sem] def l_Z71_5 : List GOp := [⟨(some 12), .mv (.t 0), none⟩,
    ⟨(some 13), .mv (.t 4), none⟩,
    ⟨(some 14), .iaddr (.t 12) (.t 13) 1, none⟩,
    ⟨(some 15), .load (.t 14) 1 false, none⟩,
    ⟨(some 16), .bin .gtr (.t 15) (.c (.int .i64 0)), none⟩]
def Z71_5 : IR := .ops l_Z71_5
@[go_sem] theorem w_Z71_5 : wp P Z71_5 Q e H = wpL P l_Z71_5 (Q .normal) e H := idE rfl
@[go_sem] def l_Z71_6 : List GOp := [⟨(some 17), .mv (.t 3), none⟩,
    ⟨(some 18), .bslc 1 1 [(.int .i64 0)] [(0, (.c (.int .i64 1)))], none⟩,
    ⟨(some 19), .app 1 8 (.t 17) (.t 18), none⟩,
    ⟨(some 3), .mv (.t 19), none⟩]
def Z71_6 : IR := .ops l_Z71_6
@[go_sem] theorem w_Z71_6 : wp P Z71_6 Q e H = wpL P l_Z71_6 (Q .normal) e H := idE rfl
@[go_sem] def l_Z71_7 : List GOp := [⟨(some 20), .mv (.t 3), none⟩,
    ⟨(some 21), .bslc 1 1 [(.int .i64 0)] [(0, (.c (.int .i64 0)))], none⟩,
    ⟨(some 22), .app 1 8 (.t 20) (.t 21), none⟩,
    ⟨(some 3), .mv (.t 22), none⟩]
def Z71_7 : IR := .ops l_Z71_7
@[go_sem] theorem w_Z71_7 : wp P Z71_7 Q e H = wpL P l_Z71_7 (Q .normal) e H := idE rfl
def Z71_8 : IR := .cond (.t 16) Z71_6 Z71_7
@[go_sem] theorem w_Z71_8 : wp P Z71_8 Q e H = condW P ((.t 16) : X) Z71_6 Z71_7 Q e H := idE rfl
def Z71_9 : IR := .block 1 (.seq Z71_5 Z71_8)
@[go_sem] theorem w_Z71_9 : wp P Z71_9 Q e H = wp P (.seq Z71_5 Z71_8) (blockQ 1 Q) e H := idE rfl
@[go_sem] def l_Z71_10 : List GOp := [⟨(some 10), .mv (.t 4), none⟩,
    ⟨(some 11), .bin .add (.t 10) (.c (.int .i64 1)), none⟩,
    ⟨(some 4), .mv (.t 11), none⟩]
def Z71_10 : IR := .ops l_Z71_10
@[go_sem] theorem w_Z71_10 : wp P Z71_10 Q e H = wpL P l_Z71_10 (Q .normal) e H := idE rfl
def Z71_11 : IR := .loop (.seq (.seq Z71_3 Z71_4) (.seq Z71_9 Z71_10))
def Z71_12 : IR := .block 0 Z71_11
@[go_sem] theorem w_Z71_12 : wp P Z71_12 Q e H = wp P Z71_11 (blockQ 0 Q) e H := idE rfl
@[go_sem] def l_Z71_13 : List GOp := [⟨(some 23), .mv (.t 3), none⟩,
    ⟨(some 2), .mv (.t 23), none⟩]
def Z71_13 : IR := .ops l_Z71_13
@[go_sem] theorem w_Z71_13 : wp P Z71_13 Q e H = wpL P l_Z71_13 (Q .normal) e H := idE rfl
def F_Z71 : IFn := ⟨1, 24, [.t 2], (.seq Z71_0 (.seq Z71_1 (.seq (.seq Z71_2 Z71_12) (.seq Z71_13 .ret))))⟩
theorem c_Z71 : compFn Try.prog [(0, [], []), (1, [], []), (2, [], []), (3, [], []), (5, [], []), (6, [], []), (7, [], []), (4, [], []), (8, [], [])] Try.f134 = some F_Z71 := by kernel_rfl
theorem a_Z71 (hl : args.length = 1) (h : wp Try.prog (.seq Z71_0 (.seq Z71_1 (.seq (.seq Z71_2 Z71_12) (.seq Z71_13 .ret)))) (postQ [.t 2] R) (env0 args) H) : ACall Try.prog n_Z71 args H R :=
  acall_of_wp mixed Try.func134 c_Z71 (by kernel_rfl) hl h
end Go.M2

namespace Go.M2
open Go.Proofs
variable {P : Program} {Q : Post} {e : Env} {H : Heap} {args : List AV} {R : AV → Heap → Prop}
@[go_sem] def l_Z74_0 : List GOp := [⟨(some 2), .mv (.c (.sl none 0 0 true 0)), none⟩]
def Z74_0 : IR := .ops l_Z74_0
@[go_sem] theorem w_Z74_0 : wp P Z74_0 Q e H = wpL P l_Z74_0 (Q .normal) e H := idE rfl
@[go_sem] def l_Z74_1 : List GOp := [⟨(some 5), .bslc 1 0 [(.int .i64 0)] [], none⟩,
    ⟨(some 3), .mv (.t 5), none⟩]
def Z74_1 : IR := .ops l_Z74_1
@[go_sem] theorem w_Z74_1 : wp P Z74_1 Q e H = wpL P l_Z74_1 (Q .normal) e H := idE rfl
@[go_sem] def l_Z74_2 : List GOp := [⟨(some 4), .mv (.c (.int .i64 0)), none⟩]
def Z74_2 : IR := .ops l_Z74_2
@[go_sem] theorem w_Z74_2 : wp P Z74_2 Q e H = wpL P l_Z74_2 (Q .normal) e H := idE rfl
@[go_sem] def l_Z74_3 : List GOp := [⟨(some 6), .mv (.t 4), none⟩,
    ⟨(some 7), .mv (.t 0), none⟩,
    ⟨(some 8), .len (.t 7), none⟩,
    ⟨(some 9), .bin .lss (.t 6) (.t 8), none⟩]
def Z74_3 : IR := .ops l_Z74_3
@[go_sem] theorem w_Z74_3 : wp P Z74_3 Q e H = wpL P l_Z74_3 (Q .normal) e H := idE rfl
def Z74_4 : IR := .cond (.t 9) .skip (.exit 0)
@[go_sem] theorem w_Z74_4 : wp P Z74_4 Q e H = condW P ((.t 9) : X) .skip (.exit 0) Q e H := idE rfl
@[go_sem] def l_Z74_5 : List GOp := [⟨(some 12), .mv (.t 3), none⟩,
    ⟨(some 13), .mv (.t 0), none⟩,
    ⟨(some 14), .mv (.t 4), none⟩,
    ⟨(some 15), .iaddr (.t 13) (.t 14) 1, none⟩,
    ⟨(some 16), .load (.t 15) 1 false, none⟩,
    ⟨(some 17), .bslc 1 1 [(.int .i64 0)] [(0, (.t 16))], none⟩,
    ⟨(some 18), .app 1 8 (.t 12) (.t 17), none⟩,
    ⟨(some 3), .mv (.t 18), none⟩]
def Z74_5 : IR := .ops l_Z74_5
@[go_sem] theorem w_Z74_5 : wp P Z74_5 Q e H = wpL P l_Z74_5 (Q .normal) e H := idE rfl
def Z74_6 : IR := .block 1 Z74_5
@[go_sem] theorem w_Z74_6 : wp P Z74_6 Q e H = wp P Z74_5 (blockQ 1 Q) e H := idE rfl
@[go_sem] def l_Z74_7 : List GOp := [⟨(some 10), .mv (.t 4), none⟩,
    ⟨(some 11), .bin .add (.t 10) (.c (.int .i64 1)), none⟩,
    ⟨(some 4), .mv (.t 11), none⟩]
def Z74_7 : IR := .ops l_Z74_7
@[go_sem] theorem w_Z74_7 : wp P Z74_7 Q e H = wpL P l_Z74_7 (Q .normal) e H := idE rfl
def Z74_8 : IR := .loop (.seq (.seq Z74_3 Z74_4) (.seq Z74_6 Z74_7))
def Z74_9 : IR := .block 0 Z74_8
@[go_sem] theorem w_Z74_9 : wp P Z74_9 Q e H = wp P Z74_8 (blockQ 0 Q) e H := idE rfl
@[go_sem] def l_Z74_10 : List GOp := [⟨(some 19), .mv (.t 3), none⟩,
    ⟨(some 2), .mv (.t 19), none⟩]
def Z74_10 : IR := .ops l_Z74_10
@[go_sem] theorem w_Z74_10 : wp P Z74_10 Q e H = wpL P l_Z74_10 (Q .normal) e H := idE rfl
def F_Z74 : IFn := ⟨1, 20, [.t 2], (.seq Z74_0 (.seq Z74_1 (.seq (.seq Z74_2 Z74_9) (.seq Z74_10 .ret))))⟩
theorem c_Z74 : compFn Try.prog [(0, [], []), (1, [], []), (2, [], []), (3, [], []), (5, [], []), (4, [], []), (6, [], [])] Try.f88 = some F_Z74 := by kernel_rfl
theorem a_Z74 (hl : args.length = 1) (h : wp Try.prog (.seq Z74_0 (.seq Z74_1 (.seq (.seq Z74_2 Z74_9) (.seq Z74_10 .ret)))) (postQ [.t 2] R) (env0 args) H) : ACall Try.prog n_Z74 args H R :=
  acall_of_wp mixed Try.func88 c_Z74 (by kernel_rfl) hl h
@[go_sem] def l_Z67_0 : List GOp := [⟨(some 4), .mv (.c (.sl none 0 0 true 0)), none⟩]
def Z67_0 : IR := .ops l_Z67_0
@[go_sem] theorem w_Z67_0 : wp P Z67_0 Q e H = wpL P l_Z67_0 (Q .normal) e H := idE rfl
@[go_sem] def l_Z67_1 : List GOp := [⟨(some 9), .bslc 1 0 [(.int .i64 0)] [], none⟩,
    ⟨(some 5), .mv (.t 9), none⟩]
def Z67_1 : IR := .ops l_Z67_1
@[go_sem] theorem w_Z67_1 : wp P Z67_1 Q e H = wpL P l_Z67_1 (Q .normal) e H := idE rfl
@[go_sem] def l_Z67_2 : List GOp := [⟨(some 6), .mv (.c (.int .i64 0)), none⟩]
def Z67_2 : IR := .ops l_Z67_2
@[go_sem] theorem w_Z67_2 : wp P Z67_2 Q e H = wpL P l_Z67_2 (Q .normal) e H := idE rfl
@[go_sem] def l_Z67_3 : List GOp := [⟨(some 10), .mv (.t 6), none⟩,
    ⟨(some 11), .mv (.t 0), none⟩,
    ⟨(some 12), .len (.t 11), none⟩,
    ⟨(some 13), .bin .lss (.t 10) (.t 12), none⟩]
def Z67_3 : IR := .ops l_Z67_3
@[go_sem] theorem w_Z67_3 : wp P Z67_3 Q e H = wpL P l_Z67_3 (Q .normal) e H := idE rfl
def Z67_4 : IR := .cond (.t 13) .skip (.exit 0)
@[go_sem] theorem w_Z67_4 : wp P Z67_4 Q e H = condW P ((.t 13) : X) .skip (.exit 0) Q e H := idE rfl
@[go_sem] def l_Z67_5 : List GOp := [⟨(some 16), .mv (.t 5), none⟩,
    ⟨(some 17), .mv (.t 0), none⟩,
    ⟨(some 18), .mv (.t 6), none⟩,
    ⟨(some 19), .iaddr (.t 17) (.t 18) 1, none⟩,
    ⟨(some 20), .load (.t 19) 1 false, none⟩,
    ⟨(some 21), .un .neg (.t 20), none⟩,
    ⟨(some 22), .bslc 1 1 [(.int .i64 0)] [(0, (.t 21))], none⟩,
    ⟨(some 23), .app 1 8 (.t 16) (.t 22), none⟩,
    ⟨(some 5), .mv (.t 23), none⟩]
def Z67_5 : IR := .ops l_Z67_5
@[go_sem] theorem w_Z67_5 : wp P Z67_5 Q e H = wpL P l_Z67_5 (Q .normal) e H := idE rfl
def Z67_6 : IR := .block 1 Z67_5
@[go_sem] theorem w_Z67_6 : wp P Z67_6 Q e H = wp P Z67_5 (blockQ 1 Q) e H := idE rfl
@[go_sem] def l_Z67_7 : List GOp := [⟨(some 14), .mv (.t 6), none⟩,
    ⟨(some 15), .bin .add (.t 14) (.c (.int .i64 1)), none⟩,
    ⟨(some 6), .mv (.t 15), none⟩]
def Z67_7 : IR := .ops l_Z67_7
@[go_sem] theorem w_Z67_7 : wp P Z67_7 Q e H = wpL P l_Z67_7 (Q .normal) e H := idE rfl
def Z67_8 : IR := .loop (.seq (.seq Z67_3 Z67_4) (.seq Z67_6 Z67_7))
def Z67_9 : IR := .block 0 Z67_8
@[go_sem] theorem w_Z67_9 : wp P Z67_9 Q e H = wp P Z67_8 (blockQ 0 Q) e H := idE rfl
@[go_sem] def l_Z67_10 : List GOp := [⟨(some 25), .mv (.t 5), none⟩,
    ⟨(some 26), .mv (.t 1), none⟩,
    ⟨(some 27), .call (n_Z58) [(.t 25), (.t 26)], none⟩,
    ⟨(some 24), .mv (.t 27), none⟩,
    ⟨(some 28), .ext (.t 24) 0, none⟩,
    ⟨(some 29), .ext (.t 24) 1, none⟩,
    ⟨(some 7), .mv (.t 28), none⟩,
    ⟨(some 8), .mv (.t 29), none⟩]
def Z67_10 : IR := .ops l_Z67_10
@[go_sem] theorem w_Z67_10 : wp P Z67_10 Q e H = wpL P l_Z67_10 (Q .normal) e H := idE rfl
@[go_sem] def l_Z67_11 : List GOp := [⟨(some 30), .mv (.t 7), none⟩,
    ⟨(some 4), .mv (.t 30), none⟩]
def Z67_11 : IR := .ops l_Z67_11
@[go_sem] theorem w_Z67_11 : wp P Z67_11 Q e H = wpL P l_Z67_11 (Q .normal) e H := idE rfl
def F_Z67 : IFn := ⟨2, 31, [.t 4], (.seq Z67_0 (.seq Z67_1 (.seq (.seq Z67_2 Z67_9) (.seq Z67_10 (.seq Z67_11 .ret)))))⟩
theorem c_Z67 : compFn Try.prog [(0, [], []), (1, [], []), (2, [], []), (3, [], []), (5, [], []), (4, [], []), (6, [], []), (7, [], [])] Try.f135 = some F_Z67 := by kernel_rfl
theorem a_Z67 (hl : args.length = 2) (h : wp Try.prog (.seq Z67_0 (.seq Z67_1 (.seq (.seq Z67_2 Z67_9) (.seq Z67_10 (.seq Z67_11 .ret))))) (postQ [.t 4] R) (env0 args) H) : ACall Try.prog n_Z67 args H R :=
  acall_of_wp mixed Try.func135 c_Z67 (by kernel_rfl) hl h
@[go_sem] def l_Z70_0 : List GOp := [⟨(some 3), .box (.t 0), none⟩,
    ⟨(some 6), .alloc [(.sl none 0 0 true 0), (.sl none 0 0 true 0), (.int .i64 0), (.bool false)], none⟩,
    ⟨(some 7), .mv (.c (.sl none 0 0 true 0)), none⟩,
    ⟨(some 8), .mv (.c (.bool false)), none⟩]
def Z70_0 : IR := .ops l_Z70_0
@[go_sem] theorem w_Z70_0 : wp P Z70_0 Q e H = wpL P l_Z70_0 (Q .normal) e H := idE rfl
@[go_sem] def l_Z70_1 : List GOp := [⟨(some 17), .mv (.t 1), none⟩,
    ⟨(some 18), .mv (.t 2), none⟩,
    ⟨(some 19), .call (n_Z61) [(.t 17), (.t 18)], none⟩,
    ⟨(some 9), .mv (.t 19), none⟩]
def Z70_1 : IR := .ops l_Z70_1
@[go_sem] theorem w_Z70_1 : wp P Z70_1 Q e H = wpL P l_Z70_1 (Q .normal) e H := idE rfl
@[go_sem] def l_Z70_2 : List GOp := [⟨(some 20), .faddr (.t 3) 0, none⟩,
    ⟨(some 21), .load (.t 20) 1 false, none⟩,
    ⟨(some 22), .mv (.t 9), none⟩,
    ⟨(some 23), .call (n_Z60) [(.t 21), (.t 22)], none⟩]
def Z70_2 : IR := .ops l_Z70_2
@[go_sem] theorem w_Z70_2 : wp P Z70_2 Q e H = wpL P l_Z70_2 (Q .normal) e H := idE rfl
@[go_sem] def l_Z70_3 : List GOp := [⟨(some 24), .mv (.t 9), none⟩,
    ⟨(some 25), .call (n_Z66) [(.t 24)], none⟩,
    ⟨(some 10), .mv (.t 25), none⟩]
def Z70_3 : IR := .ops l_Z70_3
@[go_sem] theorem w_Z70_3 : wp P Z70_3 Q e H = wpL P l_Z70_3 (Q .normal) e H := idE rfl
@[go_sem] def l_Z70_4 : List GOp := [⟨(some 26), .mv (.t 10), none⟩,
    ⟨(some 27), .bin .eql (.t 26) (.c (.int .i64 0)), none⟩]
def Z70_4 : IR := .ops l_Z70_4
@[go_sem] theorem w_Z70_4 : wp P Z70_4 Q e H = wpL P l_Z70_4 (Q .normal) e H := idE rfl
def l_Z70_5 : List GOp := [⟨(some 28), .load (.t 3) 4 true, none⟩,
    ⟨(some 29), .mv (.t 9), none⟩,
    ⟨(some 30), .call (n_Z71) [(.t 29)], none⟩,
    ⟨none, .store (.t 6) 4 (.t 28), none⟩,
    ⟨(some 7), .mv (.t 30), none⟩,
    ⟨(some 8), .mv (.c (.bool true)), none⟩]
@[go_sem] theorem g_Z70_5_0 : gAt l_Z70_5 0 = ⟨(some 28), .load (.t 3) 4 true, none⟩ := idE rfl
@[go_sem] theorem g_Z70_5_1 : gAt l_Z70_5 1 = ⟨(some 29), .mv (.t 9), none⟩ := idE rfl
@[go_sem] theorem g_Z70_5_2 : gAt l_Z70_5 2 = ⟨(some 30), .call (n_Z71) [(.t 29)], none⟩ := idE rfl
@[go_sem] theorem g_Z70_5_3 : gAt l_Z70_5 3 = ⟨none, .store (.t 6) 4 (.t 28), none⟩ := idE rfl
@[go_sem] theorem g_Z70_5_4 : gAt l_Z70_5 4 = ⟨(some 7), .mv (.t 30), none⟩ := idE rfl
@[go_sem] theorem g_Z70_5_5 : gAt l_Z70_5 5 = ⟨(some 8), .mv (.c (.bool true)), none⟩ := idE rfl
def Z70_5 : IR := .dops l_Z70_5 [(0, []), (1, []), (2, [0]), (3, []), (4, []), (5, [])]
@[go_sem] theorem w_Z70_5 : wp P Z70_5 Q e H = wpD P l_Z70_5 [(0, []), (1, []), (2, [0]), (3, []), (4, []), (5, [])] (Q .normal) e H := idE rfl
def Z70_6 : IR := .cond (.t 27) (.seq Z70_5 .ret) .skip
@[go_sem] theorem w_Z70_6 : wp P Z70_6 Q e H = condW P ((.t 27) : X) (.seq Z70_5 .ret) .skip Q e H := idE rfl
@[go_sem] def l_Z70_7 : List GOp := [⟨(some 31), .faddr (.t 3) 2, none⟩,
    ⟨(some 32), .load (.t 31) 1 false, none⟩,
    ⟨(some 33), .bin .add (.t 32) (.c (.int .i64 1)), none⟩,
    ⟨(some 34), .faddr (.t 3) 2, none⟩,
    ⟨none, .store (.t 34) 1 (.t 33), none⟩]
def Z70_7 : IR := .ops l_Z70_7
@[go_sem] theorem w_Z70_7 : wp P Z70_7 Q e H = wpL P l_Z70_7 (Q .normal) e H := idE rfl
def l_Z70_8 : List GOp := [⟨(some 36), .load (.t 3) 4 true, none⟩,
    ⟨(some 37), .mv (.t 1), none⟩,
    ⟨(some 38), .call (n_Z74) [(.t 37)], none⟩,
    ⟨(some 39), .mv (.t 10), none⟩,
    ⟨(some 40), .un .neg (.t 39), none⟩,
    ⟨(some 41), .bslc 1 1 [(.int .i64 0)] [(0, (.t 40))], none⟩,
    ⟨(some 42), .app 1 8 (.t 38) (.t 41), none⟩,
    ⟨(some 43), .mv (.t 2), none⟩,
    ⟨(some 44), .call (n_Z70) [(.t 36), (.t 42), (.t 43)], none⟩,
    ⟨(some 35), .mv (.t 44), none⟩,
    ⟨(some 45), .ext (.t 35) 0, none⟩,
    ⟨(some 46), .ext (.t 35) 1, none⟩,
    ⟨(some 47), .ext (.t 35) 2, none⟩,
    ⟨(some 11), .alloc [(.sl none 0 0 true 0), (.sl none 0 0 true 0), (.int .i64 0), (.bool false)], none⟩,
    ⟨none, .store (.t 11) 4 (.t 45), none⟩,
    ⟨(some 12), .mv (.t 46), none⟩,
    ⟨(some 13), .mv (.t 47), none⟩]
@[go_sem] theorem g_Z70_8_0 : gAt l_Z70_8 0 = ⟨(some 36), .load (.t 3) 4 true, none⟩ := idE rfl
@[go_sem] theorem g_Z70_8_1 : gAt l_Z70_8 1 = ⟨(some 37), .mv (.t 1), none⟩ := idE rfl
@[go_sem] theorem g_Z70_8_2 : gAt l_Z70_8 2 = ⟨(some 38), .call (n_Z74) [(.t 37)], none⟩ := idE rfl
@[go_sem] theorem g_Z70_8_3 : gAt l_Z70_8 3 = ⟨(some 39), .mv (.t 10), none⟩ := idE rfl
@[go_sem] theorem g_Z70_8_4 : gAt l_Z70_8 4 = ⟨(some 40), .un .neg (.t 39), none⟩ := idE rfl
@[go_sem] theorem g_Z70_8_5 : gAt l_Z70_8 5 = ⟨(some 41), .bslc 1 1 [(.int .i64 0)] [(0, (.t 40))], none⟩ := idE rfl
@[go_sem] theorem g_Z70_8_6 : gAt l_Z70_8 6 = ⟨(some 42), .app 1 8 (.t 38) (.t 41), none⟩ := idE rfl
@[go_sem] theorem g_Z70_8_7 : gAt l_Z70_8 7 = ⟨(some 43), .mv (.t 2), none⟩ := idE rfl
@[go_sem] theorem g_Z70_8_8 : gAt l_Z70_8 8 = ⟨(some 44), .call (n_Z70) [(.t 36), (.t 42), (.t 43)], none⟩ := idE rfl
@[go_sem] theorem g_Z70_8_9 : gAt l_Z70_8 9 = ⟨(some 35), .mv (.t 44), none⟩ := idE rfl
@[go_sem] theorem g_Z70_8_10 : gAt l_Z70_8 10 = ⟨(some 45), .ext (.t 35) 0, none⟩ := idE rfl
@[go_sem] theorem g_Z70_8_11 : gAt l_Z70_8 11 = ⟨(some 46), .ext (.t 35) 1, none⟩ := idE rfl
@[go_sem] theorem g_Z70_8_12 : gAt l_Z70_8 12 = ⟨(some 47), .ext (.t 35) 2, none⟩ := idE rfl
@[go_sem] theorem g_Z70_8_13 : gAt l_Z70_8 13 = ⟨(some 11), .alloc [(.sl none 0 0 true 0), (.sl none 0 0 true 0), (.int .i64 0), (.bool false)], none⟩ := idE rfl
@[go_sem] theorem g_Z70_8_14 : gAt l_Z70_8 14 = ⟨none, .store (.t 11) 4 (.t 45), none⟩ := idE rfl
@[go_sem] theorem g_Z70_8_15 : gAt l_Z70_8 15 = ⟨(some 12), .mv (.t 46), none⟩ := idE rfl
@[go_sem] theorem g_Z70_8_16 : gAt l_Z70_8 16 = ⟨(some 13), .mv (.t 47), none⟩ := idE rfl
def Z70_8 : IR := .dops l_Z70_8 [(0, []), (1, []), (3, []), (4, []), (7, []), (2, [0, 5]), (5, []), (6, [0]), (8, []), (9, []), (10, []), (11, []), (12, []), (13, []), (14, []), (15, []), (16, [])]
@[go_sem] theorem w_Z70_8 : wp P Z70_8 Q e H = wpD P l_Z70_8 [(0, []), (1, []), (3, []), (4, []), (7, []), (2, [0, 5]), (5, []), (6, [0]), (8, []), (9, []), (10, []), (11, []), (12, []), (13, []), (14, []), (15, []), (16, [])] (Q .normal) e H := idE rfl
@[go_sem] def l_Z70_9 : List GOp := [⟨(some 48), .mv (.t 13), none⟩,
    ⟨(some 49), .mv (.t 48), none⟩,
    ⟨(some 50), .faddr (.t 11) 3, (some (49, false))⟩,
    ⟨(some 51), .load (.t 50) 1 false, (some (49, false))⟩,
    ⟨(some 52), .pick (.t 49) (.c (.bool true)) (.t 51), none⟩]
def Z70_9 : IR := .ops l_Z70_9
@[go_sem] theorem w_Z70_9 : wp P Z70_9 Q e H = wpL P l_Z70_9 (Q .normal) e H := idE rfl
@[go_sem] def l_Z70_10 : List GOp := [⟨(some 53), .load (.t 11) 4 true, none⟩,
    ⟨(some 54), .mv (.t 12), none⟩,
    ⟨(some 55), .mv (.t 13), none⟩,
    ⟨none, .store (.t 6) 4 (.t 53), none⟩,
    ⟨(some 7), .mv (.t 54), none⟩,
    ⟨(some 8), .mv (.t 55), none⟩]
def Z70_10 : IR := .ops l_Z70_10
@[go_sem] theorem w_Z70_10 : wp P Z70_10 Q e H = wpL P l_Z70_10 (Q .normal) e H := idE rfl
def Z70_11 : IR := .cond (.t 52) (.seq Z70_10 .ret) .skip
@[go_sem] theorem w_Z70_11 : wp P Z70_11 Q e H = condW P ((.t 52) : X) (.seq Z70_10 .ret) .skip Q e H := idE rfl
def l_Z70_12 : List GOp := [⟨(some 57), .load (.t 11) 4 true, none⟩,
    ⟨(some 58), .mv (.t 1), none⟩,
    ⟨(some 59), .call (n_Z74) [(.t 58)], none⟩,
    ⟨(some 60), .mv (.t 10), none⟩,
    ⟨(some 61), .bslc 1 1 [(.int .i64 0)] [(0, (.t 60))], none⟩,
    ⟨(some 62), .app 1 8 (.t 59) (.t 61), none⟩,
    ⟨(some 63), .mv (.t 2), none⟩,
    ⟨(some 64), .call (n_Z70) [(.t 57), (.t 62), (.t 63)], none⟩,
    ⟨(some 56), .mv (.t 64), none⟩,
    ⟨(some 65), .ext (.t 56) 0, none⟩,
    ⟨(some 66), .ext (.t 56) 1, none⟩,
    ⟨(some 67), .ext (.t 56) 2, none⟩,
    ⟨(some 14), .alloc [(.sl none 0 0 true 0), (.sl none 0 0 true 0), (.int .i64 0), (.bool false)], none⟩,
    ⟨none, .store (.t 14) 4 (.t 65), none⟩,
    ⟨(some 15), .mv (.t 66), none⟩,
    ⟨(some 16), .mv (.t 67), none⟩]
@[go_sem] theorem g_Z70_12_0 : gAt l_Z70_12 0 = ⟨(some 57), .load (.t 11) 4 true, none⟩ := idE rfl
@[go_sem] theorem g_Z70_12_1 : gAt l_Z70_12 1 = ⟨(some 58), .mv (.t 1), none⟩ := idE rfl
@[go_sem] theorem g_Z70_12_2 : gAt l_Z70_12 2 = ⟨(some 59), .call (n_Z74) [(.t 58)], none⟩ := idE rfl
@[go_sem] theorem g_Z70_12_3 : gAt l_Z70_12 3 = ⟨(some 60), .mv (.t 10), none⟩ := idE rfl
@[go_sem] theorem g_Z70_12_4 : gAt l_Z70_12 4 = ⟨(some 61), .bslc 1 1 [(.int .i64 0)] [(0, (.t 60))], none⟩ := idE rfl
@[go_sem] theorem g_Z70_12_5 : gAt l_Z70_12 5 = ⟨(some 62), .app 1 8 (.t 59) (.t 61), none⟩ := idE rfl
@[go_sem] theorem g_Z70_12_6 : gAt l_Z70_12 6 = ⟨(some 63), .mv (.t 2), none⟩ := idE rfl
@[go_sem] theorem g_Z70_12_7 : gAt l_Z70_12 7 = ⟨(some 64), .call (n_Z70) [(.t 57), (.t 62), (.t 63)], none⟩ := idE rfl
@[go_sem] theorem g_Z70_12_8 : gAt l_Z70_12 8 = ⟨(some 56), .mv (.t 64), none⟩ := idE rfl
@[go_sem] theorem g_Z70_12_9 : gAt l_Z70_12 9 = ⟨(some 65), .ext (.t 56) 0, none⟩ := idE rfl
@[go_sem] theorem g_Z70_12_10 : gAt l_Z70_12 10 = ⟨(some 66), .ext (.t 56) 1, none⟩ := idE rfl
@[go_sem] theorem g_Z70_12_11 : gAt l_Z70_12 11 = ⟨(some 67), .ext (.t 56) 2, none⟩ := idE rfl
@[go_sem] theorem g_Z70_12_12 : gAt l_Z70_12 12 = ⟨(some 14), .alloc [(.sl none 0 0 true 0), (.sl none 0 0 true 0), (.int .i64 0), (.bool false)], none⟩ := idE rfl
@[go_sem] theorem g_Z70_12_13 : gAt l_Z70_12 13 = ⟨none, .store (.t 14) 4 (.t 65), none⟩ := idE rfl
@[go_sem] theorem g_Z70_12_14 : gAt l_Z70_12 14 = ⟨(some 15), .mv (.t 66), none⟩ := idE rfl
@[go_sem] theorem g_Z70_12_15 : gAt l_Z70_12 15 = ⟨(some 16), .mv (.t 67), none⟩ := idE rfl
def Z70_12 : IR := .dops l_Z70_12 [(0, []), (1, []), (3, []), (6, []), (2, [0, 4]), (4, []), (5, [0]), (7, []), (8, []), (9, []), (10, []), (11, []), (12, []), (13, []), (14, []), (15, [])]
@[go_sem] theorem w_Z70_12 : wp P Z70_12 Q e H = wpD P l_Z70_12 [(0, []), (1, []), (3, []), (6, []), (2, [0, 4]), (4, []), (5, [0]), (7, []), (8, []), (9, []), (10, []), (11, []), (12, []), (13, []), (14, []), (15, [])] (Q .normal) e H := idE rfl
@[go_sem] def l_Z70_13 : List GOp := [⟨(some 68), .mv (.t 16), none⟩,
    ⟨(some 69), .mv (.t 68), none⟩,
    ⟨(some 70), .faddr (.t 14) 3, (some (69, false))⟩,
    ⟨(some 71), .load (.t 70) 1 false, (some (69, false))⟩,
    ⟨(some 72), .pick (.t 69) (.c (.bool true)) (.t 71), none⟩]
def Z70_13 : IR := .ops l_Z70_13
@[go_sem] theorem w_Z70_13 : wp P Z70_13 Q e H = wpL P l_Z70_13 (Q .normal) e H := idE rfl
@[go_sem] def l_Z70_14 : List GOp := [⟨(some 73), .load (.t 14) 4 true, none⟩,
    ⟨(some 74), .mv (.t 15), none⟩,
    ⟨(some 75), .mv (.t 16), none⟩,
    ⟨none, .store (.t 6) 4 (.t 73), none⟩,
    ⟨(some 7), .mv (.t 74), none⟩,
    ⟨(some 8), .mv (.t 75), none⟩]
def Z70_14 : IR := .ops l_Z70_14
@[go_sem] theorem w_Z70_14 : wp P Z70_14 Q e H = wpL P l_Z70_14 (Q .normal) e H := idE rfl
def Z70_15 : IR := .cond (.t 72) (.seq Z70_14 .ret) .skip
@[go_sem] theorem w_Z70_15 : wp P Z70_15 Q e H = condW P ((.t 72) : X) (.seq Z70_14 .ret) .skip Q e H := idE rfl
@[go_sem] def l_Z70_16 : List GOp := [⟨(some 76), .load (.t 14) 4 true, none⟩,
    ⟨none, .store (.t 3) 4 (.t 76), none⟩]
def Z70_16 : IR := .ops l_Z70_16
@[go_sem] theorem w_Z70_16 : wp P Z70_16 Q e H = wpL P l_Z70_16 (Q .normal) e H := idE rfl
def Z70_17 : IR := .cond (.t 23) (.seq Z70_3 (.seq (.seq Z70_4 Z70_6) (.seq Z70_7 (.seq Z70_8 (.seq (.seq Z70_9 Z70_11) (.seq Z70_12 (.seq (.seq Z70_13 Z70_15) Z70_16))))))) .skip
@[go_sem] theorem w_Z70_17 : wp P Z70_17 Q e H = condW P ((.t 23) : X) (.seq Z70_3 (.seq (.seq Z70_4 Z70_6) (.seq Z70_7 (.seq Z70_8 (.seq (.seq Z70_9 Z70_11) (.seq Z70_12 (.seq (.seq Z70_13 Z70_15) Z70_16))))))) .skip Q e H := idE rfl
def l_Z70_18 : List GOp := [⟨(some 77), .faddr (.t 3) 1, none⟩,
    ⟨(some 78), .load (.t 77) 1 false, none⟩,
    ⟨(some 79), .mv (.t 1), none⟩,
    ⟨(some 80), .mv (.t 2), none⟩,
    ⟨(some 81), .call (n_Z67) [(.t 79), (.t 80)], none⟩,
    ⟨(some 82), .bslc 1 1 [(.sl none 0 0 true 0)] [(0, (.t 81))], none⟩,
    ⟨(some 83), .app 1 24 (.t 78) (.t 82), none⟩,
    ⟨(some 84), .faddr (.t 3) 1, none⟩,
    ⟨none, .store (.t 84) 1 (.t 83), none⟩]
@[go_sem] theorem g_Z70_18_0 : gAt l_Z70_18 0 = ⟨(some 77), .faddr (.t 3) 1, none⟩ := idE rfl
@[go_sem] theorem g_Z70_18_1 : gAt l_Z70_18 1 = ⟨(some 78), .load (.t 77) 1 false, none⟩ := idE rfl
@[go_sem] theorem g_Z70_18_2 : gAt l_Z70_18 2 = ⟨(some 79), .mv (.t 1), none⟩ := idE rfl
@[go_sem] theorem g_Z70_18_3 : gAt l_Z70_18 3 = ⟨(some 80), .mv (.t 2), none⟩ := idE rfl
@[go_sem] theorem g_Z70_18_4 : gAt l_Z70_18 4 = ⟨(some 81), .call (n_Z67) [(.t 79), (.t 80)], none⟩ := idE rfl
@[go_sem] theorem g_Z70_18_5 : gAt l_Z70_18 5 = ⟨(some 82), .bslc 1 1 [(.sl none 0 0 true 0)] [(0, (.t 81))], none⟩ := idE rfl
@[go_sem] theorem g_Z70_18_6 : gAt l_Z70_18 6 = ⟨(some 83), .app 1 24 (.t 78) (.t 82), none⟩ := idE rfl
@[go_sem] theorem g_Z70_18_7 : gAt l_Z70_18 7 = ⟨(some 84), .faddr (.t 3) 1, none⟩ := idE rfl
@[go_sem] theorem g_Z70_18_8 : gAt l_Z70_18 8 = ⟨none, .store (.t 84) 1 (.t 83), none⟩ := idE rfl
def Z70_18 : IR := .dops l_Z70_18 [(0, []), (1, []), (2, []), (3, []), (4, [1]), (5, []), (6, []), (7, []), (8, [])]
@[go_sem] theorem w_Z70_18 : wp P Z70_18 Q e H = wpD P l_Z70_18 [(0, []), (1, []), (2, []), (3, []), (4, [1]), (5, []), (6, []), (7, []), (8, [])] (Q .normal) e H := idE rfl
@[go_sem] def l_Z70_19 : List GOp := [⟨(some 85), .faddr (.t 3) 1, none⟩,
    ⟨(some 86), .load (.t 85) 1 false, none⟩,
    ⟨(some 87), .len (.t 86), none⟩,
    ⟨(some 88), .bin .gtr (.t 87) (.c (.int .i64 600)), none⟩,
    ⟨(some 89), .faddr (.t 3) 3, none⟩,
    ⟨none, .store (.t 89) 1 (.t 88), none⟩]
def Z70_19 : IR := .ops l_Z70_19
@[go_sem] theorem w_Z70_19 : wp P Z70_19 Q e H = wpL P l_Z70_19 (Q .normal) e H := idE rfl
@[go_sem] def l_Z70_20 : List GOp := [⟨(some 90), .load (.t 3) 4 true, none⟩,
    ⟨none, .store (.t 6) 4 (.t 90), none⟩,
    ⟨(some 7), .mv (.c (.sl none 0 0 true 0)), none⟩,
    ⟨(some 8), .mv (.c (.bool false)), none⟩]
def Z70_20 : IR := .ops l_Z70_20
@[go_sem] theorem w_Z70_20 : wp P Z70_20 Q e H = wpL P l_Z70_20 (Q .normal) e H := idE rfl
def F_Z70 : IFn := ⟨3, 91, [.c 6 4 true, .t 7, .t 8], (.seq Z70_0 (.seq Z70_1 (.seq (.seq Z70_2 Z70_17) (.seq Z70_18 (.seq Z70_19 (.seq Z70_20 .ret))))))⟩
theorem c_Z70 : compFn Try.prog [(0, [], []), (1, [], []), (2, [], []), (3, [], []), (4, [], []), (5, [(0, []), (1, []), (2, [0]), (3, []), (4, []), (5, [])], []), (6, [], []), (7, [(0, []), (1, []), (3, []), (4, []), (7, []), (2, [0, 5]), (5, []), (6, [0]), (8, []), (9, []), (10, []), (11, []), (12, []), (13, []), (14, []), (15, []), (16, [])], []), (8, [], []), (9, [], []), (10, [(0, []), (1, []), (3, []), (6, []), (2, [0, 4]), (4, []), (5, [0]), (7, []), (8, []), (9, []), (10, []), (11, []), (12, []), (13, []), (14, []), (15, [])], []), (11, [], []), (12, [], []), (13, [], []), (14, [(0, []), (1, []), (2, []), (3, []), (4, [1]), (5, []), (6, []), (7, []), (8, [])], []), (15, [], []), (16, [], [])] Try.f97 = some F_Z70 := by kernel_rfl
theorem a_Z70 (hl : args.length = 3) (h : wp Try.prog (.seq Z70_0 (.seq Z70_1 (.seq (.seq Z70_2 Z70_17) (.seq Z70_18 (.seq Z70_19 (.seq Z70_20 .ret)))))) (postQ [.c 6 4 true, .t 7, .t 8] R) (env0 args) H) : ACall Try.prog n_Z70 args H R :=
  acall_of_wp mixed Try.func97 c_Z70 (by kernel_rfl) hl h
@[go_sem] def l_Z68_0 : List GOp := [⟨(some 1), .box (.t 0), none⟩,
    ⟨(some 2), .alloc [(.sl none 0 0 true 0), (.sl none 0 0 true 0), (.int .i64 0), (.bool false)], none⟩,
    ⟨(some 3), .mv (.c (.sl none 0 0 true 0)), none⟩,
    ⟨(some 4), .mv (.c (.bool false)), none⟩]
def Z68_0 : IR := .ops l_Z68_0
@[go_sem] theorem w_Z68_0 : wp P Z68_0 Q e H = wpL P l_Z68_0 (Q .normal) e H := idE rfl
@[go_sem] def l_Z68_1 : List GOp := [⟨(some 5), .faddr (.t 1) 1, none⟩,
    ⟨(some 6), .load (.t 5) 1 false, none⟩,
    ⟨(some 7), .bld [(.sl none 0 0 true 0), (.sl none 0 0 true 0), (.int .i64 0), (.bool false)] [(0, 1, (.t 6))], none⟩,
    ⟨(some 8), .bslc 1 0 [(.int .i64 0)] [], none⟩,
    ⟨(some 9), .faddr (.t 1) 0, none⟩,
    ⟨(some 10), .load (.t 9) 1 false, none⟩,
    ⟨(some 11), .call (n_Z70) [(.t 7), (.t 8), (.t 10)], none⟩,
    ⟨(some 12), .ext (.t 11) 0, none⟩,
    ⟨(some 13), .ext (.t 11) 1, none⟩,
    ⟨(some 14), .ext (.t 11) 2, none⟩,
    ⟨none, .store (.t 2) 4 (.t 12), none⟩,
    ⟨(some 3), .mv (.t 13), none⟩,
    ⟨(some 4), .mv (.t 14), none⟩]
def Z68_1 : IR := .ops l_Z68_1
@[go_sem] theorem w_Z68_1 : wp P Z68_1 Q e H = wpL P l_Z68_1 (Q .normal) e H := idE rfl
def F_Z68 : IFn := ⟨1, 15, [.c 2 4 true, .t 3, .t 4], (.seq Z68_0 (.seq Z68_1 .ret))⟩
theorem c_Z68 : compFn Try.prog [(0, [], []), (1, [], [])] Try.f63 = some F_Z68 := by kernel_rfl
theorem a_Z68 (hl : args.length = 1) (h : wp Try.prog (.seq Z68_0 (.seq Z68_1 .ret)) (postQ [.c 2 4 true, .t 3, .t 4] R) (env0 args) H) : ACall Try.prog n_Z68 args H R :=
  acall_of_wp mixed Try.func63 c_Z68 (by kernel_rfl) hl h
@[go_sem] def l_Z56_0 : List GOp := [⟨(some 1), .box (.t 0), none⟩,
    ⟨(some 2), .mv (.c (.sl none 0 0 true 0)), none⟩,
    ⟨(some 3), .mv (.c (.bool false)), none⟩]
def Z56_0 : IR := .ops l_Z56_0
@[go_sem] theorem w_Z56_0 : wp P Z56_0 Q e H = wpL P l_Z56_0 (Q .normal) e H := idE rfl
@[go_sem] def l_Z56_1 : List GOp := [⟨(some 7), .load (.t 1) 2 true, none⟩,
    ⟨(some 8), .call (n_Z53) [(.t 7)], none⟩,
    ⟨(some 9), .un .not (.t 8), none⟩]
def Z56_1 : IR := .ops l_Z56_1
@[go_sem] theorem w_Z56_1 : wp P Z56_1 Q e H = wpL P l_Z56_1 (Q .normal) e H := idE rfl
@[go_sem] def l_Z56_2 : List GOp := [⟨(some 2), .mv (.c (.sl none 0 0 true 0)), none⟩,
    ⟨(some 3), .mv (.c (.bool false)), none⟩]
def Z56_2 : IR := .ops l_Z56_2
@[go_sem] theorem w_Z56_2 : wp P Z56_2 Q e H = wpL P l_Z56_2 (Q .normal) e H := idE rfl
def Z56_3 : IR := .cond (.t 9) (.seq Z56_2 .ret) .skip
@[go_sem] theorem w_Z56_3 : wp P Z56_3 Q e H = condW P ((.t 9) : X) (.seq Z56_2 .ret) .skip Q e H := idE rfl
@[go_sem] def l_Z56_4 : List GOp := [⟨(some 11), .load (.t 1) 2 true, none⟩,
    ⟨(some 12), .call (n_Z68) [(.t 11)], none⟩,
    ⟨(some 10), .mv (.t 12), none⟩,
    ⟨(some 13), .ext (.t 10) 0, none⟩,
    ⟨(some 14), .ext (.t 10) 1, none⟩,
    ⟨(some 15), .ext (.t 10) 2, none⟩,
    ⟨(some 4), .alloc [(.sl none 0 0 true 0), (.sl none 0 0 true 0), (.int .i64 0), (.bool false)], none⟩,
    ⟨none, .store (.t 4) 4 (.t 13), none⟩,
    ⟨(some 5), .mv (.t 14), none⟩,
    ⟨(some 6), .mv (.t 15), none⟩]
def Z56_4 : IR := .ops l_Z56_4
@[go_sem] theorem w_Z56_4 : wp P Z56_4 Q e H = wpL P l_Z56_4 (Q .normal) e H := idE rfl
@[go_sem] def l_Z56_5 : List GOp := [⟨(some 16), .mv (.t 5), none⟩,
    ⟨(some 17), .mv (.t 6), none⟩,
    ⟨(some 2), .mv (.t 16), none⟩,
    ⟨(some 3), .mv (.t 17), none⟩]
def Z56_5 : IR := .ops l_Z56_5
@[go_sem] theorem w_Z56_5 : wp P Z56_5 Q e H = wpL P l_Z56_5 (Q .normal) e H := idE rfl
def F_Z56 : IFn := ⟨1, 18, [.t 2, .t 3], (.seq Z56_0 (.seq (.seq Z56_1 Z56_3) (.seq Z56_4 (.seq Z56_5 .ret))))⟩
theorem c_Z56 : compFn Try.prog [(0, [], []), (1, [], []), (2, [], []), (3, [], []), (4, [], [])] Try.f30 = some F_Z56 := by kernel_rfl
theorem a_Z56 (hl : args.length = 1) (h : wp Try.prog (.seq Z56_0 (.seq (.seq Z56_1 Z56_3) (.seq Z56_4 (.seq Z56_5 .ret)))) (postQ [.t 2, .t 3] R) (env0 args) H) : ACall Try.prog n_Z56 args H R :=
  acall_of_wp mixed Try.func30 c_Z56 (by kernel_rfl) hl h
@[go_sem] def l_Z13_0 : List GOp := [⟨(some 2), .mv (.c (.sl none 0 0 true 0)), none⟩]
def Z13_0 : IR := .ops l_Z13_0
@[go_sem] theorem w_Z13_0 : wp P Z13_0 Q e H = wpL P l_Z13_0 (Q .normal) e H := idE rfl
@[go_sem] def l_Z13_1 : List GOp := [⟨(some 4), .mv (.t 0), none⟩,
    ⟨(some 5), .len (.t 4), none⟩,
    ⟨(some 6), .bin .eql (.t 5) (.c (.int .i64 0)), none⟩]
def Z13_1 : IR := .ops l_Z13_1
@[go_sem] theorem w_Z13_1 : wp P Z13_1 Q e H = wpL P l_Z13_1 (Q .normal) e H := idE rfl
@[go_sem] def l_Z13_2 : List GOp := [⟨(some 2), .mv (.c (.sl none 0 0 true 0)), none⟩]
def Z13_2 : IR := .ops l_Z13_2
@[go_sem] theorem w_Z13_2 : wp P Z13_2 Q e H = wpL P l_Z13_2 (Q .normal) e H := idE rfl
def Z13_3 : IR := .cond (.t 6) (.seq Z13_2 .ret) .skip
@[go_sem] theorem w_Z13_3 : wp P Z13_3 Q e H = condW P ((.t 6) : X) (.seq Z13_2 .ret) .skip Q e H := idE rfl
@[go_sem] def l_Z13_4 : List GOp := [⟨(some 7), .mv (.t 0), none⟩,
    ⟨(some 8), .len (.t 7), none⟩,
    ⟨(some 9), .mks [(.sl none 0 0 true 0)] 24 (.t 8), none⟩,
    ⟨(some 3), .mv (.t 9), none⟩]
def Z13_4 : IR := .ops l_Z13_4
@[go_sem] theorem w_Z13_4 : wp P Z13_4 Q e H = wpL P l_Z13_4 (Q .normal) e H := idE rfl
@[go_sem] def l_Z13_5 : List GOp := [⟨(some 10), .mv (.t 3), none⟩,
    ⟨(some 11), .mv (.t 0), none⟩,
    ⟨(some 12), .copy 1 (.t 10) (.t 11), none⟩]
def Z13_5 : IR := .ops l_Z13_5
@[go_sem] theorem w_Z13_5 : wp P Z13_5 Q e H = wpL P l_Z13_5 (Q .normal) e H := idE rfl
@[go_sem] def l_Z13_6 : List GOp := [⟨(some 13), .mv (.t 3), none⟩,
    ⟨(some 2), .mv (.t 13), none⟩]
def Z13_6 : IR := .ops l_Z13_6
@[go_sem] theorem w_Z13_6 : wp P Z13_6 Q e H = wpL P l_Z13_6 (Q .normal) e H := idE rfl
def F_Z13 : IFn := ⟨1, 14, [.t 2], (.seq Z13_0 (.seq (.seq Z13_1 Z13_3) (.seq Z13_4 (.seq Z13_5 (.seq Z13_6 .ret)))))⟩
theorem c_Z13 : compFn Try.prog [(0, [], []), (1, [], []), (2, [], []), (3, [], []), (4, [], []), (5, [], [])] Try.f67 = some F_Z13 := by kernel_rfl
theorem a_Z13 (hl : args.length = 1) (h : wp Try.prog (.seq Z13_0 (.seq (.seq Z13_1 Z13_3) (.seq Z13_4 (.seq Z13_5 (.seq Z13_6 .ret))))) (postQ [.t 2] R) (env0 args) H) : ACall Try.prog n_Z13 args H R :=
  acall_of_wp mixed Try.func67 c_Z13 (by kernel_rfl) hl h
@[go_sem] def l_Z6_0 : List GOp := [⟨(some 1), .box (.t 0), none⟩,
    ⟨(some 2), .mv (.c (.sl none 0 0 true 0)), none⟩,
    ⟨(some 3), .mv (.c (.bool false)), none⟩]
def Z6_0 : IR := .ops l_Z6_0
@[go_sem] theorem w_Z6_0 : wp P Z6_0 Q e H = wpL P l_Z6_0 (Q .normal) e H := idE rfl
@[go_sem] def l_Z6_1 : List GOp := [⟨(some 5), .load (.t 1) 2 true, none⟩,
    ⟨(some 6), .call (n_Z4) [(.t 5)], none⟩,
    ⟨(some 7), .un .not (.t 6), none⟩]
def Z6_1 : IR := .ops l_Z6_1
@[go_sem] theorem w_Z6_1 : wp P Z6_1 Q e H = wpL P l_Z6_1 (Q .normal) e H := idE rfl
@[go_sem] def l_Z6_2 : List GOp := [⟨(some 2), .mv (.c (.sl none 0 0 true 0)), none⟩,
    ⟨(some 3), .mv (.c (.bool false)), none⟩]
def Z6_2 : IR := .ops l_Z6_2
@[go_sem] theorem w_Z6_2 : wp P Z6_2 Q e H = wpL P l_Z6_2 (Q .normal) e H := idE rfl
def Z6_3 : IR := .cond (.t 7) (.seq Z6_2 .ret) .skip
@[go_sem] theorem w_Z6_3 : wp P Z6_3 Q e H = condW P ((.t 7) : X) (.seq Z6_2 .ret) .skip Q e H := idE rfl
@[go_sem] def l_Z6_4 : List GOp := [⟨(some 8), .load (.t 1) 2 true, none⟩,
    ⟨(some 9), .call (n_Z18) [(.t 8)], none⟩,
    ⟨(some 4), .mv (.t 9), none⟩]
def Z6_4 : IR := .ops l_Z6_4
@[go_sem] theorem w_Z6_4 : wp P Z6_4 Q e H = wpL P l_Z6_4 (Q .normal) e H := idE rfl
@[go_sem] def l_Z6_5 : List GOp := [⟨(some 10), .mv (.t 4), none⟩,
    ⟨(some 11), .nilck (.t 10), none⟩,
    ⟨(some 12), .faddr (.t 11) 5, none⟩,
    ⟨(some 13), .load (.t 12) 1 false, none⟩,
    ⟨(some 14), .mv (.t 13), none⟩,
    ⟨(some 15), .mv (.t 4), (some (14, false))⟩,
    ⟨(some 16), .nilck (.t 15), (some (14, false))⟩,
    ⟨(some 17), .faddr (.t 16) 4, (some (14, false))⟩,
    ⟨(some 18), .load (.t 17) 1 false, (some (14, false))⟩,
    ⟨(some 19), .eqn true .sl (.t 18), (some (14, false))⟩,
    ⟨(some 20), .pick (.t 14) (.c (.bool true)) (.t 19), none⟩]
def Z6_5 : IR := .ops l_Z6_5
@[go_sem] theorem w_Z6_5 : wp P Z6_5 Q e H = wpL P l_Z6_5 (Q .normal) e H := idE rfl
@[go_sem] def l_Z6_6 : List GOp := [⟨(some 2), .mv (.c (.sl none 0 0 true 0)), none⟩,
    ⟨(some 3), .mv (.c (.bool false)), none⟩]
def Z6_6 : IR := .ops l_Z6_6
@[go_sem] theorem w_Z6_6 : wp P Z6_6 Q e H = wpL P l_Z6_6 (Q .normal) e H := idE rfl
def Z6_7 : IR := .cond (.t 20) (.seq Z6_6 .ret) .skip
@[go_sem] theorem w_Z6_7 : wp P Z6_7 Q e H = condW P ((.t 20) : X) (.seq Z6_6 .ret) .skip Q e H := idE rfl
@[go_sem] def l_Z6_8 : List GOp := [⟨(some 21), .mv (.t 4), none⟩,
    ⟨(some 22), .nilck (.t 21), none⟩,
    ⟨(some 23), .faddr (.t 22) 2, none⟩,
    ⟨(some 24), .load (.t 23) 1 false, none⟩,
    ⟨(some 25), .call (n_Z13) [(.t 24)], none⟩,
    ⟨(some 2), .mv (.t 25), none⟩,
    ⟨(some 3), .mv (.c (.bool true)), none⟩]
def Z6_8 : IR := .ops l_Z6_8
@[go_sem] theorem w_Z6_8 : wp P Z6_8 Q e H = wpL P l_Z6_8 (Q .normal) e H := idE rfl
def F_Z6 : IFn := ⟨1, 26, [.t 2, .t 3], (.seq Z6_0 (.seq (.seq Z6_1 Z6_3) (.seq Z6_4 (.seq (.seq Z6_5 Z6_7) (.seq Z6_8 .ret)))))⟩
theorem c_Z6 : compFn Try.prog [(0, [], []), (1, [], []), (2, [], []), (3, [], []), (4, [], []), (5, [], []), (6, [], [])] Try.f25 = some F_Z6 := by kernel_rfl
theorem a_Z6 (hl : args.length = 1) (h : wp Try.prog (.seq Z6_0 (.seq (.seq Z6_1 Z6_3) (.seq Z6_4 (.seq (.seq Z6_5 Z6_7) (.seq Z6_8 .ret))))) (postQ [.t 2, .t 3] R) (env0 args) H) : ACall Try.prog n_Z6 args H R :=
  acall_of_wp mixed Try.func25 c_Z6 (by kernel_rfl) hl h
@[go_sem] def l_Z55_0 : List GOp := [⟨(some 1), .box (.t 0), none⟩,
    ⟨(some 2), .mv (.c (.sl none 0 0 true 0)), none⟩,
    ⟨(some 3), .mv (.c (.bool false)), none⟩]
def Z55_0 : IR := .ops l_Z55_0
@[go_sem] theorem w_Z55_0 : wp P Z55_0 Q e H = wpL P l_Z55_0 (Q .normal) e H := idE rfl
@[go_sem] def l_Z55_1 : List GOp := [⟨(some 7), .load (.t 1) 2 true, none⟩,
    ⟨(some 8), .call (n_Z53) [(.t 7)], none⟩,
    ⟨(some 9), .un .not (.t 8), none⟩]
def Z55_1 : IR := .ops l_Z55_1
@[go_sem] theorem w_Z55_1 : wp P Z55_1 Q e H = wpL P l_Z55_1 (Q .normal) e H := idE rfl
@[go_sem] def l_Z55_2 : List GOp := [⟨(some 2), .mv (.c (.sl none 0 0 true 0)), none⟩,
    ⟨(some 3), .mv (.c (.bool false)), none⟩]
def Z55_2 : IR := .ops l_Z55_2
@[go_sem] theorem w_Z55_2 : wp P Z55_2 Q e H = wpL P l_Z55_2 (Q .normal) e H := idE rfl
def Z55_3 : IR := .cond (.t 9) (.seq Z55_2 .ret) .skip
@[go_sem] theorem w_Z55_3 : wp P Z55_3 Q e H = condW P ((.t 9) : X) (.seq Z55_2 .ret) .skip Q e H := idE rfl
@[go_sem] def l_Z55_4 : List GOp := [⟨(some 11), .load (.t 1) 2 true, none⟩,
    ⟨(some 12), .call (n_Z68) [(.t 11)], none⟩,
    ⟨(some 10), .mv (.t 12), none⟩,
    ⟨(some 13), .ext (.t 10) 0, none⟩,
    ⟨(some 14), .ext (.t 10) 1, none⟩,
    ⟨(some 15), .ext (.t 10) 2, none⟩,
    ⟨(some 4), .alloc [(.sl none 0 0 true 0), (.sl none 0 0 true 0), (.int .i64 0), (.bool false)], none⟩,
    ⟨none, .store (.t 4) 4 (.t 13), none⟩,
    ⟨(some 5), .mv (.t 14), none⟩,
    ⟨(some 6), .mv (.t 15), none⟩]
def Z55_4 : IR := .ops l_Z55_4
@[go_sem] theorem w_Z55_4 : wp P Z55_4 Q e H = wpL P l_Z55_4 (Q .normal) e H := idE rfl
@[go_sem] def l_Z55_5 : List GOp := [⟨(some 16), .mv (.t 6), none⟩,
    ⟨(some 17), .mv (.t 16), none⟩,
    ⟨(some 18), .faddr (.t 4) 3, (some (17, false))⟩,
    ⟨(some 19), .load (.t 18) 1 false, (some (17, false))⟩,
    ⟨(some 20), .pick (.t 17) (.c (.bool true)) (.t 19), none⟩]
def Z55_5 : IR := .ops l_Z55_5
@[go_sem] theorem w_Z55_5 : wp P Z55_5 Q e H = wpL P l_Z55_5 (Q .normal) e H := idE rfl
@[go_sem] def l_Z55_6 : List GOp := [⟨(some 2), .mv (.c (.sl none 0 0 true 0)), none⟩,
    ⟨(some 3), .mv (.c (.bool false)), none⟩]
def Z55_6 : IR := .ops l_Z55_6
@[go_sem] theorem w_Z55_6 : wp P Z55_6 Q e H = wpL P l_Z55_6 (Q .normal) e H := idE rfl
def Z55_7 : IR := .cond (.t 20) (.seq Z55_6 .ret) .skip
@[go_sem] theorem w_Z55_7 : wp P Z55_7 Q e H = condW P ((.t 20) : X) (.seq Z55_6 .ret) .skip Q e H := idE rfl
@[go_sem] def l_Z55_8 : List GOp := [⟨(some 21), .faddr (.t 4) 1, none⟩,
    ⟨(some 22), .load (.t 21) 1 false, none⟩,
    ⟨(some 2), .mv (.t 22), none⟩,
    ⟨(some 3), .mv (.c (.bool true)), none⟩]
def Z55_8 : IR := .ops l_Z55_8
@[go_sem] theorem w_Z55_8 : wp P Z55_8 Q e H = wpL P l_Z55_8 (Q .normal) e H := idE rfl
def F_Z55 : IFn := ⟨1, 23, [.t 2, .t 3], (.seq Z55_0 (.seq (.seq Z55_1 Z55_3) (.seq Z55_4 (.seq (.seq Z55_5 Z55_7) (.seq Z55_8 .ret)))))⟩
theorem c_Z55 : compFn Try.prog [(0, [], []), (1, [], []), (2, [], []), (3, [], []), (4, [], []), (5, [], []), (6, [], [])] Try.f26 = some F_Z55 := by kernel_rfl
theorem a_Z55 (hl : args.length = 1) (h : wp Try.prog (.seq Z55_0 (.seq (.seq Z55_1 Z55_3) (.seq Z55_4 (.seq (.seq Z55_5 Z55_7) (.seq Z55_8 .ret))))) (postQ [.t 2, .t 3] R) (env0 args) H) : ACall Try.prog n_Z55 args H R :=
  acall_of_wp mixed Try.func26 c_Z55 (by kernel_rfl) hl h
@[go_sem] def l_Z25_0 : List GOp := [⟨(some 4), .mv (.c (.bool false)), none⟩]
def Z25_0 : IR := .ops l_Z25_0
@[go_sem] theorem w_Z25_0 : wp P Z25_0 Q e H = wpL P l_Z25_0 (Q .normal) e H := idE rfl
@[go_sem] def l_Z25_1 : List GOp := [⟨(some 7), .mv (.t 0), none⟩,
    ⟨(some 8), .len (.t 7), none⟩,
    ⟨(some 9), .mv (.t 1), none⟩,
    ⟨(some 10), .len (.t 9), none⟩,
    ⟨(some 11), .bin .neq (.t 8) (.t 10), none⟩]
def Z25_1 : IR := .ops l_Z25_1
@[go_sem] theorem w_Z25_1 : wp P Z25_1 Q e H = wpL P l_Z25_1 (Q .normal) e H := idE rfl
@[go_sem] def l_Z25_2 : List GOp := [⟨(some 4), .mv (.c (.bool false)), none⟩]
def Z25_2 : IR := .ops l_Z25_2
@[go_sem] theorem w_Z25_2 : wp P Z25_2 Q e H = wpL P l_Z25_2 (Q .normal) e H := idE rfl
def Z25_3 : IR := .cond (.t 11) (.seq Z25_2 .ret) .skip
@[go_sem] theorem w_Z25_3 : wp P Z25_3 Q e H = condW P ((.t 11) : X) (.seq Z25_2 .ret) .skip Q e H := idE rfl
@[go_sem] def l_Z25_4 : List GOp := [⟨(some 12), .mv (.t 0), none⟩,
    ⟨(some 13), .len (.t 12), none⟩,
    ⟨(some 14), .mv (.c (.int .i64 0)), none⟩]
def Z25_4 : IR := .ops l_Z25_4
@[go_sem] theorem w_Z25_4 : wp P Z25_4 Q e H = wpL P l_Z25_4 (Q .normal) e H := idE rfl
@[go_sem] def l_Z25_5 : List GOp := [⟨(some 15), .bin .lss (.t 14) (.t 13), none⟩]
def Z25_5 : IR := .ops l_Z25_5
@[go_sem] theorem w_Z25_5 : wp P Z25_5 Q e H = wpL P l_Z25_5 (Q .normal) e H := idE rfl
def Z25_6 : IR := .cond (.t 15) .skip (.exit 0)
@[go_sem] theorem w_Z25_6 : wp P Z25_6 Q e H = condW P ((.t 15) : X) .skip (.exit 0) Q e H := idE rfl
@[go_sem] def l_Z25_7 : List GOp := [⟨(some 16), .mv (.t 14), none⟩,
    ⟨(some 17), .iaddr (.t 12) (.t 14) 1, none⟩,
    ⟨(some 18), .load (.t 17) 1 false, none⟩,
    ⟨(some 5), .mv (.t 16), none⟩,
    ⟨(some 6), .mv (.t 18), none⟩]
def Z25_7 : IR := .ops l_Z25_7
@[go_sem] theorem w_Z25_7 : wp P Z25_7 Q e H = wpL P l_Z25_7 (Q .normal) e H := idE rfl
@[go_sem] def l_Z25_8 : List GOp := [⟨(some 19), .mv (.t 1), none⟩,
    ⟨(some 20), .mv (.t 5), none⟩,
    ⟨(some 21), .iaddr (.t 19) (.t 20) 1, none⟩,
    ⟨(some 22), .load (.t 21) 1 false, none⟩,
    ⟨(some 23), .mv (.t 6), none⟩,
    ⟨(some 24), .bin .neq (.t 22) (.t 23), none⟩]
def Z25_8 : IR := .ops l_Z25_8
@[go_sem] theorem w_Z25_8 : wp P Z25_8 Q e H = wpL P l_Z25_8 (Q .normal) e H := idE rfl
@[go_sem] def l_Z25_9 : List GOp := [⟨(some 4), .mv (.c (.bool false)), none⟩]
def Z25_9 : IR := .ops l_Z25_9
@[go_sem] theorem w_Z25_9 : wp P Z25_9 Q e H = wpL P l_Z25_9 (Q .normal) e H := idE rfl
def Z25_10 : IR := .cond (.t 24) (.seq Z25_9 .ret) .skip
@[go_sem] theorem w_Z25_10 : wp P Z25_10 Q e H = condW P ((.t 24) : X) (.seq Z25_9 .ret) .skip Q e H := idE rfl
def Z25_11 : IR := .block 1 (.seq Z25_7 (.seq Z25_8 Z25_10))
@[go_sem] theorem w_Z25_11 : wp P Z25_11 Q e H = wp P (.seq Z25_7 (.seq Z25_8 Z25_10)) (blockQ 1 Q) e H := idE rfl
@[go_sem] def l_Z25_12 : List GOp := [⟨(some 25), .bin .add (.t 14) (.c (.int .i64 1)), none⟩,
    ⟨(some 14), .mv (.t 25), none⟩]
def Z25_12 : IR := .ops l_Z25_12
@[go_sem] theorem w_Z25_12 : wp P Z25_12 Q e H = wpL P l_Z25_12 (Q .normal) e H := idE rfl
def Z25_13 : IR := .loop (.seq Z25_5 (.seq Z25_6 (.seq Z25_11 Z25_12)))
def Z25_14 : IR := .block 0 Z25_13
@[go_sem] theorem w_Z25_14 : wp P Z25_14 Q e H = wp P Z25_13 (blockQ 0 Q) e H := idE rfl
@[go_sem] def l_Z25_15 : List GOp := [⟨(some 4), .mv (.c (.bool true)), none⟩]
def Z25_15 : IR := .ops l_Z25_15
@[go_sem] theorem w_Z25_15 : wp P Z25_15 Q e H = wpL P l_Z25_15 (Q .normal) e H := idE rfl
def F_Z25 : IFn := ⟨2, 26, [.t 4], (.seq Z25_0 (.seq (.seq Z25_1 Z25_3) (.seq (.seq Z25_4 Z25_14) (.seq Z25_15 .ret))))⟩
theorem c_Z25 : compFn Try.prog [(0, [], []), (1, [], []), (2, [], []), (3, [], []), (4, [], []), (5, [], []), (6, [], []), (7, [], []), (8, [], []), (9, [], [])] Try.f40 = some F_Z25 := by kernel_rfl
theorem a_Z25 (hl : args.length = 2) (h : wp Try.prog (.seq Z25_0 (.seq (.seq Z25_1 Z25_3) (.seq (.seq Z25_4 Z25_14) (.seq Z25_15 .ret)))) (postQ [.t 4] R) (env0 args) H) : ACall Try.prog n_Z25 args H R :=
  acall_of_wp mixed Try.func40 c_Z25 (by kernel_rfl) hl h
@[go_sem] def l_Z35_0 : List GOp := [⟨(some 4), .mv (.c (.int .i64 0)), none⟩]
def Z35_0 : IR := .ops l_Z35_0
@[go_sem] theorem w_Z35_0 : wp P Z35_0 Q e H = wpL P l_Z35_0 (Q .normal) e H := idE rfl
@[go_sem] def l_Z35_1 : List GOp := [⟨(some 6), .mv (.t 0), none⟩,
    ⟨(some 7), .len (.t 6), none⟩,
    ⟨(some 8), .mv (.c (.int .i64 0)), none⟩]
def Z35_1 : IR := .ops l_Z35_1
@[go_sem] theorem w_Z35_1 : wp P Z35_1 Q e H = wpL P l_Z35_1 (Q .normal) e H := idE rfl
@[go_sem] def l_Z35_2 : List GOp := [⟨(some 9), .bin .lss (.t 8) (.t 7), none⟩]
def Z35_2 : IR := .ops l_Z35_2
@[go_sem] theorem w_Z35_2 : wp P Z35_2 Q e H = wpL P l_Z35_2 (Q .normal) e H := idE rfl
def Z35_3 : IR := .cond (.t 9) .skip (.exit 0)
@[go_sem] theorem w_Z35_3 : wp P Z35_3 Q e H = condW P ((.t 9) : X) .skip (.exit 0) Q e H := idE rfl
@[go_sem] def l_Z35_4 : List GOp := [⟨(some 10), .mv (.t 8), none⟩,
    ⟨(some 5), .mv (.t 10), none⟩]
def Z35_4 : IR := .ops l_Z35_4
@[go_sem] theorem w_Z35_4 : wp P Z35_4 Q e H = wpL P l_Z35_4 (Q .normal) e H := idE rfl
@[go_sem] def l_Z35_5 : List GOp := [⟨(some 11), .mv (.t 1), none⟩,
    ⟨(some 12), .mv (.t 0), none⟩,
    ⟨(some 13), .mv (.t 5), none⟩,
    ⟨(some 14), .iaddr (.t 12) (.t 13) 1, none⟩,
    ⟨(some 15), .load (.t 14) 1 false, none⟩,
    ⟨(some 16), .callv (.t 11) [(.t 15)], none⟩]
def Z35_5 : IR := .ops l_Z35_5
@[go_sem] theorem w_Z35_5 : wp P Z35_5 Q e H = wpL P l_Z35_5 (Q .normal) e H := idE rfl
@[go_sem] def l_Z35_6 : List GOp := [⟨(some 17), .mv (.t 5), none⟩,
    ⟨(some 4), .mv (.t 17), none⟩]
def Z35_6 : IR := .ops l_Z35_6
@[go_sem] theorem w_Z35_6 : wp P Z35_6 Q e H = wpL P l_Z35_6 (Q .normal) e H := idE rfl
def Z35_7 : IR := .cond (.t 16) (.seq Z35_6 .ret) .skip
@[go_sem] theorem w_Z35_7 : wp P Z35_7 Q e H = condW P ((.t 16) : X) (.seq Z35_6 .ret) .skip Q e H := idE rfl
def Z35_8 : IR := .block 1 (.seq Z35_4 (.seq Z35_5 Z35_7))
@[go_sem] theorem w_Z35_8 : wp P Z35_8 Q e H = wp P (.seq Z35_4 (.seq Z35_5 Z35_7)) (blockQ 1 Q) e H := idE rfl
@[go_sem] def l_Z35_9 : List GOp := [⟨(some 18), .bin .add (.t 8) (.c (.int .i64 1)), none⟩,
    ⟨(some 8), .mv (.t 18), none⟩]
def Z35_9 : IR := .ops l_Z35_9
@[go_sem] theorem w_Z35_9 : wp P Z35_9 Q e H = wpL P l_Z35_9 (Q .normal) e H := idE rfl
def Z35_10 : IR := .loop (.seq Z35_2 (.seq Z35_3 (.seq Z35_8 Z35_9)))
def Z35_11 : IR := .block 0 Z35_10
@[go_sem] theorem w_Z35_11 : wp P Z35_11 Q e H = wp P Z35_10 (blockQ 0 Q) e H := idE rfl
@[go_sem] def l_Z35_12 : List GOp := [⟨(some 4), .mv (.c (.int .i64 (-1))), none⟩]
def Z35_12 : IR := .ops l_Z35_12
@[go_sem] theorem w_Z35_12 : wp P Z35_12 Q e H = wpL P l_Z35_12 (Q .normal) e H := idE rfl
def F_Z35 : IFn := ⟨2, 19, [.t 4], (.seq Z35_0 (.seq (.seq Z35_1 Z35_11) (.seq Z35_12 .ret)))⟩
theorem c_Z35 : compFn Try.prog [(0, [], []), (1, [], []), (2, [], []), (3, [], []), (4, [], []), (5, [], []), (6, [], []), (7, [], [])] Try.f137 = some F_Z35 := by kernel_rfl
theorem a_Z35 (hl : args.length = 2) (h : wp Try.prog (.seq Z35_0 (.seq (.seq Z35_1 Z35_11) (.seq Z35_12 .ret))) (postQ [.t 4] R) (env0 args) H) : ACall Try.prog n_Z35 args H R :=
  acall_of_wp mixed Try.func137 c_Z35 (by kernel_rfl) hl h
@[go_sem] def l_Z33_0 : List GOp := [⟨(some 4), .mv (.c (.bool false)), none⟩]
def Z33_0 : IR := .ops l_Z33_0
@[go_sem] theorem w_Z33_0 : wp P Z33_0 Q e H = wpL P l_Z33_0 (Q .normal) e H := idE rfl
@[go_sem] def l_Z33_1 : List GOp := [⟨(some 5), .mv (.t 0), none⟩,
    ⟨(some 6), .mv (.t 1), none⟩,
    ⟨(some 7), .call (n_Z35) [(.t 5), (.t 6)], none⟩,
    ⟨(some 8), .bin .geq (.t 7) (.c (.int .i64 0)), none⟩,
    ⟨(some 4), .mv (.t 8), none⟩]
def Z33_1 : IR := .ops l_Z33_1
@[go_sem] theorem w_Z33_1 : wp P Z33_1 Q e H = wpL P l_Z33_1 (Q .normal) e H := idE rfl
def F_Z33 : IFn := ⟨2, 9, [.t 4], (.seq Z33_0 (.seq Z33_1 .ret))⟩
theorem c_Z33 : compFn Try.prog [(0, [], []), (1, [], [])] Try.f108 = some F_Z33 := by kernel_rfl
theorem a_Z33 (hl : args.length = 2) (h : wp Try.prog (.seq Z33_0 (.seq Z33_1 .ret)) (postQ [.t 4] R) (env0 args) H) : ACall Try.prog n_Z33 args H R :=
  acall_of_wp mixed Try.func108 c_Z33 (by kernel_rfl) hl h
@[go_sem] def l_Z11_1_0 : List GOp := [⟨(some 2), .mv (.c (.bool false)), none⟩]
def Z11_1_0 : IR := .ops l_Z11_1_0
@[go_sem] theorem w_Z11_1_0 : wp P Z11_1_0 Q e H = wpL P l_Z11_1_0 (Q .normal) e H := idE rfl
@[go_sem] def l_Z11_1_1 : List GOp := [⟨(some 3), .mv (.t 0), none⟩,
    ⟨(some 4), .call (n_Z19) [(.t 3), (.c (.int .i64 0)), (.c (.int .i64 1))], none⟩,
    ⟨(some 5), .un .not (.t 4), none⟩,
    ⟨(some 2), .mv (.t 5), none⟩]
def Z11_1_1 : IR := .ops l_Z11_1_1
@[go_sem] theorem w_Z11_1_1 : wp P Z11_1_1 Q e H = wpL P l_Z11_1_1 (Q .normal) e H := idE rfl
def F_Z11_1 : IFn := ⟨1, 6, [.t 2], (.seq Z11_1_0 (.seq Z11_1_1 .ret))⟩
theorem c_Z11_1 : compFn Try.prog [(0, [], []), (1, [], [])] Try.f109 = some F_Z11_1 := by kernel_rfl
theorem a_Z11_1 (hl : args.length = 1) (h : wp Try.prog (.seq Z11_1_0 (.seq Z11_1_1 .ret)) (postQ [.t 2] R) (env0 args) H) : ACall Try.prog n_Z11_1 args H R :=
  acall_of_wp mixed Try.func109 c_Z11_1 (by kernel_rfl) hl h
@[go_sem] def l_Z11_0 : List GOp := [⟨(some 2), .mv (.c (.bool false)), none⟩]
def Z11_0 : IR := .ops l_Z11_0
@[go_sem] theorem w_Z11_0 : wp P Z11_0 Q e H = wpL P l_Z11_0 (Q .normal) e H := idE rfl
@[go_sem] def l_Z11_1 : List GOp := [⟨(some 3), .mv (.t 0), none⟩,
    ⟨(some 4), .call (n_Z33) [(.t 3), (.c (.fn (n_Z11_1) []))], none⟩,
    ⟨(some 5), .un .not (.t 4), none⟩,
    ⟨(some 2), .mv (.t 5), none⟩]
def Z11_1 : IR := .ops l_Z11_1
@[go_sem] theorem w_Z11_1 : wp P Z11_1 Q e H = wpL P l_Z11_1 (Q .normal) e H := idE rfl
def F_Z11 : IFn := ⟨1, 6, [.t 2], (.seq Z11_0 (.seq Z11_1 .ret))⟩
theorem c_Z11 : compFn Try.prog [(0, [], []), (1, [], [])] Try.f78 = some F_Z11 := by kernel_rfl
theorem a_Z11 (hl : args.length = 1) (h : wp Try.prog (.seq Z11_0 (.seq Z11_1 .ret)) (postQ [.t 2] R) (env0 args) H) : ACall Try.prog n_Z11 args H R :=
  acall_of_wp mixed Try.func78 c_Z11 (by kernel_rfl) hl h
@[go_sem] def l_Z20_0 : List GOp := [⟨(some 4), .mv (.c (.bool false)), none⟩]
def Z20_0 : IR := .ops l_Z20_0
@[go_sem] theorem w_Z20_0 : wp P Z20_0 Q e H = wpL P l_Z20_0 (Q .normal) e H := idE rfl
def l_Z20_1 : List GOp := [⟨(some 5), .mv (.t 1), none⟩,
    ⟨(some 6), .mv (.t 0), none⟩,
    ⟨(some 7), .call (n_Z9) [(.t 6)], none⟩,
    ⟨(some 8), .bin .sub (.t 7) (.c (.int .i64 1)), none⟩,
    ⟨(some 9), .iaddr (.t 5) (.t 8) 1, none⟩,
    ⟨(some 10), .load (.t 9) 1 false, none⟩,
    ⟨(some 11), .mv (.t 0), none⟩,
    ⟨(some 12), .bin .gtr (.t 11) (.c (.int .i64 0)), none⟩,
    ⟨(some 13), .call (n_Z10) [(.t 12)], none⟩,
    ⟨(some 14), .bin .eql (.t 10) (.t 13), none⟩,
    ⟨(some 4), .mv (.t 14), none⟩]
@[go_sem] theorem g_Z20_1_0 : gAt l_Z20_1 0 = ⟨(some 5), .mv (.t 1), none⟩ := idE rfl
@[go_sem] theorem g_Z20_1_1 : gAt l_Z20_1 1 = ⟨(some 6), .mv (.t 0), none⟩ := idE rfl
@[go_sem] theorem g_Z20_1_2 : gAt l_Z20_1 2 = ⟨(some 7), .call (n_Z9) [(.t 6)], none⟩ := idE rfl
@[go_sem] theorem g_Z20_1_3 : gAt l_Z20_1 3 = ⟨(some 8), .bin .sub (.t 7) (.c (.int .i64 1)), none⟩ := idE rfl
@[go_sem] theorem g_Z20_1_4 : gAt l_Z20_1 4 = ⟨(some 9), .iaddr (.t 5) (.t 8) 1, none⟩ := idE rfl
@[go_sem] theorem g_Z20_1_5 : gAt l_Z20_1 5 = ⟨(some 10), .load (.t 9) 1 false, none⟩ := idE rfl
@[go_sem] theorem g_Z20_1_6 : gAt l_Z20_1 6 = ⟨(some 11), .mv (.t 0), none⟩ := idE rfl
@[go_sem] theorem g_Z20_1_7 : gAt l_Z20_1 7 = ⟨(some 12), .bin .gtr (.t 11) (.c (.int .i64 0)), none⟩ := idE rfl
@[go_sem] theorem g_Z20_1_8 : gAt l_Z20_1 8 = ⟨(some 13), .call (n_Z10) [(.t 12)], none⟩ := idE rfl
@[go_sem] theorem g_Z20_1_9 : gAt l_Z20_1 9 = ⟨(some 14), .bin .eql (.t 10) (.t 13), none⟩ := idE rfl
@[go_sem] theorem g_Z20_1_10 : gAt l_Z20_1 10 = ⟨(some 4), .mv (.t 14), none⟩ := idE rfl
def Z20_1 : IR := .dops l_Z20_1 [(0, []), (1, []), (6, []), (7, []), (2, []), (3, []), (4, []), (5, []), (8, [5]), (9, []), (10, [])]
@[go_sem] theorem w_Z20_1 : wp P Z20_1 Q e H = wpD P l_Z20_1 [(0, []), (1, []), (6, []), (7, []), (2, []), (3, []), (4, []), (5, []), (8, [5]), (9, []), (10, [])] (Q .normal) e H := idE rfl
def F_Z20 : IFn := ⟨2, 15, [.t 4], (.seq Z20_0 (.seq Z20_1 .ret))⟩
theorem c_Z20 : compFn Try.prog [(0, [], []), (1, [(0, []), (1, []), (6, []), (7, []), (2, []), (3, []), (4, []), (5, []), (8, [5]), (9, []), (10, [])], [])] Try.f112 = some F_Z20 := by kernel_rfl
theorem a_Z20 (hl : args.length = 2) (h : wp Try.prog (.seq Z20_0 (.seq Z20_1 .ret)) (postQ [.t 4] R) (env0 args) H) : ACall Try.prog n_Z20 args H R :=
  acall_of_wp mixed Try.func112 c_Z20 (by kernel_rfl) hl h
@[go_sem] def l_Z23_1_1_0 : List GOp := [⟨(some 3), .mv (.c (.bool false)), none⟩]
def Z23_1_1_0 : IR := .ops l_Z23_1_1_0
@[go_sem] theorem w_Z23_1_1_0 : wp P Z23_1_1_0 Q e H = wpL P l_Z23_1_1_0 (Q .normal) e H := idE rfl
@[go_sem] def l_Z23_1_1_1 : List GOp := [⟨(some 4), .mv (.t 0), none⟩,
    ⟨(some 5), .load (.t 1) 1 false, none⟩,
    ⟨(some 6), .call (n_Z20) [(.t 4), (.t 5)], none⟩,
    ⟨(some 3), .mv (.t 6), none⟩]
def Z23_1_1_1 : IR := .ops l_Z23_1_1_1
@[go_sem] theorem w_Z23_1_1_1 : wp P Z23_1_1_1 Q e H = wpL P l_Z23_1_1_1 (Q .normal) e H := idE rfl
def F_Z23_1_1 : IFn := ⟨2, 7, [.t 3], (.seq Z23_1_1_0 (.seq Z23_1_1_1 .ret))⟩
theorem c_Z23_1_1 : compFn Try.prog [(0, [], []), (1, [], [])] Try.f111 = some F_Z23_1_1 := by kernel_rfl
theorem a_Z23_1_1 (hl : args.length = 2) (h : wp Try.prog (.seq Z23_1_1_0 (.seq Z23_1_1_1 .ret)) (postQ [.t 3] R) (env0 args) H) : ACall Try.prog n_Z23_1_1 args H R :=
  acall_of_wp mixed Try.func111 c_Z23_1_1 (by kernel_rfl) hl h
@[go_sem] def l_Z23_1_0 : List GOp := [⟨(some 3), .mv (.c (.bool false)), none⟩]
def Z23_1_0 : IR := .ops l_Z23_1_0
@[go_sem] theorem w_Z23_1_0 : wp P Z23_1_0 Q e H = wpL P l_Z23_1_0 (Q .normal) e H := idE rfl
@[go_sem] def l_Z23_1_1 : List GOp := [⟨(some 4), .mv (.t 0), none⟩,
    ⟨(some 5), .mkfn (n_Z23_1_1) [(.t 1)], none⟩,
    ⟨(some 6), .call (n_Z33) [(.t 4), (.t 5)], none⟩,
    ⟨(some 7), .un .not (.t 6), none⟩,
    ⟨(some 3), .mv (.t 7), none⟩]
def Z23_1_1 : IR := .ops l_Z23_1_1
@[go_sem] theorem w_Z23_1_1 : wp P Z23_1_1 Q e H = wpL P l_Z23_1_1 (Q .normal) e H := idE rfl
def F_Z23_1 : IFn := ⟨2, 8, [.t 3], (.seq Z23_1_0 (.seq Z23_1_1 .ret))⟩
theorem c_Z23_1 : compFn Try.prog [(0, [], []), (1, [], [])] Try.f110 = some F_Z23_1 := by kernel_rfl
theorem a_Z23_1 (hl : args.length = 2) (h : wp Try.prog (.seq Z23_1_0 (.seq Z23_1_1 .ret)) (postQ [.t 3] R) (env0 args) H) : ACall Try.prog n_Z23_1 args H R :=
  acall_of_wp mixed Try.func110 c_Z23_1 (by kernel_rfl) hl h
@[go_sem] def l_Z23_0 : List GOp := [⟨(some 3), .box (.t 1), none⟩,
    ⟨(some 4), .mv (.c (.bool false)), none⟩]
def Z23_0 : IR := .ops l_Z23_0
@[go_sem] theorem w_Z23_0 : wp P Z23_0 Q e H = wpL P l_Z23_0 (Q .normal) e H := idE rfl
@[go_sem] def l_Z23_1 : List GOp := [⟨(some 5), .mv (.t 0), none⟩,
    ⟨(some 6), .mkfn (n_Z23_1) [(.t 3)], none⟩,
    ⟨(some 7), .call (n_Z32) [(.t 5), (.t 6)], none⟩,
    ⟨(some 8), .un .not (.t 7), none⟩,
    ⟨(some 4), .mv (.t 8), none⟩]
def Z23_1 : IR := .ops l_Z23_1
@[go_sem] theorem w_Z23_1 : wp P Z23_1 Q e H = wpL P l_Z23_1 (Q .normal) e H := idE rfl
def F_Z23 : IFn := ⟨2, 9, [.t 4], (.seq Z23_0 (.seq Z23_1 .ret))⟩
theorem c_Z23 : compFn Try.prog [(0, [], []), (1, [], [])] Try.f79 = some F_Z23 := by kernel_rfl
theorem a_Z23 (hl : args.length = 2) (h : wp Try.prog (.seq Z23_0 (.seq Z23_1 .ret)) (postQ [.t 4] R) (env0 args) H) : ACall Try.prog n_Z23 args H R :=
  acall_of_wp mixed Try.func79 c_Z23 (by kernel_rfl) hl h
@[go_sem] def l_Z8_0 : List GOp := [⟨(some 2), .box (.t 0), none⟩,
    ⟨(some 4), .mv (.c (.bool false)), none⟩]
def Z8_0 : IR := .ops l_Z8_0
@[go_sem] theorem w_Z8_0 : wp P Z8_0 Q e H = wpL P l_Z8_0 (Q .normal) e H := idE rfl
@[go_sem] def l_Z8_1 : List GOp := [⟨(some 5), .load (.t 2) 2 true, none⟩,
    ⟨(some 6), .call (n_Z4) [(.t 5)], none⟩,
    ⟨(some 7), .mv (.t 6), none⟩,
    ⟨(some 8), .mv (.t 1), (some (7, true))⟩,
    ⟨(some 9), .len (.t 8), (some (7, true))⟩,
    ⟨(some 10), .faddr (.t 2) 0, (some (7, true))⟩,
    ⟨(some 11), .load (.t 10) 1 false, (some (7, true))⟩,
    ⟨(some 12), .bin .eql (.t 9) (.t 11), (some (7, true))⟩,
    ⟨(some 13), .pick (.t 7) (.t 12) (.c (.bool false)), none⟩,
    ⟨(some 14), .mv (.t 13), none⟩,
    ⟨(some 15), .mv (.t 1), (some (14, true))⟩,
    ⟨(some 16), .call (n_Z11) [(.t 15)], (some (14, true))⟩,
    ⟨(some 17), .pick (.t 14) (.t 16) (.c (.bool false)), none⟩,
    ⟨(some 18), .mv (.t 17), none⟩,
    ⟨(some 19), .faddr (.t 2) 1, (some (18, true))⟩,
    ⟨(some 20), .load (.t 19) 1 false, (some (18, true))⟩,
    ⟨(some 21), .mv (.t 1), (some (18, true))⟩,
    ⟨(some 22), .call (n_Z23) [(.t 20), (.t 21)], (some (18, true))⟩,
    ⟨(some 23), .pick (.t 18) (.t 22) (.c (.bool false)), none⟩,
    ⟨(some 4), .mv (.t 23), none⟩]
def Z8_1 : IR := .ops l_Z8_1
@[go_sem] theorem w_Z8_1 : wp P Z8_1 Q e H = wpL P l_Z8_1 (Q .normal) e H := idE rfl
def F_Z8 : IFn := ⟨2, 24, [.t 4], (.seq Z8_0 (.seq Z8_1 .ret))⟩
theorem c_Z8 : compFn Try.prog [(0, [], []), (1, [], [])] Try.f42 = some F_Z8 := by kernel_rfl
theorem a_Z8 (hl : args.length = 2) (h : wp Try.prog (.seq Z8_0 (.seq Z8_1 .ret)) (postQ [.t 4] R) (env0 args) H) : ACall Try.prog n_Z8 args H R :=
  acall_of_wp mixed Try.func42 c_Z8 (by kernel_rfl) hl h
@[go_sem] def l_Z16_0 : List GOp := [⟨(some 1), .box (.t 0), none⟩,
    ⟨(some 2), .mv (.c (.bool false)), none⟩]
def Z16_0 : IR := .ops l_Z16_0
@[go_sem] theorem w_Z16_0 : wp P Z16_0 Q e H = wpL P l_Z16_0 (Q .normal) e H := idE rfl
@[go_sem] def l_Z16_1 : List GOp := [⟨(some 3), .load (.t 1) 2 true, none⟩,
    ⟨(some 4), .call (n_Z4) [(.t 3)], none⟩,
    ⟨(some 5), .mv (.t 4), none⟩,
    ⟨(some 6), .faddr (.t 1) 0, (some (5, true))⟩,
    ⟨(some 7), .load (.t 6) 1 false, (some (5, true))⟩,
    ⟨(some 8), .bin .leq (.t 7) (.c (.int .i64 20)), (some (5, true))⟩,
    ⟨(some 9), .pick (.t 5) (.t 8) (.c (.bool false)), none⟩,
    ⟨(some 2), .mv (.t 9), none⟩]
def Z16_1 : IR := .ops l_Z16_1
@[go_sem] theorem w_Z16_1 : wp P Z16_1 Q e H = wpL P l_Z16_1 (Q .normal) e H := idE rfl
def F_Z16 : IFn := ⟨1, 10, [.t 2], (.seq Z16_0 (.seq Z16_1 .ret))⟩
theorem c_Z16 : compFn Try.prog [(0, [], []), (1, [], [])] Try.f75 = some F_Z16 := by kernel_rfl
theorem a_Z16 (hl : args.length = 1) (h : wp Try.prog (.seq Z16_0 (.seq Z16_1 .ret)) (postQ [.t 2] R) (env0 args) H) : ACall Try.prog n_Z16 args H R :=
  acall_of_wp mixed Try.func75 c_Z16 (by kernel_rfl) hl h
@[go_sem] def l_Z5_1_0 : List GOp := [⟨(some 3), .mv (.c (.bool false)), none⟩]
def Z5_1_0 : IR := .ops l_Z5_1_0
@[go_sem] theorem w_Z5_1_0 : wp P Z5_1_0 Q e H = wpL P l_Z5_1_0 (Q .normal) e H := idE rfl
@[go_sem] def l_Z5_1_1 : List GOp := [⟨(some 4), .load (.t 1) 1 false, none⟩,
    ⟨(some 5), .bin .add (.t 4) (.c (.int .i64 1)), none⟩,
    ⟨none, .store (.t 1) 1 (.t 5), none⟩]
def Z5_1_1 : IR := .ops l_Z5_1_1
@[go_sem] theorem w_Z5_1_1 : wp P Z5_1_1 Q e H = wpL P l_Z5_1_1 (Q .normal) e H := idE rfl
@[go_sem] def l_Z5_1_2 : List GOp := [⟨(some 3), .mv (.c (.bool true)), none⟩]
def Z5_1_2 : IR := .ops l_Z5_1_2
@[go_sem] theorem w_Z5_1_2 : wp P Z5_1_2 Q e H = wpL P l_Z5_1_2 (Q .normal) e H := idE rfl
def F_Z5_1 : IFn := ⟨2, 6, [.t 3], (.seq Z5_1_0 (.seq Z5_1_1 (.seq Z5_1_2 .ret)))⟩
theorem c_Z5_1 : compFn Try.prog [(0, [], []), (1, [], []), (2, [], [])] Try.f77 = some F_Z5_1 := by kernel_rfl
theorem a_Z5_1 (hl : args.length = 2) (h : wp Try.prog (.seq Z5_1_0 (.seq Z5_1_1 (.seq Z5_1_2 .ret))) (postQ [.t 3] R) (env0 args) H) : ACall Try.prog n_Z5_1 args H R :=
  acall_of_wp mixed Try.func77 c_Z5_1 (by kernel_rfl) hl h
def l_Z21_0 : List GOp := [⟨(some 14), .mv (.t 1), none⟩,
    ⟨(some 15), .len (.t 14), none⟩,
    ⟨(some 16), .mks [(.int .i64 0)] 8 (.t 15), none⟩,
    ⟨(some 17), .mv (.t 1), none⟩,
    ⟨(some 18), .len (.t 17), none⟩,
    ⟨(some 19), .mks [(.int .i64 0)] 8 (.t 18), none⟩,
    ⟨(some 6), .mv (.t 16), none⟩,
    ⟨(some 7), .mv (.t 19), none⟩]
@[go_sem] theorem g_Z21_0_0 : gAt l_Z21_0 0 = ⟨(some 14), .mv (.t 1), none⟩ := idE rfl
@[go_sem] theorem g_Z21_0_1 : gAt l_Z21_0 1 = ⟨(some 15), .len (.t 14), none⟩ := idE rfl
@[go_sem] theorem g_Z21_0_2 : gAt l_Z21_0 2 = ⟨(some 16), .mks [(.int .i64 0)] 8 (.t 15), none⟩ := idE rfl
@[go_sem] theorem g_Z21_0_3 : gAt l_Z21_0 3 = ⟨(some 17), .mv (.t 1), none⟩ := idE rfl
@[go_sem] theorem g_Z21_0_4 : gAt l_Z21_0 4 = ⟨(some 18), .len (.t 17), none⟩ := idE rfl
@[go_sem] theorem g_Z21_0_5 : gAt l_Z21_0 5 = ⟨(some 19), .mks [(.int .i64 0)] 8 (.t 18), none⟩ := idE rfl
@[go_sem] theorem g_Z21_0_6 : gAt l_Z21_0 6 = ⟨(some 6), .mv (.t 16), none⟩ := idE rfl
@[go_sem] theorem g_Z21_0_7 : gAt l_Z21_0 7 = ⟨(some 7), .mv (.t 19), none⟩ := idE rfl
def Z21_0 : IR := .dops l_Z21_0 [(0, []), (1, []), (3, []), (4, []), (2, []), (6, []), (5, []), (7, [])]
@[go_sem] theorem w_Z21_0 : wp P Z21_0 Q e H = wpD P l_Z21_0 [(0, []), (1, []), (3, []), (4, []), (2, []), (6, []), (5, []), (7, [])] (Q .normal) e H := idE rfl
@[go_sem] def l_Z21_1 : List GOp := [⟨(some 20), .mv (.t 1), none⟩,
    ⟨(some 21), .len (.t 20), none⟩,
    ⟨(some 22), .mv (.c (.int .i64 0)), none⟩]
def Z21_1 : IR := .ops l_Z21_1
@[go_sem] theorem w_Z21_1 : wp P Z21_1 Q e H = wpL P l_Z21_1 (Q .normal) e H := idE rfl
@[go_sem] def l_Z21_2 : List GOp := [⟨(some 23), .bin .lss (.t 22) (.t 21), none⟩]
def Z21_2 : IR := .ops l_Z21_2
@[go_sem] theorem w_Z21_2 : wp P Z21_2 Q e H = wpL P l_Z21_2 (Q .normal) e H := idE rfl
def Z21_3 : IR := .cond (.t 23) .skip (.exit 0)
@[go_sem] theorem w_Z21_3 : wp P Z21_3 Q e H = condW P ((.t 23) : X) .skip (.exit 0) Q e H := idE rfl
@[go_sem] def l_Z21_4 : List GOp := [⟨(some 24), .mv (.t 22), none⟩,
    ⟨(some 25), .iaddr (.t 20) (.t 22) 1, none⟩,
    ⟨(some 26), .load (.t 25) 1 false, none⟩,
    ⟨(some 8), .mv (.t 24), none⟩,
    ⟨(some 9), .mv (.t 26), none⟩]
def Z21_4 : IR := .ops l_Z21_4
@[go_sem] theorem w_Z21_4 : wp P Z21_4 Q e H = wpL P l_Z21_4 (Q .normal) e H := idE rfl
@[go_sem] def l_Z21_5 : List GOp := [⟨(some 27), .mv (.t 9), none⟩,
    ⟨(some 28), .len (.t 27), none⟩,
    ⟨(some 29), .mv (.c (.int .i64 0)), none⟩]
def Z21_5 : IR := .ops l_Z21_5
@[go_sem] theorem w_Z21_5 : wp P Z21_5 Q e H = wpL P l_Z21_5 (Q .normal) e H := idE rfl
@[go_sem] def l_Z21_6 : List GOp := [⟨(some 30), .bin .lss (.t 29) (.t 28), none⟩]
def Z21_6 : IR := .ops l_Z21_6
@[go_sem] theorem w_Z21_6 : wp P Z21_6 Q e H = wpL P l_Z21_6 (Q .normal) e H := idE rfl
def Z21_7 : IR := .cond (.t 30) .skip (.exit 2)
@[go_sem] theorem w_Z21_7 : wp P Z21_7 Q e H = condW P ((.t 30) : X) .skip (.exit 2) Q e H := idE rfl
@[go_sem] def l_Z21_8 : List GOp := [⟨(some 31), .iaddr (.t 27) (.t 29) 1, none⟩,
    ⟨(some 32), .load (.t 31) 1 false, none⟩,
    ⟨(some 11), .mv (.t 32), none⟩]
def Z21_8 : IR := .ops l_Z21_8
@[go_sem] theorem w_Z21_8 : wp P Z21_8 Q e H = wpL P l_Z21_8 (Q .normal) e H := idE rfl
@[go_sem] def l_Z21_9 : List GOp := [⟨(some 33), .mv (.t 11), none⟩,
    ⟨(some 34), .bin .gtr (.t 33) (.c (.int .i64 0)), none⟩]
def Z21_9 : IR := .ops l_Z21_9
@[go_sem] theorem w_Z21_9 : wp P Z21_9 Q e H = wpL P l_Z21_9 (Q .normal) e H := idE rfl
def l_Z21_10 : List GOp := [⟨(some 35), .mv (.t 6), none⟩,
    ⟨(some 36), .mv (.t 8), none⟩,
    ⟨(some 37), .iaddr (.t 35) (.t 36) 1, none⟩,
    ⟨(some 38), .load (.t 37) 1 false, none⟩,
    ⟨(some 39), .mv (.t 11), none⟩,
    ⟨(some 40), .bin .sub (.t 39) (.c (.int .i64 1)), none⟩,
    ⟨(some 41), .bin .shl (.c (.int .i64 1)) (.t 40), none⟩,
    ⟨(some 42), .bin .or (.t 38) (.t 41), none⟩,
    ⟨(some 43), .iaddr (.t 35) (.t 36) 1, none⟩,
    ⟨none, .store (.t 43) 1 (.t 42), none⟩]
@[go_sem] theorem g_Z21_10_0 : gAt l_Z21_10 0 = ⟨(some 35), .mv (.t 6), none⟩ := idE rfl
@[go_sem] theorem g_Z21_10_1 : gAt l_Z21_10 1 = ⟨(some 36), .mv (.t 8), none⟩ := idE rfl
@[go_sem] theorem g_Z21_10_2 : gAt l_Z21_10 2 = ⟨(some 37), .iaddr (.t 35) (.t 36) 1, none⟩ := idE rfl
@[go_sem] theorem g_Z21_10_3 : gAt l_Z21_10 3 = ⟨(some 38), .load (.t 37) 1 false, none⟩ := idE rfl
@[go_sem] theorem g_Z21_10_4 : gAt l_Z21_10 4 = ⟨(some 39), .mv (.t 11), none⟩ := idE rfl
@[go_sem] theorem g_Z21_10_5 : gAt l_Z21_10 5 = ⟨(some 40), .bin .sub (.t 39) (.c (.int .i64 1)), none⟩ := idE rfl
@[go_sem] theorem g_Z21_10_6 : gAt l_Z21_10 6 = ⟨(some 41), .bin .shl (.c (.int .i64 1)) (.t 40), none⟩ := idE rfl
@[go_sem] theorem g_Z21_10_7 : gAt l_Z21_10 7 = ⟨(some 42), .bin .or (.t 38) (.t 41), none⟩ := idE rfl
@[go_sem] theorem g_Z21_10_8 : gAt l_Z21_10 8 = ⟨(some 43), .iaddr (.t 35) (.t 36) 1, none⟩ := idE rfl
@[go_sem] theorem g_Z21_10_9 : gAt l_Z21_10 9 = ⟨none, .store (.t 43) 1 (.t 42), none⟩ := idE rfl
def Z21_10 : IR := .dops l_Z21_10 [(0, []), (1, []), (2, []), (3, []), (4, []), (5, []), (6, []), (7, []), (8, []), (9, [])]
@[go_sem] theorem w_Z21_10 : wp P Z21_10 Q e H = wpD P l_Z21_10 [(0, []), (1, []), (2, []), (3, []), (4, []), (5, []), (6, []), (7, []), (8, []), (9, [])] (Q .normal) e H := idE rfl
def l_Z21_11 : List GOp := [⟨(some 44), .mv (.t 7), none⟩,
    ⟨(some 45), .mv (.t 8), none⟩,
    ⟨(some 46), .iaddr (.t 44) (.t 45) 1, none⟩,
    ⟨(some 47), .load (.t 46) 1 false, none⟩,
    ⟨(some 48), .mv (.t 11), none⟩,
    ⟨(some 49), .un .neg (.t 48), none⟩,
    ⟨(some 50), .bin .sub (.t 49) (.c (.int .i64 1)), none⟩,
    ⟨(some 51), .bin .shl (.c (.int .i64 1)) (.t 50), none⟩,
    ⟨(some 52), .bin .or (.t 47) (.t 51), none⟩,
    ⟨(some 53), .iaddr (.t 44) (.t 45) 1, none⟩,
    ⟨none, .store (.t 53) 1 (.t 52), none⟩]
@[go_sem] theorem g_Z21_11_0 : gAt l_Z21_11 0 = ⟨(some 44), .mv (.t 7), none⟩ := idE rfl
@[go_sem] theorem g_Z21_11_1 : gAt l_Z21_11 1 = ⟨(some 45), .mv (.t 8), none⟩ := idE rfl
@[go_sem] theorem g_Z21_11_2 : gAt l_Z21_11 2 = ⟨(some 46), .iaddr (.t 44) (.t 45) 1, none⟩ := idE rfl
@[go_sem] theorem g_Z21_11_3 : gAt l_Z21_11 3 = ⟨(some 47), .load (.t 46) 1 false, none⟩ := idE rfl
@[go_sem] theorem g_Z21_11_4 : gAt l_Z21_11 4 = ⟨(some 48), .mv (.t 11), none⟩ := idE rfl
@[go_sem] theorem g_Z21_11_5 : gAt l_Z21_11 5 = ⟨(some 49), .un .neg (.t 48), none⟩ := idE rfl
@[go_sem] theorem g_Z21_11_6 : gAt l_Z21_11 6 = ⟨(some 50), .bin .sub (.t 49) (.c (.int .i64 1)), none⟩ := idE rfl
@[go_sem] theorem g_Z21_11_7 : gAt l_Z21_11 7 = ⟨(some 51), .bin .shl (.c (.int .i64 1)) (.t 50), none⟩ := idE rfl
@[go_sem] theorem g_Z21_11_8 : gAt l_Z21_11 8 = ⟨(some 52), .bin .or (.t 47) (.t 51), none⟩ := idE rfl
@[go_sem] theorem g_Z21_11_9 : gAt l_Z21_11 9 = ⟨(some 53), .iaddr (.t 44) (.t 45) 1, none⟩ := idE rfl
@[go_sem] theorem g_Z21_11_10 : gAt l_Z21_11 10 = ⟨none, .store (.t 53) 1 (.t 52), none⟩ := idE rfl
def Z21_11 : IR := .dops l_Z21_11 [(0, []), (1, []), (2, []), (3, []), (4, []), (5, []), (6, []), (7, []), (8, []), (9, []), (10, [])]
@[go_sem] theorem w_Z21_11 : wp P Z21_11 Q e H = wpD P l_Z21_11 [(0, []), (1, []), (2, []), (3, []), (4, []), (5, []), (6, []), (7, []), (8, []), (9, []), (10, [])] (Q .normal) e H := idE rfl
def Z21_12 : IR := .cond (.t 34) Z21_10 Z21_11
@[go_sem] theorem w_Z21_12 : wp P Z21_12 Q e H = condW P ((.t 34) : X) Z21_10 Z21_11 Q e H := idE rfl
def Z21_13 : IR := .block 3 (.seq Z21_8 (.seq Z21_9 Z21_12))
@[go_sem] theorem w_Z21_13 : wp P Z21_13 Q e H = wp P (.seq Z21_8 (.seq Z21_9 Z21_12)) (blockQ 3 Q) e H := idE rfl
@[go_sem] def l_Z21_14 : List GOp := [⟨(some 54), .bin .add (.t 29) (.c (.int .i64 1)), none⟩,
    ⟨(some 29), .mv (.t 54), none⟩]
def Z21_14 : IR := .ops l_Z21_14
@[go_sem] theorem w_Z21_14 : wp P Z21_14 Q e H = wpL P l_Z21_14 (Q .normal) e H := idE rfl
def Z21_15 : IR := .loop (.seq Z21_6 (.seq Z21_7 (.seq Z21_13 Z21_14)))
def Z21_16 : IR := .block 2 Z21_15
@[go_sem] theorem w_Z21_16 : wp P Z21_16 Q e H = wp P Z21_15 (blockQ 2 Q) e H := idE rfl
def Z21_17 : IR := .block 1 (.seq Z21_4 (.seq Z21_5 Z21_16))
@[go_sem] theorem w_Z21_17 : wp P Z21_17 Q e H = wp P (.seq Z21_4 (.seq Z21_5 Z21_16)) (blockQ 1 Q) e H := idE rfl
@[go_sem] def l_Z21_18 : List GOp := [⟨(some 55), .bin .add (.t 22) (.c (.int .i64 1)), none⟩,
    ⟨(some 22), .mv (.t 55), none⟩]
def Z21_18 : IR := .ops l_Z21_18
@[go_sem] theorem w_Z21_18 : wp P Z21_18 Q e H = wpL P l_Z21_18 (Q .normal) e H := idE rfl
def Z21_19 : IR := .loop (.seq Z21_2 (.seq Z21_3 (.seq Z21_17 Z21_18)))
def Z21_20 : IR := .block 0 Z21_19
@[go_sem] theorem w_Z21_20 : wp P Z21_20 Q e H = wp P Z21_19 (blockQ 0 Q) e H := idE rfl
@[go_sem] def l_Z21_21 : List GOp := [⟨(some 56), .mv (.t 0), none⟩,
    ⟨(some 57), .bin .shl (.c (.int .i64 1)) (.t 56), none⟩,
    ⟨(some 58), .mv (.c (.int .i64 0)), none⟩]
def Z21_21 : IR := .ops l_Z21_21
@[go_sem] theorem w_Z21_21 : wp P Z21_21 Q e H = wpL P l_Z21_21 (Q .normal) e H := idE rfl
@[go_sem] def l_Z21_22 : List GOp := [⟨(some 59), .bin .lss (.t 58) (.t 57), none⟩]
def Z21_22 : IR := .ops l_Z21_22
@[go_sem] theorem w_Z21_22 : wp P Z21_22 Q e H = wpL P l_Z21_22 (Q .normal) e H := idE rfl
def Z21_23 : IR := .cond (.t 59) .skip (.exit 4)
@[go_sem] theorem w_Z21_23 : wp P Z21_23 Q e H = condW P ((.t 59) : X) .skip (.exit 4) Q e H := idE rfl
@[go_sem] def l_Z21_24 : List GOp := [⟨(some 60), .mv (.t 58), none⟩,
    ⟨(some 12), .mv (.t 60), none⟩]
def Z21_24 : IR := .ops l_Z21_24
@[go_sem] theorem w_Z21_24 : wp P Z21_24 Q e H = wpL P l_Z21_24 (Q .normal) e H := idE rfl
@[go_sem] def l_Z21_25 : List GOp := [⟨(some 61), .mv (.t 1), none⟩,
    ⟨(some 62), .len (.t 61), none⟩,
    ⟨(some 63), .mv (.c (.int .i64 0)), none⟩]
def Z21_25 : IR := .ops l_Z21_25
@[go_sem] theorem w_Z21_25 : wp P Z21_25 Q e H = wpL P l_Z21_25 (Q .normal) e H := idE rfl
@[go_sem] def l_Z21_26 : List GOp := [⟨(some 64), .bin .lss (.t 63) (.t 62), none⟩]
def Z21_26 : IR := .ops l_Z21_26
@[go_sem] theorem w_Z21_26 : wp P Z21_26 Q e H = wpL P l_Z21_26 (Q .normal) e H := idE rfl
def Z21_27 : IR := .cond (.t 64) .skip (.exit 6)
@[go_sem] theorem w_Z21_27 : wp P Z21_27 Q e H = condW P ((.t 64) : X) .skip (.exit 6) Q e H := idE rfl
@[go_sem] def l_Z21_28 : List GOp := [⟨(some 65), .mv (.t 63), none⟩,
    ⟨(some 13), .mv (.t 65), none⟩]
def Z21_28 : IR := .ops l_Z21_28
@[go_sem] theorem w_Z21_28 : wp P Z21_28 Q e H = wpL P l_Z21_28 (Q .normal) e H := idE rfl
@[go_sem] def l_Z21_29 : List GOp := [⟨(some 66), .mv (.t 12), none⟩,
    ⟨(some 67), .mv (.t 6), none⟩,
    ⟨(some 68), .mv (.t 13), none⟩,
    ⟨(some 69), .iaddr (.t 67) (.t 68) 1, none⟩,
    ⟨(some 70), .load (.t 69) 1 false, none⟩,
    ⟨(some 71), .bin .and (.t 66) (.t 70), none⟩,
    ⟨(some 72), .bin .eql (.t 71) (.c (.int .i64 0)), none⟩,
    ⟨(some 73), .mv (.t 72), none⟩,
    ⟨(some 74), .mv (.t 12), (some (73, true))⟩,
    ⟨(some 75), .un .xor (.t 74), (some (73, true))⟩,
    ⟨(some 76), .mv (.t 7), (some (73, true))⟩,
    ⟨(some 77), .mv (.t 13), (some (73, true))⟩,
    ⟨(some 78), .iaddr (.t 76) (.t 77) 1, (some (73, true))⟩,
    ⟨(some 79), .load (.t 78) 1 false, (some (73, true))⟩,
    ⟨(some 80), .bin .and (.t 75) (.t 79), (some (73, true))⟩,
    ⟨(some 81), .bin .eql (.t 80) (.c (.int .i64 0)), (some (73, true))⟩,
    ⟨(some 82), .pick (.t 73) (.t 81) (.c (.bool false)), none⟩]
def Z21_29 : IR := .ops l_Z21_29
@[go_sem] theorem w_Z21_29 : wp P Z21_29 Q e H = wpL P l_Z21_29 (Q .normal) e H := idE rfl
def Z21_30 : IR := .cond (.t 82) (.exit 5) .skip
@[go_sem] theorem w_Z21_30 : wp P Z21_30 Q e H = condW P ((.t 82) : X) (.exit 5) .skip Q e H := idE rfl
def Z21_31 : IR := .block 7 (.seq Z21_28 (.seq Z21_29 Z21_30))
@[go_sem] theorem w_Z21_31 : wp P Z21_31 Q e H = wp P (.seq Z21_28 (.seq Z21_29 Z21_30)) (blockQ 7 Q) e H := idE rfl
@[go_sem] def l_Z21_32 : List GOp := [⟨(some 83), .bin .add (.t 63) (.c (.int .i64 1)), none⟩,
    ⟨(some 63), .mv (.t 83), none⟩]
def Z21_32 : IR := .ops l_Z21_32
@[go_sem] theorem w_Z21_32 : wp P Z21_32 Q e H = wpL P l_Z21_32 (Q .normal) e H := idE rfl
def Z21_33 : IR := .loop (.seq Z21_26 (.seq Z21_27 (.seq Z21_31 Z21_32)))
def Z21_34 : IR := .block 6 Z21_33
@[go_sem] theorem w_Z21_34 : wp P Z21_34 Q e H = wp P Z21_33 (blockQ 6 Q) e H := idE rfl
@[go_sem] def l_Z21_35 : List GOp := [⟨(some 84), .mv (.t 2), none⟩,
    ⟨(some 85), .mv (.t 12), none⟩,
    ⟨(some 86), .callv (.t 84) [(.t 85)], none⟩,
    ⟨(some 87), .un .not (.t 86), none⟩]
def Z21_35 : IR := .ops l_Z21_35
@[go_sem] theorem w_Z21_35 : wp P Z21_35 Q e H = wpL P l_Z21_35 (Q .normal) e H := idE rfl
def Z21_36 : IR := .cond (.t 87) .ret .skip
@[go_sem] theorem w_Z21_36 : wp P Z21_36 Q e H = condW P ((.t 87) : X) .ret .skip Q e H := idE rfl
def Z21_37 : IR := .block 5 (.seq Z21_24 (.seq (.seq Z21_25 Z21_34) (.seq Z21_35 Z21_36)))
@[go_sem] theorem w_Z21_37 : wp P Z21_37 Q e H = wp P (.seq Z21_24 (.seq (.seq Z21_25 Z21_34) (.seq Z21_35 Z21_36))) (blockQ 5 Q) e H := idE rfl
@[go_sem] def l_Z21_38 : List GOp := [⟨(some 88), .bin .add (.t 58) (.c (.int .i64 1)), none⟩,
    ⟨(some 58), .mv (.t 88), none⟩]
def Z21_38 : IR := .ops l_Z21_38
@[go_sem] theorem w_Z21_38 : wp P Z21_38 Q e H = wpL P l_Z21_38 (Q .normal) e H := idE rfl
def Z21_39 : IR := .loop (.seq Z21_22 (.seq Z21_23 (.seq Z21_37 Z21_38)))
def Z21_40 : IR := .block 4 Z21_39
@[go_sem] theorem w_Z21_40 : wp P Z21_40 Q e H = wp P Z21_39 (blockQ 4 Q) e H := idE rfl
def F_Z21 : IFn := ⟨3, 89, [], (.seq Z21_0 (.seq (.seq Z21_1 Z21_20) (.seq .skip (.seq Z21_21 Z21_40))))⟩
theorem c_Z21 : compFn Try.prog [(0, [(0, []), (1, []), (3, []), (4, []), (2, []), (6, []), (5, []), (7, [])], []), (1, [], []), (2, [], []), (3, [], []), (4, [], []), (5, [], []), (6, [], []), (7, [], []), (8, [(0, []), (1, []), (2, []), (3, []), (4, []), (5, []), (6, []), (7, []), (8, []), (9, [])], []), (9, [(0, []), (1, []), (2, []), (3, []), (4, []), (5, []), (6, []), (7, []), (8, []), (9, []), (10, [])], []), (10, [], []), (11, [], []), (12, [], []), (13, [], []), (14, [], []), (15, [], []), (16, [], []), (17, [], []), (18, [], []), (19, [], []), (20, [], []), (21, [], [])] Try.f76 = some F_Z21 := by kernel_rfl
theorem a_Z21 (hl : args.length = 3) (h : wp Try.prog (.seq Z21_0 (.seq (.seq Z21_1 Z21_20) (.seq .skip (.seq Z21_21 Z21_40)))) (postQ [] R) (env0 args) H) : ACall Try.prog n_Z21 args H R :=
  acall_of_wp mixed Try.func76 c_Z21 (by kernel_rfl) hl h
@[go_sem] def l_Z5_0 : List GOp := [⟨(some 1), .box (.t 0), none⟩,
    ⟨(some 2), .mv (.c (.int .i64 0)), none⟩]
def Z5_0 : IR := .ops l_Z5_0
@[go_sem] theorem w_Z5_0 : wp P Z5_0 Q e H = wpL P l_Z5_0 (Q .normal) e H := idE rfl
@[go_sem] def l_Z5_1 : List GOp := [⟨(some 4), .load (.t 1) 2 true, none⟩,
    ⟨(some 5), .call (n_Z16) [(.t 4)], none⟩,
    ⟨(some 6), .un .not (.t 5), none⟩]
def Z5_1 : IR := .ops l_Z5_1
@[go_sem] theorem w_Z5_1 : wp P Z5_1 Q e H = wpL P l_Z5_1 (Q .normal) e H := idE rfl
@[go_sem] def l_Z5_2 : List GOp := [⟨(some 2), .mv (.c (.int .i64 (-1))), none⟩]
def Z5_2 : IR := .ops l_Z5_2
@[go_sem] theorem w_Z5_2 : wp P Z5_2 Q e H = wpL P l_Z5_2 (Q .normal) e H := idE rfl
def Z5_3 : IR := .cond (.t 6) (.seq Z5_2 .ret) .skip
@[go_sem] theorem w_Z5_3 : wp P Z5_3 Q e H = condW P ((.t 6) : X) (.seq Z5_2 .ret) .skip Q e H := idE rfl
@[go_sem] def l_Z5_4 : List GOp := [⟨(some 3), .alloc [(.int .i64 0)], none⟩,
    ⟨none, .store (.t 3) 1 (.c (.int .i64 0)), none⟩]
def Z5_4 : IR := .ops l_Z5_4
@[go_sem] theorem w_Z5_4 : wp P Z5_4 Q e H = wpL P l_Z5_4 (Q .normal) e H := idE rfl
@[go_sem] def l_Z5_5 : List GOp := [⟨(some 7), .faddr (.t 1) 0, none⟩,
    ⟨(some 8), .load (.t 7) 1 false, none⟩,
    ⟨(some 9), .faddr (.t 1) 1, none⟩,
    ⟨(some 10), .load (.t 9) 1 false, none⟩,
    ⟨(some 11), .mkfn (n_Z5_1) [(.t 3)], none⟩,
    ⟨(some 12), .call (n_Z21) [(.t 8), (.t 10), (.t 11)], none⟩]
def Z5_5 : IR := .ops l_Z5_5
@[go_sem] theorem w_Z5_5 : wp P Z5_5 Q e H = wpL P l_Z5_5 (Q .normal) e H := idE rfl
@[go_sem] def l_Z5_6 : List GOp := [⟨(some 13), .load (.t 3) 1 false, none⟩,
    ⟨(some 2), .mv (.t 13), none⟩]
def Z5_6 : IR := .ops l_Z5_6
@[go_sem] theorem w_Z5_6 : wp P Z5_6 Q e H = wpL P l_Z5_6 (Q .normal) e H := idE rfl
def F_Z5 : IFn := ⟨1, 14, [.t 2], (.seq Z5_0 (.seq (.seq Z5_1 Z5_3) (.seq Z5_4 (.seq Z5_5 (.seq Z5_6 .ret)))))⟩
theorem c_Z5 : compFn Try.prog [(0, [], []), (1, [], []), (2, [], []), (3, [], []), (4, [], []), (5, [], [])] Try.f41 = some F_Z5 := by kernel_rfl
theorem a_Z5 (hl : args.length = 1) (h : wp Try.prog (.seq Z5_0 (.seq (.seq Z5_1 Z5_3) (.seq Z5_4 (.seq Z5_5 (.seq Z5_6 .ret))))) (postQ [.t 2] R) (env0 args) H) : ACall Try.prog n_Z5 args H R :=
  acall_of_wp mixed Try.func41 c_Z5 (by kernel_rfl) hl h
@[go_sem] def l_Z24_0 : List GOp := [⟨(some 2), .mv (.c (.bool false)), none⟩]
def Z24_0 : IR := .ops l_Z24_0
@[go_sem] theorem w_Z24_0 : wp P Z24_0 Q e H = wpL P l_Z24_0 (Q .normal) e H := idE rfl
@[go_sem] def l_Z24_1 : List GOp := [⟨(some 12), .mv (.t 0), none⟩,
    ⟨(some 13), .len (.t 12), none⟩,
    ⟨(some 14), .bin .gtr (.t 13) (.c (.int .i64 1048576)), none⟩]
def Z24_1 : IR := .ops l_Z24_1
@[go_sem] theorem w_Z24_1 : wp P Z24_1 Q e H = wpL P l_Z24_1 (Q .normal) e H := idE rfl
@[go_sem] def l_Z24_2 : List GOp := [⟨(some 2), .mv (.c (.bool true)), none⟩]
def Z24_2 : IR := .ops l_Z24_2
@[go_sem] theorem w_Z24_2 : wp P Z24_2 Q e H = wpL P l_Z24_2 (Q .normal) e H := idE rfl
def Z24_3 : IR := .cond (.t 14) (.seq Z24_2 .ret) .skip
@[go_sem] theorem w_Z24_3 : wp P Z24_3 Q e H = condW P ((.t 14) : X) (.seq Z24_2 .ret) .skip Q e H := idE rfl
@[go_sem] def l_Z24_4 : List GOp := [⟨(some 15), .mv (.t 0), none⟩,
    ⟨(some 16), .call (n_Z54) [(.t 15)], none⟩,
    ⟨(some 3), .alloc [(.int .i64 0), (.sl none 0 0 true 0)], none⟩,
    ⟨none, .store (.t 3) 2 (.t 16), none⟩]
def Z24_4 : IR := .ops l_Z24_4
@[go_sem] theorem w_Z24_4 : wp P Z24_4 Q e H = wpL P l_Z24_4 (Q .normal) e H := idE rfl
@[go_sem] def l_Z24_5 : List GOp := [⟨(some 18), .load (.t 3) 2 true, none⟩,
    ⟨(some 19), .call (n_Z7) [(.t 18)], none⟩,
    ⟨(some 17), .mv (.t 19), none⟩,
    ⟨(some 20), .ext (.t 17) 0, none⟩,
    ⟨(some 21), .ext (.t 17) 1, none⟩,
    ⟨(some 4), .mv (.t 20), none⟩,
    ⟨(some 5), .mv (.t 21), none⟩]
def Z24_5 : IR := .ops l_Z24_5
@[go_sem] theorem w_Z24_5 : wp P Z24_5 Q e H = wpL P l_Z24_5 (Q .normal) e H := idE rfl
@[go_sem] def l_Z24_6 : List GOp := [⟨(some 23), .load (.t 3) 2 true, none⟩,
    ⟨(some 24), .call (n_Z56) [(.t 23)], none⟩,
    ⟨(some 22), .mv (.t 24), none⟩,
    ⟨(some 25), .ext (.t 22) 0, none⟩,
    ⟨(some 26), .ext (.t 22) 1, none⟩,
    ⟨(some 6), .mv (.t 25), none⟩,
    ⟨(some 7), .mv (.t 26), none⟩]
def Z24_6 : IR := .ops l_Z24_6
@[go_sem] theorem w_Z24_6 : wp P Z24_6 Q e H = wpL P l_Z24_6 (Q .normal) e H := idE rfl
@[go_sem] def l_Z24_7 : List GOp := [⟨(some 28), .load (.t 3) 2 true, none⟩,
    ⟨(some 29), .call (n_Z6) [(.t 28)], none⟩,
    ⟨(some 27), .mv (.t 29), none⟩,
    ⟨(some 30), .ext (.t 27) 0, none⟩,
    ⟨(some 31), .ext (.t 27) 1, none⟩,
    ⟨(some 8), .mv (.t 30), none⟩,
    ⟨(some 9), .mv (.t 31), none⟩]
def Z24_7 : IR := .ops l_Z24_7
@[go_sem] theorem w_Z24_7 : wp P Z24_7 Q e H = wpL P l_Z24_7 (Q .normal) e H := idE rfl
@[go_sem] def l_Z24_8 : List GOp := [⟨(some 33), .load (.t 3) 2 true, none⟩,
    ⟨(some 34), .call (n_Z55) [(.t 33)], none⟩,
    ⟨(some 32), .mv (.t 34), none⟩,
    ⟨(some 35), .ext (.t 32) 0, none⟩,
    ⟨(some 36), .ext (.t 32) 1, none⟩,
    ⟨(some 10), .mv (.t 35), none⟩,
    ⟨(some 11), .mv (.t 36), none⟩]
def Z24_8 : IR := .ops l_Z24_8
@[go_sem] theorem w_Z24_8 : wp P Z24_8 Q e H = wpL P l_Z24_8 (Q .normal) e H := idE rfl
def l_Z24_9 : List GOp := [⟨(some 37), .mv (.t 5), none⟩,
    ⟨(some 38), .mv (.t 7), none⟩,
    ⟨(some 39), .beq true (.t 37) (.t 38), none⟩,
    ⟨(some 40), .mv (.t 39), none⟩,
    ⟨(some 41), .mv (.t 4), (some (40, false))⟩,
    ⟨(some 42), .mv (.t 6), (some (40, false))⟩,
    ⟨(some 43), .call (n_Z25) [(.t 41), (.t 42)], (some (40, false))⟩,
    ⟨(some 44), .un .not (.t 43), (some (40, false))⟩,
    ⟨(some 45), .pick (.t 40) (.c (.bool true)) (.t 44), none⟩,
    ⟨(some 46), .mv (.t 45), none⟩,
    ⟨(some 47), .mv (.t 9), (some (46, false))⟩,
    ⟨(some 48), .mv (.t 11), (some (46, false))⟩,
    ⟨(some 49), .beq true (.t 47) (.t 48), (some (46, false))⟩,
    ⟨(some 50), .pick (.t 46) (.c (.bool true)) (.t 49), none⟩,
    ⟨(some 51), .mv (.t 50), none⟩,
    ⟨(some 52), .load (.t 3) 2 true, (some (51, false))⟩,
    ⟨(some 53), .call (n_Z4) [(.t 52)], (some (51, false))⟩,
    ⟨(some 54), .load (.t 3) 2 true, (some (51, false))⟩,
    ⟨(some 55), .call (n_Z53) [(.t 54)], (some (51, false))⟩,
    ⟨(some 56), .beq true (.t 53) (.t 55), (some (51, false))⟩,
    ⟨(some 57), .pick (.t 51) (.c (.bool true)) (.t 56), none⟩]
@[go_sem] theorem g_Z24_9_0 : gAt l_Z24_9 0 = ⟨(some 37), .mv (.t 5), none⟩ := idE rfl
@[go_sem] theorem g_Z24_9_1 : gAt l_Z24_9 1 = ⟨(some 38), .mv (.t 7), none⟩ := idE rfl
@[go_sem] theorem g_Z24_9_2 : gAt l_Z24_9 2 = ⟨(some 39), .beq true (.t 37) (.t 38), none⟩ := idE rfl
@[go_sem] theorem g_Z24_9_3 : gAt l_Z24_9 3 = ⟨(some 40), .mv (.t 39), none⟩ := idE rfl
@[go_sem] theorem g_Z24_9_4 : gAt l_Z24_9 4 = ⟨(some 41), .mv (.t 4), (some (40, false))⟩ := idE rfl
@[go_sem] theorem g_Z24_9_5 : gAt l_Z24_9 5 = ⟨(some 42), .mv (.t 6), (some (40, false))⟩ := idE rfl
@[go_sem] theorem g_Z24_9_6 : gAt l_Z24_9 6 = ⟨(some 43), .call (n_Z25) [(.t 41), (.t 42)], (some (40, false))⟩ := idE rfl
@[go_sem] theorem g_Z24_9_7 : gAt l_Z24_9 7 = ⟨(some 44), .un .not (.t 43), (some (40, false))⟩ := idE rfl
@[go_sem] theorem g_Z24_9_8 : gAt l_Z24_9 8 = ⟨(some 45), .pick (.t 40) (.c (.bool true)) (.t 44), none⟩ := idE rfl
@[go_sem] theorem g_Z24_9_9 : gAt l_Z24_9 9 = ⟨(some 46), .mv (.t 45), none⟩ := idE rfl
@[go_sem] theorem g_Z24_9_10 : gAt l_Z24_9 10 = ⟨(some 47), .mv (.t 9), (some (46, false))⟩ := idE rfl
@[go_sem] theorem g_Z24_9_11 : gAt l_Z24_9 11 = ⟨(some 48), .mv (.t 11), (some (46, false))⟩ := idE rfl
@[go_sem] theorem g_Z24_9_12 : gAt l_Z24_9 12 = ⟨(some 49), .beq true (.t 47) (.t 48), (some (46, false))⟩ := idE rfl
@[go_sem] theorem g_Z24_9_13 : gAt l_Z24_9 13 = ⟨(some 50), .pick (.t 46) (.c (.bool true)) (.t 49), none⟩ := idE rfl
@[go_sem] theorem g_Z24_9_14 : gAt l_Z24_9 14 = ⟨(some 51), .mv (.t 50), none⟩ := idE rfl
@[go_sem] theorem g_Z24_9_15 : gAt l_Z24_9 15 = ⟨(some 52), .load (.t 3) 2 true, (some (51, false))⟩ := idE rfl
@[go_sem] theorem g_Z24_9_16 : gAt l_Z24_9 16 = ⟨(some 53), .call (n_Z4) [(.t 52)], (some (51, false))⟩ := idE rfl
@[go_sem] theorem g_Z24_9_17 : gAt l_Z24_9 17 = ⟨(some 54), .load (.t 3) 2 true, (some (51, false))⟩ := idE rfl
@[go_sem] theorem g_Z24_9_18 : gAt l_Z24_9 18 = ⟨(some 55), .call (n_Z53) [(.t 54)], (some (51, false))⟩ := idE rfl
@[go_sem] theorem g_Z24_9_19 : gAt l_Z24_9 19 = ⟨(some 56), .beq true (.t 53) (.t 55), (some (51, false))⟩ := idE rfl
@[go_sem] theorem g_Z24_9_20 : gAt l_Z24_9 20 = ⟨(some 57), .pick (.t 51) (.c (.bool true)) (.t 56), none⟩ := idE rfl
def Z24_9 : IR := .dops l_Z24_9 [(0, []), (1, []), (2, []), (3, []), (4, []), (5, []), (6, []), (7, []), (8, []), (9, []), (10, []), (11, []), (12, []), (13, []), (14, []), (15, []), (17, []), (16, [17]), (18, []), (19, []), (20, [])]
@[go_sem] theorem w_Z24_9 : wp P Z24_9 Q e H = wpD P l_Z24_9 [(0, []), (1, []), (2, []), (3, []), (4, []), (5, []), (6, []), (7, []), (8, []), (9, []), (10, []), (11, []), (12, []), (13, []), (14, []), (15, []), (17, []), (16, [17]), (18, []), (19, []), (20, [])] (Q .normal) e H := idE rfl
@[go_sem] def l_Z24_10 : List GOp := [⟨(some 2), .mv (.c (.bool false)), none⟩]
def Z24_10 : IR := .ops l_Z24_10
@[go_sem] theorem w_Z24_10 : wp P Z24_10 Q e H = wpL P l_Z24_10 (Q .normal) e H := idE rfl
def Z24_11 : IR := .cond (.t 57) (.seq Z24_10 .ret) .skip
@[go_sem] theorem w_Z24_11 : wp P Z24_11 Q e H = condW P ((.t 57) : X) (.seq Z24_10 .ret) .skip Q e H := idE rfl
@[go_sem] def l_Z24_12 : List GOp := [⟨(some 58), .load (.t 3) 2 true, none⟩,
    ⟨(some 59), .call (n_Z53) [(.t 58)], none⟩,
    ⟨(some 60), .un .not (.t 59), none⟩]
def Z24_12 : IR := .ops l_Z24_12
@[go_sem] theorem w_Z24_12 : wp P Z24_12 Q e H = wpL P l_Z24_12 (Q .normal) e H := idE rfl
@[go_sem] def l_Z24_13 : List GOp := [⟨(some 61), .mv (.t 5), none⟩,
    ⟨(some 62), .un .not (.t 61), none⟩,
    ⟨(some 63), .mv (.t 62), none⟩,
    ⟨(some 64), .mv (.t 9), (some (63, true))⟩,
    ⟨(some 65), .un .not (.t 64), (some (63, true))⟩,
    ⟨(some 66), .pick (.t 63) (.t 65) (.c (.bool false)), none⟩,
    ⟨(some 2), .mv (.t 66), none⟩]
def Z24_13 : IR := .ops l_Z24_13
@[go_sem] theorem w_Z24_13 : wp P Z24_13 Q e H = wpL P l_Z24_13 (Q .normal) e H := idE rfl
def Z24_14 : IR := .cond (.t 60) (.seq Z24_13 .ret) .skip
@[go_sem] theorem w_Z24_14 : wp P Z24_14 Q e H = condW P ((.t 60) : X) (.seq Z24_13 .ret) .skip Q e H := idE rfl
@[go_sem] def l_Z24_15 : List GOp := [⟨(some 67), .mv (.t 5), none⟩]
def Z24_15 : IR := .ops l_Z24_15
@[go_sem] theorem w_Z24_15 : wp P Z24_15 Q e H = wpL P l_Z24_15 (Q .normal) e H := idE rfl
@[go_sem] def l_Z24_16 : List GOp := [⟨(some 68), .mv (.t 9), none⟩,
    ⟨(some 69), .un .not (.t 68), none⟩,
    ⟨(some 70), .mv (.t 69), none⟩,
    ⟨(some 71), .load (.t 3) 2 true, (some (70, true))⟩,
    ⟨(some 72), .mv (.t 4), (some (70, true))⟩,
    ⟨(some 73), .call (n_Z8) [(.t 71), (.t 72)], (some (70, true))⟩,
    ⟨(some 74), .pick (.t 70) (.t 73) (.c (.bool false)), none⟩,
    ⟨(some 75), .mv (.t 74), none⟩,
    ⟨(some 76), .load (.t 3) 2 true, (some (75, true))⟩,
    ⟨(some 77), .call (n_Z5) [(.t 76)], (some (75, true))⟩,
    ⟨(some 78), .bin .gtr (.t 77) (.c (.int .i64 0)), (some (75, true))⟩,
    ⟨(some 79), .pick (.t 75) (.t 78) (.c (.bool false)), none⟩,
    ⟨(some 2), .mv (.t 79), none⟩]
def Z24_16 : IR := .ops l_Z24_16
@[go_sem] theorem w_Z24_16 : wp P Z24_16 Q e H = wpL P l_Z24_16 (Q .normal) e H := idE rfl
def Z24_17 : IR := .cond (.t 67) (.seq Z24_16 .ret) .skip
@[go_sem] theorem w_Z24_17 : wp P Z24_17 Q e H = condW P ((.t 67) : X) (.seq Z24_16 .ret) .skip Q e H := idE rfl
@[go_sem] def l_Z24_18 : List GOp := [⟨(some 80), .mv (.t 9), none⟩,
    ⟨(some 81), .mv (.t 80), none⟩,
    ⟨(some 82), .mv (.t 8), (some (81, true))⟩,
    ⟨(some 83), .len (.t 82), (some (81, true))⟩,
    ⟨(some 84), .bin .gtr (.t 83) (.c (.int .i64 0)), (some (81, true))⟩,
    ⟨(some 85), .pick (.t 81) (.t 84) (.c (.bool false)), none⟩,
    ⟨(some 86), .mv (.t 85), none⟩,
    ⟨(some 87), .mv (.t 8), (some (86, true))⟩,
    ⟨(some 88), .mv (.t 8), (some (86, true))⟩,
    ⟨(some 89), .len (.t 88), (some (86, true))⟩,
    ⟨(some 90), .bin .sub (.t 89) (.c (.int .i64 1)), (some (86, true))⟩,
    ⟨(some 91), .iaddr (.t 87) (.t 90) 1, (some (86, true))⟩,
    ⟨(some 92), .load (.t 91) 1 false, (some (86, true))⟩,
    ⟨(some 93), .len (.t 92), (some (86, true))⟩,
    ⟨(some 94), .bin .eql (.t 93) (.c (.int .i64 0)), (some (86, true))⟩,
    ⟨(some 95), .pick (.t 86) (.t 94) (.c (.bool false)), none⟩,
    ⟨(some 96), .mv (.t 95), none⟩,
    ⟨(some 97), .load (.t 3) 2 true, (some (96, true))⟩,
    ⟨(some 98), .call (n_Z5) [(.t 97)], (some (96, true))⟩,
    ⟨(some 99), .bin .eql (.t 98) (.c (.int .i64 0)), (some (96, true))⟩,
    ⟨(some 100), .pick (.t 96) (.t 99) (.c (.bool false)), none⟩,
    ⟨(some 2), .mv (.t 100), none⟩]
def Z24_18 : IR := .ops l_Z24_18
@[go_sem] theorem w_Z24_18 : wp P Z24_18 Q e H = wpL P l_Z24_18 (Q .normal) e H := idE rfl
def F_Z24 : IFn := ⟨1, 101, [.t 2], (.seq Z24_0 (.seq (.seq Z24_1 Z24_3) (.seq Z24_4 (.seq Z24_5 (.seq Z24_6 (.seq Z24_7 (.seq Z24_8 (.seq (.seq Z24_9 Z24_11) (.seq (.seq Z24_12 Z24_14) (.seq (.seq Z24_15 Z24_17) (.seq Z24_18 .ret)))))))))))⟩
theorem c_Z24 : compFn Try.prog [(0, [], []), (1, [], []), (2, [], []), (3, [], []), (4, [], []), (5, [], []), (6, [], []), (7, [], []), (8, [(0, []), (1, []), (2, []), (3, []), (4, []), (5, []), (6, []), (7, []), (8, []), (9, []), (10, []), (11, []), (12, []), (13, []), (14, []), (15, []), (17, []), (16, [17]), (18, []), (19, []), (20, [])], []), (9, [], []), (10, [], []), (11, [], []), (12, [], []), (13, [], []), (14, [], [])] Try.f9 = some F_Z24 := by kernel_rfl
theorem a_Z24 (hl : args.length = 1) (h : wp Try.prog (.seq Z24_0 (.seq (.seq Z24_1 Z24_3) (.seq Z24_4 (.seq Z24_5 (.seq Z24_6 (.seq Z24_7 (.seq Z24_8 (.seq (.seq Z24_9 Z24_11) (.seq (.seq Z24_12 Z24_14) (.seq (.seq Z24_15 Z24_17) (.seq Z24_18 .ret))))))))))) (postQ [.t 2] R) (env0 args) H) : ACall Try.prog n_Z24 args H R :=
  acall_of_wp mixed Try.func9 c_Z24 (by kernel_rfl) hl h
end Go.M2
