/- The functions, turned for the memory: printed by program. -/
import Derived.Test.YthpjcfjemogbeaaFV3
import Derived.Test.YthpjcfjemogbeaaProg
import Derived.KernelRfl
set_option linter.unusedVariables false
set_option linter.unusedSimpArgs false
set_option maxRecDepth 10000
set_option maxHeartbeats 4000000
namespace Go.M2
open Go.Proofs
variable {P : Program} {Q : Post} {e : Env} {H : Heap} {args : List AV} {R : AV → Heap → Prop}
@[go_sem] def l_Z37_0 : List GOp := [⟨(some 8), .mv (.c (.bool false)), none⟩]
def Z37_0 : IR := .ops l_Z37_0
@[go_sem] theorem w_Z37_0 : wp P Z37_0 Q e H = wpL P l_Z37_0 (Q .normal) e H := idE rfl
@[go_sem] def l_Z37_1 : List GOp := [⟨(some 13), .mv (.t 1), none⟩,
    ⟨(some 14), .bin .add (.t 13) (.c (.int .i64 1)), none⟩,
    ⟨(some 9), .mv (.t 14), none⟩]
def Z37_1 : IR := .ops l_Z37_1
@[go_sem] theorem w_Z37_1 : wp P Z37_1 Q e H = wpL P l_Z37_1 (Q .normal) e H := idE rfl
@[go_sem] def l_Z37_2 : List GOp := [⟨(some 10), .mv (.c (.int .i64 0)), none⟩]
def Z37_2 : IR := .ops l_Z37_2
@[go_sem] theorem w_Z37_2 : wp P Z37_2 Q e H = wpL P l_Z37_2 (Q .normal) e H := idE rfl
@[go_sem] def l_Z37_3 : List GOp := [⟨(some 15), .mv (.t 10), none⟩,
    ⟨(some 16), .bin .lss (.t 15) (.c (.int .i64 5)), none⟩]
def Z37_3 : IR := .ops l_Z37_3
@[go_sem] theorem w_Z37_3 : wp P Z37_3 Q e H = wpL P l_Z37_3 (Q .normal) e H := idE rfl
def Z37_4 : IR := .cond (.t 16) .skip (.exit 0)
@[go_sem] theorem w_Z37_4 : wp P Z37_4 Q e H = condW P ((.t 16) : X) .skip (.exit 0) Q e H := idE rfl
def l_Z37_5 : List GOp := [⟨(some 19), .mv (.t 9), none⟩,
    ⟨(some 20), .mv (.t 2), none⟩,
    ⟨(some 21), .bin .lss (.t 19) (.t 20), none⟩,
    ⟨(some 22), .mv (.t 21), none⟩,
    ⟨(some 23), .mv (.t 3), (some (22, true))⟩,
    ⟨(some 24), .mv (.t 0), (some (22, true))⟩,
    ⟨(some 25), .mv (.t 9), (some (22, true))⟩,
    ⟨(some 26), .iaddr (.t 24) (.t 25) 1, (some (22, true))⟩,
    ⟨(some 27), .load (.t 26) 1 false, (some (22, true))⟩,
    ⟨(some 28), .mv (.t 0), (some (22, true))⟩,
    ⟨(some 29), .mv (.t 9), (some (22, true))⟩,
    ⟨(some 30), .bin .sub (.t 29) (.c (.int .i64 1)), (some (22, true))⟩,
    ⟨(some 31), .iaddr (.t 28) (.t 30) 1, (some (22, true))⟩,
    ⟨(some 32), .load (.t 31) 1 false, (some (22, true))⟩,
    ⟨(some 33), .callv (.t 23) [(.t 27), (.t 32)], (some (22, true))⟩,
    ⟨(some 34), .bin .lss (.t 33) (.c (.int .i64 0)), (some (22, true))⟩,
    ⟨(some 35), .un .not (.t 34), (some (22, true))⟩,
    ⟨(some 36), .pick (.t 22) (.t 35) (.c (.bool false)), none⟩]
@[go_sem] theorem g_Z37_5_0 : gAt l_Z37_5 0 = ⟨(some 19), .mv (.t 9), none⟩ := idE rfl
@[go_sem] theorem g_Z37_5_1 : gAt l_Z37_5 1 = ⟨(some 20), .mv (.t 2), none⟩ := idE rfl
@[go_sem] theorem g_Z37_5_2 : gAt l_Z37_5 2 = ⟨(some 21), .bin .lss (.t 19) (.t 20), none⟩ := idE rfl
@[go_sem] theorem g_Z37_5_3 : gAt l_Z37_5 3 = ⟨(some 22), .mv (.t 21), none⟩ := idE rfl
@[go_sem] theorem g_Z37_5_4 : gAt l_Z37_5 4 = ⟨(some 23), .mv (.t 3), (some (22, true))⟩ := idE rfl
@[go_sem] theorem g_Z37_5_5 : gAt l_Z37_5 5 = ⟨(some 24), .mv (.t 0), (some (22, true))⟩ := idE rfl
@[go_sem] theorem g_Z37_5_6 : gAt l_Z37_5 6 = ⟨(some 25), .mv (.t 9), (some (22, true))⟩ := idE rfl
@[go_sem] theorem g_Z37_5_7 : gAt l_Z37_5 7 = ⟨(some 26), .iaddr (.t 24) (.t 25) 1, (some (22, true))⟩ := idE rfl
@[go_sem] theorem g_Z37_5_8 : gAt l_Z37_5 8 = ⟨(some 27), .load (.t 26) 1 false, (some (22, true))⟩ := idE rfl
@[go_sem] theorem g_Z37_5_9 : gAt l_Z37_5 9 = ⟨(some 28), .mv (.t 0), (some (22, true))⟩ := idE rfl
@[go_sem] theorem g_Z37_5_10 : gAt l_Z37_5 10 = ⟨(some 29), .mv (.t 9), (some (22, true))⟩ := idE rfl
@[go_sem] theorem g_Z37_5_11 : gAt l_Z37_5 11 = ⟨(some 30), .bin .sub (.t 29) (.c (.int .i64 1)), (some (22, true))⟩ := idE rfl
@[go_sem] theorem g_Z37_5_12 : gAt l_Z37_5 12 = ⟨(some 31), .iaddr (.t 28) (.t 30) 1, (some (22, true))⟩ := idE rfl
@[go_sem] theorem g_Z37_5_13 : gAt l_Z37_5 13 = ⟨(some 32), .load (.t 31) 1 false, (some (22, true))⟩ := idE rfl
@[go_sem] theorem g_Z37_5_14 : gAt l_Z37_5 14 = ⟨(some 33), .callv (.t 23) [(.t 27), (.t 32)], (some (22, true))⟩ := idE rfl
@[go_sem] theorem g_Z37_5_15 : gAt l_Z37_5 15 = ⟨(some 34), .bin .lss (.t 33) (.c (.int .i64 0)), (some (22, true))⟩ := idE rfl
@[go_sem] theorem g_Z37_5_16 : gAt l_Z37_5 16 = ⟨(some 35), .un .not (.t 34), (some (22, true))⟩ := idE rfl
@[go_sem] theorem g_Z37_5_17 : gAt l_Z37_5 17 = ⟨(some 36), .pick (.t 22) (.t 35) (.c (.bool false)), none⟩ := idE rfl
def Z37_5 : IR := .dops l_Z37_5 [(0, []), (1, []), (2, []), (3, []), (4, []), (5, []), (6, []), (7, []), (8, []), (9, []), (10, []), (11, []), (12, []), (13, []), (14, []), (15, []), (16, []), (17, [])]
@[go_sem] theorem w_Z37_5 : wp P Z37_5 Q e H = wpD P l_Z37_5 [(0, []), (1, []), (2, []), (3, []), (4, []), (5, []), (6, []), (7, []), (8, []), (9, []), (10, []), (11, []), (12, []), (13, []), (14, []), (15, []), (16, []), (17, [])] (Q .normal) e H := idE rfl
def Z37_6 : IR := .cond (.t 36) .skip (.exit 2)
@[go_sem] theorem w_Z37_6 : wp P Z37_6 Q e H = condW P ((.t 36) : X) .skip (.exit 2) Q e H := idE rfl
@[go_sem] def l_Z37_7 : List GOp := [⟨(some 37), .mv (.t 9), none⟩,
    ⟨(some 38), .bin .add (.t 37) (.c (.int .i64 1)), none⟩,
    ⟨(some 9), .mv (.t 38), none⟩]
def Z37_7 : IR := .ops l_Z37_7
@[go_sem] theorem w_Z37_7 : wp P Z37_7 Q e H = wpL P l_Z37_7 (Q .normal) e H := idE rfl
def Z37_8 : IR := .block 3 Z37_7
@[go_sem] theorem w_Z37_8 : wp P Z37_8 Q e H = wp P Z37_7 (blockQ 3 Q) e H := idE rfl
def Z37_9 : IR := .loop (.seq (.seq Z37_5 Z37_6) Z37_8)
def Z37_10 : IR := .block 2 Z37_9
@[go_sem] theorem w_Z37_10 : wp P Z37_10 Q e H = wp P Z37_9 (blockQ 2 Q) e H := idE rfl
@[go_sem] def l_Z37_11 : List GOp := [⟨(some 39), .mv (.t 9), none⟩,
    ⟨(some 40), .mv (.t 2), none⟩,
    ⟨(some 41), .bin .eql (.t 39) (.t 40), none⟩]
def Z37_11 : IR := .ops l_Z37_11
@[go_sem] theorem w_Z37_11 : wp P Z37_11 Q e H = wpL P l_Z37_11 (Q .normal) e H := idE rfl
@[go_sem] def l_Z37_12 : List GOp := [⟨(some 8), .mv (.c (.bool true)), none⟩]
def Z37_12 : IR := .ops l_Z37_12
@[go_sem] theorem w_Z37_12 : wp P Z37_12 Q e H = wpL P l_Z37_12 (Q .normal) e H := idE rfl
def Z37_13 : IR := .cond (.t 41) (.seq Z37_12 .ret) .skip
@[go_sem] theorem w_Z37_13 : wp P Z37_13 Q e H = condW P ((.t 41) : X) (.seq Z37_12 .ret) .skip Q e H := idE rfl
@[go_sem] def l_Z37_14 : List GOp := [⟨(some 42), .mv (.t 2), none⟩,
    ⟨(some 43), .mv (.t 1), none⟩,
    ⟨(some 44), .bin .sub (.t 42) (.t 43), none⟩,
    ⟨(some 45), .bin .lss (.t 44) (.c (.int .i64 50)), none⟩]
def Z37_14 : IR := .ops l_Z37_14
@[go_sem] theorem w_Z37_14 : wp P Z37_14 Q e H = wpL P l_Z37_14 (Q .normal) e H := idE rfl
@[go_sem] def l_Z37_15 : List GOp := [⟨(some 8), .mv (.c (.bool false)), none⟩]
def Z37_15 : IR := .ops l_Z37_15
@[go_sem] theorem w_Z37_15 : wp P Z37_15 Q e H = wpL P l_Z37_15 (Q .normal) e H := idE rfl
def Z37_16 : IR := .cond (.t 45) (.seq Z37_15 .ret) .skip
@[go_sem] theorem w_Z37_16 : wp P Z37_16 Q e H = condW P ((.t 45) : X) (.seq Z37_15 .ret) .skip Q e H := idE rfl
def l_Z37_17 : List GOp := [⟨(some 46), .mv (.t 0), none⟩,
    ⟨(some 47), .mv (.t 9), none⟩,
    ⟨(some 48), .mv (.t 0), none⟩,
    ⟨(some 49), .mv (.t 9), none⟩,
    ⟨(some 50), .bin .sub (.t 49) (.c (.int .i64 1)), none⟩,
    ⟨(some 51), .mv (.t 0), none⟩,
    ⟨(some 52), .mv (.t 9), none⟩,
    ⟨(some 53), .bin .sub (.t 52) (.c (.int .i64 1)), none⟩,
    ⟨(some 54), .iaddr (.t 51) (.t 53) 1, none⟩,
    ⟨(some 55), .load (.t 54) 1 false, none⟩,
    ⟨(some 56), .mv (.t 0), none⟩,
    ⟨(some 57), .mv (.t 9), none⟩,
    ⟨(some 58), .iaddr (.t 56) (.t 57) 1, none⟩,
    ⟨(some 59), .load (.t 58) 1 false, none⟩,
    ⟨(some 60), .iaddr (.t 46) (.t 47) 1, none⟩,
    ⟨none, .store (.t 60) 1 (.t 55), none⟩,
    ⟨(some 61), .iaddr (.t 48) (.t 50) 1, none⟩,
    ⟨none, .store (.t 61) 1 (.t 59), none⟩]
@[go_sem] theorem g_Z37_17_0 : gAt l_Z37_17 0 = ⟨(some 46), .mv (.t 0), none⟩ := idE rfl
@[go_sem] theorem g_Z37_17_1 : gAt l_Z37_17 1 = ⟨(some 47), .mv (.t 9), none⟩ := idE rfl
@[go_sem] theorem g_Z37_17_2 : gAt l_Z37_17 2 = ⟨(some 48), .mv (.t 0), none⟩ := idE rfl
@[go_sem] theorem g_Z37_17_3 : gAt l_Z37_17 3 = ⟨(some 49), .mv (.t 9), none⟩ := idE rfl
@[go_sem] theorem g_Z37_17_4 : gAt l_Z37_17 4 = ⟨(some 50), .bin .sub (.t 49) (.c (.int .i64 1)), none⟩ := idE rfl
@[go_sem] theorem g_Z37_17_5 : gAt l_Z37_17 5 = ⟨(some 51), .mv (.t 0), none⟩ := idE rfl
@[go_sem] theorem g_Z37_17_6 : gAt l_Z37_17 6 = ⟨(some 52), .mv (.t 9), none⟩ := idE rfl
@[go_sem] theorem g_Z37_17_7 : gAt l_Z37_17 7 = ⟨(some 53), .bin .sub (.t 52) (.c (.int .i64 1)), none⟩ := idE rfl
@[go_sem] theorem g_Z37_17_8 : gAt l_Z37_17 8 = ⟨(some 54), .iaddr (.t 51) (.t 53) 1, none⟩ := idE rfl
@[go_sem] theorem g_Z37_17_9 : gAt l_Z37_17 9 = ⟨(some 55), .load (.t 54) 1 false, none⟩ := idE rfl
@[go_sem] theorem g_Z37_17_10 : gAt l_Z37_17 10 = ⟨(some 56), .mv (.t 0), none⟩ := idE rfl
@[go_sem] theorem g_Z37_17_11 : gAt l_Z37_17 11 = ⟨(some 57), .mv (.t 9), none⟩ := idE rfl
@[go_sem] theorem g_Z37_17_12 : gAt l_Z37_17 12 = ⟨(some 58), .iaddr (.t 56) (.t 57) 1, none⟩ := idE rfl
@[go_sem] theorem g_Z37_17_13 : gAt l_Z37_17 13 = ⟨(some 59), .load (.t 58) 1 false, none⟩ := idE rfl
@[go_sem] theorem g_Z37_17_14 : gAt l_Z37_17 14 = ⟨(some 60), .iaddr (.t 46) (.t 47) 1, none⟩ := idE rfl
@[go_sem] theorem g_Z37_17_15 : gAt l_Z37_17 15 = ⟨none, .store (.t 60) 1 (.t 55), none⟩ := idE rfl
@[go_sem] theorem g_Z37_17_16 : gAt l_Z37_17 16 = ⟨(some 61), .iaddr (.t 48) (.t 50) 1, none⟩ := idE rfl
@[go_sem] theorem g_Z37_17_17 : gAt l_Z37_17 17 = ⟨none, .store (.t 61) 1 (.t 59), none⟩ := idE rfl
def Z37_17 : IR := .dops l_Z37_17 [(0, []), (1, []), (2, []), (3, []), (4, []), (5, []), (6, []), (7, []), (8, []), (9, []), (10, []), (11, []), (12, []), (13, []), (14, []), (15, []), (16, []), (17, [])]
@[go_sem] theorem w_Z37_17 : wp P Z37_17 Q e H = wpD P l_Z37_17 [(0, []), (1, []), (2, []), (3, []), (4, []), (5, []), (6, []), (7, []), (8, []), (9, []), (10, []), (11, []), (12, []), (13, []), (14, []), (15, []), (16, []), (17, [])] (Q .normal) e H := idE rfl
@[go_sem] def l_Z37_18 : List GOp := [⟨(some 62), .mv (.t 9), none⟩,
    ⟨(some 63), .mv (.t 1), none⟩,
    ⟨(some 64), .bin .sub (.t 62) (.t 63), none⟩,
    ⟨(some 65), .bin .geq (.t 64) (.c (.int .i64 2)), none⟩]
def Z37_18 : IR := .ops l_Z37_18
@[go_sem] theorem w_Z37_18 : wp P Z37_18 Q e H = wpL P l_Z37_18 (Q .normal) e H := idE rfl
@[go_sem] def l_Z37_19 : List GOp := [⟨(some 66), .mv (.t 9), none⟩,
    ⟨(some 67), .bin .sub (.t 66) (.c (.int .i64 1)), none⟩,
    ⟨(some 11), .mv (.t 67), none⟩]
def Z37_19 : IR := .ops l_Z37_19
@[go_sem] theorem w_Z37_19 : wp P Z37_19 Q e H = wpL P l_Z37_19 (Q .normal) e H := idE rfl
@[go_sem] def l_Z37_20 : List GOp := [⟨(some 68), .mv (.t 11), none⟩,
    ⟨(some 69), .bin .geq (.t 68) (.c (.int .i64 1)), none⟩]
def Z37_20 : IR := .ops l_Z37_20
@[go_sem] theorem w_Z37_20 : wp P Z37_20 Q e H = wpL P l_Z37_20 (Q .normal) e H := idE rfl
def Z37_21 : IR := .cond (.t 69) .skip (.exit 4)
@[go_sem] theorem w_Z37_21 : wp P Z37_21 Q e H = condW P ((.t 69) : X) .skip (.exit 4) Q e H := idE rfl
def l_Z37_22 : List GOp := [⟨(some 72), .mv (.t 3), none⟩,
    ⟨(some 73), .mv (.t 0), none⟩,
    ⟨(some 74), .mv (.t 11), none⟩,
    ⟨(some 75), .iaddr (.t 73) (.t 74) 1, none⟩,
    ⟨(some 76), .load (.t 75) 1 false, none⟩,
    ⟨(some 77), .mv (.t 0), none⟩,
    ⟨(some 78), .mv (.t 11), none⟩,
    ⟨(some 79), .bin .sub (.t 78) (.c (.int .i64 1)), none⟩,
    ⟨(some 80), .iaddr (.t 77) (.t 79) 1, none⟩,
    ⟨(some 81), .load (.t 80) 1 false, none⟩,
    ⟨(some 82), .callv (.t 72) [(.t 76), (.t 81)], none⟩,
    ⟨(some 83), .bin .lss (.t 82) (.c (.int .i64 0)), none⟩,
    ⟨(some 84), .un .not (.t 83), none⟩]
@[go_sem] theorem g_Z37_22_0 : gAt l_Z37_22 0 = ⟨(some 72), .mv (.t 3), none⟩ := idE rfl
@[go_sem] theorem g_Z37_22_1 : gAt l_Z37_22 1 = ⟨(some 73), .mv (.t 0), none⟩ := idE rfl
@[go_sem] theorem g_Z37_22_2 : gAt l_Z37_22 2 = ⟨(some 74), .mv (.t 11), none⟩ := idE rfl
@[go_sem] theorem g_Z37_22_3 : gAt l_Z37_22 3 = ⟨(some 75), .iaddr (.t 73) (.t 74) 1, none⟩ := idE rfl
@[go_sem] theorem g_Z37_22_4 : gAt l_Z37_22 4 = ⟨(some 76), .load (.t 75) 1 false, none⟩ := idE rfl
@[go_sem] theorem g_Z37_22_5 : gAt l_Z37_22 5 = ⟨(some 77), .mv (.t 0), none⟩ := idE rfl
@[go_sem] theorem g_Z37_22_6 : gAt l_Z37_22 6 = ⟨(some 78), .mv (.t 11), none⟩ := idE rfl
@[go_sem] theorem g_Z37_22_7 : gAt l_Z37_22 7 = ⟨(some 79), .bin .sub (.t 78) (.c (.int .i64 1)), none⟩ := idE rfl
@[go_sem] theorem g_Z37_22_8 : gAt l_Z37_22 8 = ⟨(some 80), .iaddr (.t 77) (.t 79) 1, none⟩ := idE rfl
@[go_sem] theorem g_Z37_22_9 : gAt l_Z37_22 9 = ⟨(some 81), .load (.t 80) 1 false, none⟩ := idE rfl
@[go_sem] theorem g_Z37_22_10 : gAt l_Z37_22 10 = ⟨(some 82), .callv (.t 72) [(.t 76), (.t 81)], none⟩ := idE rfl
@[go_sem] theorem g_Z37_22_11 : gAt l_Z37_22 11 = ⟨(some 83), .bin .lss (.t 82) (.c (.int .i64 0)), none⟩ := idE rfl
@[go_sem] theorem g_Z37_22_12 : gAt l_Z37_22 12 = ⟨(some 84), .un .not (.t 83), none⟩ := idE rfl
def Z37_22 : IR := .dops l_Z37_22 [(0, []), (1, []), (2, []), (3, []), (4, []), (5, []), (6, []), (7, []), (8, []), (9, []), (10, []), (11, []), (12, [])]
@[go_sem] theorem w_Z37_22 : wp P Z37_22 Q e H = wpD P l_Z37_22 [(0, []), (1, []), (2, []), (3, []), (4, []), (5, []), (6, []), (7, []), (8, []), (9, []), (10, []), (11, []), (12, [])] (Q .normal) e H := idE rfl
def Z37_23 : IR := .cond (.t 84) (.exit 4) .skip
@[go_sem] theorem w_Z37_23 : wp P Z37_23 Q e H = condW P ((.t 84) : X) (.exit 4) .skip Q e H := idE rfl
def l_Z37_24 : List GOp := [⟨(some 85), .mv (.t 0), none⟩,
    ⟨(some 86), .mv (.t 11), none⟩,
    ⟨(some 87), .mv (.t 0), none⟩,
    ⟨(some 88), .mv (.t 11), none⟩,
    ⟨(some 89), .bin .sub (.t 88) (.c (.int .i64 1)), none⟩,
    ⟨(some 90), .mv (.t 0), none⟩,
    ⟨(some 91), .mv (.t 11), none⟩,
    ⟨(some 92), .bin .sub (.t 91) (.c (.int .i64 1)), none⟩,
    ⟨(some 93), .iaddr (.t 90) (.t 92) 1, none⟩,
    ⟨(some 94), .load (.t 93) 1 false, none⟩,
    ⟨(some 95), .mv (.t 0), none⟩,
    ⟨(some 96), .mv (.t 11), none⟩,
    ⟨(some 97), .iaddr (.t 95) (.t 96) 1, none⟩,
    ⟨(some 98), .load (.t 97) 1 false, none⟩,
    ⟨(some 99), .iaddr (.t 85) (.t 86) 1, none⟩,
    ⟨none, .store (.t 99) 1 (.t 94), none⟩,
    ⟨(some 100), .iaddr (.t 87) (.t 89) 1, none⟩,
    ⟨none, .store (.t 100) 1 (.t 98), none⟩]
@[go_sem] theorem g_Z37_24_0 : gAt l_Z37_24 0 = ⟨(some 85), .mv (.t 0), none⟩ := idE rfl
@[go_sem] theorem g_Z37_24_1 : gAt l_Z37_24 1 = ⟨(some 86), .mv (.t 11), none⟩ := idE rfl
@[go_sem] theorem g_Z37_24_2 : gAt l_Z37_24 2 = ⟨(some 87), .mv (.t 0), none⟩ := idE rfl
@[go_sem] theorem g_Z37_24_3 : gAt l_Z37_24 3 = ⟨(some 88), .mv (.t 11), none⟩ := idE rfl
@[go_sem] theorem g_Z37_24_4 : gAt l_Z37_24 4 = ⟨(some 89), .bin .sub (.t 88) (.c (.int .i64 1)), none⟩ := idE rfl
@[go_sem] theorem g_Z37_24_5 : gAt l_Z37_24 5 = ⟨(some 90), .mv (.t 0), none⟩ := idE rfl
@[go_sem] theorem g_Z37_24_6 : gAt l_Z37_24 6 = ⟨(some 91), .mv (.t 11), none⟩ := idE rfl
@[go_sem] theorem g_Z37_24_7 : gAt l_Z37_24 7 = ⟨(some 92), .bin .sub (.t 91) (.c (.int .i64 1)), none⟩ := idE rfl
@[go_sem] theorem g_Z37_24_8 : gAt l_Z37_24 8 = ⟨(some 93), .iaddr (.t 90) (.t 92) 1, none⟩ := idE rfl
@[go_sem] theorem g_Z37_24_9 : gAt l_Z37_24 9 = ⟨(some 94), .load (.t 93) 1 false, none⟩ := idE rfl
@[go_sem] theorem g_Z37_24_10 : gAt l_Z37_24 10 = ⟨(some 95), .mv (.t 0), none⟩ := idE rfl
@[go_sem] theorem g_Z37_24_11 : gAt l_Z37_24 11 = ⟨(some 96), .mv (.t 11), none⟩ := idE rfl
@[go_sem] theorem g_Z37_24_12 : gAt l_Z37_24 12 = ⟨(some 97), .iaddr (.t 95) (.t 96) 1, none⟩ := idE rfl
@[go_sem] theorem g_Z37_24_13 : gAt l_Z37_24 13 = ⟨(some 98), .load (.t 97) 1 false, none⟩ := idE rfl
@[go_sem] theorem g_Z37_24_14 : gAt l_Z37_24 14 = ⟨(some 99), .iaddr (.t 85) (.t 86) 1, none⟩ := idE rfl
@[go_sem] theorem g_Z37_24_15 : gAt l_Z37_24 15 = ⟨none, .store (.t 99) 1 (.t 94), none⟩ := idE rfl
@[go_sem] theorem g_Z37_24_16 : gAt l_Z37_24 16 = ⟨(some 100), .iaddr (.t 87) (.t 89) 1, none⟩ := idE rfl
@[go_sem] theorem g_Z37_24_17 : gAt l_Z37_24 17 = ⟨none, .store (.t 100) 1 (.t 98), none⟩ := idE rfl
def Z37_24 : IR := .dops l_Z37_24 [(0, []), (1, []), (2, []), (3, []), (4, []), (5, []), (6, []), (7, []), (8, []), (9, []), (10, []), (11, []), (12, []), (13, []), (14, []), (15, []), (16, []), (17, [])]
@[go_sem] theorem w_Z37_24 : wp P Z37_24 Q e H = wpD P l_Z37_24 [(0, []), (1, []), (2, []), (3, []), (4, []), (5, []), (6, []), (7, []), (8, []), (9, []), (10, []), (11, []), (12, []), (13, []), (14, []), (15, []), (16, []), (17, [])] (Q .normal) e H := idE rfl
def Z37_25 : IR := .block 5 (.seq (.seq Z37_22 Z37_23) Z37_24)
@[go_sem] theorem w_Z37_25 : wp P Z37_25 Q e H = wp P (.seq (.seq Z37_22 Z37_23) Z37_24) (blockQ 5 Q) e H := idE rfl
@[go_sem] def l_Z37_26 : List GOp := [⟨(some 70), .mv (.t 11), none⟩,
    ⟨(some 71), .bin .sub (.t 70) (.c (.int .i64 1)), none⟩,
    ⟨(some 11), .mv (.t 71), none⟩]
def Z37_26 : IR := .ops l_Z37_26
@[go_sem] theorem w_Z37_26 : wp P Z37_26 Q e H = wpL P l_Z37_26 (Q .normal) e H := idE rfl
def Z37_27 : IR := .loop (.seq (.seq Z37_20 Z37_21) (.seq Z37_25 Z37_26))
def Z37_28 : IR := .block 4 Z37_27
@[go_sem] theorem w_Z37_28 : wp P Z37_28 Q e H = wp P Z37_27 (blockQ 4 Q) e H := idE rfl
def Z37_29 : IR := .cond (.t 65) (.seq Z37_19 Z37_28) .skip
@[go_sem] theorem w_Z37_29 : wp P Z37_29 Q e H = condW P ((.t 65) : X) (.seq Z37_19 Z37_28) .skip Q e H := idE rfl
@[go_sem] def l_Z37_30 : List GOp := [⟨(some 101), .mv (.t 2), none⟩,
    ⟨(some 102), .mv (.t 9), none⟩,
    ⟨(some 103), .bin .sub (.t 101) (.t 102), none⟩,
    ⟨(some 104), .bin .geq (.t 103) (.c (.int .i64 2)), none⟩]
def Z37_30 : IR := .ops l_Z37_30
@[go_sem] theorem w_Z37_30 : wp P Z37_30 Q e H = wpL P l_Z37_30 (Q .normal) e H := idE rfl
@[go_sem] def l_Z37_31 : List GOp := [⟨(some 105), .mv (.t 9), none⟩,
    ⟨(some 106), .bin .add (.t 105) (.c (.int .i64 1)), none⟩,
    ⟨(some 12), .mv (.t 106), none⟩]
def Z37_31 : IR := .ops l_Z37_31
@[go_sem] theorem w_Z37_31 : wp P Z37_31 Q e H = wpL P l_Z37_31 (Q .normal) e H := idE rfl
@[go_sem] def l_Z37_32 : List GOp := [⟨(some 107), .mv (.t 12), none⟩,
    ⟨(some 108), .mv (.t 2), none⟩,
    ⟨(some 109), .bin .lss (.t 107) (.t 108), none⟩]
def Z37_32 : IR := .ops l_Z37_32
@[go_sem] theorem w_Z37_32 : wp P Z37_32 Q e H = wpL P l_Z37_32 (Q .normal) e H := idE rfl
def Z37_33 : IR := .cond (.t 109) .skip (.exit 6)
@[go_sem] theorem w_Z37_33 : wp P Z37_33 Q e H = condW P ((.t 109) : X) .skip (.exit 6) Q e H := idE rfl
def l_Z37_34 : List GOp := [⟨(some 112), .mv (.t 3), none⟩,
    ⟨(some 113), .mv (.t 0), none⟩,
    ⟨(some 114), .mv (.t 12), none⟩,
    ⟨(some 115), .iaddr (.t 113) (.t 114) 1, none⟩,
    ⟨(some 116), .load (.t 115) 1 false, none⟩,
    ⟨(some 117), .mv (.t 0), none⟩,
    ⟨(some 118), .mv (.t 12), none⟩,
    ⟨(some 119), .bin .sub (.t 118) (.c (.int .i64 1)), none⟩,
    ⟨(some 120), .iaddr (.t 117) (.t 119) 1, none⟩,
    ⟨(some 121), .load (.t 120) 1 false, none⟩,
    ⟨(some 122), .callv (.t 112) [(.t 116), (.t 121)], none⟩,
    ⟨(some 123), .bin .lss (.t 122) (.c (.int .i64 0)), none⟩,
    ⟨(some 124), .un .not (.t 123), none⟩]
@[go_sem] theorem g_Z37_34_0 : gAt l_Z37_34 0 = ⟨(some 112), .mv (.t 3), none⟩ := idE rfl
@[go_sem] theorem g_Z37_34_1 : gAt l_Z37_34 1 = ⟨(some 113), .mv (.t 0), none⟩ := idE rfl
@[go_sem] theorem g_Z37_34_2 : gAt l_Z37_34 2 = ⟨(some 114), .mv (.t 12), none⟩ := idE rfl
@[go_sem] theorem g_Z37_34_3 : gAt l_Z37_34 3 = ⟨(some 115), .iaddr (.t 113) (.t 114) 1, none⟩ := idE rfl
@[go_sem] theorem g_Z37_34_4 : gAt l_Z37_34 4 = ⟨(some 116), .load (.t 115) 1 false, none⟩ := idE rfl
@[go_sem] theorem g_Z37_34_5 : gAt l_Z37_34 5 = ⟨(some 117), .mv (.t 0), none⟩ := idE rfl
@[go_sem] theorem g_Z37_34_6 : gAt l_Z37_34 6 = ⟨(some 118), .mv (.t 12), none⟩ := idE rfl
@[go_sem] theorem g_Z37_34_7 : gAt l_Z37_34 7 = ⟨(some 119), .bin .sub (.t 118) (.c (.int .i64 1)), none⟩ := idE rfl
@[go_sem] theorem g_Z37_34_8 : gAt l_Z37_34 8 = ⟨(some 120), .iaddr (.t 117) (.t 119) 1, none⟩ := idE rfl
@[go_sem] theorem g_Z37_34_9 : gAt l_Z37_34 9 = ⟨(some 121), .load (.t 120) 1 false, none⟩ := idE rfl
@[go_sem] theorem g_Z37_34_10 : gAt l_Z37_34 10 = ⟨(some 122), .callv (.t 112) [(.t 116), (.t 121)], none⟩ := idE rfl
@[go_sem] theorem g_Z37_34_11 : gAt l_Z37_34 11 = ⟨(some 123), .bin .lss (.t 122) (.c (.int .i64 0)), none⟩ := idE rfl
@[go_sem] theorem g_Z37_34_12 : gAt l_Z37_34 12 = ⟨(some 124), .un .not (.t 123), none⟩ := idE rfl
def Z37_34 : IR := .dops l_Z37_34 [(0, []), (1, []), (2, []), (3, []), (4, []), (5, []), (6, []), (7, []), (8, []), (9, []), (10, []), (11, []), (12, [])]
@[go_sem] theorem w_Z37_34 : wp P Z37_34 Q e H = wpD P l_Z37_34 [(0, []), (1, []), (2, []), (3, []), (4, []), (5, []), (6, []), (7, []), (8, []), (9, []), (10, []), (11, []), (12, [])] (Q .normal) e H := idE rfl
def Z37_35 : IR := .cond (.t 124) (.exit 6) .skip
@[go_sem] theorem w_Z37_35 : wp P Z37_35 Q e H = condW P ((.t 124) : X) (.exit 6) .skip Q e H := idE rfl
def l_Z37_36 : List GOp := [⟨(some 125), .mv (.t 0), none⟩,
    ⟨(some 126), .mv (.t 12), none⟩,
    ⟨(some 127), .mv (.t 0), none⟩,
    ⟨(some 128), .mv (.t 12), none⟩,
    ⟨(some 129), .bin .sub (.t 128) (.c (.int .i64 1)), none⟩,
    ⟨(some 130), .mv (.t 0), none⟩,
    ⟨(some 131), .mv (.t 12), none⟩,
    ⟨(some 132), .bin .sub (.t 131) (.c (.int .i64 1)), none⟩,
    ⟨(some 133), .iaddr (.t 130) (.t 132) 1, none⟩,
    ⟨(some 134), .load (.t 133) 1 false, none⟩,
    ⟨(some 135), .mv (.t 0), none⟩,
    ⟨(some 136), .mv (.t 12), none⟩,
    ⟨(some 137), .iaddr (.t 135) (.t 136) 1, none⟩,
    ⟨(some 138), .load (.t 137) 1 false, none⟩,
    ⟨(some 139), .iaddr (.t 125) (.t 126) 1, none⟩,
    ⟨none, .store (.t 139) 1 (.t 134), none⟩,
    ⟨(some 140), .iaddr (.t 127) (.t 129) 1, none⟩,
    ⟨none, .store (.t 140) 1 (.t 138), none⟩]
@[go_sem] theorem g_Z37_36_0 : gAt l_Z37_36 0 = ⟨(some 125), .mv (.t 0), none⟩ := idE rfl
@[go_sem] theorem g_Z37_36_1 : gAt l_Z37_36 1 = ⟨(some 126), .mv (.t 12), none⟩ := idE rfl
@[go_sem] theorem g_Z37_36_2 : gAt l_Z37_36 2 = ⟨(some 127), .mv (.t 0), none⟩ := idE rfl
@[go_sem] theorem g_Z37_36_3 : gAt l_Z37_36 3 = ⟨(some 128), .mv (.t 12), none⟩ := idE rfl
@[go_sem] theorem g_Z37_36_4 : gAt l_Z37_36 4 = ⟨(some 129), .bin .sub (.t 128) (.c (.int .i64 1)), none⟩ := idE rfl
@[go_sem] theorem g_Z37_36_5 : gAt l_Z37_36 5 = ⟨(some 130), .mv (.t 0), none⟩ := idE rfl
@[go_sem] theorem g_Z37_36_6 : gAt l_Z37_36 6 = ⟨(some 131), .mv (.t 12), none⟩ := idE rfl
@[go_sem] theorem g_Z37_36_7 : gAt l_Z37_36 7 = ⟨(some 132), .bin .sub (.t 131) (.c (.int .i64 1)), none⟩ := idE rfl
@[go_sem] theorem g_Z37_36_8 : gAt l_Z37_36 8 = ⟨(some 133), .iaddr (.t 130) (.t 132) 1, none⟩ := idE rfl
@[go_sem] theorem g_Z37_36_9 : gAt l_Z37_36 9 = ⟨(some 134), .load (.t 133) 1 false, none⟩ := idE rfl
@[go_sem] theorem g_Z37_36_10 : gAt l_Z37_36 10 = ⟨(some 135), .mv (.t 0), none⟩ := idE rfl
@[go_sem] theorem g_Z37_36_11 : gAt l_Z37_36 11 = ⟨(some 136), .mv (.t 12), none⟩ := idE rfl
@[go_sem] theorem g_Z37_36_12 : gAt l_Z37_36 12 = ⟨(some 137), .iaddr (.t 135) (.t 136) 1, none⟩ := idE rfl
@[go_sem] theorem g_Z37_36_13 : gAt l_Z37_36 13 = ⟨(some 138), .load (.t 137) 1 false, none⟩ := idE rfl
@[go_sem] theorem g_Z37_36_14 : gAt l_Z37_36 14 = ⟨(some 139), .iaddr (.t 125) (.t 126) 1, none⟩ := idE rfl
@[go_sem] theorem g_Z37_36_15 : gAt l_Z37_36 15 = ⟨none, .store (.t 139) 1 (.t 134), none⟩ := idE rfl
@[go_sem] theorem g_Z37_36_16 : gAt l_Z37_36 16 = ⟨(some 140), .iaddr (.t 127) (.t 129) 1, none⟩ := idE rfl
@[go_sem] theorem g_Z37_36_17 : gAt l_Z37_36 17 = ⟨none, .store (.t 140) 1 (.t 138), none⟩ := idE rfl
def Z37_36 : IR := .dops l_Z37_36 [(0, []), (1, []), (2, []), (3, []), (4, []), (5, []), (6, []), (7, []), (8, []), (9, []), (10, []), (11, []), (12, []), (13, []), (14, []), (15, []), (16, []), (17, [])]
@[go_sem] theorem w_Z37_36 : wp P Z37_36 Q e H = wpD P l_Z37_36 [(0, []), (1, []), (2, []), (3, []), (4, []), (5, []), (6, []), (7, []), (8, []), (9, []), (10, []), (11, []), (12, []), (13, []), (14, []), (15, []), (16, []), (17, [])] (Q .normal) e H := idE rfl
def Z37_37 : IR := .block 7 (.seq (.seq Z37_34 Z37_35) Z37_36)
@[go_sem] theorem w_Z37_37 : wp P Z37_37 Q e H = wp P (.seq (.seq Z37_34 Z37_35) Z37_36) (blockQ 7 Q) e H := idE rfl
@[go_sem] def l_Z37_38 : List GOp := [⟨(some 110), .mv (.t 12), none⟩,
    ⟨(some 111), .bin .add (.t 110) (.c (.int .i64 1)), none⟩,
    ⟨(some 12), .mv (.t 111), none⟩]
def Z37_38 : IR := .ops l_Z37_38
@[go_sem] theorem w_Z37_38 : wp P Z37_38 Q e H = wpL P l_Z37_38 (Q .normal) e H := idE rfl
def Z37_39 : IR := .loop (.seq (.seq Z37_32 Z37_33) (.seq Z37_37 Z37_38))
def Z37_40 : IR := .block 6 Z37_39
@[go_sem] theorem w_Z37_40 : wp P Z37_40 Q e H = wp P Z37_39 (blockQ 6 Q) e H := idE rfl
def Z37_41 : IR := .cond (.t 104) (.seq Z37_31 Z37_40) .skip
@[go_sem] theorem w_Z37_41 : wp P Z37_41 Q e H = condW P ((.t 104) : X) (.seq Z37_31 Z37_40) .skip Q e H := idE rfl
def Z37_42 : IR := .block 1 (.seq Z37_10 (.seq (.seq Z37_11 Z37_13) (.seq (.seq Z37_14 Z37_16) (.seq Z37_17 (.seq (.seq Z37_18 Z37_29) (.seq Z37_30 Z37_41))))))
@[go_sem] theorem w_Z37_42 : wp P Z37_42 Q e H = wp P (.seq Z37_10 (.seq (.seq Z37_11 Z37_13) (.seq (.seq Z37_14 Z37_16) (.seq Z37_17 (.seq (.seq Z37_18 Z37_29) (.seq Z37_30 Z37_41)))))) (blockQ 1 Q) e H := idE rfl
@[go_sem] def l_Z37_43 : List GOp := [⟨(some 17), .mv (.t 10), none⟩,
    ⟨(some 18), .bin .add (.t 17) (.c (.int .i64 1)), none⟩,
    ⟨(some 10), .mv (.t 18), none⟩]
def Z37_43 : IR := .ops l_Z37_43
@[go_sem] theorem w_Z37_43 : wp P Z37_43 Q e H = wpL P l_Z37_43 (Q .normal) e H := idE rfl
def Z37_44 : IR := .loop (.seq (.seq Z37_3 Z37_4) (.seq Z37_42 Z37_43))
def Z37_45 : IR := .block 0 Z37_44
@[go_sem] theorem w_Z37_45 : wp P Z37_45 Q e H = wp P Z37_44 (blockQ 0 Q) e H := idE rfl
@[go_sem] def l_Z37_46 : List GOp := [⟨(some 8), .mv (.c (.bool false)), none⟩]
def Z37_46 : IR := .ops l_Z37_46
@[go_sem] theorem w_Z37_46 : wp P Z37_46 Q e H = wpL P l_Z37_46 (Q .normal) e H := idE rfl
@[go_sem] def l_Z39_0 : List GOp := [⟨(some 10), .mv (.c (.int .i64 0)), none⟩]
def Z39_0 : IR := .ops l_Z39_0
@[go_sem] theorem w_Z39_0 : wp P Z39_0 Q e H = wpL P l_Z39_0 (Q .normal) e H := idE rfl
def l_Z39_1 : List GOp := [⟨(some 13), .mv (.t 0), none⟩,
    ⟨(some 14), .mv (.t 1), none⟩,
    ⟨(some 15), .mv (.t 0), none⟩,
    ⟨(some 16), .mv (.t 3), none⟩,
    ⟨(some 17), .mv (.t 0), none⟩,
    ⟨(some 18), .mv (.t 3), none⟩,
    ⟨(some 19), .iaddr (.t 17) (.t 18) 1, none⟩,
    ⟨(some 20), .load (.t 19) 1 false, none⟩,
    ⟨(some 21), .mv (.t 0), none⟩,
    ⟨(some 22), .mv (.t 1), none⟩,
    ⟨(some 23), .iaddr (.t 21) (.t 22) 1, none⟩,
    ⟨(some 24), .load (.t 23) 1 false, none⟩,
    ⟨(some 25), .iaddr (.t 13) (.t 14) 1, none⟩,
    ⟨none, .store (.t 25) 1 (.t 20), none⟩,
    ⟨(some 26), .iaddr (.t 15) (.t 16) 1, none⟩,
    ⟨none, .store (.t 26) 1 (.t 24), none⟩]
@[go_sem] theorem g_Z39_1_0 : gAt l_Z39_1 0 = ⟨(some 13), .mv (.t 0), none⟩ := idE rfl
@[go_sem] theorem g_Z39_1_1 : gAt l_Z39_1 1 = ⟨(some 14), .mv (.t 1), none⟩ := idE rfl
@[go_sem] theorem g_Z39_1_2 : gAt l_Z39_1 2 = ⟨(some 15), .mv (.t 0), none⟩ := idE rfl
@[go_sem] theorem g_Z39_1_3 : gAt l_Z39_1 3 = ⟨(some 16), .mv (.t 3), none⟩ := idE rfl
@[go_sem] theorem g_Z39_1_4 : gAt l_Z39_1 4 = ⟨(some 17), .mv (.t 0), none⟩ := idE rfl
@[go_sem] theorem g_Z39_1_5 : gAt l_Z39_1 5 = ⟨(some 18), .mv (.t 3), none⟩ := idE rfl
@[go_sem] theorem g_Z39_1_6 : gAt l_Z39_1 6 = ⟨(some 19), .iaddr (.t 17) (.t 18) 1, none⟩ := idE rfl
@[go_sem] theorem g_Z39_1_7 : gAt l_Z39_1 7 = ⟨(some 20), .load (.t 19) 1 false, none⟩ := idE rfl
@[go_sem] theorem g_Z39_1_8 : gAt l_Z39_1 8 = ⟨(some 21), .mv (.t 0), none⟩ := idE rfl
@[go_sem] theorem g_Z39_1_9 : gAt l_Z39_1 9 = ⟨(some 22), .mv (.t 1), none⟩ := idE rfl
@[go_sem] theorem g_Z39_1_10 : gAt l_Z39_1 10 = ⟨(some 23), .iaddr (.t 21) (.t 22) 1, none⟩ := idE rfl
@[go_sem] theorem g_Z39_1_11 : gAt l_Z39_1 11 = ⟨(some 24), .load (.t 23) 1 false, none⟩ := idE rfl
@[go_sem] theorem g_Z39_1_12 : gAt l_Z39_1 12 = ⟨(some 25), .iaddr (.t 13) (.t 14) 1, none⟩ := idE rfl
@[go_sem] theorem g_Z39_1_13 : gAt l_Z39_1 13 = ⟨none, .store (.t 25) 1 (.t 20), none⟩ := idE rfl
@[go_sem] theorem g_Z39_1_14 : gAt l_Z39_1 14 = ⟨(some 26), .iaddr (.t 15) (.t 16) 1, none⟩ := idE rfl
@[go_sem] theorem g_Z39_1_15 : gAt l_Z39_1 15 = ⟨none, .store (.t 26) 1 (.t 24), none⟩ := idE rfl
def Z39_1 : IR := .dops l_Z39_1 [(0, []), (1, []), (2, []), (3, []), (4, []), (5, []), (6, []), (7, []), (8, []), (9, []), (10, []), (11, []), (12, []), (13, []), (14, []), (15, [])]
@[go_sem] theorem w_Z39_1 : wp P Z39_1 Q e H = wpD P l_Z39_1 [(0, []), (1, []), (2, []), (3, []), (4, []), (5, []), (6, []), (7, []), (8, []), (9, []), (10, []), (11, []), (12, []), (13, []), (14, []), (15, [])] (Q .normal) e H := idE rfl
@[go_sem] def l_Z39_2 : List GOp := [⟨(some 27), .mv (.t 1), none⟩,
    ⟨(some 28), .bin .add (.t 27) (.c (.int .i64 1)), none⟩,
    ⟨(some 29), .mv (.t 2), none⟩,
    ⟨(some 30), .bin .sub (.t 29) (.c (.int .i64 1)), none⟩,
    ⟨(some 11), .mv (.t 28), none⟩,
    ⟨(some 12), .mv (.t 30), none⟩]
def Z39_2 : IR := .ops l_Z39_2
@[go_sem] theorem w_Z39_2 : wp P Z39_2 Q e H = wpL P l_Z39_2 (Q .normal) e H := idE rfl
def l_Z39_3 : List GOp := [⟨(some 31), .mv (.t 11), none⟩,
    ⟨(some 32), .mv (.t 12), none⟩,
    ⟨(some 33), .bin .leq (.t 31) (.t 32), none⟩,
    ⟨(some 34), .mv (.t 33), none⟩,
    ⟨(some 35), .mv (.t 4), (some (34, true))⟩,
    ⟨(some 36), .mv (.t 0), (some (34, true))⟩,
    ⟨(some 37), .mv (.t 1), (some (34, true))⟩,
    ⟨(some 38), .iaddr (.t 36) (.t 37) 1, (some (34, true))⟩,
    ⟨(some 39), .load (.t 38) 1 false, (some (34, true))⟩,
    ⟨(some 40), .mv (.t 0), (some (34, true))⟩,
    ⟨(some 41), .mv (.t 11), (some (34, true))⟩,
    ⟨(some 42), .iaddr (.t 40) (.t 41) 1, (some (34, true))⟩,
    ⟨(some 43), .load (.t 42) 1 false, (some (34, true))⟩,
    ⟨(some 44), .callv (.t 35) [(.t 39), (.t 43)], (some (34, true))⟩,
    ⟨(some 45), .bin .lss (.t 44) (.c (.int .i64 0)), (some (34, true))⟩,
    ⟨(some 46), .un .not (.t 45), (some (34, true))⟩,
    ⟨(some 47), .pick (.t 34) (.t 46) (.c (.bool false)), none⟩]
@[go_sem] theorem g_Z39_3_0 : gAt l_Z39_3 0 = ⟨(some 31), .mv (.t 11), none⟩ := idE rfl
@[go_sem] theorem g_Z39_3_1 : gAt l_Z39_3 1 = ⟨(some 32), .mv (.t 12), none⟩ := idE rfl
@[go_sem] theorem g_Z39_3_2 : gAt l_Z39_3 2 = ⟨(some 33), .bin .leq (.t 31) (.t 32), none⟩ := idE rfl
@[go_sem] theorem g_Z39_3_3 : gAt l_Z39_3 3 = ⟨(some 34), .mv (.t 33), none⟩ := idE rfl
@[go_sem] theorem g_Z39_3_4 : gAt l_Z39_3 4 = ⟨(some 35), .mv (.t 4), (some (34, true))⟩ := idE rfl
@[go_sem] theorem g_Z39_3_5 : gAt l_Z39_3 5 = ⟨(some 36), .mv (.t 0), (some (34, true))⟩ := idE rfl
@[go_sem] theorem g_Z39_3_6 : gAt l_Z39_3 6 = ⟨(some 37), .mv (.t 1), (some (34, true))⟩ := idE rfl
@[go_sem] theorem g_Z39_3_7 : gAt l_Z39_3 7 = ⟨(some 38), .iaddr (.t 36) (.t 37) 1, (some (34, true))⟩ := idE rfl
@[go_sem] theorem g_Z39_3_8 : gAt l_Z39_3 8 = ⟨(some 39), .load (.t 38) 1 false, (some (34, true))⟩ := idE rfl
@[go_sem] theorem g_Z39_3_9 : gAt l_Z39_3 9 = ⟨(some 40), .mv (.t 0), (some (34, true))⟩ := idE rfl
@[go_sem] theorem g_Z39_3_10 : gAt l_Z39_3 10 = ⟨(some 41), .mv (.t 11), (some (34, true))⟩ := idE rfl
@[go_sem] theorem g_Z39_3_11 : gAt l_Z39_3 11 = ⟨(some 42), .iaddr (.t 40) (.t 41) 1, (some (34, true))⟩ := idE rfl
@[go_sem] theorem g_Z39_3_12 : gAt l_Z39_3 12 = ⟨(some 43), .load (.t 42) 1 false, (some (34, true))⟩ := idE rfl
@[go_sem] theorem g_Z39_3_13 : gAt l_Z39_3 13 = ⟨(some 44), .callv (.t 35) [(.t 39), (.t 43)], (some (34, true))⟩ := idE rfl
@[go_sem] theorem g_Z39_3_14 : gAt l_Z39_3 14 = ⟨(some 45), .bin .lss (.t 44) (.c (.int .i64 0)), (some (34, true))⟩ := idE rfl
@[go_sem] theorem g_Z39_3_15 : gAt l_Z39_3 15 = ⟨(some 46), .un .not (.t 45), (some (34, true))⟩ := idE rfl
@[go_sem] theorem g_Z39_3_16 : gAt l_Z39_3 16 = ⟨(some 47), .pick (.t 34) (.t 46) (.c (.bool false)), none⟩ := idE rfl
def Z39_3 : IR := .dops l_Z39_3 [(0, []), (1, []), (2, []), (3, []), (4, []), (5, []), (6, []), (7, []), (8, []), (9, []), (10, []), (11, []), (12, []), (13, []), (14, []), (15, []), (16, [])]
@[go_sem] theorem w_Z39_3 : wp P Z39_3 Q e H = wpD P l_Z39_3 [(0, []), (1, []), (2, []), (3, []), (4, []), (5, []), (6, []), (7, []), (8, []), (9, []), (10, []), (11, []), (12, []), (13, []), (14, []), (15, []), (16, [])] (Q .normal) e H := idE rfl
def Z39_4 : IR := .cond (.t 47) .skip (.exit 2)
@[go_sem] theorem w_Z39_4 : wp P Z39_4 Q e H = condW P ((.t 47) : X) .skip (.exit 2) Q e H := idE rfl
@[go_sem] def l_Z39_5 : List GOp := [⟨(some 48), .mv (.t 11), none⟩,
    ⟨(some 49), .bin .add (.t 48) (.c (.int .i64 1)), none⟩,
    ⟨(some 11), .mv (.t 49), none⟩]
def Z39_5 : IR := .ops l_Z39_5
@[go_sem] theorem w_Z39_5 : wp P Z39_5 Q e H = wpL P l_Z39_5 (Q .normal) e H := idE rfl
def Z39_6 : IR := .block 3 Z39_5
@[go_sem] theorem w_Z39_6 : wp P Z39_6 Q e H = wp P Z39_5 (blockQ 3 Q) e H := idE rfl
def Z39_7 : IR := .loop (.seq (.seq Z39_3 Z39_4) Z39_6)
def Z39_8 : IR := .block 2 Z39_7
@[go_sem] theorem w_Z39_8 : wp P Z39_8 Q e H = wp P Z39_7 (blockQ 2 Q) e H := idE rfl
def l_Z39_9 : List GOp := [⟨(some 50), .mv (.t 11), none⟩,
    ⟨(some 51), .mv (.t 12), none⟩,
    ⟨(some 52), .bin .leq (.t 50) (.t 51), none⟩,
    ⟨(some 53), .mv (.t 52), none⟩,
    ⟨(some 54), .mv (.t 4), (some (53, true))⟩,
    ⟨(some 55), .mv (.t 0), (some (53, true))⟩,
    ⟨(some 56), .mv (.t 1), (some (53, true))⟩,
    ⟨(some 57), .iaddr (.t 55) (.t 56) 1, (some (53, true))⟩,
    ⟨(some 58), .load (.t 57) 1 false, (some (53, true))⟩,
    ⟨(some 59), .mv (.t 0), (some (53, true))⟩,
    ⟨(some 60), .mv (.t 12), (some (53, true))⟩,
    ⟨(some 61), .iaddr (.t 59) (.t 60) 1, (some (53, true))⟩,
    ⟨(some 62), .load (.t 61) 1 false, (some (53, true))⟩,
    ⟨(some 63), .callv (.t 54) [(.t 58), (.t 62)], (some (53, true))⟩,
    ⟨(some 64), .bin .lss (.t 63) (.c (.int .i64 0)), (some (53, true))⟩,
    ⟨(some 65), .pick (.t 53) (.t 64) (.c (.bool false)), none⟩]
@[go_sem] theorem g_Z39_9_0 : gAt l_Z39_9 0 = ⟨(some 50), .mv (.t 11), none⟩ := idE rfl
@[go_sem] theorem g_Z39_9_1 : gAt l_Z39_9 1 = ⟨(some 51), .mv (.t 12), none⟩ := idE rfl
@[go_sem] theorem g_Z39_9_2 : gAt l_Z39_9 2 = ⟨(some 52), .bin .leq (.t 50) (.t 51), none⟩ := idE rfl
@[go_sem] theorem g_Z39_9_3 : gAt l_Z39_9 3 = ⟨(some 53), .mv (.t 52), none⟩ := idE rfl
@[go_sem] theorem g_Z39_9_4 : gAt l_Z39_9 4 = ⟨(some 54), .mv (.t 4), (some (53, true))⟩ := idE rfl
@[go_sem] theorem g_Z39_9_5 : gAt l_Z39_9 5 = ⟨(some 55), .mv (.t 0), (some (53, true))⟩ := idE rfl
@[go_sem] theorem g_Z39_9_6 : gAt l_Z39_9 6 = ⟨(some 56), .mv (.t 1), (some (53, true))⟩ := idE rfl
@[go_sem] theorem g_Z39_9_7 : gAt l_Z39_9 7 = ⟨(some 57), .iaddr (.t 55) (.t 56) 1, (some (53, true))⟩ := idE rfl
@[go_sem] theorem g_Z39_9_8 : gAt l_Z39_9 8 = ⟨(some 58), .load (.t 57) 1 false, (some (53, true))⟩ := idE rfl
@[go_sem] theorem g_Z39_9_9 : gAt l_Z39_9 9 = ⟨(some 59), .mv (.t 0), (some (53, true))⟩ := idE rfl
@[go_sem] theorem g_Z39_9_10 : gAt l_Z39_9 10 = ⟨(some 60), .mv (.t 12), (some (53, true))⟩ := idE rfl
@[go_sem] theorem g_Z39_9_11 : gAt l_Z39_9 11 = ⟨(some 61), .iaddr (.t 59) (.t 60) 1, (some (53, true))⟩ := idE rfl
@[go_sem] theorem g_Z39_9_12 : gAt l_Z39_9 12 = ⟨(some 62), .load (.t 61) 1 false, (some (53, true))⟩ := idE rfl
@[go_sem] theorem g_Z39_9_13 : gAt l_Z39_9 13 = ⟨(some 63), .callv (.t 54) [(.t 58), (.t 62)], (some (53, true))⟩ := idE rfl
@[go_sem] theorem g_Z39_9_14 : gAt l_Z39_9 14 = ⟨(some 64), .bin .lss (.t 63) (.c (.int .i64 0)), (some (53, true))⟩ := idE rfl
@[go_sem] theorem g_Z39_9_15 : gAt l_Z39_9 15 = ⟨(some 65), .pick (.t 53) (.t 64) (.c (.bool false)), none⟩ := idE rfl
def Z39_9 : IR := .dops l_Z39_9 [(0, []), (1, []), (2, []), (3, []), (4, []), (5, []), (6, []), (7, []), (8, []), (9, []), (10, []), (11, []), (12, []), (13, []), (14, []), (15, [])]
@[go_sem] theorem w_Z39_9 : wp P Z39_9 Q e H = wpD P l_Z39_9 [(0, []), (1, []), (2, []), (3, []), (4, []), (5, []), (6, []), (7, []), (8, []), (9, []), (10, []), (11, []), (12, []), (13, []), (14, []), (15, [])] (Q .normal) e H := idE rfl
def Z39_10 : IR := .cond (.t 65) .skip (.exit 4)
@[go_sem] theorem w_Z39_10 : wp P Z39_10 Q e H = condW P ((.t 65) : X) .skip (.exit 4) Q e H := idE rfl
@[go_sem] def l_Z39_11 : List GOp := [⟨(some 66), .mv (.t 12), none⟩,
    ⟨(some 67), .bin .sub (.t 66) (.c (.int .i64 1)), none⟩,
    ⟨(some 12), .mv (.t 67), none⟩]
def Z39_11 : IR := .ops l_Z39_11
@[go_sem] theorem w_Z39_11 : wp P Z39_11 Q e H = wpL P l_Z39_11 (Q .normal) e H := idE rfl
def Z39_12 : IR := .block 5 Z39_11
@[go_sem] theorem w_Z39_12 : wp P Z39_12 Q e H = wp P Z39_11 (blockQ 5 Q) e H := idE rfl
def Z39_13 : IR := .loop (.seq (.seq Z39_9 Z39_10) Z39_12)
def Z39_14 : IR := .block 4 Z39_13
@[go_sem] theorem w_Z39_14 : wp P Z39_14 Q e H = wp P Z39_13 (blockQ 4 Q) e H := idE rfl
@[go_sem] def l_Z39_15 : List GOp := [⟨(some 68), .mv (.t 11), none⟩,
    ⟨(some 69), .mv (.t 12), none⟩,
    ⟨(some 70), .bin .gtr (.t 68) (.t 69), none⟩]
def Z39_15 : IR := .ops l_Z39_15
@[go_sem] theorem w_Z39_15 : wp P Z39_15 Q e H = wpL P l_Z39_15 (Q .normal) e H := idE rfl
def Z39_16 : IR := .cond (.t 70) (.exit 0) .skip
@[go_sem] theorem w_Z39_16 : wp P Z39_16 Q e H = condW P ((.t 70) : X) (.exit 0) .skip Q e H := idE rfl
def l_Z39_17 : List GOp := [⟨(some 71), .mv (.t 0), none⟩,
    ⟨(some 72), .mv (.t 11), none⟩,
    ⟨(some 73), .mv (.t 0), none⟩,
    ⟨(some 74), .mv (.t 12), none⟩,
    ⟨(some 75), .mv (.t 0), none⟩,
    ⟨(some 76), .mv (.t 12), none⟩,
    ⟨(some 77), .iaddr (.t 75) (.t 76) 1, none⟩,
    ⟨(some 78), .load (.t 77) 1 false, none⟩,
    ⟨(some 79), .mv (.t 0), none⟩,
    ⟨(some 80), .mv (.t 11), none⟩,
    ⟨(some 81), .iaddr (.t 79) (.t 80) 1, none⟩,
    ⟨(some 82), .load (.t 81) 1 false, none⟩,
    ⟨(some 83), .iaddr (.t 71) (.t 72) 1, none⟩,
    ⟨none, .store (.t 83) 1 (.t 78), none⟩,
    ⟨(some 84), .iaddr (.t 73) (.t 74) 1, none⟩,
    ⟨none, .store (.t 84) 1 (.t 82), none⟩]
@[go_sem] theorem g_Z39_17_0 : gAt l_Z39_17 0 = ⟨(some 71), .mv (.t 0), none⟩ := idE rfl
@[go_sem] theorem g_Z39_17_1 : gAt l_Z39_17 1 = ⟨(some 72), .mv (.t 11), none⟩ := idE rfl
@[go_sem] theorem g_Z39_17_2 : gAt l_Z39_17 2 = ⟨(some 73), .mv (.t 0), none⟩ := idE rfl
@[go_sem] theorem g_Z39_17_3 : gAt l_Z39_17 3 = ⟨(some 74), .mv (.t 12), none⟩ := idE rfl
@[go_sem] theorem g_Z39_17_4 : gAt l_Z39_17 4 = ⟨(some 75), .mv (.t 0), none⟩ := idE rfl
@[go_sem] theorem g_Z39_17_5 : gAt l_Z39_17 5 = ⟨(some 76), .mv (.t 12), none⟩ := idE rfl
@[go_sem] theorem g_Z39_17_6 : gAt l_Z39_17 6 = ⟨(some 77), .iaddr (.t 75) (.t 76) 1, none⟩ := idE rfl
@[go_sem] theorem g_Z39_17_7 : gAt l_Z39_17 7 = ⟨(some 78), .load (.t 77) 1 false, none⟩ := idE rfl
@[go_sem] theorem g_Z39_17_8 : gAt l_Z39_17 8 = ⟨(some 79), .mv (.t 0), none⟩ := idE rfl
@[go_sem] theorem g_Z39_17_9 : gAt l_Z39_17 9 = ⟨(some 80), .mv (.t 11), none⟩ := idE rfl
@[go_sem] theorem g_Z39_17_10 : gAt l_Z39_17 10 = ⟨(some 81), .iaddr (.t 79) (.t 80) 1, none⟩ := idE rfl
@[go_sem] theorem g_Z39_17_11 : gAt l_Z39_17 11 = ⟨(some 82), .load (.t 81) 1 false, none⟩ := idE rfl
@[go_sem] theorem g_Z39_17_12 : gAt l_Z39_17 12 = ⟨(some 83), .iaddr (.t 71) (.t 72) 1, none⟩ := idE rfl
@[go_sem] theorem g_Z39_17_13 : gAt l_Z39_17 13 = ⟨none, .store (.t 83) 1 (.t 78), none⟩ := idE rfl
@[go_sem] theorem g_Z39_17_14 : gAt l_Z39_17 14 = ⟨(some 84), .iaddr (.t 73) (.t 74) 1, none⟩ := idE rfl
@[go_sem] theorem g_Z39_17_15 : gAt l_Z39_17 15 = ⟨none, .store (.t 84) 1 (.t 82), none⟩ := idE rfl
def Z39_17 : IR := .dops l_Z39_17 [(0, []), (1, []), (2, []), (3, []), (4, []), (5, []), (6, []), (7, []), (8, []), (9, []), (10, []), (11, []), (12, []), (13, []), (14, []), (15, [])]
@[go_sem] theorem w_Z39_17 : wp P Z39_17 Q e H = wpD P l_Z39_17 [(0, []), (1, []), (2, []), (3, []), (4, []), (5, []), (6, []), (7, []), (8, []), (9, []), (10, []), (11, []), (12, []), (13, []), (14, []), (15, [])] (Q .normal) e H := idE rfl
@[go_sem] def l_Z39_18 : List GOp := [⟨(some 85), .mv (.t 11), none⟩,
    ⟨(some 86), .bin .add (.t 85) (.c (.int .i64 1)), none⟩,
    ⟨(some 11), .mv (.t 86), none⟩]
def Z39_18 : IR := .ops l_Z39_18
@[go_sem] theorem w_Z39_18 : wp P Z39_18 Q e H = wpL P l_Z39_18 (Q .normal) e H := idE rfl
@[go_sem] def l_Z39_19 : List GOp := [⟨(some 87), .mv (.t 12), none⟩,
    ⟨(some 88), .bin .sub (.t 87) (.c (.int .i64 1)), none⟩,
    ⟨(some 12), .mv (.t 88), none⟩]
def Z39_19 : IR := .ops l_Z39_19
@[go_sem] theorem w_Z39_19 : wp P Z39_19 Q e H = wpL P l_Z39_19 (Q .normal) e H := idE rfl
def Z39_20 : IR := .block 1 (.seq Z39_8 (.seq Z39_14 (.seq (.seq Z39_15 Z39_16) (.seq Z39_17 (.seq Z39_18 Z39_19)))))
@[go_sem] theorem w_Z39_20 : wp P Z39_20 Q e H = wp P (.seq Z39_8 (.seq Z39_14 (.seq (.seq Z39_15 Z39_16) (.seq Z39_17 (.seq Z39_18 Z39_19))))) (blockQ 1 Q) e H := idE rfl
def Z39_21 : IR := .loop Z39_20
def Z39_22 : IR := .block 0 Z39_21
@[go_sem] theorem w_Z39_22 : wp P Z39_22 Q e H = wp P Z39_21 (blockQ 0 Q) e H := idE rfl
@[go_sem] def l_Z39_23 : List GOp := [⟨(some 89), .mv (.t 11), none⟩,
    ⟨(some 10), .mv (.t 89), none⟩]
def Z39_23 : IR := .ops l_Z39_23
@[go_sem] theorem w_Z39_23 : wp P Z39_23 Q e H = wpL P l_Z39_23 (Q .normal) e H := idE rfl
@[go_sem] def l_Z38_0 : List GOp := [⟨(some 10), .mv (.c (.int .i64 0)), none⟩,
    ⟨(some 11), .mv (.c (.bool false)), none⟩]
def Z38_0 : IR := .ops l_Z38_0
@[go_sem] theorem w_Z38_0 : wp P Z38_0 Q e H = wpL P l_Z38_0 (Q .normal) e H := idE rfl
def l_Z38_1 : List GOp := [⟨(some 14), .mv (.t 0), none⟩,
    ⟨(some 15), .mv (.t 1), none⟩,
    ⟨(some 16), .mv (.t 0), none⟩,
    ⟨(some 17), .mv (.t 3), none⟩,
    ⟨(some 18), .mv (.t 0), none⟩,
    ⟨(some 19), .mv (.t 3), none⟩,
    ⟨(some 20), .iaddr (.t 18) (.t 19) 1, none⟩,
    ⟨(some 21), .load (.t 20) 1 false, none⟩,
    ⟨(some 22), .mv (.t 0), none⟩,
    ⟨(some 23), .mv (.t 1), none⟩,
    ⟨(some 24), .iaddr (.t 22) (.t 23) 1, none⟩,
    ⟨(some 25), .load (.t 24) 1 false, none⟩,
    ⟨(some 26), .iaddr (.t 14) (.t 15) 1, none⟩,
    ⟨none, .store (.t 26) 1 (.t 21), none⟩,
    ⟨(some 27), .iaddr (.t 16) (.t 17) 1, none⟩,
    ⟨none, .store (.t 27) 1 (.t 25), none⟩]
@[go_sem] theorem g_Z38_1_0 : gAt l_Z38_1 0 = ⟨(some 14), .mv (.t 0), none⟩ := idE rfl
@[go_sem] theorem g_Z38_1_1 : gAt l_Z38_1 1 = ⟨(some 15), .mv (.t 1), none⟩ := idE rfl
@[go_sem] theorem g_Z38_1_2 : gAt l_Z38_1 2 = ⟨(some 16), .mv (.t 0), none⟩ := idE rfl
@[go_sem] theorem g_Z38_1_3 : gAt l_Z38_1 3 = ⟨(some 17), .mv (.t 3), none⟩ := idE rfl
@[go_sem] theorem g_Z38_1_4 : gAt l_Z38_1 4 = ⟨(some 18), .mv (.t 0), none⟩ := idE rfl
@[go_sem] theorem g_Z38_1_5 : gAt l_Z38_1 5 = ⟨(some 19), .mv (.t 3), none⟩ := idE rfl
@[go_sem] theorem g_Z38_1_6 : gAt l_Z38_1 6 = ⟨(some 20), .iaddr (.t 18) (.t 19) 1, none⟩ := idE rfl
@[go_sem] theorem g_Z38_1_7 : gAt l_Z38_1 7 = ⟨(some 21), .load (.t 20) 1 false, none⟩ := idE rfl
@[go_sem] theorem g_Z38_1_8 : gAt l_Z38_1 8 = ⟨(some 22), .mv (.t 0), none⟩ := idE rfl
@[go_sem] theorem g_Z38_1_9 : gAt l_Z38_1 9 = ⟨(some 23), .mv (.t 1), none⟩ := idE rfl
@[go_sem] theorem g_Z38_1_10 : gAt l_Z38_1 10 = ⟨(some 24), .iaddr (.t 22) (.t 23) 1, none⟩ := idE rfl
@[go_sem] theorem g_Z38_1_11 : gAt l_Z38_1 11 = ⟨(some 25), .load (.t 24) 1 false, none⟩ := idE rfl
@[go_sem] theorem g_Z38_1_12 : gAt l_Z38_1 12 = ⟨(some 26), .iaddr (.t 14) (.t 15) 1, none⟩ := idE rfl
@[go_sem] theorem g_Z38_1_13 : gAt l_Z38_1 13 = ⟨none, .store (.t 26) 1 (.t 21), none⟩ := idE rfl
@[go_sem] theorem g_Z38_1_14 : gAt l_Z38_1 14 = ⟨(some 27), .iaddr (.t 16) (.t 17) 1, none⟩ := idE rfl
@[go_sem] theorem g_Z38_1_15 : gAt l_Z38_1 15 = ⟨none, .store (.t 27) 1 (.t 25), none⟩ := idE rfl
def Z38_1 : IR := .dops l_Z38_1 [(0, []), (1, []), (2, []), (3, []), (4, []), (5, []), (6, []), (7, []), (8, []), (9, []), (10, []), (11, []), (12, []), (13, []), (14, []), (15, [])]
@[go_sem] theorem w_Z38_1 : wp P Z38_1 Q e H = wpD P l_Z38_1 [(0, []), (1, []), (2, []), (3, []), (4, []), (5, []), (6, []), (7, []), (8, []), (9, []), (10, []), (11, []), (12, []), (13, []), (14, []), (15, [])] (Q .normal) e H := idE rfl
@[go_sem] def l_Z38_2 : List GOp := [⟨(some 28), .mv (.t 1), none⟩,
    ⟨(some 29), .bin .add (.t 28) (.c (.int .i64 1)), none⟩,
    ⟨(some 30), .mv (.t 2), none⟩,
    ⟨(some 31), .bin .sub (.t 30) (.c (.int .i64 1)), none⟩,
    ⟨(some 12), .mv (.t 29), none⟩,
    ⟨(some 13), .mv (.t 31), none⟩]
def Z38_2 : IR := .ops l_Z38_2
@[go_sem] theorem w_Z38_2 : wp P Z38_2 Q e H = wpL P l_Z38_2 (Q .normal) e H := idE rfl
def l_Z38_3 : List GOp := [⟨(some 32), .mv (.t 12), none⟩,
    ⟨(some 33), .mv (.t 13), none⟩,
    ⟨(some 34), .bin .leq (.t 32) (.t 33), none⟩,
    ⟨(some 35), .mv (.t 34), none⟩,
    ⟨(some 36), .mv (.t 4), (some (35, true))⟩,
    ⟨(some 37), .mv (.t 0), (some (35, true))⟩,
    ⟨(some 38), .mv (.t 12), (some (35, true))⟩,
    ⟨(some 39), .iaddr (.t 37) (.t 38) 1, (some (35, true))⟩,
    ⟨(some 40), .load (.t 39) 1 false, (some (35, true))⟩,
    ⟨(some 41), .mv (.t 0), (some (35, true))⟩,
    ⟨(some 42), .mv (.t 1), (some (35, true))⟩,
    ⟨(some 43), .iaddr (.t 41) (.t 42) 1, (some (35, true))⟩,
    ⟨(some 44), .load (.t 43) 1 false, (some (35, true))⟩,
    ⟨(some 45), .callv (.t 36) [(.t 40), (.t 44)], (some (35, true))⟩,
    ⟨(some 46), .bin .lss (.t 45) (.c (.int .i64 0)), (some (35, true))⟩,
    ⟨(some 47), .pick (.t 35) (.t 46) (.c (.bool false)), none⟩]
@[go_sem] theorem g_Z38_3_0 : gAt l_Z38_3 0 = ⟨(some 32), .mv (.t 12), none⟩ := idE rfl
@[go_sem] theorem g_Z38_3_1 : gAt l_Z38_3 1 = ⟨(some 33), .mv (.t 13), none⟩ := idE rfl
@[go_sem] theorem g_Z38_3_2 : gAt l_Z38_3 2 = ⟨(some 34), .bin .leq (.t 32) (.t 33), none⟩ := idE rfl
@[go_sem] theorem g_Z38_3_3 : gAt l_Z38_3 3 = ⟨(some 35), .mv (.t 34), none⟩ := idE rfl
@[go_sem] theorem g_Z38_3_4 : gAt l_Z38_3 4 = ⟨(some 36), .mv (.t 4), (some (35, true))⟩ := idE rfl
@[go_sem] theorem g_Z38_3_5 : gAt l_Z38_3 5 = ⟨(some 37), .mv (.t 0), (some (35, true))⟩ := idE rfl
@[go_sem] theorem g_Z38_3_6 : gAt l_Z38_3 6 = ⟨(some 38), .mv (.t 12), (some (35, true))⟩ := idE rfl
@[go_sem] theorem g_Z38_3_7 : gAt l_Z38_3 7 = ⟨(some 39), .iaddr (.t 37) (.t 38) 1, (some (35, true))⟩ := idE rfl
@[go_sem] theorem g_Z38_3_8 : gAt l_Z38_3 8 = ⟨(some 40), .load (.t 39) 1 false, (some (35, true))⟩ := idE rfl
@[go_sem] theorem g_Z38_3_9 : gAt l_Z38_3 9 = ⟨(some 41), .mv (.t 0), (some (35, true))⟩ := idE rfl
@[go_sem] theorem g_Z38_3_10 : gAt l_Z38_3 10 = ⟨(some 42), .mv (.t 1), (some (35, true))⟩ := idE rfl
@[go_sem] theorem g_Z38_3_11 : gAt l_Z38_3 11 = ⟨(some 43), .iaddr (.t 41) (.t 42) 1, (some (35, true))⟩ := idE rfl
@[go_sem] theorem g_Z38_3_12 : gAt l_Z38_3 12 = ⟨(some 44), .load (.t 43) 1 false, (some (35, true))⟩ := idE rfl
@[go_sem] theorem g_Z38_3_13 : gAt l_Z38_3 13 = ⟨(some 45), .callv (.t 36) [(.t 40), (.t 44)], (some (35, true))⟩ := idE rfl
@[go_sem] theorem g_Z38_3_14 : gAt l_Z38_3 14 = ⟨(some 46), .bin .lss (.t 45) (.c (.int .i64 0)), (some (35, true))⟩ := idE rfl
@[go_sem] theorem g_Z38_3_15 : gAt l_Z38_3 15 = ⟨(some 47), .pick (.t 35) (.t 46) (.c (.bool false)), none⟩ := idE rfl
def Z38_3 : IR := .dops l_Z38_3 [(0, []), (1, []), (2, []), (3, []), (4, []), (5, []), (6, []), (7, []), (8, []), (9, []), (10, []), (11, []), (12, []), (13, []), (14, []), (15, [])]
@[go_sem] theorem w_Z38_3 : wp P Z38_3 Q e H = wpD P l_Z38_3 [(0, []), (1, []), (2, []), (3, []), (4, []), (5, []), (6, []), (7, []), (8, []), (9, []), (10, []), (11, []), (12, []), (13, []), (14, []), (15, [])] (Q .normal) e H := idE rfl
def Z38_4 : IR := .cond (.t 47) .skip (.exit 0)
@[go_sem] theorem w_Z38_4 : wp P Z38_4 Q e H = condW P ((.t 47) : X) .skip (.exit 0) Q e H := idE rfl
@[go_sem] def l_Z38_5 : List GOp := [⟨(some 48), .mv (.t 12), none⟩,
    ⟨(some 49), .bin .add (.t 48) (.c (.int .i64 1)), none⟩,
    ⟨(some 12), .mv (.t 49), none⟩]
def Z38_5 : IR := .ops l_Z38_5
@[go_sem] theorem w_Z38_5 : wp P Z38_5 Q e H = wpL P l_Z38_5 (Q .normal) e H := idE rfl
def Z38_6 : IR := .block 1 Z38_5
@[go_sem] theorem w_Z38_6 : wp P Z38_6 Q e H = wp P Z38_5 (blockQ 1 Q) e H := idE rfl
def Z38_7 : IR := .loop (.seq (.seq Z38_3 Z38_4) Z38_6)
def Z38_8 : IR := .block 0 Z38_7
@[go_sem] theorem w_Z38_8 : wp P Z38_8 Q e H = wp P Z38_7 (blockQ 0 Q) e H := idE rfl
def l_Z38_9 : List GOp := [⟨(some 50), .mv (.t 12), none⟩,
    ⟨(some 51), .mv (.t 13), none⟩,
    ⟨(some 52), .bin .leq (.t 50) (.t 51), none⟩,
    ⟨(some 53), .mv (.t 52), none⟩,
    ⟨(some 54), .mv (.t 4), (some (53, true))⟩,
    ⟨(some 55), .mv (.t 0), (some (53, true))⟩,
    ⟨(some 56), .mv (.t 13), (some (53, true))⟩,
    ⟨(some 57), .iaddr (.t 55) (.t 56) 1, (some (53, true))⟩,
    ⟨(some 58), .load (.t 57) 1 false, (some (53, true))⟩,
    ⟨(some 59), .mv (.t 0), (some (53, true))⟩,
    ⟨(some 60), .mv (.t 1), (some (53, true))⟩,
    ⟨(some 61), .iaddr (.t 59) (.t 60) 1, (some (53, true))⟩,
    ⟨(some 62), .load (.t 61) 1 false, (some (53, true))⟩,
    ⟨(some 63), .callv (.t 54) [(.t 58), (.t 62)], (some (53, true))⟩,
    ⟨(some 64), .bin .lss (.t 63) (.c (.int .i64 0)), (some (53, true))⟩,
    ⟨(some 65), .un .not (.t 64), (some (53, true))⟩,
    ⟨(some 66), .pick (.t 53) (.t 65) (.c (.bool false)), none⟩]
@[go_sem] theorem g_Z38_9_0 : gAt l_Z38_9 0 = ⟨(some 50), .mv (.t 12), none⟩ := idE rfl
@[go_sem] theorem g_Z38_9_1 : gAt l_Z38_9 1 = ⟨(some 51), .mv (.t 13), none⟩ := idE rfl
@[go_sem] theorem g_Z38_9_2 : gAt l_Z38_9 2 = ⟨(some 52), .bin .leq (.t 50) (.t 51), none⟩ := idE rfl
@[go_sem] theorem g_Z38_9_3 : gAt l_Z38_9 3 = ⟨(some 53), .mv (.t 52), none⟩ := idE rfl
@[go_sem] theorem g_Z38_9_4 : gAt l_Z38_9 4 = ⟨(some 54), .mv (.t 4), (some (53, true))⟩ := idE rfl
@[go_sem] theorem g_Z38_9_5 : gAt l_Z38_9 5 = ⟨(some 55), .mv (.t 0), (some (53, true))⟩ := idE rfl
@[go_sem] theorem g_Z38_9_6 : gAt l_Z38_9 6 = ⟨(some 56), .mv (.t 13), (some (53, true))⟩ := idE rfl
@[go_sem] theorem g_Z38_9_7 : gAt l_Z38_9 7 = ⟨(some 57), .iaddr (.t 55) (.t 56) 1, (some (53, true))⟩ := idE rfl
@[go_sem] theorem g_Z38_9_8 : gAt l_Z38_9 8 = ⟨(some 58), .load (.t 57) 1 false, (some (53, true))⟩ := idE rfl
@[go_sem] theorem g_Z38_9_9 : gAt l_Z38_9 9 = ⟨(some 59), .mv (.t 0), (some (53, true))⟩ := idE rfl
@[go_sem] theorem g_Z38_9_10 : gAt l_Z38_9 10 = ⟨(some 60), .mv (.t 1), (some (53, true))⟩ := idE rfl
@[go_sem] theorem g_Z38_9_11 : gAt l_Z38_9 11 = ⟨(some 61), .iaddr (.t 59) (.t 60) 1, (some (53, true))⟩ := idE rfl
@[go_sem] theorem g_Z38_9_12 : gAt l_Z38_9 12 = ⟨(some 62), .load (.t 61) 1 false, (some (53, true))⟩ := idE rfl
@[go_sem] theorem g_Z38_9_13 : gAt l_Z38_9 13 = ⟨(some 63), .callv (.t 54) [(.t 58), (.t 62)], (some (53, true))⟩ := idE rfl
@[go_sem] theorem g_Z38_9_14 : gAt l_Z38_9 14 = ⟨(some 64), .bin .lss (.t 63) (.c (.int .i64 0)), (some (53, true))⟩ := idE rfl
@[go_sem] theorem g_Z38_9_15 : gAt l_Z38_9 15 = ⟨(some 65), .un .not (.t 64), (some (53, true))⟩ := idE rfl
@[go_sem] theorem g_Z38_9_16 : gAt l_Z38_9 16 = ⟨(some 66), .pick (.t 53) (.t 65) (.c (.bool false)), none⟩ := idE rfl
def Z38_9 : IR := .dops l_Z38_9 [(0, []), (1, []), (2, []), (3, []), (4, []), (5, []), (6, []), (7, []), (8, []), (9, []), (10, []), (11, []), (12, []), (13, []), (14, []), (15, []), (16, [])]
@[go_sem] theorem w_Z38_9 : wp P Z38_9 Q e H = wpD P l_Z38_9 [(0, []), (1, []), (2, []), (3, []), (4, []), (5, []), (6, []), (7, []), (8, []), (9, []), (10, []), (11, []), (12, []), (13, []), (14, []), (15, []), (16, [])] (Q .normal) e H := idE rfl
def Z38_10 : IR := .cond (.t 66) .skip (.exit 2)
@[go_sem] theorem w_Z38_10 : wp P Z38_10 Q e H = condW P ((.t 66) : X) .skip (.exit 2) Q e H := idE rfl
@[go_sem] def l_Z38_11 : List GOp := [⟨(some 67), .mv (.t 13), none⟩,
    ⟨(some 68), .bin .sub (.t 67) (.c (.int .i64 1)), none⟩,
    ⟨(some 13), .mv (.t 68), none⟩]
def Z38_11 : IR := .ops l_Z38_11
@[go_sem] theorem w_Z38_11 : wp P Z38_11 Q e H = wpL P l_Z38_11 (Q .normal) e H := idE rfl
def Z38_12 : IR := .block 3 Z38_11
@[go_sem] theorem w_Z38_12 : wp P Z38_12 Q e H = wp P Z38_11 (blockQ 3 Q) e H := idE rfl
def Z38_13 : IR := .loop (.seq (.seq Z38_9 Z38_10) Z38_12)
def Z38_14 : IR := .block 2 Z38_13
@[go_sem] theorem w_Z38_14 : wp P Z38_14 Q e H = wp P Z38_13 (blockQ 2 Q) e H := idE rfl
@[go_sem] def l_Z38_15 : List GOp := [⟨(some 69), .mv (.t 12), none⟩,
    ⟨(some 70), .mv (.t 13), none⟩,
    ⟨(some 71), .bin .gtr (.t 69) (.t 70), none⟩]
def Z38_15 : IR := .ops l_Z38_15
@[go_sem] theorem w_Z38_15 : wp P Z38_15 Q e H = wpL P l_Z38_15 (Q .normal) e H := idE rfl
def l_Z38_16 : List GOp := [⟨(some 72), .mv (.t 0), none⟩,
    ⟨(some 73), .mv (.t 13), none⟩,
    ⟨(some 74), .mv (.t 0), none⟩,
    ⟨(some 75), .mv (.t 1), none⟩,
    ⟨(some 76), .mv (.t 0), none⟩,
    ⟨(some 77), .mv (.t 1), none⟩,
    ⟨(some 78), .iaddr (.t 76) (.t 77) 1, none⟩,
    ⟨(some 79), .load (.t 78) 1 false, none⟩,
    ⟨(some 80), .mv (.t 0), none⟩,
    ⟨(some 81), .mv (.t 13), none⟩,
    ⟨(some 82), .iaddr (.t 80) (.t 81) 1, none⟩,
    ⟨(some 83), .load (.t 82) 1 false, none⟩,
    ⟨(some 84), .iaddr (.t 72) (.t 73) 1, none⟩,
    ⟨none, .store (.t 84) 1 (.t 79), none⟩,
    ⟨(some 85), .iaddr (.t 74) (.t 75) 1, none⟩,
    ⟨none, .store (.t 85) 1 (.t 83), none⟩]
@[go_sem] theorem g_Z38_16_0 : gAt l_Z38_16 0 = ⟨(some 72), .mv (.t 0), none⟩ := idE rfl
@[go_sem] theorem g_Z38_16_1 : gAt l_Z38_16 1 = ⟨(some 73), .mv (.t 13), none⟩ := idE rfl
@[go_sem] theorem g_Z38_16_2 : gAt l_Z38_16 2 = ⟨(some 74), .mv (.t 0), none⟩ := idE rfl
@[go_sem] theorem g_Z38_16_3 : gAt l_Z38_16 3 = ⟨(some 75), .mv (.t 1), none⟩ := idE rfl
@[go_sem] theorem g_Z38_16_4 : gAt l_Z38_16 4 = ⟨(some 76), .mv (.t 0), none⟩ := idE rfl
@[go_sem] theorem g_Z38_16_5 : gAt l_Z38_16 5 = ⟨(some 77), .mv (.t 1), none⟩ := idE rfl
@[go_sem] theorem g_Z38_16_6 : gAt l_Z38_16 6 = ⟨(some 78), .iaddr (.t 76) (.t 77) 1, none⟩ := idE rfl
@[go_sem] theorem g_Z38_16_7 : gAt l_Z38_16 7 = ⟨(some 79), .load (.t 78) 1 false, none⟩ := idE rfl
@[go_sem] theorem g_Z38_16_8 : gAt l_Z38_16 8 = ⟨(some 80), .mv (.t 0), none⟩ := idE rfl
@[go_sem] theorem g_Z38_16_9 : gAt l_Z38_16 9 = ⟨(some 81), .mv (.t 13), none⟩ := idE rfl
@[go_sem] theorem g_Z38_16_10 : gAt l_Z38_16 10 = ⟨(some 82), .iaddr (.t 80) (.t 81) 1, none⟩ := idE rfl
@[go_sem] theorem g_Z38_16_11 : gAt l_Z38_16 11 = ⟨(some 83), .load (.t 82) 1 false, none⟩ := idE rfl
@[go_sem] theorem g_Z38_16_12 : gAt l_Z38_16 12 = ⟨(some 84), .iaddr (.t 72) (.t 73) 1, none⟩ := idE rfl
@[go_sem] theorem g_Z38_16_13 : gAt l_Z38_16 13 = ⟨none, .store (.t 84) 1 (.t 79), none⟩ := idE rfl
@[go_sem] theorem g_Z38_16_14 : gAt l_Z38_16 14 = ⟨(some 85), .iaddr (.t 74) (.t 75) 1, none⟩ := idE rfl
@[go_sem] theorem g_Z38_16_15 : gAt l_Z38_16 15 = ⟨none, .store (.t 85) 1 (.t 83), none⟩ := idE rfl
def Z38_16 : IR := .dops l_Z38_16 [(0, []), (1, []), (2, []), (3, []), (4, []), (5, []), (6, []), (7, []), (8, []), (9, []), (10, []), (11, []), (12, []), (13, []), (14, []), (15, [])]
@[go_sem] theorem w_Z38_16 : wp P Z38_16 Q e H = wpD P l_Z38_16 [(0, []), (1, []), (2, []), (3, []), (4, []), (5, []), (6, []), (7, []), (8, []), (9, []), (10, []), (11, []), (12, []), (13, []), (14, []), (15, [])] (Q .normal) e H := idE rfl
@[go_sem] def l_Z38_17 : List GOp := [⟨(some 86), .mv (.t 13), none⟩,
    ⟨(some 10), .mv (.t 86), none⟩,
    ⟨(some 11), .mv (.c (.bool true)), none⟩]
def Z38_17 : IR := .ops l_Z38_17
@[go_sem] theorem w_Z38_17 : wp P Z38_17 Q e H = wpL P l_Z38_17 (Q .normal) e H := idE rfl
def Z38_18 : IR := .cond (.t 71) (.seq Z38_16 (.seq Z38_17 .ret)) .skip
@[go_sem] theorem w_Z38_18 : wp P Z38_18 Q e H = condW P ((.t 71) : X) (.seq Z38_16 (.seq Z38_17 .ret)) .skip Q e H := idE rfl
def l_Z38_19 : List GOp := [⟨(some 87), .mv (.t 0), none⟩,
    ⟨(some 88), .mv (.t 12), none⟩,
    ⟨(some 89), .mv (.t 0), none⟩,
    ⟨(some 90), .mv (.t 13), none⟩,
    ⟨(some 91), .mv (.t 0), none⟩,
    ⟨(some 92), .mv (.t 13), none⟩,
    ⟨(some 93), .iaddr (.t 91) (.t 92) 1, none⟩,
    ⟨(some 94), .load (.t 93) 1 false, none⟩,
    ⟨(some 95), .mv (.t 0), none⟩,
    ⟨(some 96), .mv (.t 12), none⟩,
    ⟨(some 97), .iaddr (.t 95) (.t 96) 1, none⟩,
    ⟨(some 98), .load (.t 97) 1 false, none⟩,
    ⟨(some 99), .iaddr (.t 87) (.t 88) 1, none⟩,
    ⟨none, .store (.t 99) 1 (.t 94), none⟩,
    ⟨(some 100), .iaddr (.t 89) (.t 90) 1, none⟩,
    ⟨none, .store (.t 100) 1 (.t 98), none⟩]
@[go_sem] theorem g_Z38_19_0 : gAt l_Z38_19 0 = ⟨(some 87), .mv (.t 0), none⟩ := idE rfl
@[go_sem] theorem g_Z38_19_1 : gAt l_Z38_19 1 = ⟨(some 88), .mv (.t 12), none⟩ := idE rfl
@[go_sem] theorem g_Z38_19_2 : gAt l_Z38_19 2 = ⟨(some 89), .mv (.t 0), none⟩ := idE rfl
@[go_sem] theorem g_Z38_19_3 : gAt l_Z38_19 3 = ⟨(some 90), .mv (.t 13), none⟩ := idE rfl
@[go_sem] theorem g_Z38_19_4 : gAt l_Z38_19 4 = ⟨(some 91), .mv (.t 0), none⟩ := idE rfl
@[go_sem] theorem g_Z38_19_5 : gAt l_Z38_19 5 = ⟨(some 92), .mv (.t 13), none⟩ := idE rfl
@[go_sem] theorem g_Z38_19_6 : gAt l_Z38_19 6 = ⟨(some 93), .iaddr (.t 91) (.t 92) 1, none⟩ := idE rfl
@[go_sem] theorem g_Z38_19_7 : gAt l_Z38_19 7 = ⟨(some 94), .load (.t 93) 1 false, none⟩ := idE rfl
@[go_sem] theorem g_Z38_19_8 : gAt l_Z38_19 8 = ⟨(some 95), .mv (.t 0), none⟩ := idE rfl
@[go_sem] theorem g_Z38_19_9 : gAt l_Z38_19 9 = ⟨(some 96), .mv (.t 12), none⟩ := idE rfl
@[go_sem] theorem g_Z38_19_10 : gAt l_Z38_19 10 = ⟨(some 97), .iaddr (.t 95) (.t 96) 1, none⟩ := idE rfl
@[go_sem] theorem g_Z38_19_11 : gAt l_Z38_19 11 = ⟨(some 98), .load (.t 97) 1 false, none⟩ := idE rfl
@[go_sem] theorem g_Z38_19_12 : gAt l_Z38_19 12 = ⟨(some 99), .iaddr (.t 87) (.t 88) 1, none⟩ := idE rfl
@[go_sem] theorem g_Z38_19_13 : gAt l_Z38_19 13 = ⟨none, .store (.t 99) 1 (.t 94), none⟩ := idE rfl
@[go_sem] theorem g_Z38_19_14 : gAt l_Z38_19 14 = ⟨(some 100), .iaddr (.t 89) (.t 90) 1, none⟩ := idE rfl
@[go_sem] theorem g_Z38_19_15 : gAt l_Z38_19 15 = ⟨none, .store (.t 100) 1 (.t 98), none⟩ := idE rfl
def Z38_19 : IR := .dops l_Z38_19 [(0, []), (1, []), (2, []), (3, []), (4, []), (5, []), (6, []), (7, []), (8, []), (9, []), (10, []), (11, []), (12, []), (13, []), (14, []), (15, [])]
@[go_sem] theorem w_Z38_19 : wp P Z38_19 Q e H = wpD P l_Z38_19 [(0, []), (1, []), (2, []), (3, []), (4, []), (5, []), (6, []), (7, []), (8, []), (9, []), (10, []), (11, []), (12, []), (13, []), (14, []), (15, [])] (Q .normal) e H := idE rfl
@[go_sem] def l_Z38_20 : List GOp := [⟨(some 101), .mv (.t 12), none⟩,
    ⟨(some 102), .bin .add (.t 101) (.c (.int .i64 1)), none⟩,
    ⟨(some 12), .mv (.t 102), none⟩]
def Z38_20 : IR := .ops l_Z38_20
@[go_sem] theorem w_Z38_20 : wp P Z38_20 Q e H = wpL P l_Z38_20 (Q .normal) e H := idE rfl
@[go_sem] def l_Z38_21 : List GOp := [⟨(some 103), .mv (.t 13), none⟩,
    ⟨(some 104), .bin .sub (.t 103) (.c (.int .i64 1)), none⟩,
    ⟨(some 13), .mv (.t 104), none⟩]
def Z38_21 : IR := .ops l_Z38_21
@[go_sem] theorem w_Z38_21 : wp P Z38_21 Q e H = wpL P l_Z38_21 (Q .normal) e H := idE rfl
def l_Z38_22 : List GOp := [⟨(some 105), .mv (.t 12), none⟩,
    ⟨(some 106), .mv (.t 13), none⟩,
    ⟨(some 107), .bin .leq (.t 105) (.t 106), none⟩,
    ⟨(some 108), .mv (.t 107), none⟩,
    ⟨(some 109), .mv (.t 4), (some (108, true))⟩,
    ⟨(some 110), .mv (.t 0), (some (108, true))⟩,
    ⟨(some 111), .mv (.t 12), (some (108, true))⟩,
    ⟨(some 112), .iaddr (.t 110) (.t 111) 1, (some (108, true))⟩,
    ⟨(some 113), .load (.t 112) 1 false, (some (108, true))⟩,
    ⟨(some 114), .mv (.t 0), (some (108, true))⟩,
    ⟨(some 115), .mv (.t 1), (some (108, true))⟩,
    ⟨(some 116), .iaddr (.t 114) (.t 115) 1, (some (108, true))⟩,
    ⟨(some 117), .load (.t 116) 1 false, (some (108, true))⟩,
    ⟨(some 118), .callv (.t 109) [(.t 113), (.t 117)], (some (108, true))⟩,
    ⟨(some 119), .bin .lss (.t 118) (.c (.int .i64 0)), (some (108, true))⟩,
    ⟨(some 120), .pick (.t 108) (.t 119) (.c (.bool false)), none⟩]
@[go_sem] theorem g_Z38_22_0 : gAt l_Z38_22 0 = ⟨(some 105), .mv (.t 12), none⟩ := idE rfl
@[go_sem] theorem g_Z38_22_1 : gAt l_Z38_22 1 = ⟨(some 106), .mv (.t 13), none⟩ := idE rfl
@[go_sem] theorem g_Z38_22_2 : gAt l_Z38_22 2 = ⟨(some 107), .bin .leq (.t 105) (.t 106), none⟩ := idE rfl
@[go_sem] theorem g_Z38_22_3 : gAt l_Z38_22 3 = ⟨(some 108), .mv (.t 107), none⟩ := idE rfl
@[go_sem] theorem g_Z38_22_4 : gAt l_Z38_22 4 = ⟨(some 109), .mv (.t 4), (some (108, true))⟩ := idE rfl
@[go_sem] theorem g_Z38_22_5 : gAt l_Z38_22 5 = ⟨(some 110), .mv (.t 0), (some (108, true))⟩ := idE rfl
@[go_sem] theorem g_Z38_22_6 : gAt l_Z38_22 6 = ⟨(some 111), .mv (.t 12), (some (108, true))⟩ := idE rfl
@[go_sem] theorem g_Z38_22_7 : gAt l_Z38_22 7 = ⟨(some 112), .iaddr (.t 110) (.t 111) 1, (some (108, true))⟩ := idE rfl
@[go_sem] theorem g_Z38_22_8 : gAt l_Z38_22 8 = ⟨(some 113), .load (.t 112) 1 false, (some (108, true))⟩ := idE rfl
@[go_sem] theorem g_Z38_22_9 : gAt l_Z38_22 9 = ⟨(some 114), .mv (.t 0), (some (108, true))⟩ := idE rfl
@[go_sem] theorem g_Z38_22_10 : gAt l_Z38_22 10 = ⟨(some 115), .mv (.t 1), (some (108, true))⟩ := idE rfl
@[go_sem] theorem g_Z38_22_11 : gAt l_Z38_22 11 = ⟨(some 116), .iaddr (.t 114) (.t 115) 1, (some (108, true))⟩ := idE rfl
@[go_sem] theorem g_Z38_22_12 : gAt l_Z38_22 12 = ⟨(some 117), .load (.t 116) 1 false, (some (108, true))⟩ := idE rfl
@[go_sem] theorem g_Z38_22_13 : gAt l_Z38_22 13 = ⟨(some 118), .callv (.t 109) [(.t 113), (.t 117)], (some (108, true))⟩ := idE rfl
@[go_sem] theorem g_Z38_22_14 : gAt l_Z38_22 14 = ⟨(some 119), .bin .lss (.t 118) (.c (.int .i64 0)), (some (108, true))⟩ := idE rfl
@[go_sem] theorem g_Z38_22_15 : gAt l_Z38_22 15 = ⟨(some 120), .pick (.t 108) (.t 119) (.c (.bool false)), none⟩ := idE rfl
def Z38_22 : IR := .dops l_Z38_22 [(0, []), (1, []), (2, []), (3, []), (4, []), (5, []), (6, []), (7, []), (8, []), (9, []), (10, []), (11, []), (12, []), (13, []), (14, []), (15, [])]
@[go_sem] theorem w_Z38_22 : wp P Z38_22 Q e H = wpD P l_Z38_22 [(0, []), (1, []), (2, []), (3, []), (4, []), (5, []), (6, []), (7, []), (8, []), (9, []), (10, []), (11, []), (12, []), (13, []), (14, []), (15, [])] (Q .normal) e H := idE rfl
def Z38_23 : IR := .cond (.t 120) .skip (.exit 6)
@[go_sem] theorem w_Z38_23 : wp P Z38_23 Q e H = condW P ((.t 120) : X) .skip (.exit 6) Q e H := idE rfl
@[go_sem] def l_Z38_24 : List GOp := [⟨(some 121), .mv (.t 12), none⟩,
    ⟨(some 122), .bin .add (.t 121) (.c (.int .i64 1)), none⟩,
    ⟨(some 12), .mv (.t 122), none⟩]
def Z38_24 : IR := .ops l_Z38_24
@[go_sem] theorem w_Z38_24 : wp P Z38_24 Q e H = wpL P l_Z38_24 (Q .normal) e H := idE rfl
def Z38_25 : IR := .block 7 Z38_24
@[go_sem] theorem w_Z38_25 : wp P Z38_25 Q e H = wp P Z38_24 (blockQ 7 Q) e H := idE rfl
def Z38_26 : IR := .loop (.seq (.seq Z38_22 Z38_23) Z38_25)
def Z38_27 : IR := .block 6 Z38_26
@[go_sem] theorem w_Z38_27 : wp P Z38_27 Q e H = wp P Z38_26 (blockQ 6 Q) e H := idE rfl
def l_Z38_28 : List GOp := [⟨(some 123), .mv (.t 12), none⟩,
    ⟨(some 124), .mv (.t 13), none⟩,
    ⟨(some 125), .bin .leq (.t 123) (.t 124), none⟩,
    ⟨(some 126), .mv (.t 125), none⟩,
    ⟨(some 127), .mv (.t 4), (some (126, true))⟩,
    ⟨(some 128), .mv (.t 0), (some (126, true))⟩,
    ⟨(some 129), .mv (.t 13), (some (126, true))⟩,
    ⟨(some 130), .iaddr (.t 128) (.t 129) 1, (some (126, true))⟩,
    ⟨(some 131), .load (.t 130) 1 false, (some (126, true))⟩,
    ⟨(some 132), .mv (.t 0), (some (126, true))⟩,
    ⟨(some 133), .mv (.t 1), (some (126, true))⟩,
    ⟨(some 134), .iaddr (.t 132) (.t 133) 1, (some (126, true))⟩,
    ⟨(some 135), .load (.t 134) 1 false, (some (126, true))⟩,
    ⟨(some 136), .callv (.t 127) [(.t 131), (.t 135)], (some (126, true))⟩,
    ⟨(some 137), .bin .lss (.t 136) (.c (.int .i64 0)), (some (126, true))⟩,
    ⟨(some 138), .un .not (.t 137), (some (126, true))⟩,
    ⟨(some 139), .pick (.t 126) (.t 138) (.c (.bool false)), none⟩]
@[go_sem] theorem g_Z38_28_0 : gAt l_Z38_28 0 = ⟨(some 123), .mv (.t 12), none⟩ := idE rfl
@[go_sem] theorem g_Z38_28_1 : gAt l_Z38_28 1 = ⟨(some 124), .mv (.t 13), none⟩ := idE rfl
@[go_sem] theorem g_Z38_28_2 : gAt l_Z38_28 2 = ⟨(some 125), .bin .leq (.t 123) (.t 124), none⟩ := idE rfl
@[go_sem] theorem g_Z38_28_3 : gAt l_Z38_28 3 = ⟨(some 126), .mv (.t 125), none⟩ := idE rfl
@[go_sem] theorem g_Z38_28_4 : gAt l_Z38_28 4 = ⟨(some 127), .mv (.t 4), (some (126, true))⟩ := idE rfl
@[go_sem] theorem g_Z38_28_5 : gAt l_Z38_28 5 = ⟨(some 128), .mv (.t 0), (some (126, true))⟩ := idE rfl
@[go_sem] theorem g_Z38_28_6 : gAt l_Z38_28 6 = ⟨(some 129), .mv (.t 13), (some (126, true))⟩ := idE rfl
@[go_sem] theorem g_Z38_28_7 : gAt l_Z38_28 7 = ⟨(some 130), .iaddr (.t 128) (.t 129) 1, (some (126, true))⟩ := idE rfl
@[go_sem] theorem g_Z38_28_8 : gAt l_Z38_28 8 = ⟨(some 131), .load (.t 130) 1 false, (some (126, true))⟩ := idE rfl
@[go_sem] theorem g_Z38_28_9 : gAt l_Z38_28 9 = ⟨(some 132), .mv (.t 0), (some (126, true))⟩ := idE rfl
@[go_sem] theorem g_Z38_28_10 : gAt l_Z38_28 10 = ⟨(some 133), .mv (.t 1), (some (126, true))⟩ := idE rfl
@[go_sem] theorem g_Z38_28_11 : gAt l_Z38_28 11 = ⟨(some 134), .iaddr (.t 132) (.t 133) 1, (some (126, true))⟩ := idE rfl
@[go_sem] theorem g_Z38_28_12 : gAt l_Z38_28 12 = ⟨(some 135), .load (.t 134) 1 false, (some (126, true))⟩ := idE rfl
@[go_sem] theorem g_Z38_28_13 : gAt l_Z38_28 13 = ⟨(some 136), .callv (.t 127) [(.t 131), (.t 135)], (some (126, true))⟩ := idE rfl
@[go_sem] theorem g_Z38_28_14 : gAt l_Z38_28 14 = ⟨(some 137), .bin .lss (.t 136) (.c (.int .i64 0)), (some (126, true))⟩ := idE rfl
@[go_sem] theorem g_Z38_28_15 : gAt l_Z38_28 15 = ⟨(some 138), .un .not (.t 137), (some (126, true))⟩ := idE rfl
@[go_sem] theorem g_Z38_28_16 : gAt l_Z38_28 16 = ⟨(some 139), .pick (.t 126) (.t 138) (.c (.bool false)), none⟩ := idE rfl
def Z38_28 : IR := .dops l_Z38_28 [(0, []), (1, []), (2, []), (3, []), (4, []), (5, []), (6, []), (7, []), (8, []), (9, []), (10, []), (11, []), (12, []), (13, []), (14, []), (15, []), (16, [])]
@[go_sem] theorem w_Z38_28 : wp P Z38_28 Q e H = wpD P l_Z38_28 [(0, []), (1, []), (2, []), (3, []), (4, []), (5, []), (6, []), (7, []), (8, []), (9, []), (10, []), (11, []), (12, []), (13, []), (14, []), (15, []), (16, [])] (Q .normal) e H := idE rfl
def Z38_29 : IR := .cond (.t 139) .skip (.exit 8)
@[go_sem] theorem w_Z38_29 : wp P Z38_29 Q e H = condW P ((.t 139) : X) .skip (.exit 8) Q e H := idE rfl
@[go_sem] def l_Z38_30 : List GOp := [⟨(some 140), .mv (.t 13), none⟩,
    ⟨(some 141), .bin .sub (.t 140) (.c (.int .i64 1)), none⟩,
    ⟨(some 13), .mv (.t 141), none⟩]
def Z38_30 : IR := .ops l_Z38_30
@[go_sem] theorem w_Z38_30 : wp P Z38_30 Q e H = wpL P l_Z38_30 (Q .normal) e H := idE rfl
def Z38_31 : IR := .block 9 Z38_30
@[go_sem] theorem w_Z38_31 : wp P Z38_31 Q e H = wp P Z38_30 (blockQ 9 Q) e H := idE rfl
def Z38_32 : IR := .loop (.seq (.seq Z38_28 Z38_29) Z38_31)
def Z38_33 : IR := .block 8 Z38_32
@[go_sem] theorem w_Z38_33 : wp P Z38_33 Q e H = wp P Z38_32 (blockQ 8 Q) e H := idE rfl
@[go_sem] def l_Z38_34 : List GOp := [⟨(some 142), .mv (.t 12), none⟩,
    ⟨(some 143), .mv (.t 13), none⟩,
    ⟨(some 144), .bin .gtr (.t 142) (.t 143), none⟩]
def Z38_34 : IR := .ops l_Z38_34
@[go_sem] theorem w_Z38_34 : wp P Z38_34 Q e H = wpL P l_Z38_34 (Q .normal) e H := idE rfl
def Z38_35 : IR := .cond (.t 144) (.exit 4) .skip
@[go_sem] theorem w_Z38_35 : wp P Z38_35 Q e H = condW P ((.t 144) : X) (.exit 4) .skip Q e H := idE rfl
def l_Z38_36 : List GOp := [⟨(some 145), .mv (.t 0), none⟩,
    ⟨(some 146), .mv (.t 12), none⟩,
    ⟨(some 147), .mv (.t 0), none⟩,
    ⟨(some 148), .mv (.t 13), none⟩,
    ⟨(some 149), .mv (.t 0), none⟩,
    ⟨(some 150), .mv (.t 13), none⟩,
    ⟨(some 151), .iaddr (.t 149) (.t 150) 1, none⟩,
    ⟨(some 152), .load (.t 151) 1 false, none⟩,
    ⟨(some 153), .mv (.t 0), none⟩,
    ⟨(some 154), .mv (.t 12), none⟩,
    ⟨(some 155), .iaddr (.t 153) (.t 154) 1, none⟩,
    ⟨(some 156), .load (.t 155) 1 false, none⟩,
    ⟨(some 157), .iaddr (.t 145) (.t 146) 1, none⟩,
    ⟨none, .store (.t 157) 1 (.t 152), none⟩,
    ⟨(some 158), .iaddr (.t 147) (.t 148) 1, none⟩,
    ⟨none, .store (.t 158) 1 (.t 156), none⟩]
@[go_sem] theorem g_Z38_36_0 : gAt l_Z38_36 0 = ⟨(some 145), .mv (.t 0), none⟩ := idE rfl
@[go_sem] theorem g_Z38_36_1 : gAt l_Z38_36 1 = ⟨(some 146), .mv (.t 12), none⟩ := idE rfl
@[go_sem] theorem g_Z38_36_2 : gAt l_Z38_36 2 = ⟨(some 147), .mv (.t 0), none⟩ := idE rfl
@[go_sem] theorem g_Z38_36_3 : gAt l_Z38_36 3 = ⟨(some 148), .mv (.t 13), none⟩ := idE rfl
@[go_sem] theorem g_Z38_36_4 : gAt l_Z38_36 4 = ⟨(some 149), .mv (.t 0), none⟩ := idE rfl
@[go_sem] theorem g_Z38_36_5 : gAt l_Z38_36 5 = ⟨(some 150), .mv (.t 13), none⟩ := idE rfl
@[go_sem] theorem g_Z38_36_6 : gAt l_Z38_36 6 = ⟨(some 151), .iaddr (.t 149) (.t 150) 1, none⟩ := idE rfl
@[go_sem] theorem g_Z38_36_7 : gAt l_Z38_36 7 = ⟨(some 152), .load (.t 151) 1 false, none⟩ := idE rfl
@[go_sem] theorem g_Z38_36_8 : gAt l_Z38_36 8 = ⟨(some 153), .mv (.t 0), none⟩ := idE rfl
@[go_sem] theorem g_Z38_36_9 : gAt l_Z38_36 9 = ⟨(some 154), .mv (.t 12), none⟩ := idE rfl
@[go_sem] theorem g_Z38_36_10 : gAt l_Z38_36 10 = ⟨(some 155), .iaddr (.t 153) (.t 154) 1, none⟩ := idE rfl
@[go_sem] theorem g_Z38_36_11 : gAt l_Z38_36 11 = ⟨(some 156), .load (.t 155) 1 false, none⟩ := idE rfl
@[go_sem] theorem g_Z38_36_12 : gAt l_Z38_36 12 = ⟨(some 157), .iaddr (.t 145) (.t 146) 1, none⟩ := idE rfl
@[go_sem] theorem g_Z38_36_13 : gAt l_Z38_36 13 = ⟨none, .store (.t 157) 1 (.t 152), none⟩ := idE rfl
@[go_sem] theorem g_Z38_36_14 : gAt l_Z38_36 14 = ⟨(some 158), .iaddr (.t 147) (.t 148) 1, none⟩ := idE rfl
@[go_sem] theorem g_Z38_36_15 : gAt l_Z38_36 15 = ⟨none, .store (.t 158) 1 (.t 156), none⟩ := idE rfl
def Z38_36 : IR := .dops l_Z38_36 [(0, []), (1, []), (2, []), (3, []), (4, []), (5, []), (6, []), (7, []), (8, []), (9, []), (10, []), (11, []), (12, []), (13, []), (14, []), (15, [])]
@[go_sem] theorem w_Z38_36 : wp P Z38_36 Q e H = wpD P l_Z38_36 [(0, []), (1, []), (2, []), (3, []), (4, []), (5, []), (6, []), (7, []), (8, []), (9, []), (10, []), (11, []), (12, []), (13, []), (14, []), (15, [])] (Q .normal) e H := idE rfl
@[go_sem] def l_Z38_37 : List GOp := [⟨(some 159), .mv (.t 12), none⟩,
    ⟨(some 160), .bin .add (.t 159) (.c (.int .i64 1)), none⟩,
    ⟨(some 12), .mv (.t 160), none⟩]
def Z38_37 : IR := .ops l_Z38_37
@[go_sem] theorem w_Z38_37 : wp P Z38_37 Q e H = wpL P l_Z38_37 (Q .normal) e H := idE rfl
@[go_sem] def l_Z38_38 : List GOp := [⟨(some 161), .mv (.t 13), none⟩,
    ⟨(some 162), .bin .sub (.t 161) (.c (.int .i64 1)), none⟩,
    ⟨(some 13), .mv (.t 162), none⟩]
def Z38_38 : IR := .ops l_Z38_38
@[go_sem] theorem w_Z38_38 : wp P Z38_38 Q e H = wpL P l_Z38_38 (Q .normal) e H := idE rfl
def Z38_39 : IR := .block 5 (.seq Z38_27 (.seq Z38_33 (.seq (.seq Z38_34 Z38_35) (.seq Z38_36 (.seq Z38_37 Z38_38)))))
@[go_sem] theorem w_Z38_39 : wp P Z38_39 Q e H = wp P (.seq Z38_27 (.seq Z38_33 (.seq (.seq Z38_34 Z38_35) (.seq Z38_36 (.seq Z38_37 Z38_38))))) (blockQ 5 Q) e H := idE rfl
def Z38_40 : IR := .loop Z38_39
def Z38_41 : IR := .block 4 Z38_40
@[go_sem] theorem w_Z38_41 : wp P Z38_41 Q e H = wp P Z38_40 (blockQ 4 Q) e H := idE rfl
def l_Z38_42 : List GOp := [⟨(some 163), .mv (.t 0), none⟩,
    ⟨(some 164), .mv (.t 13), none⟩,
    ⟨(some 165), .mv (.t 0), none⟩,
    ⟨(some 166), .mv (.t 1), none⟩,
    ⟨(some 167), .mv (.t 0), none⟩,
    ⟨(some 168), .mv (.t 1), none⟩,
    ⟨(some 169), .iaddr (.t 167) (.t 168) 1, none⟩,
    ⟨(some 170), .load (.t 169) 1 false, none⟩,
    ⟨(some 171), .mv (.t 0), none⟩,
    ⟨(some 172), .mv (.t 13), none⟩,
    ⟨(some 173), .iaddr (.t 171) (.t 172) 1, none⟩,
    ⟨(some 174), .load (.t 173) 1 false, none⟩,
    ⟨(some 175), .iaddr (.t 163) (.t 164) 1, none⟩,
    ⟨none, .store (.t 175) 1 (.t 170), none⟩,
    ⟨(some 176), .iaddr (.t 165) (.t 166) 1, none⟩,
    ⟨none, .store (.t 176) 1 (.t 174), none⟩]
@[go_sem] theorem g_Z38_42_0 : gAt l_Z38_42 0 = ⟨(some 163), .mv (.t 0), none⟩ := idE rfl
@[go_sem] theorem g_Z38_42_1 : gAt l_Z38_42 1 = ⟨(some 164), .mv (.t 13), none⟩ := idE rfl
@[go_sem] theorem g_Z38_42_2 : gAt l_Z38_42 2 = ⟨(some 165), .mv (.t 0), none⟩ := idE rfl
@[go_sem] theorem g_Z38_42_3 : gAt l_Z38_42 3 = ⟨(some 166), .mv (.t 1), none⟩ := idE rfl
@[go_sem] theorem g_Z38_42_4 : gAt l_Z38_42 4 = ⟨(some 167), .mv (.t 0), none⟩ := idE rfl
@[go_sem] theorem g_Z38_42_5 : gAt l_Z38_42 5 = ⟨(some 168), .mv (.t 1), none⟩ := idE rfl
@[go_sem] theorem g_Z38_42_6 : gAt l_Z38_42 6 = ⟨(some 169), .iaddr (.t 167) (.t 168) 1, none⟩ := idE rfl
@[go_sem] theorem g_Z38_42_7 : gAt l_Z38_42 7 = ⟨(some 170), .load (.t 169) 1 false, none⟩ := idE rfl
@[go_sem] theorem g_Z38_42_8 : gAt l_Z38_42 8 = ⟨(some 171), .mv (.t 0), none⟩ := idE rfl
@[go_sem] theorem g_Z38_42_9 : gAt l_Z38_42 9 = ⟨(some 172), .mv (.t 13), none⟩ := idE rfl
@[go_sem] theorem g_Z38_42_10 : gAt l_Z38_42 10 = ⟨(some 173), .iaddr (.t 171) (.t 172) 1, none⟩ := idE rfl
@[go_sem] theorem g_Z38_42_11 : gAt l_Z38_42 11 = ⟨(some 174), .load (.t 173) 1 false, none⟩ := idE rfl
@[go_sem] theorem g_Z38_42_12 : gAt l_Z38_42 12 = ⟨(some 175), .iaddr (.t 163) (.t 164) 1, none⟩ := idE rfl
@[go_sem] theorem g_Z38_42_13 : gAt l_Z38_42 13 = ⟨none, .store (.t 175) 1 (.t 170), none⟩ := idE rfl
@[go_sem] theorem g_Z38_42_14 : gAt l_Z38_42 14 = ⟨(some 176), .iaddr (.t 165) (.t 166) 1, none⟩ := idE rfl
@[go_sem] theorem g_Z38_42_15 : gAt l_Z38_42 15 = ⟨none, .store (.t 176) 1 (.t 174), none⟩ := idE rfl
def Z38_42 : IR := .dops l_Z38_42 [(0, []), (1, []), (2, []), (3, []), (4, []), (5, []), (6, []), (7, []), (8, []), (9, []), (10, []), (11, []), (12, []), (13, []), (14, []), (15, [])]
@[go_sem] theorem w_Z38_42 : wp P Z38_42 Q e H = wpD P l_Z38_42 [(0, []), (1, []), (2, []), (3, []), (4, []), (5, []), (6, []), (7, []), (8, []), (9, []), (10, []), (11, []), (12, []), (13, []), (14, []), (15, [])] (Q .normal) e H := idE rfl
@[go_sem] def l_Z38_43 : List GOp := [⟨(some 177), .mv (.t 13), none⟩,
    ⟨(some 10), .mv (.t 177), none⟩,
    ⟨(some 11), .mv (.c (.bool false)), none⟩]
def Z38_43 : IR := .ops l_Z38_43
@[go_sem] theorem w_Z38_43 : wp P Z38_43 Q e H = wpL P l_Z38_43 (Q .normal) e H := idE rfl
@[go_sem] def l_Z40_0 : List GOp := [⟨(some 10), .mv (.c (.bool true)), none⟩]
def Z40_0 : IR := .ops l_Z40_0
@[go_sem] theorem w_Z40_0 : wp P Z40_0 Q e H = wpL P l_Z40_0 (Q .normal) e H := idE rfl
@[go_sem] def l_Z40_1 : List GOp := [⟨(some 11), .mv (.c (.bool true)), none⟩]
def Z40_1 : IR := .ops l_Z40_1
@[go_sem] theorem w_Z40_1 : wp P Z40_1 Q e H = wpL P l_Z40_1 (Q .normal) e H := idE rfl
@[go_sem] def l_Z40_2 : List GOp := [⟨(some 21), .mv (.t 2), none⟩,
    ⟨(some 22), .mv (.t 1), none⟩,
    ⟨(some 23), .bin .sub (.t 21) (.t 22), none⟩,
    ⟨(some 12), .mv (.t 23), none⟩]
def Z40_2 : IR := .ops l_Z40_2
@[go_sem] theorem w_Z40_2 : wp P Z40_2 Q e H = wpL P l_Z40_2 (Q .normal) e H := idE rfl
@[go_sem] def l_Z40_3 : List GOp := [⟨(some 24), .mv (.t 12), none⟩,
    ⟨(some 25), .bin .leq (.t 24) (.c (.int .i64 12)), none⟩]
def Z40_3 : IR := .ops l_Z40_3
@[go_sem] theorem w_Z40_3 : wp P Z40_3 Q e H = wpL P l_Z40_3 (Q .normal) e H := idE rfl
@[go_sem] def l_Z40_4 : List GOp := [⟨(some 26), .mv (.t 0), none⟩,
    ⟨(some 27), .mv (.t 1), none⟩,
    ⟨(some 28), .mv (.t 2), none⟩,
    ⟨(some 29), .mv (.t 4), none⟩,
    ⟨(some 30), .call (n_Z32) [(.t 26), (.t 27), (.t 28), (.t 29)], none⟩]
def Z40_4 : IR := .ops l_Z40_4
@[go_sem] theorem w_Z40_4 : wp P Z40_4 Q e H = wpL P l_Z40_4 (Q .normal) e H := idE rfl
def Z40_5 : IR := .cond (.t 25) (.seq Z40_4 .ret) .skip
@[go_sem] theorem w_Z40_5 : wp P Z40_5 Q e H = condW P ((.t 25) : X) (.seq Z40_4 .ret) .skip Q e H := idE rfl
@[go_sem] def l_Z40_6 : List GOp := [⟨(some 31), .mv (.t 3), none⟩,
    ⟨(some 32), .bin .eql (.t 31) (.c (.int .i64 0)), none⟩]
def Z40_6 : IR := .ops l_Z40_6
@[go_sem] theorem w_Z40_6 : wp P Z40_6 Q e H = wpL P l_Z40_6 (Q .normal) e H := idE rfl
@[go_sem] def l_Z40_7 : List GOp := [⟨(some 33), .mv (.t 0), none⟩,
    ⟨(some 34), .mv (.t 1), none⟩,
    ⟨(some 35), .mv (.t 2), none⟩,
    ⟨(some 36), .mv (.t 4), none⟩,
    ⟨(some 37), .call (n_Z31) [(.t 33), (.t 34), (.t 35), (.t 36)], none⟩]
def Z40_7 : IR := .ops l_Z40_7
@[go_sem] theorem w_Z40_7 : wp P Z40_7 Q e H = wpL P l_Z40_7 (Q .normal) e H := idE rfl
def Z40_8 : IR := .cond (.t 32) (.seq Z40_7 .ret) .skip
@[go_sem] theorem w_Z40_8 : wp P Z40_8 Q e H = condW P ((.t 32) : X) (.seq Z40_7 .ret) .skip Q e H := idE rfl
@[go_sem] def l_Z40_9 : List GOp := [⟨(some 38), .mv (.t 10), none⟩,
    ⟨(some 39), .un .not (.t 38), none⟩]
def Z40_9 : IR := .ops l_Z40_9
@[go_sem] theorem w_Z40_9 : wp P Z40_9 Q e H = wpL P l_Z40_9 (Q .normal) e H := idE rfl
@[go_sem] def l_Z40_10 : List GOp := [⟨(some 40), .mv (.t 0), none⟩,
    ⟨(some 41), .mv (.t 1), none⟩,
    ⟨(some 42), .mv (.t 2), none⟩,
    ⟨(some 43), .mv (.t 4), none⟩,
    ⟨(some 44), .call (n_Z29) [(.t 40), (.t 41), (.t 42), (.t 43)], none⟩]
def Z40_10 : IR := .ops l_Z40_10
@[go_sem] theorem w_Z40_10 : wp P Z40_10 Q e H = wpL P l_Z40_10 (Q .normal) e H := idE rfl
@[go_sem] def l_Z40_11 : List GOp := [⟨(some 45), .mv (.t 3), none⟩,
    ⟨(some 46), .bin .sub (.t 45) (.c (.int .i64 1)), none⟩,
    ⟨(some 3), .mv (.t 46), none⟩]
def Z40_11 : IR := .ops l_Z40_11
@[go_sem] theorem w_Z40_11 : wp P Z40_11 Q e H = wpL P l_Z40_11 (Q .normal) e H := idE rfl
def Z40_12 : IR := .cond (.t 39) (.seq Z40_10 Z40_11) .skip
@[go_sem] theorem w_Z40_12 : wp P Z40_12 Q e H = condW P ((.t 39) : X) (.seq Z40_10 Z40_11) .skip Q e H := idE rfl
@[go_sem] def l_Z40_13 : List GOp := [⟨(some 48), .mv (.t 0), none⟩,
    ⟨(some 49), .mv (.t 1), none⟩,
    ⟨(some 50), .mv (.t 2), none⟩,
    ⟨(some 51), .mv (.t 4), none⟩,
    ⟨(some 52), .call (n_Z30) [(.t 48), (.t 49), (.t 50), (.t 51)], none⟩,
    ⟨(some 47), .mv (.t 52), none⟩,
    ⟨(some 53), .ext (.t 47) 0, none⟩,
    ⟨(some 54), .ext (.t 47) 1, none⟩,
    ⟨(some 13), .mv (.t 53), none⟩,
    ⟨(some 14), .mv (.t 54), none⟩]
def Z40_13 : IR := .ops l_Z40_13
@[go_sem] theorem w_Z40_13 : wp P Z40_13 Q e H = wpL P l_Z40_13 (Q .normal) e H := idE rfl
@[go_sem] def l_Z40_14 : List GOp := [⟨(some 55), .mv (.t 14), none⟩,
    ⟨(some 56), .bin .eql (.t 55) (.c (.int .i64 2)), none⟩]
def Z40_14 : IR := .ops l_Z40_14
@[go_sem] theorem w_Z40_14 : wp P Z40_14 Q e H = wpL P l_Z40_14 (Q .normal) e H := idE rfl
@[go_sem] def l_Z40_15 : List GOp := [⟨(some 57), .mv (.t 0), none⟩,
    ⟨(some 58), .mv (.t 1), none⟩,
    ⟨(some 59), .mv (.t 2), none⟩,
    ⟨(some 60), .mv (.t 4), none⟩,
    ⟨(some 61), .call (n_Z41) [(.t 57), (.t 58), (.t 59), (.t 60)], none⟩]
def Z40_15 : IR := .ops l_Z40_15
@[go_sem] theorem w_Z40_15 : wp P Z40_15 Q e H = wpL P l_Z40_15 (Q .normal) e H := idE rfl
@[go_sem] def l_Z40_16 : List GOp := [⟨(some 62), .mv (.t 2), none⟩,
    ⟨(some 63), .bin .sub (.t 62) (.c (.int .i64 1)), none⟩,
    ⟨(some 64), .mv (.t 13), none⟩,
    ⟨(some 65), .mv (.t 1), none⟩,
    ⟨(some 66), .bin .sub (.t 64) (.t 65), none⟩,
    ⟨(some 67), .bin .sub (.t 63) (.t 66), none⟩,
    ⟨(some 13), .mv (.t 67), none⟩]
def Z40_16 : IR := .ops l_Z40_16
@[go_sem] theorem w_Z40_16 : wp P Z40_16 Q e H = wpL P l_Z40_16 (Q .normal) e H := idE rfl
@[go_sem] def l_Z40_17 : List GOp := [⟨(some 14), .mv (.c (.int .i64 1)), none⟩]
def Z40_17 : IR := .ops l_Z40_17
@[go_sem] theorem w_Z40_17 : wp P Z40_17 Q e H = wpL P l_Z40_17 (Q .normal) e H := idE rfl
def Z40_18 : IR := .cond (.t 56) (.seq Z40_15 (.seq Z40_16 Z40_17)) .skip
@[go_sem] theorem w_Z40_18 : wp P Z40_18 Q e H = condW P ((.t 56) : X) (.seq Z40_15 (.seq Z40_16 Z40_17)) .skip Q e H := idE rfl
@[go_sem] def l_Z40_19 : List GOp := [⟨(some 68), .mv (.t 10), none⟩,
    ⟨(some 69), .mv (.t 68), none⟩,
    ⟨(some 70), .mv (.t 11), (some (69, true))⟩,
    ⟨(some 71), .pick (.t 69) (.t 70) (.c (.bool false)), none⟩,
    ⟨(some 72), .mv (.t 71), none⟩,
    ⟨(some 73), .mv (.t 14), (some (72, true))⟩,
    ⟨(some 74), .bin .eql (.t 73) (.c (.int .i64 1)), (some (72, true))⟩,
    ⟨(some 75), .pick (.t 72) (.t 74) (.c (.bool false)), none⟩]
def Z40_19 : IR := .ops l_Z40_19
@[go_sem] theorem w_Z40_19 : wp P Z40_19 Q e H = wpL P l_Z40_19 (Q .normal) e H := idE rfl
@[go_sem] def l_Z40_20 : List GOp := [⟨(some 76), .mv (.t 0), none⟩,
    ⟨(some 77), .mv (.t 1), none⟩,
    ⟨(some 78), .mv (.t 2), none⟩,
    ⟨(some 79), .mv (.t 4), none⟩,
    ⟨(some 80), .call (n_Z37) [(.t 76), (.t 77), (.t 78), (.t 79)], none⟩]
def Z40_20 : IR := .ops l_Z40_20
@[go_sem] theorem w_Z40_20 : wp P Z40_20 Q e H = wpL P l_Z40_20 (Q .normal) e H := idE rfl
def Z40_21 : IR := .cond (.t 80) .ret .skip
@[go_sem] theorem w_Z40_21 : wp P Z40_21 Q e H = condW P ((.t 80) : X) .ret .skip Q e H := idE rfl
def Z40_22 : IR := .cond (.t 75) (.seq Z40_20 Z40_21) .skip
@[go_sem] theorem w_Z40_22 : wp P Z40_22 Q e H = condW P ((.t 75) : X) (.seq Z40_20 Z40_21) .skip Q e H := idE rfl
def l_Z40_23 : List GOp := [⟨(some 81), .mv (.t 1), none⟩,
    ⟨(some 82), .bin .gtr (.t 81) (.c (.int .i64 0)), none⟩,
    ⟨(some 83), .mv (.t 82), none⟩,
    ⟨(some 84), .mv (.t 4), (some (83, true))⟩,
    ⟨(some 85), .mv (.t 0), (some (83, true))⟩,
    ⟨(some 86), .mv (.t 1), (some (83, true))⟩,
    ⟨(some 87), .bin .sub (.t 86) (.c (.int .i64 1)), (some (83, true))⟩,
    ⟨(some 88), .iaddr (.t 85) (.t 87) 1, (some (83, true))⟩,
    ⟨(some 89), .load (.t 88) 1 false, (some (83, true))⟩,
    ⟨(some 90), .mv (.t 0), (some (83, true))⟩,
    ⟨(some 91), .mv (.t 13), (some (83, true))⟩,
    ⟨(some 92), .iaddr (.t 90) (.t 91) 1, (some (83, true))⟩,
    ⟨(some 93), .load (.t 92) 1 false, (some (83, true))⟩,
    ⟨(some 94), .callv (.t 84) [(.t 89), (.t 93)], (some (83, true))⟩,
    ⟨(some 95), .bin .lss (.t 94) (.c (.int .i64 0)), (some (83, true))⟩,
    ⟨(some 96), .un .not (.t 95), (some (83, true))⟩,
    ⟨(some 97), .pick (.t 83) (.t 96) (.c (.bool false)), none⟩]
@[go_sem] theorem g_Z40_23_0 : gAt l_Z40_23 0 = ⟨(some 81), .mv (.t 1), none⟩ := idE rfl
@[go_sem] theorem g_Z40_23_1 : gAt l_Z40_23 1 = ⟨(some 82), .bin .gtr (.t 81) (.c (.int .i64 0)), none⟩ := idE rfl
@[go_sem] theorem g_Z40_23_2 : gAt l_Z40_23 2 = ⟨(some 83), .mv (.t 82), none⟩ := idE rfl
@[go_sem] theorem g_Z40_23_3 : gAt l_Z40_23 3 = ⟨(some 84), .mv (.t 4), (some (83, true))⟩ := idE rfl
@[go_sem] theorem g_Z40_23_4 : gAt l_Z40_23 4 = ⟨(some 85), .mv (.t 0), (some (83, true))⟩ := idE rfl
@[go_sem] theorem g_Z40_23_5 : gAt l_Z40_23 5 = ⟨(some 86), .mv (.t 1), (some (83, true))⟩ := idE rfl
@[go_sem] theorem g_Z40_23_6 : gAt l_Z40_23 6 = ⟨(some 87), .bin .sub (.t 86) (.c (.int .i64 1)), (some (83, true))⟩ := idE rfl
@[go_sem] theorem g_Z40_23_7 : gAt l_Z40_23 7 = ⟨(some 88), .iaddr (.t 85) (.t 87) 1, (some (83, true))⟩ := idE rfl
@[go_sem] theorem g_Z40_23_8 : gAt l_Z40_23 8 = ⟨(some 89), .load (.t 88) 1 false, (some (83, true))⟩ := idE rfl
@[go_sem] theorem g_Z40_23_9 : gAt l_Z40_23 9 = ⟨(some 90), .mv (.t 0), (some (83, true))⟩ := idE rfl
@[go_sem] theorem g_Z40_23_10 : gAt l_Z40_23 10 = ⟨(some 91), .mv (.t 13), (some (83, true))⟩ := idE rfl
@[go_sem] theorem g_Z40_23_11 : gAt l_Z40_23 11 = ⟨(some 92), .iaddr (.t 90) (.t 91) 1, (some (83, true))⟩ := idE rfl
@[go_sem] theorem g_Z40_23_12 : gAt l_Z40_23 12 = ⟨(some 93), .load (.t 92) 1 false, (some (83, true))⟩ := idE rfl
@[go_sem] theorem g_Z40_23_13 : gAt l_Z40_23 13 = ⟨(some 94), .callv (.t 84) [(.t 89), (.t 93)], (some (83, true))⟩ := idE rfl
@[go_sem] theorem g_Z40_23_14 : gAt l_Z40_23 14 = ⟨(some 95), .bin .lss (.t 94) (.c (.int .i64 0)), (some (83, true))⟩ := idE rfl
@[go_sem] theorem g_Z40_23_15 : gAt l_Z40_23 15 = ⟨(some 96), .un .not (.t 95), (some (83, true))⟩ := idE rfl
@[go_sem] theorem g_Z40_23_16 : gAt l_Z40_23 16 = ⟨(some 97), .pick (.t 83) (.t 96) (.c (.bool false)), none⟩ := idE rfl
def Z40_23 : IR := .dops l_Z40_23 [(0, []), (1, []), (2, []), (3, []), (4, []), (5, []), (6, []), (7, []), (8, []), (9, []), (10, []), (11, []), (12, []), (13, []), (14, []), (15, []), (16, [])]
@[go_sem] theorem w_Z40_23 : wp P Z40_23 Q e H = wpD P l_Z40_23 [(0, []), (1, []), (2, []), (3, []), (4, []), (5, []), (6, []), (7, []), (8, []), (9, []), (10, []), (11, []), (12, []), (13, []), (14, []), (15, []), (16, [])] (Q .normal) e H := idE rfl
@[go_sem] def l_Z40_24 : List GOp := [⟨(some 98), .mv (.t 0), none⟩,
    ⟨(some 99), .mv (.t 1), none⟩,
    ⟨(some 100), .mv (.t 2), none⟩,
    ⟨(some 101), .mv (.t 13), none⟩,
    ⟨(some 102), .mv (.t 4), none⟩,
    ⟨(some 103), .call (n_Z39) [(.t 98), (.t 99), (.t 100), (.t 101), (.t 102)], none⟩,
    ⟨(some 15), .mv (.t 103), none⟩]
def Z40_24 : IR := .ops l_Z40_24
@[go_sem] theorem w_Z40_24 : wp P Z40_24 Q e H = wpL P l_Z40_24 (Q .normal) e H := idE rfl
@[go_sem] def l_Z40_25 : List GOp := [⟨(some 104), .mv (.t 15), none⟩,
    ⟨(some 1), .mv (.t 104), none⟩]
def Z40_25 : IR := .ops l_Z40_25
@[go_sem] theorem w_Z40_25 : wp P Z40_25 Q e H = wpL P l_Z40_25 (Q .normal) e H := idE rfl
def Z40_26 : IR := .cond (.t 97) (.seq Z40_24 (.seq Z40_25 (.exit 1))) .skip
@[go_sem] theorem w_Z40_26 : wp P Z40_26 Q e H = condW P ((.t 97) : X) (.seq Z40_24 (.seq Z40_25 (.exit 1))) .skip Q e H := idE rfl
@[go_sem] def l_Z40_27 : List GOp := [⟨(some 106), .mv (.t 0), none⟩,
    ⟨(some 107), .mv (.t 1), none⟩,
    ⟨(some 108), .mv (.t 2), none⟩,
    ⟨(some 109), .mv (.t 13), none⟩,
    ⟨(some 110), .mv (.t 4), none⟩,
    ⟨(some 111), .call (n_Z38) [(.t 106), (.t 107), (.t 108), (.t 109), (.t 110)], none⟩,
    ⟨(some 105), .mv (.t 111), none⟩,
    ⟨(some 112), .ext (.t 105) 0, none⟩,
    ⟨(some 113), .ext (.t 105) 1, none⟩,
    ⟨(some 16), .mv (.t 112), none⟩,
    ⟨(some 17), .mv (.t 113), none⟩]
def Z40_27 : IR := .ops l_Z40_27
@[go_sem] theorem w_Z40_27 : wp P Z40_27 Q e H = wpL P l_Z40_27 (Q .normal) e H := idE rfl
@[go_sem] def l_Z40_28 : List GOp := [⟨(some 114), .mv (.t 17), none⟩,
    ⟨(some 11), .mv (.t 114), none⟩]
def Z40_28 : IR := .ops l_Z40_28
@[go_sem] theorem w_Z40_28 : wp P Z40_28 Q e H = wpL P l_Z40_28 (Q .normal) e H := idE rfl
@[go_sem] def l_Z40_29 : List GOp := [⟨(some 115), .mv (.t 16), none⟩,
    ⟨(some 116), .mv (.t 1), none⟩,
    ⟨(some 117), .bin .sub (.t 115) (.t 116), none⟩,
    ⟨(some 118), .mv (.t 2), none⟩,
    ⟨(some 119), .mv (.t 16), none⟩,
    ⟨(some 120), .bin .sub (.t 118) (.t 119), none⟩,
    ⟨(some 18), .mv (.t 117), none⟩,
    ⟨(some 19), .mv (.t 120), none⟩]
def Z40_29 : IR := .ops l_Z40_29
@[go_sem] theorem w_Z40_29 : wp P Z40_29 Q e H = wpL P l_Z40_29 (Q .normal) e H := idE rfl
@[go_sem] def l_Z40_30 : List GOp := [⟨(some 121), .mv (.t 12), none⟩,
    ⟨(some 122), .bin .quo (.t 121) (.c (.int .i64 8)), none⟩,
    ⟨(some 20), .mv (.t 122), none⟩]
def Z40_30 : IR := .ops l_Z40_30
@[go_sem] theorem w_Z40_30 : wp P Z40_30 Q e H = wpL P l_Z40_30 (Q .normal) e H := idE rfl
@[go_sem] def l_Z40_31 : List GOp := [⟨(some 123), .mv (.t 18), none⟩,
    ⟨(some 124), .mv (.t 19), none⟩,
    ⟨(some 125), .bin .lss (.t 123) (.t 124), none⟩]
def Z40_31 : IR := .ops l_Z40_31
@[go_sem] theorem w_Z40_31 : wp P Z40_31 Q e H = wpL P l_Z40_31 (Q .normal) e H := idE rfl
@[go_sem] def l_Z40_32 : List GOp := [⟨(some 126), .mv (.t 18), none⟩,
    ⟨(some 127), .mv (.t 20), none⟩,
    ⟨(some 128), .bin .geq (.t 126) (.t 127), none⟩,
    ⟨(some 10), .mv (.t 128), none⟩]
def Z40_32 : IR := .ops l_Z40_32
@[go_sem] theorem w_Z40_32 : wp P Z40_32 Q e H = wpL P l_Z40_32 (Q .normal) e H := idE rfl
@[go_sem] def l_Z40_33 : List GOp := [⟨(some 129), .mv (.t 0), none⟩,
    ⟨(some 130), .mv (.t 1), none⟩,
    ⟨(some 131), .mv (.t 16), none⟩,
    ⟨(some 132), .mv (.t 3), none⟩,
    ⟨(some 133), .mv (.t 4), none⟩,
    ⟨(some 134), .call (n_Z40) [(.t 129), (.t 130), (.t 131), (.t 132), (.t 133)], none⟩]
def Z40_33 : IR := .ops l_Z40_33
@[go_sem] theorem w_Z40_33 : wp P Z40_33 Q e H = wpL P l_Z40_33 (Q .normal) e H := idE rfl
@[go_sem] def l_Z40_34 : List GOp := [⟨(some 135), .mv (.t 16), none⟩,
    ⟨(some 136), .bin .add (.t 135) (.c (.int .i64 1)), none⟩,
    ⟨(some 1), .mv (.t 136), none⟩]
def Z40_34 : IR := .ops l_Z40_34
@[go_sem] theorem w_Z40_34 : wp P Z40_34 Q e H = wpL P l_Z40_34 (Q .normal) e H := idE rfl
@[go_sem] def l_Z40_35 : List GOp := [⟨(some 137), .mv (.t 19), none⟩,
    ⟨(some 138), .mv (.t 20), none⟩,
    ⟨(some 139), .bin .geq (.t 137) (.t 138), none⟩,
    ⟨(some 10), .mv (.t 139), none⟩]
def Z40_35 : IR := .ops l_Z40_35
@[go_sem] theorem w_Z40_35 : wp P Z40_35 Q e H = wpL P l_Z40_35 (Q .normal) e H := idE rfl
@[go_sem] def l_Z40_36 : List GOp := [⟨(some 140), .mv (.t 0), none⟩,
    ⟨(some 141), .mv (.t 16), none⟩,
    ⟨(some 142), .bin .add (.t 141) (.c (.int .i64 1)), none⟩,
    ⟨(some 143), .mv (.t 2), none⟩,
    ⟨(some 144), .mv (.t 3), none⟩,
    ⟨(some 145), .mv (.t 4), none⟩,
    ⟨(some 146), .call (n_Z40) [(.t 140), (.t 142), (.t 143), (.t 144), (.t 145)], none⟩]
def Z40_36 : IR := .ops l_Z40_36
@[go_sem] theorem w_Z40_36 : wp P Z40_36 Q e H = wpL P l_Z40_36 (Q .normal) e H := idE rfl
@[go_sem] def l_Z40_37 : List GOp := [⟨(some 147), .mv (.t 16), none⟩,
    ⟨(some 2), .mv (.t 147), none⟩]
def Z40_37 : IR := .ops l_Z40_37
@[go_sem] theorem w_Z40_37 : wp P Z40_37 Q e H = wpL P l_Z40_37 (Q .normal) e H := idE rfl
def Z40_38 : IR := .cond (.t 125) (.seq Z40_32 (.seq Z40_33 Z40_34)) (.seq Z40_35 (.seq Z40_36 Z40_37))
@[go_sem] theorem w_Z40_38 : wp P Z40_38 Q e H = condW P ((.t 125) : X) (.seq Z40_32 (.seq Z40_33 Z40_34)) (.seq Z40_35 (.seq Z40_36 Z40_37)) Q e H := idE rfl
def Z40_39 : IR := .block 1 (.seq Z40_2 (.seq (.seq Z40_3 Z40_5) (.seq (.seq Z40_6 Z40_8) (.seq (.seq Z40_9 Z40_12) (.seq Z40_13 (.seq (.seq Z40_14 Z40_18) (.seq (.seq Z40_19 Z40_22) (.seq (.seq Z40_23 Z40_26) (.seq Z40_27 (.seq Z40_28 (.seq Z40_29 (.seq Z40_30 (.seq Z40_31 Z40_38)))))))))))))
@[go_sem] theorem w_Z40_39 : wp P Z40_39 Q e H = wp P (.seq Z40_2 (.seq (.seq Z40_3 Z40_5) (.seq (.seq Z40_6 Z40_8) (.seq (.seq Z40_9 Z40_12) (.seq Z40_13 (.seq (.seq Z40_14 Z40_18) (.seq (.seq Z40_19 Z40_22) (.seq (.seq Z40_23 Z40_26) (.seq Z40_27 (.seq Z40_28 (.seq Z40_29 (.seq Z40_30 (.seq Z40_31 Z40_38))))))))))))) (blockQ 1 Q) e H := idE rfl
def Z40_40 : IR := .loop Z40_39
def Z40_41 : IR := .block 0 Z40_40
@[go_sem] theorem w_Z40_41 : wp P Z40_41 Q e H = wp P Z40_40 (blockQ 0 Q) e H := idE rfl
@[go_sem] def l_Z28_0 : List GOp := [⟨(some 5), .mv (.t 0), none⟩,
    ⟨(some 6), .len (.t 5), none⟩,
    ⟨(some 4), .mv (.t 6), none⟩]
def Z28_0 : IR := .ops l_Z28_0
@[go_sem] theorem w_Z28_0 : wp P Z28_0 Q e H = wpL P l_Z28_0 (Q .normal) e H := idE rfl
@[go_sem] def l_Z28_1 : List GOp := [⟨(some 7), .mv (.t 0), none⟩,
    ⟨(some 8), .mv (.t 4), none⟩,
    ⟨(some 9), .mv (.t 4), none⟩,
    ⟨(some 10), .cvi .u64 (.t 9), none⟩,
    ⟨(some 11), .call (n_Z20) [(.t 10)], none⟩,
    ⟨(some 12), .mv (.t 1), none⟩,
    ⟨(some 13), .call (n_Z40) [(.t 7), (.c (.int .i64 0)), (.t 8), (.t 11), (.t 12)], none⟩]
def Z28_1 : IR := .ops l_Z28_1
@[go_sem] theorem w_Z28_1 : wp P Z28_1 Q e H = wpL P l_Z28_1 (Q .normal) e H := idE rfl
@[go_sem] def l_Z2_0 : List GOp := [⟨(some 2), .mv (.c (.bool false)), none⟩]
def Z2_0 : IR := .ops l_Z2_0
@[go_sem] theorem w_Z2_0 : wp P Z2_0 Q e H = wpL P l_Z2_0 (Q .normal) e H := idE rfl
@[go_sem] def l_Z2_1 : List GOp := [⟨(some 3), .mv (.t 0), none⟩,
    ⟨(some 4), .mv (.t 0), none⟩,
    ⟨(some 5), .bin .neq (.t 3) (.t 4), none⟩,
    ⟨(some 2), .mv (.t 5), none⟩]
def Z2_1 : IR := .ops l_Z2_1
@[go_sem] theorem w_Z2_1 : wp P Z2_1 Q e H = wpL P l_Z2_1 (Q .normal) e H := idE rfl
def F_Z2 : IFn := ⟨1, 6, [.t 2], (.seq Z2_0 (.seq Z2_1 .ret))⟩
theorem c_Z2 : compFn Try.prog [(0, [], []), (1, [], [])] Try.f141 = some F_Z2 := by kernel_rfl
theorem a_Z2 (hl : args.length = 1) (h : wp Try.prog (.seq Z2_0 (.seq Z2_1 .ret)) (postQ [.t 2] R) (env0 args) H) : ACall Try.prog n_Z2 args H R :=
  acall_of_wp mixed Try.func141 c_Z2 (by kernel_rfl) hl h
@[go_sem] def l_Z0_0 : List GOp := [⟨(some 4), .mv (.c (.int .i64 0)), none⟩]
def Z0_0 : IR := .ops l_Z0_0
@[go_sem] theorem w_Z0_0 : wp P Z0_0 Q e H = wpL P l_Z0_0 (Q .normal) e H := idE rfl
@[go_sem] def l_Z0_1 : List GOp := [⟨(some 7), .mv (.t 0), none⟩,
    ⟨(some 8), .call (n_Z2) [(.t 7)], none⟩,
    ⟨(some 5), .mv (.t 8), none⟩]
def Z0_1 : IR := .ops l_Z0_1
@[go_sem] theorem w_Z0_1 : wp P Z0_1 Q e H = wpL P l_Z0_1 (Q .normal) e H := idE rfl
@[go_sem] def l_Z0_2 : List GOp := [⟨(some 9), .mv (.t 1), none⟩,
    ⟨(some 10), .call (n_Z2) [(.t 9)], none⟩,
    ⟨(some 6), .mv (.t 10), none⟩]
def Z0_2 : IR := .ops l_Z0_2
@[go_sem] theorem w_Z0_2 : wp P Z0_2 Q e H = wpL P l_Z0_2 (Q .normal) e H := idE rfl
@[go_sem] def l_Z0_3 : List GOp := [⟨(some 11), .mv (.t 5), none⟩]
def Z0_3 : IR := .ops l_Z0_3
@[go_sem] theorem w_Z0_3 : wp P Z0_3 Q e H = wpL P l_Z0_3 (Q .normal) e H := idE rfl
@[go_sem] def l_Z0_4 : List GOp := [⟨(some 12), .mv (.t 6), none⟩]
def Z0_4 : IR := .ops l_Z0_4
@[go_sem] theorem w_Z0_4 : wp P Z0_4 Q e H = wpL P l_Z0_4 (Q .normal) e H := idE rfl
@[go_sem] def l_Z0_5 : List GOp := [⟨(some 4), .mv (.c (.int .i64 0)), none⟩]
def Z0_5 : IR := .ops l_Z0_5
@[go_sem] theorem w_Z0_5 : wp P Z0_5 Q e H = wpL P l_Z0_5 (Q .normal) e H := idE rfl
def Z0_6 : IR := .cond (.t 12) (.seq Z0_5 .ret) .skip
@[go_sem] theorem w_Z0_6 : wp P Z0_6 Q e H = condW P ((.t 12) : X) (.seq Z0_5 .ret) .skip Q e H := idE rfl
@[go_sem] def l_Z0_7 : List GOp := [⟨(some 4), .mv (.c (.int .i64 (-1))), none⟩]
def Z0_7 : IR := .ops l_Z0_7
@[go_sem] theorem w_Z0_7 : wp P Z0_7 Q e H = wpL P l_Z0_7 (Q .normal) e H := idE rfl
def Z0_8 : IR := .cond (.t 11) (.seq (.seq Z0_4 Z0_6) (.seq Z0_7 .ret)) .skip
@[go_sem] theorem w_Z0_8 : wp P Z0_8 Q e H = condW P ((.t 11) : X) (.seq (.seq Z0_4 Z0_6) (.seq Z0_7 .ret)) .skip Q e H := idE rfl
@[go_sem] def l_Z0_9 : List GOp := [⟨(some 13), .mv (.t 6), none⟩]
def Z0_9 : IR := .ops l_Z0_9
@[go_sem] theorem w_Z0_9 : wp P Z0_9 Q e H = wpL P l_Z0_9 (Q .normal) e H := idE rfl
@[go_sem] def l_Z0_10 : List GOp := [⟨(some 4), .mv (.c (.int .i64 1)), none⟩]
def Z0_10 : IR := .ops l_Z0_10
@[go_sem] theorem w_Z0_10 : wp P Z0_10 Q e H = wpL P l_Z0_10 (Q .normal) e H := idE rfl
def Z0_11 : IR := .cond (.t 13) (.seq Z0_10 .ret) .skip
@[go_sem] theorem w_Z0_11 : wp P Z0_11 Q e H = condW P ((.t 13) : X) (.seq Z0_10 .ret) .skip Q e H := idE rfl
@[go_sem] def l_Z0_12 : List GOp := [⟨(some 14), .mv (.t 0), none⟩,
    ⟨(some 15), .mv (.t 1), none⟩,
    ⟨(some 16), .bin .lss (.t 14) (.t 15), none⟩]
def Z0_12 : IR := .ops l_Z0_12
@[go_sem] theorem w_Z0_12 : wp P Z0_12 Q e H = wpL P l_Z0_12 (Q .normal) e H := idE rfl
@[go_sem] def l_Z0_13 : List GOp := [⟨(some 4), .mv (.c (.int .i64 (-1))), none⟩]
def Z0_13 : IR := .ops l_Z0_13
@[go_sem] theorem w_Z0_13 : wp P Z0_13 Q e H = wpL P l_Z0_13 (Q .normal) e H := idE rfl
def Z0_14 : IR := .cond (.t 16) (.seq Z0_13 .ret) .skip
@[go_sem] theorem w_Z0_14 : wp P Z0_14 Q e H = condW P ((.t 16) : X) (.seq Z0_13 .ret) .skip Q e H := idE rfl
@[go_sem] def l_Z0_15 : List GOp := [⟨(some 17), .mv (.t 0), none⟩,
    ⟨(some 18), .mv (.t 1), none⟩,
    ⟨(some 19), .bin .gtr (.t 17) (.t 18), none⟩]
def Z0_15 : IR := .ops l_Z0_15
@[go_sem] theorem w_Z0_15 : wp P Z0_15 Q e H = wpL P l_Z0_15 (Q .normal) e H := idE rfl
@[go_sem] def l_Z0_16 : List GOp := [⟨(some 4), .mv (.c (.int .i64 1)), none⟩]
def Z0_16 : IR := .ops l_Z0_16
@[go_sem] theorem w_Z0_16 : wp P Z0_16 Q e H = wpL P l_Z0_16 (Q .normal) e H := idE rfl
def Z0_17 : IR := .cond (.t 19) (.seq Z0_16 .ret) .skip
@[go_sem] theorem w_Z0_17 : wp P Z0_17 Q e H = condW P ((.t 19) : X) (.seq Z0_16 .ret) .skip Q e H := idE rfl
@[go_sem] def l_Z0_18 : List GOp := [⟨(some 4), .mv (.c (.int .i64 0)), none⟩]
def Z0_18 : IR := .ops l_Z0_18
@[go_sem] theorem w_Z0_18 : wp P Z0_18 Q e H = wpL P l_Z0_18 (Q .normal) e H := idE rfl
def F_Z0 : IFn := ⟨2, 20, [.t 4], (.seq Z0_0 (.seq Z0_1 (.seq Z0_2 (.seq (.seq Z0_3 Z0_8) (.seq (.seq Z0_9 Z0_11) (.seq (.seq Z0_12 Z0_14) (.seq (.seq Z0_15 Z0_17) (.seq Z0_18 .ret))))))))⟩
theorem c_Z0 : compFn Try.prog [(0, [], []), (1, [], []), (2, [], []), (3, [], []), (4, [], []), (5, [], []), (6, [], []), (7, [], []), (8, [], []), (9, [], []), (10, [], []), (11, [], []), (12, [], []), (13, [], [])] Try.f129 = some F_Z0 := by kernel_rfl
theorem a_Z0 (hl : args.length = 2) (h : wp Try.prog (.seq Z0_0 (.seq Z0_1 (.seq Z0_2 (.seq (.seq Z0_3 Z0_8) (.seq (.seq Z0_9 Z0_11) (.seq (.seq Z0_12 Z0_14) (.seq (.seq Z0_15 Z0_17) (.seq Z0_18 .ret)))))))) (postQ [.t 4] R) (env0 args) H) : ACall Try.prog n_Z0 args H R :=
  acall_of_wp mixed Try.func129 c_Z0 (by kernel_rfl) hl h
@[go_sem] def l_Z1_0 : List GOp := [⟨(some 2), .mv (.c (.int .i64 0)), none⟩]
def Z1_0 : IR := .ops l_Z1_0
@[go_sem] theorem w_Z1_0 : wp P Z1_0 Q e H = wpL P l_Z1_0 (Q .normal) e H := idE rfl
@[go_sem] def l_Z1_1 : List GOp := [⟨(some 3), .mv (.c (.int .i64 0)), none⟩]
def Z1_1 : IR := .ops l_Z1_1
@[go_sem] theorem w_Z1_1 : wp P Z1_1 Q e H = wpL P l_Z1_1 (Q .normal) e H := idE rfl
@[go_sem] def l_Z1_2 : List GOp := [⟨(some 6), .mv (.t 0), none⟩,
    ⟨(some 7), .len (.t 6), none⟩,
    ⟨(some 8), .mv (.c (.int .i64 0)), none⟩]
def Z1_2 : IR := .ops l_Z1_2
@[go_sem] theorem w_Z1_2 : wp P Z1_2 Q e H = wpL P l_Z1_2 (Q .normal) e H := idE rfl
@[go_sem] def l_Z1_3 : List GOp := [⟨(some 9), .bin .lss (.t 8) (.t 7), none⟩]
def Z1_3 : IR := .ops l_Z1_3
@[go_sem] theorem w_Z1_3 : wp P Z1_3 Q e H = wpL P l_Z1_3 (Q .normal) e H := idE rfl
def Z1_4 : IR := .cond (.t 9) .skip (.exit 0)
@[go_sem] theorem w_Z1_4 : wp P Z1_4 Q e H = condW P ((.t 9) : X) .skip (.exit 0) Q e H := idE rfl
@[go_sem] def l_Z1_5 : List GOp := [⟨(some 10), .iaddr (.t 6) (.t 8) 1, none⟩,
    ⟨(some 11), .load (.t 10) 1 false, none⟩,
    ⟨(some 5), .mv (.t 11), none⟩]
def Z1_5 : IR := .ops l_Z1_5
@[go_sem] theorem w_Z1_5 : wp P Z1_5 Q e H = wpL P l_Z1_5 (Q .normal) e H := idE rfl
@[go_sem] def l_Z1_6 : List GOp := [⟨(some 12), .mv (.t 5), none⟩,
    ⟨(some 13), .mv (.t 3), none⟩,
    ⟨(some 14), .bin .neq (.t 12) (.t 13), none⟩]
def Z1_6 : IR := .ops l_Z1_6
@[go_sem] theorem w_Z1_6 : wp P Z1_6 Q e H = wpL P l_Z1_6 (Q .normal) e H := idE rfl
@[go_sem] def l_Z1_7 : List GOp := [⟨(some 15), .mv (.t 5), none⟩,
    ⟨(some 2), .mv (.t 15), none⟩]
def Z1_7 : IR := .ops l_Z1_7
@[go_sem] theorem w_Z1_7 : wp P Z1_7 Q e H = wpL P l_Z1_7 (Q .normal) e H := idE rfl
def Z1_8 : IR := .cond (.t 14) (.seq Z1_7 .ret) .skip
@[go_sem] theorem w_Z1_8 : wp P Z1_8 Q e H = condW P ((.t 14) : X) (.seq Z1_7 .ret) .skip Q e H := idE rfl
def Z1_9 : IR := .block 1 (.seq Z1_5 (.seq Z1_6 Z1_8))
@[go_sem] theorem w_Z1_9 : wp P Z1_9 Q e H = wp P (.seq Z1_5 (.seq Z1_6 Z1_8)) (blockQ 1 Q) e H := idE rfl
@[go_sem] def l_Z1_10 : List GOp := [⟨(some 16), .bin .add (.t 8) (.c (.int .i64 1)), none⟩,
    ⟨(some 8), .mv (.t 16), none⟩]
def Z1_10 : IR := .ops l_Z1_10
@[go_sem] theorem w_Z1_10 : wp P Z1_10 Q e H = wpL P l_Z1_10 (Q .normal) e H := idE rfl
def Z1_11 : IR := .loop (.seq Z1_3 (.seq Z1_4 (.seq Z1_9 Z1_10)))
def Z1_12 : IR := .block 0 Z1_11
@[go_sem] theorem w_Z1_12 : wp P Z1_12 Q e H = wp P Z1_11 (blockQ 0 Q) e H := idE rfl
@[go_sem] def l_Z1_13 : List GOp := [⟨(some 17), .mv (.t 3), none⟩,
    ⟨(some 2), .mv (.t 17), none⟩]
def Z1_13 : IR := .ops l_Z1_13
@[go_sem] theorem w_Z1_13 : wp P Z1_13 Q e H = wpL P l_Z1_13 (Q .normal) e H := idE rfl
def F_Z1 : IFn := ⟨1, 18, [.t 2], (.seq Z1_0 (.seq Z1_1 (.seq (.seq Z1_2 Z1_12) (.seq Z1_13 .ret))))⟩
theorem c_Z1 : compFn Try.prog [(0, [], []), (1, [], []), (2, [], []), (3, [], []), (4, [], []), (5, [], []), (6, [], []), (7, [], []), (8, [], [])] Try.f128 = some F_Z1 := by kernel_rfl
theorem a_Z1 (hl : args.length = 1) (h : wp Try.prog (.seq Z1_0 (.seq Z1_1 (.seq (.seq Z1_2 Z1_12) (.seq Z1_13 .ret)))) (postQ [.t 2] R) (env0 args) H) : ACall Try.prog n_Z1 args H R :=
  acall_of_wp mixed Try.func128 c_Z1 (by kernel_rfl) hl h
@[go_sem] def l_Z9_1_0 : List GOp := [⟨(some 4), .mv (.c (.int .i64 0)), none⟩]
def Z9_1_0 : IR := .ops l_Z9_1_0
@[go_sem] theorem w_Z9_1_0 : wp P Z9_1_0 Q e H = wpL P l_Z9_1_0 (Q .normal) e H := idE rfl
@[go_sem] def l_Z9_1_1 : List GOp := [⟨(some 5), .mv (.t 0), none⟩,
    ⟨(some 6), .call (n_Z7) [(.t 5)], none⟩,
    ⟨(some 7), .mv (.t 1), none⟩,
    ⟨(some 8), .call (n_Z7) [(.t 7)], none⟩,
    ⟨(some 9), .call (n_Z0) [(.t 6), (.t 8)], none⟩,
    ⟨(some 10), .mv (.t 0), none⟩,
    ⟨(some 11), .mv (.t 1), none⟩,
    ⟨(some 12), .call (n_Z0) [(.t 10), (.t 11)], none⟩,
    ⟨(some 13), .bslc 1 2 [(.int .i64 0)] [(0, (.t 9)), (1, (.t 12))], none⟩,
    ⟨(some 14), .call (n_Z1) [(.t 13)], none⟩,
    ⟨(some 4), .mv (.t 14), none⟩]
def Z9_1_1 : IR := .ops l_Z9_1_1
@[go_sem] theorem w_Z9_1_1 : wp P Z9_1_1 Q e H = wpL P l_Z9_1_1 (Q .normal) e H := idE rfl
def F_Z9_1 : IFn := ⟨2, 15, [.t 4], (.seq Z9_1_0 (.seq Z9_1_1 .ret))⟩
theorem c_Z9_1 : compFn Try.prog [(0, [], []), (1, [], [])] Try.f127 = some F_Z9_1 := by kernel_rfl
theorem a_Z9_1 (hl : args.length = 2) (h : wp Try.prog (.seq Z9_1_0 (.seq Z9_1_1 .ret)) (postQ [.t 4] R) (env0 args) H) : ACall Try.prog n_Z9_1 args H R :=
  acall_of_wp mixed Try.func127 c_Z9_1 (by kernel_rfl) hl h
@[go_sem] def l_Z25_0 : List GOp := [⟨(some 2), .mv (.c (.sl none 0 0 true 0)), none⟩]
def Z25_0 : IR := .ops l_Z25_0
@[go_sem] theorem w_Z25_0 : wp P Z25_0 Q e H = wpL P l_Z25_0 (Q .normal) e H := idE rfl
@[go_sem] def l_Z25_1 : List GOp := [⟨(some 6), .mv (.t 0), none⟩,
    ⟨(some 7), .len (.t 6), none⟩,
    ⟨(some 8), .bin .lss (.t 7) (.c (.int .i64 2)), none⟩]
def Z25_1 : IR := .ops l_Z25_1
@[go_sem] theorem w_Z25_1 : wp P Z25_1 Q e H = wpL P l_Z25_1 (Q .normal) e H := idE rfl
@[go_sem] def l_Z25_2 : List GOp := [⟨(some 9), .mv (.t 0), none⟩,
    ⟨(some 2), .mv (.t 9), none⟩]
def Z25_2 : IR := .ops l_Z25_2
@[go_sem] theorem w_Z25_2 : wp P Z25_2 Q e H = wpL P l_Z25_2 (Q .normal) e H := idE rfl
def Z25_3 : IR := .cond (.t 8) (.seq Z25_2 .ret) .skip
@[go_sem] theorem w_Z25_3 : wp P Z25_3 Q e H = condW P ((.t 8) : X) (.seq Z25_2 .ret) .skip Q e H := idE rfl
@[go_sem] def l_Z25_4 : List GOp := [⟨(some 3), .mv (.c (.int .i64 1)), none⟩]
def Z25_4 : IR := .ops l_Z25_4
@[go_sem] theorem w_Z25_4 : wp P Z25_4 Q e H = wpL P l_Z25_4 (Q .normal) e H := idE rfl
@[go_sem] def l_Z25_5 : List GOp := [⟨(some 10), .mv (.t 3), none⟩,
    ⟨(some 11), .mv (.t 0), none⟩,
    ⟨(some 12), .len (.t 11), none⟩,
    ⟨(some 13), .bin .lss (.t 10) (.t 12), none⟩]
def Z25_5 : IR := .ops l_Z25_5
@[go_sem] theorem w_Z25_5 : wp P Z25_5 Q e H = wpL P l_Z25_5 (Q .normal) e H := idE rfl
def Z25_6 : IR := .cond (.t 13) .skip (.exit 0)
@[go_sem] theorem w_Z25_6 : wp P Z25_6 Q e H = condW P ((.t 13) : X) .skip (.exit 0) Q e H := idE rfl
def l_Z25_7 : List GOp := [⟨(some 16), .mv (.t 0), none⟩,
    ⟨(some 17), .mv (.t 3), none⟩,
    ⟨(some 18), .iaddr (.t 16) (.t 17) 1, none⟩,
    ⟨(some 19), .load (.t 18) 1 false, none⟩,
    ⟨(some 20), .mv (.t 0), none⟩,
    ⟨(some 21), .mv (.t 3), none⟩,
    ⟨(some 22), .bin .sub (.t 21) (.c (.int .i64 1)), none⟩,
    ⟨(some 23), .iaddr (.t 20) (.t 22) 1, none⟩,
    ⟨(some 24), .load (.t 23) 1 false, none⟩,
    ⟨(some 25), .bin .eql (.t 19) (.t 24), none⟩]
@[go_sem] theorem g_Z25_7_0 : gAt l_Z25_7 0 = ⟨(some 16), .mv (.t 0), none⟩ := idE rfl
@[go_sem] theorem g_Z25_7_1 : gAt l_Z25_7 1 = ⟨(some 17), .mv (.t 3), none⟩ := idE rfl
@[go_sem] theorem g_Z25_7_2 : gAt l_Z25_7 2 = ⟨(some 18), .iaddr (.t 16) (.t 17) 1, none⟩ := idE rfl
@[go_sem] theorem g_Z25_7_3 : gAt l_Z25_7 3 = ⟨(some 19), .load (.t 18) 1 false, none⟩ := idE rfl
@[go_sem] theorem g_Z25_7_4 : gAt l_Z25_7 4 = ⟨(some 20), .mv (.t 0), none⟩ := idE rfl
@[go_sem] theorem g_Z25_7_5 : gAt l_Z25_7 5 = ⟨(some 21), .mv (.t 3), none⟩ := idE rfl
@[go_sem] theorem g_Z25_7_6 : gAt l_Z25_7 6 = ⟨(some 22), .bin .sub (.t 21) (.c (.int .i64 1)), none⟩ := idE rfl
@[go_sem] theorem g_Z25_7_7 : gAt l_Z25_7 7 = ⟨(some 23), .iaddr (.t 20) (.t 22) 1, none⟩ := idE rfl
@[go_sem] theorem g_Z25_7_8 : gAt l_Z25_7 8 = ⟨(some 24), .load (.t 23) 1 false, none⟩ := idE rfl
@[go_sem] theorem g_Z25_7_9 : gAt l_Z25_7 9 = ⟨(some 25), .bin .eql (.t 19) (.t 24), none⟩ := idE rfl
def Z25_7 : IR := .dops l_Z25_7 [(0, []), (1, []), (2, []), (3, []), (4, []), (5, []), (6, []), (7, []), (8, []), (9, [])]
@[go_sem] theorem w_Z25_7 : wp P Z25_7 Q e H = wpD P l_Z25_7 [(0, []), (1, []), (2, []), (3, []), (4, []), (5, []), (6, []), (7, []), (8, []), (9, [])] (Q .normal) e H := idE rfl
@[go_sem] def l_Z25_8 : List GOp := [⟨(some 26), .mv (.t 0), none⟩,
    ⟨(some 27), .mv (.t 3), none⟩,
    ⟨(some 28), .slc 1 (.t 26) (some (.t 27)) none none, none⟩,
    ⟨(some 4), .mv (.t 28), none⟩]
def Z25_8 : IR := .ops l_Z25_8
@[go_sem] theorem w_Z25_8 : wp P Z25_8 Q e H = wpL P l_Z25_8 (Q .normal) e H := idE rfl
@[go_sem] def l_Z25_9 : List GOp := [⟨(some 5), .mv (.c (.int .i64 1)), none⟩]
def Z25_9 : IR := .ops l_Z25_9
@[go_sem] theorem w_Z25_9 : wp P Z25_9 Q e H = wpL P l_Z25_9 (Q .normal) e H := idE rfl
@[go_sem] def l_Z25_10 : List GOp := [⟨(some 29), .mv (.t 5), none⟩,
    ⟨(some 30), .mv (.t 4), none⟩,
    ⟨(some 31), .len (.t 30), none⟩,
    ⟨(some 32), .bin .lss (.t 29) (.t 31), none⟩]
def Z25_10 : IR := .ops l_Z25_10
@[go_sem] theorem w_Z25_10 : wp P Z25_10 Q e H = wpL P l_Z25_10 (Q .normal) e H := idE rfl
def Z25_11 : IR := .cond (.t 32) .skip (.exit 2)
@[go_sem] theorem w_Z25_11 : wp P Z25_11 Q e H = condW P ((.t 32) : X) .skip (.exit 2) Q e H := idE rfl
def l_Z25_12 : List GOp := [⟨(some 35), .mv (.t 4), none⟩,
    ⟨(some 36), .mv (.t 5), none⟩,
    ⟨(some 37), .iaddr (.t 35) (.t 36) 1, none⟩,
    ⟨(some 38), .load (.t 37) 1 false, none⟩,
    ⟨(some 39), .mv (.t 4), none⟩,
    ⟨(some 40), .mv (.t 5), none⟩,
    ⟨(some 41), .bin .sub (.t 40) (.c (.int .i64 1)), none⟩,
    ⟨(some 42), .iaddr (.t 39) (.t 41) 1, none⟩,
    ⟨(some 43), .load (.t 42) 1 false, none⟩,
    ⟨(some 44), .bin .neq (.t 38) (.t 43), none⟩]
@[go_sem] theorem g_Z25_12_0 : gAt l_Z25_12 0 = ⟨(some 35), .mv (.t 4), none⟩ := idE rfl
@[go_sem] theorem g_Z25_12_1 : gAt l_Z25_12 1 = ⟨(some 36), .mv (.t 5), none⟩ := idE rfl
@[go_sem] theorem g_Z25_12_2 : gAt l_Z25_12 2 = ⟨(some 37), .iaddr (.t 35) (.t 36) 1, none⟩ := idE rfl
@[go_sem] theorem g_Z25_12_3 : gAt l_Z25_12 3 = ⟨(some 38), .load (.t 37) 1 false, none⟩ := idE rfl
@[go_sem] theorem g_Z25_12_4 : gAt l_Z25_12 4 = ⟨(some 39), .mv (.t 4), none⟩ := idE rfl
@[go_sem] theorem g_Z25_12_5 : gAt l_Z25_12 5 = ⟨(some 40), .mv (.t 5), none⟩ := idE rfl
@[go_sem] theorem g_Z25_12_6 : gAt l_Z25_12 6 = ⟨(some 41), .bin .sub (.t 40) (.c (.int .i64 1)), none⟩ := idE rfl
@[go_sem] theorem g_Z25_12_7 : gAt l_Z25_12 7 = ⟨(some 42), .iaddr (.t 39) (.t 41) 1, none⟩ := idE rfl
@[go_sem] theorem g_Z25_12_8 : gAt l_Z25_12 8 = ⟨(some 43), .load (.t 42) 1 false, none⟩ := idE rfl
@[go_sem] theorem g_Z25_12_9 : gAt l_Z25_12 9 = ⟨(some 44), .bin .neq (.t 38) (.t 43), none⟩ := idE rfl
def Z25_12 : IR := .dops l_Z25_12 [(0, []), (1, []), (2, []), (3, []), (4, []), (5, []), (6, []), (7, []), (8, []), (9, [])]
@[go_sem] theorem w_Z25_12 : wp P Z25_12 Q e H = wpD P l_Z25_12 [(0, []), (1, []), (2, []), (3, []), (4, []), (5, []), (6, []), (7, []), (8, []), (9, [])] (Q .normal) e H := idE rfl
@[go_sem] def l_Z25_13 : List GOp := [⟨(some 45), .mv (.t 0), none⟩,
    ⟨(some 46), .mv (.t 3), none⟩,
    ⟨(some 47), .mv (.t 4), none⟩,
    ⟨(some 48), .mv (.t 5), none⟩,
    ⟨(some 49), .iaddr (.t 47) (.t 48) 1, none⟩,
    ⟨(some 50), .load (.t 49) 1 false, none⟩,
    ⟨(some 51), .iaddr (.t 45) (.t 46) 1, none⟩,
    ⟨none, .store (.t 51) 1 (.t 50), none⟩]
def Z25_13 : IR := .ops l_Z25_13
@[go_sem] theorem w_Z25_13 : wp P Z25_13 Q e H = wpL P l_Z25_13 (Q .normal) e H := idE rfl
@[go_sem] def l_Z25_14 : List GOp := [⟨(some 52), .mv (.t 3), none⟩,
    ⟨(some 53), .bin .add (.t 52) (.c (.int .i64 1)), none⟩,
    ⟨(some 3), .mv (.t 53), none⟩]
def Z25_14 : IR := .ops l_Z25_14
@[go_sem] theorem w_Z25_14 : wp P Z25_14 Q e H = wpL P l_Z25_14 (Q .normal) e H := idE rfl
def Z25_15 : IR := .cond (.t 44) (.seq Z25_13 Z25_14) .skip
@[go_sem] theorem w_Z25_15 : wp P Z25_15 Q e H = condW P ((.t 44) : X) (.seq Z25_13 Z25_14) .skip Q e H := idE rfl
def Z25_16 : IR := .block 3 (.seq Z25_12 Z25_15)
@[go_sem] theorem w_Z25_16 : wp P Z25_16 Q e H = wp P (.seq Z25_12 Z25_15) (blockQ 3 Q) e H := idE rfl
@[go_sem] def l_Z25_17 : List GOp := [⟨(some 33), .mv (.t 5), none⟩,
    ⟨(some 34), .bin .add (.t 33) (.c (.int .i64 1)), none⟩,
    ⟨(some 5), .mv (.t 34), none⟩]
def Z25_17 : IR := .ops l_Z25_17
@[go_sem] theorem w_Z25_17 : wp P Z25_17 Q e H = wpL P l_Z25_17 (Q .normal) e H := idE rfl
def Z25_18 : IR := .loop (.seq (.seq Z25_10 Z25_11) (.seq Z25_16 Z25_17))
def Z25_19 : IR := .block 2 Z25_18
@[go_sem] theorem w_Z25_19 : wp P Z25_19 Q e H = wp P Z25_18 (blockQ 2 Q) e H := idE rfl
@[go_sem] def l_Z25_20 : List GOp := [⟨(some 54), .mv (.t 0), none⟩,
    ⟨(some 55), .mv (.t 3), none⟩,
    ⟨(some 56), .slc 1 (.t 54) (some (.t 55)) none none, none⟩,
    ⟨none, .clear [(.int .i64 0)] (.t 56), none⟩]
def Z25_20 : IR := .ops l_Z25_20
@[go_sem] theorem w_Z25_20 : wp P Z25_20 Q e H = wpL P l_Z25_20 (Q .normal) e H := idE rfl
@[go_sem] def l_Z25_21 : List GOp := [⟨(some 57), .mv (.t 0), none⟩,
    ⟨(some 58), .mv (.t 3), none⟩,
    ⟨(some 59), .slc 1 (.t 57) none (some (.t 58)) none, none⟩,
    ⟨(some 2), .mv (.t 59), none⟩]
def Z25_21 : IR := .ops l_Z25_21
@[go_sem] theorem w_Z25_21 : wp P Z25_21 Q e H = wpL P l_Z25_21 (Q .normal) e H := idE rfl
def Z25_22 : IR := .cond (.t 25) (.seq Z25_8 (.seq (.seq Z25_9 Z25_19) (.seq Z25_20 (.seq Z25_21 .ret)))) .skip
@[go_sem] theorem w_Z25_22 : wp P Z25_22 Q e H = condW P ((.t 25) : X) (.seq Z25_8 (.seq (.seq Z25_9 Z25_19) (.seq Z25_20 (.seq Z25_21 .ret)))) .skip Q e H := idE rfl
def Z25_23 : IR := .block 1 (.seq Z25_7 Z25_22)
@[go_sem] theorem w_Z25_23 : wp P Z25_23 Q e H = wp P (.seq Z25_7 Z25_22) (blockQ 1 Q) e H := idE rfl
@[go_sem] def l_Z25_24 : List GOp := [⟨(some 14), .mv (.t 3), none⟩,
    ⟨(some 15), .bin .add (.t 14) (.c (.int .i64 1)), none⟩,
    ⟨(some 3), .mv (.t 15), none⟩]
def Z25_24 : IR := .ops l_Z25_24
@[go_sem] theorem w_Z25_24 : wp P Z25_24 Q e H = wpL P l_Z25_24 (Q .normal) e H := idE rfl
def Z25_25 : IR := .loop (.seq (.seq Z25_5 Z25_6) (.seq Z25_23 Z25_24))
def Z25_26 : IR := .block 0 Z25_25
@[go_sem] theorem w_Z25_26 : wp P Z25_26 Q e H = wp P Z25_25 (blockQ 0 Q) e H := idE rfl
@[go_sem] def l_Z25_27 : List GOp := [⟨(some 60), .mv (.t 0), none⟩,
    ⟨(some 2), .mv (.t 60), none⟩]
def Z25_27 : IR := .ops l_Z25_27
@[go_sem] theorem w_Z25_27 : wp P Z25_27 Q e H = wpL P l_Z25_27 (Q .normal) e H := idE rfl
def F_Z25 : IFn := ⟨1, 61, [.t 2], (.seq Z25_0 (.seq (.seq Z25_1 Z25_3) (.seq (.seq Z25_4 Z25_26) (.seq Z25_27 .ret))))⟩
theorem c_Z25 : compFn Try.prog [(0, [], []), (1, [], []), (2, [], []), (3, [], []), (4, [], []), (6, [(0, []), (1, []), (2, []), (3, []), (4, []), (5, []), (6, []), (7, []), (8, []), (9, [])], []), (7, [], []), (8, [], []), (9, [], []), (11, [(0, []), (1, []), (2, []), (3, []), (4, []), (5, []), (6, []), (7, []), (8, []), (9, [])], []), (12, [], []), (13, [], []), (10, [], []), (14, [], []), (15, [], []), (5, [], []), (16, [], [])] Try.f130 = some F_Z25 := by kernel_rfl
theorem a_Z25 (hl : args.length = 1) (h : wp Try.prog (.seq Z25_0 (.seq (.seq Z25_1 Z25_3) (.seq (.seq Z25_4 Z25_26) (.seq Z25_27 .ret)))) (postQ [.t 2] R) (env0 args) H) : ACall Try.prog n_Z25 args H R :=
  acall_of_wp mixed Try.func130 c_Z25 (by kernel_rfl) hl h
@[go_sem] def l_Z10_0 : List GOp := [⟨(some 2), .mv (.c (.sl none 0 0 true 0)), none⟩]
def Z10_0 : IR := .ops l_Z10_0
@[go_sem] theorem w_Z10_0 : wp P Z10_0 Q e H = wpL P l_Z10_0 (Q .normal) e H := idE rfl
@[go_sem] def l_Z10_1 : List GOp := [⟨(some 4), .mv (.t 0), none⟩,
    ⟨(some 5), .len (.t 4), none⟩,
    ⟨(some 6), .bin .eql (.t 5) (.c (.int .i64 0)), none⟩]
def Z10_1 : IR := .ops l_Z10_1
@[go_sem] theorem w_Z10_1 : wp P Z10_1 Q e H = wpL P l_Z10_1 (Q .normal) e H := idE rfl
@[go_sem] def l_Z10_2 : List GOp := [⟨(some 2), .mv (.c (.sl none 0 0 true 0)), none⟩]
def Z10_2 : IR := .ops l_Z10_2
@[go_sem] theorem w_Z10_2 : wp P Z10_2 Q e H = wpL P l_Z10_2 (Q .normal) e H := idE rfl
def Z10_3 : IR := .cond (.t 6) (.seq Z10_2 .ret) .skip
@[go_sem] theorem w_Z10_3 : wp P Z10_3 Q e H = condW P ((.t 6) : X) (.seq Z10_2 .ret) .skip Q e H := idE rfl
@[go_sem] def l_Z10_4 : List GOp := [⟨(some 7), .mv (.t 0), none⟩,
    ⟨(some 8), .len (.t 7), none⟩,
    ⟨(some 9), .mks [(.int .i64 0)] 8 (.t 8), none⟩,
    ⟨(some 3), .mv (.t 9), none⟩]
def Z10_4 : IR := .ops l_Z10_4
@[go_sem] theorem w_Z10_4 : wp P Z10_4 Q e H = wpL P l_Z10_4 (Q .normal) e H := idE rfl
@[go_sem] def l_Z10_5 : List GOp := [⟨(some 10), .mv (.t 3), none⟩,
    ⟨(some 11), .mv (.t 0), none⟩,
    ⟨(some 12), .copy 1 (.t 10) (.t 11), none⟩]
def Z10_5 : IR := .ops l_Z10_5
@[go_sem] theorem w_Z10_5 : wp P Z10_5 Q e H = wpL P l_Z10_5 (Q .normal) e H := idE rfl
@[go_sem] def l_Z10_6 : List GOp := [⟨(some 13), .mv (.t 3), none⟩,
    ⟨(some 2), .mv (.t 13), none⟩]
def Z10_6 : IR := .ops l_Z10_6
@[go_sem] theorem w_Z10_6 : wp P Z10_6 Q e H = wpL P l_Z10_6 (Q .normal) e H := idE rfl
def F_Z10 : IFn := ⟨1, 14, [.t 2], (.seq Z10_0 (.seq (.seq Z10_1 Z10_3) (.seq Z10_4 (.seq Z10_5 (.seq Z10_6 .ret)))))⟩
theorem c_Z10 : compFn Try.prog [(0, [], []), (1, [], []), (2, [], []), (3, [], []), (4, [], []), (5, [], [])] Try.f74 = some F_Z10 := by kernel_rfl
theorem a_Z10 (hl : args.length = 1) (h : wp Try.prog (.seq Z10_0 (.seq (.seq Z10_1 Z10_3) (.seq Z10_4 (.seq Z10_5 (.seq Z10_6 .ret))))) (postQ [.t 2] R) (env0 args) H) : ACall Try.prog n_Z10 args H R :=
  acall_of_wp mixed Try.func74 c_Z10 (by kernel_rfl) hl h
@[go_sem] def l_Z9_0 : List GOp := [⟨(some 2), .mv (.c (.sl none 0 0 true 0)), none⟩,
    ⟨(some 3), .mv (.c (.bool false)), none⟩]
def Z9_0 : IR := .ops l_Z9_0
@[go_sem] theorem w_Z9_0 : wp P Z9_0 Q e H = wpL P l_Z9_0 (Q .normal) e H := idE rfl
@[go_sem] def l_Z9_1 : List GOp := [⟨(some 6), .mv (.t 0), none⟩,
    ⟨(some 7), .call (n_Z24) [(.t 6)], none⟩,
    ⟨(some 4), .mv (.t 7), none⟩]
def Z9_1 : IR := .ops l_Z9_1
@[go_sem] theorem w_Z9_1 : wp P Z9_1 Q e H = wpL P l_Z9_1 (Q .normal) e H := idE rfl
@[go_sem] def l_Z9_2 : List GOp := [⟨(some 8), .mv (.t 4), none⟩,
    ⟨(some 9), .call (n_Z28) [(.t 8), (.c (.fn (n_Z9_1) []))], none⟩]
def Z9_2 : IR := .ops l_Z9_2
@[go_sem] theorem w_Z9_2 : wp P Z9_2 Q e H = wpL P l_Z9_2 (Q .normal) e H := idE rfl
@[go_sem] def l_Z9_3 : List GOp := [⟨(some 10), .mv (.t 4), none⟩,
    ⟨(some 11), .call (n_Z25) [(.t 10)], none⟩,
    ⟨(some 4), .mv (.t 11), none⟩]
def Z9_3 : IR := .ops l_Z9_3
@[go_sem] theorem w_Z9_3 : wp P Z9_3 Q e H = wpL P l_Z9_3 (Q .normal) e H := idE rfl
@[go_sem] def l_Z9_4 : List GOp := [⟨(some 5), .mv (.c (.int .i64 1)), none⟩]
def Z9_4 : IR := .ops l_Z9_4
@[go_sem] theorem w_Z9_4 : wp P Z9_4 Q e H = wpL P l_Z9_4 (Q .normal) e H := idE rfl
@[go_sem] def l_Z9_5 : List GOp := [⟨(some 12), .mv (.t 5), none⟩,
    ⟨(some 13), .mv (.t 4), none⟩,
    ⟨(some 14), .len (.t 13), none⟩,
    ⟨(some 15), .bin .lss (.t 12) (.t 14), none⟩]
def Z9_5 : IR := .ops l_Z9_5
@[go_sem] theorem w_Z9_5 : wp P Z9_5 Q e H = wpL P l_Z9_5 (Q .normal) e H := idE rfl
def Z9_6 : IR := .cond (.t 15) .skip (.exit 0)
@[go_sem] theorem w_Z9_6 : wp P Z9_6 Q e H = condW P ((.t 15) : X) .skip (.exit 0) Q e H := idE rfl
def l_Z9_7 : List GOp := [⟨(some 18), .mv (.t 4), none⟩,
    ⟨(some 19), .mv (.t 5), none⟩,
    ⟨(some 20), .iaddr (.t 18) (.t 19) 1, none⟩,
    ⟨(some 21), .load (.t 20) 1 false, none⟩,
    ⟨(some 22), .mv (.t 4), none⟩,
    ⟨(some 23), .mv (.t 5), none⟩,
    ⟨(some 24), .bin .sub (.t 23) (.c (.int .i64 1)), none⟩,
    ⟨(some 25), .iaddr (.t 22) (.t 24) 1, none⟩,
    ⟨(some 26), .load (.t 25) 1 false, none⟩,
    ⟨(some 27), .un .neg (.t 26), none⟩,
    ⟨(some 28), .bin .eql (.t 21) (.t 27), none⟩]
@[go_sem] theorem g_Z9_7_0 : gAt l_Z9_7 0 = ⟨(some 18), .mv (.t 4), none⟩ := idE rfl
@[go_sem] theorem g_Z9_7_1 : gAt l_Z9_7 1 = ⟨(some 19), .mv (.t 5), none⟩ := idE rfl
@[go_sem] theorem g_Z9_7_2 : gAt l_Z9_7 2 = ⟨(some 20), .iaddr (.t 18) (.t 19) 1, none⟩ := idE rfl
@[go_sem] theorem g_Z9_7_3 : gAt l_Z9_7 3 = ⟨(some 21), .load (.t 20) 1 false, none⟩ := idE rfl
@[go_sem] theorem g_Z9_7_4 : gAt l_Z9_7 4 = ⟨(some 22), .mv (.t 4), none⟩ := idE rfl
@[go_sem] theorem g_Z9_7_5 : gAt l_Z9_7 5 = ⟨(some 23), .mv (.t 5), none⟩ := idE rfl
@[go_sem] theorem g_Z9_7_6 : gAt l_Z9_7 6 = ⟨(some 24), .bin .sub (.t 23) (.c (.int .i64 1)), none⟩ := idE rfl
@[go_sem] theorem g_Z9_7_7 : gAt l_Z9_7 7 = ⟨(some 25), .iaddr (.t 22) (.t 24) 1, none⟩ := idE rfl
@[go_sem] theorem g_Z9_7_8 : gAt l_Z9_7 8 = ⟨(some 26), .load (.t 25) 1 false, none⟩ := idE rfl
@[go_sem] theorem g_Z9_7_9 : gAt l_Z9_7 9 = ⟨(some 27), .un .neg (.t 26), none⟩ := idE rfl
@[go_sem] theorem g_Z9_7_10 : gAt l_Z9_7 10 = ⟨(some 28), .bin .eql (.t 21) (.t 27), none⟩ := idE rfl
def Z9_7 : IR := .dops l_Z9_7 [(0, []), (1, []), (2, []), (3, []), (4, []), (5, []), (6, []), (7, []), (8, []), (9, []), (10, [])]
@[go_sem] theorem w_Z9_7 : wp P Z9_7 Q e H = wpD P l_Z9_7 [(0, []), (1, []), (2, []), (3, []), (4, []), (5, []), (6, []), (7, []), (8, []), (9, []), (10, [])] (Q .normal) e H := idE rfl
@[go_sem] def l_Z9_8 : List GOp := [⟨(some 2), .mv (.c (.sl none 0 0 true 0)), none⟩,
    ⟨(some 3), .mv (.c (.bool false)), none⟩]
def Z9_8 : IR := .ops l_Z9_8
@[go_sem] theorem w_Z9_8 : wp P Z9_8 Q e H = wpL P l_Z9_8 (Q .normal) e H := idE rfl
def Z9_9 : IR := .cond (.t 28) (.seq Z9_8 .ret) .skip
@[go_sem] theorem w_Z9_9 : wp P Z9_9 Q e H = condW P ((.t 28) : X) (.seq Z9_8 .ret) .skip Q e H := idE rfl
def Z9_10 : IR := .block 1 (.seq Z9_7 Z9_9)
@[go_sem] theorem w_Z9_10 : wp P Z9_10 Q e H = wp P (.seq Z9_7 Z9_9) (blockQ 1 Q) e H := idE rfl
@[go_sem] def l_Z9_11 : List GOp := [⟨(some 16), .mv (.t 5), none⟩,
    ⟨(some 17), .bin .add (.t 16) (.c (.int .i64 1)), none⟩,
    ⟨(some 5), .mv (.t 17), none⟩]
def Z9_11 : IR := .ops l_Z9_11
@[go_sem] theorem w_Z9_11 : wp P Z9_11 Q e H = wpL P l_Z9_11 (Q .normal) e H := idE rfl
def Z9_12 : IR := .loop (.seq (.seq Z9_5 Z9_6) (.seq Z9_10 Z9_11))
def Z9_13 : IR := .block 0 Z9_12
@[go_sem] theorem w_Z9_13 : wp P Z9_13 Q e H = wp P Z9_12 (blockQ 0 Q) e H := idE rfl
@[go_sem] def l_Z9_14 : List GOp := [⟨(some 29), .mv (.t 4), none⟩,
    ⟨(some 30), .call (n_Z10) [(.t 29)], none⟩,
    ⟨(some 2), .mv (.t 30), none⟩,
    ⟨(some 3), .mv (.c (.bool true)), none⟩]
def Z9_14 : IR := .ops l_Z9_14
@[go_sem] theorem w_Z9_14 : wp P Z9_14 Q e H = wpL P l_Z9_14 (Q .normal) e H := idE rfl
def F_Z9 : IFn := ⟨1, 31, [.t 2, .t 3], (.seq Z9_0 (.seq Z9_1 (.seq Z9_2 (.seq Z9_3 (.seq (.seq Z9_4 Z9_13) (.seq Z9_14 .ret))))))⟩
theorem c_Z9 : compFn Try.prog [(0, [], []), (1, [], []), (2, [], []), (3, [], []), (4, [], []), (5, [], []), (7, [(0, []), (1, []), (2, []), (3, []), (4, []), (5, []), (6, []), (7, []), (8, []), (9, []), (10, [])], []), (8, [], []), (6, [], []), (9, [], [])] Try.f96 = some F_Z9 := by kernel_rfl
theorem a_Z9 (hl : args.length = 1) (h : wp Try.prog (.seq Z9_0 (.seq Z9_1 (.seq Z9_2 (.seq Z9_3 (.seq (.seq Z9_4 Z9_13) (.seq Z9_14 .ret)))))) (postQ [.t 2, .t 3] R) (env0 args) H) : ACall Try.prog n_Z9 args H R :=
  acall_of_wp mixed Try.func96 c_Z9 (by kernel_rfl) hl h
@[go_sem] def l_Z13_0 : List GOp := [⟨(some 4), .mv (.c (.bool false)), none⟩]
def Z13_0 : IR := .ops l_Z13_0
@[go_sem] theorem w_Z13_0 : wp P Z13_0 Q e H = wpL P l_Z13_0 (Q .normal) e H := idE rfl
@[go_sem] def l_Z13_1 : List GOp := [⟨(some 12), .mv (.t 0), none⟩,
    ⟨(some 13), .nilck (.t 12), none⟩,
    ⟨(some 14), .faddr (.t 13) 0, none⟩,
    ⟨(some 15), .faddr (.t 14) 0, none⟩,
    ⟨(some 16), .load (.t 15) 1 false, none⟩,
    ⟨(some 17), .mv (.t 1), none⟩,
    ⟨(some 18), .call (n_Z17) [(.t 16), (.t 17)], none⟩,
    ⟨(some 5), .mv (.t 18), none⟩]
def Z13_1 : IR := .ops l_Z13_1
@[go_sem] theorem w_Z13_1 : wp P Z13_1 Q e H = wpL P l_Z13_1 (Q .normal) e H := idE rfl
@[go_sem] def l_Z13_2 : List GOp := [⟨(some 6), .mv (.c (.int .i64 0)), none⟩]
def Z13_2 : IR := .ops l_Z13_2
@[go_sem] theorem w_Z13_2 : wp P Z13_2 Q e H = wpL P l_Z13_2 (Q .normal) e H := idE rfl
@[go_sem] def l_Z13_3 : List GOp := [⟨(some 19), .mv (.t 0), none⟩,
    ⟨(some 20), .nilck (.t 19), none⟩,
    ⟨(some 21), .faddr (.t 20) 0, none⟩,
    ⟨(some 22), .faddr (.t 21) 1, none⟩,
    ⟨(some 23), .load (.t 22) 1 false, none⟩,
    ⟨(some 24), .mv (.t 5), none⟩,
    ⟨(some 25), .call (n_Z11) [(.t 23), (.t 24)], none⟩]
def Z13_3 : IR := .ops l_Z13_3
@[go_sem] theorem w_Z13_3 : wp P Z13_3 Q e H = wpL P l_Z13_3 (Q .normal) e H := idE rfl
@[go_sem] def l_Z13_4 : List GOp := [⟨(some 26), .mv (.t 0), none⟩,
    ⟨(some 27), .nilck (.t 26), none⟩,
    ⟨(some 28), .faddr (.t 27) 0, none⟩,
    ⟨(some 29), .faddr (.t 28) 0, none⟩,
    ⟨(some 30), .load (.t 29) 1 false, none⟩,
    ⟨(some 7), .mv (.t 30), none⟩]
def Z13_4 : IR := .ops l_Z13_4
@[go_sem] theorem w_Z13_4 : wp P Z13_4 Q e H = wpL P l_Z13_4 (Q .normal) e H := idE rfl
@[go_sem] def l_Z13_5 : List GOp := [⟨(some 31), .mv (.t 7), none⟩,
    ⟨(some 32), .bin .gtr (.t 31) (.c (.int .i64 0)), none⟩]
def Z13_5 : IR := .ops l_Z13_5
@[go_sem] theorem w_Z13_5 : wp P Z13_5 Q e H = wpL P l_Z13_5 (Q .normal) e H := idE rfl
def Z13_6 : IR := .cond (.t 32) .skip (.exit 0)
@[go_sem] theorem w_Z13_6 : wp P Z13_6 Q e H = condW P ((.t 32) : X) .skip (.exit 0) Q e H := idE rfl
@[go_sem] def l_Z13_7 : List GOp := [⟨(some 35), .mv (.t 5), none⟩,
    ⟨(some 36), .mv (.t 7), none⟩,
    ⟨(some 37), .iaddr (.t 35) (.t 36) 1, none⟩,
    ⟨(some 38), .load (.t 37) 1 false, none⟩,
    ⟨(some 39), .bin .eql (.t 38) (.c (.int .i64 0)), none⟩]
def Z13_7 : IR := .ops l_Z13_7
@[go_sem] theorem w_Z13_7 : wp P Z13_7 Q e H = wpL P l_Z13_7 (Q .normal) e H := idE rfl
@[go_sem] def l_Z13_8 : List GOp := [⟨(some 40), .mv (.t 7), none⟩,
    ⟨(some 6), .mv (.t 40), none⟩]
def Z13_8 : IR := .ops l_Z13_8
@[go_sem] theorem w_Z13_8 : wp P Z13_8 Q e H = wpL P l_Z13_8 (Q .normal) e H := idE rfl
def Z13_9 : IR := .cond (.t 39) Z13_8 .skip
@[go_sem] theorem w_Z13_9 : wp P Z13_9 Q e H = condW P ((.t 39) : X) Z13_8 .skip Q e H := idE rfl
def Z13_10 : IR := .block 1 (.seq Z13_7 Z13_9)
@[go_sem] theorem w_Z13_10 : wp P Z13_10 Q e H = wp P (.seq Z13_7 Z13_9) (blockQ 1 Q) e H := idE rfl
@[go_sem] def l_Z13_11 : List GOp := [⟨(some 33), .mv (.t 7), none⟩,
    ⟨(some 34), .bin .sub (.t 33) (.c (.int .i64 1)), none⟩,
    ⟨(some 7), .mv (.t 34), none⟩]
def Z13_11 : IR := .ops l_Z13_11
@[go_sem] theorem w_Z13_11 : wp P Z13_11 Q e H = wpL P l_Z13_11 (Q .normal) e H := idE rfl
def Z13_12 : IR := .loop (.seq (.seq Z13_5 Z13_6) (.seq Z13_10 Z13_11))
def Z13_13 : IR := .block 0 Z13_12
@[go_sem] theorem w_Z13_13 : wp P Z13_13 Q e H = wp P Z13_12 (blockQ 0 Q) e H := idE rfl
@[go_sem] def l_Z13_14 : List GOp := [⟨(some 41), .mv (.t 6), none⟩,
    ⟨(some 42), .bin .eql (.t 41) (.c (.int .i64 0)), none⟩]
def Z13_14 : IR := .ops l_Z13_14
@[go_sem] theorem w_Z13_14 : wp P Z13_14 Q e H = wpL P l_Z13_14 (Q .normal) e H := idE rfl
@[go_sem] def l_Z13_15 : List GOp := [⟨(some 43), .mv (.t 0), none⟩,
    ⟨(some 44), .mv (.t 0), none⟩,
    ⟨(some 45), .nilck (.t 44), none⟩,
    ⟨(some 46), .faddr (.t 45) 0, none⟩,
    ⟨(some 47), .faddr (.t 46) 0, none⟩,
    ⟨(some 48), .load (.t 47) 1 false, none⟩,
    ⟨(some 49), .mks [(.int .i64 0)] 8 (.t 48), none⟩,
    ⟨(some 50), .nilck (.t 43), none⟩,
    ⟨(some 51), .faddr (.t 50) 4, none⟩,
    ⟨none, .store (.t 51) 1 (.t 49), none⟩]
def Z13_15 : IR := .ops l_Z13_15
@[go_sem] theorem w_Z13_15 : wp P Z13_15 Q e H = wpL P l_Z13_15 (Q .normal) e H := idE rfl
@[go_sem] def l_Z13_16 : List GOp := [⟨(some 52), .mv (.t 0), none⟩,
    ⟨(some 53), .nilck (.t 52), none⟩,
    ⟨(some 54), .faddr (.t 53) 4, none⟩,
    ⟨(some 55), .load (.t 54) 1 false, none⟩,
    ⟨(some 56), .len (.t 55), none⟩,
    ⟨(some 57), .mv (.c (.int .i64 0)), none⟩]
def Z13_16 : IR := .ops l_Z13_16
@[go_sem] theorem w_Z13_16 : wp P Z13_16 Q e H = wpL P l_Z13_16 (Q .normal) e H := idE rfl
@[go_sem] def l_Z13_17 : List GOp := [⟨(some 58), .bin .lss (.t 57) (.t 56), none⟩]
def Z13_17 : IR := .ops l_Z13_17
@[go_sem] theorem w_Z13_17 : wp P Z13_17 Q e H = wpL P l_Z13_17 (Q .normal) e H := idE rfl
def Z13_18 : IR := .cond (.t 58) .skip (.exit 2)
@[go_sem] theorem w_Z13_18 : wp P Z13_18 Q e H = condW P ((.t 58) : X) .skip (.exit 2) Q e H := idE rfl
@[go_sem] def l_Z13_19 : List GOp := [⟨(some 59), .mv (.t 57), none⟩,
    ⟨(some 8), .mv (.t 59), none⟩]
def Z13_19 : IR := .ops l_Z13_19
@[go_sem] theorem w_Z13_19 : wp P Z13_19 Q e H = wpL P l_Z13_19 (Q .normal) e H := idE rfl
def l_Z13_20 : List GOp := [⟨(some 60), .mv (.t 0), none⟩,
    ⟨(some 61), .nilck (.t 60), none⟩,
    ⟨(some 62), .faddr (.t 61) 4, none⟩,
    ⟨(some 63), .load (.t 62) 1 false, none⟩,
    ⟨(some 64), .mv (.t 8), none⟩,
    ⟨(some 65), .mv (.t 5), none⟩,
    ⟨(some 66), .mv (.t 8), none⟩,
    ⟨(some 67), .bin .add (.t 66) (.c (.int .i64 1)), none⟩,
    ⟨(some 68), .iaddr (.t 65) (.t 67) 1, none⟩,
    ⟨(some 69), .load (.t 68) 1 false, none⟩,
    ⟨(some 70), .bin .gtr (.t 69) (.c (.int .i64 0)), none⟩,
    ⟨(some 71), .call (n_Z8) [(.t 70)], none⟩,
    ⟨(some 72), .iaddr (.t 63) (.t 64) 1, none⟩,
    ⟨none, .store (.t 72) 1 (.t 71), none⟩]
@[go_sem] theorem g_Z13_20_0 : gAt l_Z13_20 0 = ⟨(some 60), .mv (.t 0), none⟩ := idE rfl
@[go_sem] theorem g_Z13_20_1 : gAt l_Z13_20 1 = ⟨(some 61), .nilck (.t 60), none⟩ := idE rfl
@[go_sem] theorem g_Z13_20_2 : gAt l_Z13_20 2 = ⟨(some 62), .faddr (.t 61) 4, none⟩ := idE rfl
@[go_sem] theorem g_Z13_20_3 : gAt l_Z13_20 3 = ⟨(some 63), .load (.t 62) 1 false, none⟩ := idE rfl
@[go_sem] theorem g_Z13_20_4 : gAt l_Z13_20 4 = ⟨(some 64), .mv (.t 8), none⟩ := idE rfl
@[go_sem] theorem g_Z13_20_5 : gAt l_Z13_20 5 = ⟨(some 65), .mv (.t 5), none⟩ := idE rfl
@[go_sem] theorem g_Z13_20_6 : gAt l_Z13_20 6 = ⟨(some 66), .mv (.t 8), none⟩ := idE rfl
@[go_sem] theorem g_Z13_20_7 : gAt l_Z13_20 7 = ⟨(some 67), .bin .add (.t 66) (.c (.int .i64 1)), none⟩ := idE rfl
@[go_sem] theorem g_Z13_20_8 : gAt l_Z13_20 8 = ⟨(some 68), .iaddr (.t 65) (.t 67) 1, none⟩ := idE rfl
@[go_sem] theorem g_Z13_20_9 : gAt l_Z13_20 9 = ⟨(some 69), .load (.t 68) 1 false, none⟩ := idE rfl
@[go_sem] theorem g_Z13_20_10 : gAt l_Z13_20 10 = ⟨(some 70), .bin .gtr (.t 69) (.c (.int .i64 0)), none⟩ := idE rfl
@[go_sem] theorem g_Z13_20_11 : gAt l_Z13_20 11 = ⟨(some 71), .call (n_Z8) [(.t 70)], none⟩ := idE rfl
@[go_sem] theorem g_Z13_20_12 : gAt l_Z13_20 12 = ⟨(some 72), .iaddr (.t 63) (.t 64) 1, none⟩ := idE rfl
@[go_sem] theorem g_Z13_20_13 : gAt l_Z13_20 13 = ⟨none, .store (.t 72) 1 (.t 71), none⟩ := idE rfl
def Z13_20 : IR := .dops l_Z13_20 [(0, []), (1, []), (2, []), (3, []), (4, []), (5, []), (6, []), (7, []), (8, []), (9, []), (10, []), (11, [3]), (12, []), (13, [])]
@[go_sem] theorem w_Z13_20 : wp P Z13_20 Q e H = wpD P l_Z13_20 [(0, []), (1, []), (2, []), (3, []), (4, []), (5, []), (6, []), (7, []), (8, []), (9, []), (10, []), (11, [3]), (12, []), (13, [])] (Q .normal) e H := idE rfl
def Z13_21 : IR := .block 3 (.seq Z13_19 Z13_20)
@[go_sem] theorem w_Z13_21 : wp P Z13_21 Q e H = wp P (.seq Z13_19 Z13_20) (blockQ 3 Q) e H := idE rfl
@[go_sem] def l_Z13_22 : List GOp := [⟨(some 73), .bin .add (.t 57) (.c (.int .i64 1)), none⟩,
    ⟨(some 57), .mv (.t 73), none⟩]
def Z13_22 : IR := .ops l_Z13_22
@[go_sem] theorem w_Z13_22 : wp P Z13_22 Q e H = wpL P l_Z13_22 (Q .normal) e H := idE rfl
def Z13_23 : IR := .loop (.seq Z13_17 (.seq Z13_18 (.seq Z13_21 Z13_22)))
def Z13_24 : IR := .block 2 Z13_23
@[go_sem] theorem w_Z13_24 : wp P Z13_24 Q e H = wp P Z13_23 (blockQ 2 Q) e H := idE rfl
@[go_sem] def l_Z13_25 : List GOp := [⟨(some 4), .mv (.c (.bool true)), none⟩]
def Z13_25 : IR := .ops l_Z13_25
@[go_sem] theorem w_Z13_25 : wp P Z13_25 Q e H = wpL P l_Z13_25 (Q .normal) e H := idE rfl
def Z13_26 : IR := .cond (.t 42) (.seq Z13_15 (.seq (.seq Z13_16 Z13_24) (.seq Z13_25 .ret))) .skip
@[go_sem] theorem w_Z13_26 : wp P Z13_26 Q e H = condW P ((.t 42) : X) (.seq Z13_15 (.seq (.seq Z13_16 Z13_24) (.seq Z13_25 .ret))) .skip Q e H := idE rfl
@[go_sem] def l_Z13_27 : List GOp := [⟨(some 74), .mv (.t 0), none⟩,
    ⟨(some 75), .nilck (.t 74), none⟩,
    ⟨(some 76), .faddr (.t 75) 3, none⟩,
    ⟨(some 77), .load (.t 76) 1 false, none⟩,
    ⟨(some 78), .bin .add (.t 77) (.c (.int .i64 1)), none⟩,
    ⟨(some 79), .nilck (.t 74), none⟩,
    ⟨(some 80), .faddr (.t 79) 3, none⟩,
    ⟨none, .store (.t 80) 1 (.t 78), none⟩]
def Z13_27 : IR := .ops l_Z13_27
@[go_sem] theorem w_Z13_27 : wp P Z13_27 Q e H = wpL P l_Z13_27 (Q .normal) e H := idE rfl
@[go_sem] def l_Z13_28 : List GOp := [⟨(some 81), .mv (.t 0), none⟩,
    ⟨(some 82), .mv (.t 1), none⟩,
    ⟨(some 83), .call (n_Z23) [(.t 82)], none⟩,
    ⟨(some 84), .mv (.t 6), none⟩,
    ⟨(some 85), .un .neg (.t 84), none⟩,
    ⟨(some 86), .bslc 1 1 [(.int .i64 0)] [(0, (.t 85))], none⟩,
    ⟨(some 87), .app 1 8 (.t 83) (.t 86), none⟩,
    ⟨(some 88), .call (n_Z13) [(.t 81), (.t 87)], none⟩,
    ⟨(some 89), .mv (.t 88), none⟩,
    ⟨(some 90), .mv (.t 0), (some (89, false))⟩,
    ⟨(some 91), .mv (.t 1), (some (89, false))⟩,
    ⟨(some 92), .call (n_Z23) [(.t 91)], (some (89, false))⟩,
    ⟨(some 93), .mv (.t 6), (some (89, false))⟩,
    ⟨(some 94), .bslo 1 1 [(.int .i64 0)] [(0, (.t 93))], (some (89, false))⟩,
    ⟨(some 95), .app 1 8 (.t 92) (.t 94), (some (89, false))⟩,
    ⟨(some 96), .call (n_Z13) [(.t 90), (.t 95)], (some (89, false))⟩,
    ⟨(some 97), .pick (.t 89) (.c (.bool true)) (.t 96), none⟩]
def Z13_28 : IR := .ops l_Z13_28
@[go_sem] theorem w_Z13_28 : wp P Z13_28 Q e H = wpL P l_Z13_28 (Q .normal) e H := idE rfl
@[go_sem] def l_Z13_29 : List GOp := [⟨(some 4), .mv (.c (.bool true)), none⟩]
def Z13_29 : IR := .ops l_Z13_29
@[go_sem] theorem w_Z13_29 : wp P Z13_29 Q e H = wpL P l_Z13_29 (Q .normal) e H := idE rfl
def Z13_30 : IR := .cond (.t 97) (.seq Z13_29 .ret) .skip
@[go_sem] theorem w_Z13_30 : wp P Z13_30 Q e H = condW P ((.t 97) : X) (.seq Z13_29 .ret) .skip Q e H := idE rfl
def Z13_31 : IR := .cond (.t 25) (.seq (.seq Z13_4 Z13_13) (.seq (.seq Z13_14 Z13_26) (.seq Z13_27 (.seq Z13_28 Z13_30)))) .skip
@[go_sem] theorem w_Z13_31 : wp P Z13_31 Q e H = condW P ((.t 25) : X) (.seq (.seq Z13_4 Z13_13) (.seq (.seq Z13_14 Z13_26) (.seq Z13_27 (.seq Z13_28 Z13_30)))) .skip Q e H := idE rfl
@[go_sem] def l_Z13_32 : List GOp := [⟨(some 98), .mv (.t 0), none⟩,
    ⟨(some 99), .nilck (.t 98), none⟩,
    ⟨(some 100), .faddr (.t 99) 2, none⟩,
    ⟨(some 101), .load (.t 100) 1 false, none⟩,
    ⟨(some 102), .len (.t 101), none⟩,
    ⟨(some 103), .bin .eql (.t 102) (.c (.int .i64 600)), none⟩]
def Z13_32 : IR := .ops l_Z13_32
@[go_sem] theorem w_Z13_32 : wp P Z13_32 Q e H = wpL P l_Z13_32 (Q .normal) e H := idE rfl
@[go_sem] def l_Z13_33 : List GOp := [⟨(some 104), .mv (.t 0), none⟩,
    ⟨(some 105), .nilck (.t 104), none⟩,
    ⟨(some 106), .faddr (.t 105) 5, none⟩,
    ⟨none, .store (.t 106) 1 (.c (.bool true)), none⟩]
def Z13_33 : IR := .ops l_Z13_33
@[go_sem] theorem w_Z13_33 : wp P Z13_33 Q e H = wpL P l_Z13_33 (Q .normal) e H := idE rfl
@[go_sem] def l_Z13_34 : List GOp := [⟨(some 4), .mv (.c (.bool true)), none⟩]
def Z13_34 : IR := .ops l_Z13_34
@[go_sem] theorem w_Z13_34 : wp P Z13_34 Q e H = wpL P l_Z13_34 (Q .normal) e H := idE rfl
def Z13_35 : IR := .cond (.t 103) (.seq Z13_33 (.seq Z13_34 .ret)) .skip
@[go_sem] theorem w_Z13_35 : wp P Z13_35 Q e H = condW P ((.t 103) : X) (.seq Z13_33 (.seq Z13_34 .ret)) .skip Q e H := idE rfl
@[go_sem] def l_Z13_36 : List GOp := [⟨(some 9), .mv (.c (.sl none 0 0 true 0)), none⟩]
def Z13_36 : IR := .ops l_Z13_36
@[go_sem] theorem w_Z13_36 : wp P Z13_36 Q e H = wpL P l_Z13_36 (Q .normal) e H := idE rfl
@[go_sem] def l_Z13_37 : List GOp := [⟨(some 107), .mv (.t 1), none⟩,
    ⟨(some 108), .len (.t 107), none⟩,
    ⟨(some 109), .mv (.c (.int .i64 0)), none⟩]
def Z13_37 : IR := .ops l_Z13_37
@[go_sem] theorem w_Z13_37 : wp P Z13_37 Q e H = wpL P l_Z13_37 (Q .normal) e H := idE rfl
@[go_sem] def l_Z13_38 : List GOp := [⟨(some 110), .bin .lss (.t 109) (.t 108), none⟩]
def Z13_38 : IR := .ops l_Z13_38
@[go_sem] theorem w_Z13_38 : wp P Z13_38 Q e H = wpL P l_Z13_38 (Q .normal) e H := idE rfl
def Z13_39 : IR := .cond (.t 110) .skip (.exit 4)
@[go_sem] theorem w_Z13_39 : wp P Z13_39 Q e H = condW P ((.t 110) : X) .skip (.exit 4) Q e H := idE rfl
@[go_sem] def l_Z13_40 : List GOp := [⟨(some 111), .iaddr (.t 107) (.t 109) 1, none⟩,
    ⟨(some 112), .load (.t 111) 1 false, none⟩,
    ⟨(some 11), .mv (.t 112), none⟩]
def Z13_40 : IR := .ops l_Z13_40
@[go_sem] theorem w_Z13_40 : wp P Z13_40 Q e H = wpL P l_Z13_40 (Q .normal) e H := idE rfl
@[go_sem] def l_Z13_41 : List GOp := [⟨(some 113), .mv (.t 9), none⟩,
    ⟨(some 114), .mv (.t 11), none⟩,
    ⟨(some 115), .un .neg (.t 114), none⟩,
    ⟨(some 116), .bslc 1 1 [(.int .i64 0)] [(0, (.t 115))], none⟩,
    ⟨(some 117), .app 1 8 (.t 113) (.t 116), none⟩,
    ⟨(some 9), .mv (.t 117), none⟩]
def Z13_41 : IR := .ops l_Z13_41
@[go_sem] theorem w_Z13_41 : wp P Z13_41 Q e H = wpL P l_Z13_41 (Q .normal) e H := idE rfl
def Z13_42 : IR := .block 5 (.seq Z13_40 Z13_41)
@[go_sem] theorem w_Z13_42 : wp P Z13_42 Q e H = wp P (.seq Z13_40 Z13_41) (blockQ 5 Q) e H := idE rfl
@[go_sem] def l_Z13_43 : List GOp := [⟨(some 118), .bin .add (.t 109) (.c (.int .i64 1)), none⟩,
    ⟨(some 109), .mv (.t 118), none⟩]
def Z13_43 : IR := .ops l_Z13_43
@[go_sem] theorem w_Z13_43 : wp P Z13_43 Q e H = wpL P l_Z13_43 (Q .normal) e H := idE rfl
def Z13_44 : IR := .loop (.seq Z13_38 (.seq Z13_39 (.seq Z13_42 Z13_43)))
def Z13_45 : IR := .block 4 Z13_44
@[go_sem] theorem w_Z13_45 : wp P Z13_45 Q e H = wp P Z13_44 (blockQ 4 Q) e H := idE rfl
@[go_sem] def l_Z13_46 : List GOp := [⟨(some 120), .mv (.t 9), none⟩,
    ⟨(some 121), .call (n_Z9) [(.t 120)], none⟩,
    ⟨(some 119), .mv (.t 121), none⟩,
    ⟨(some 122), .ext (.t 119) 0, none⟩,
    ⟨(some 123), .ext (.t 119) 1, none⟩,
    ⟨(some 9), .mv (.t 122), none⟩]
def Z13_46 : IR := .ops l_Z13_46
@[go_sem] theorem w_Z13_46 : wp P Z13_46 Q e H = wpL P l_Z13_46 (Q .normal) e H := idE rfl
@[go_sem] def l_Z13_47 : List GOp := [⟨(some 124), .mv (.t 0), none⟩,
    ⟨(some 125), .mv (.t 0), none⟩,
    ⟨(some 126), .nilck (.t 125), none⟩,
    ⟨(some 127), .faddr (.t 126) 2, none⟩,
    ⟨(some 128), .load (.t 127) 1 false, none⟩,
    ⟨(some 129), .mv (.t 9), none⟩,
    ⟨(some 130), .bslc 1 1 [(.sl none 0 0 true 0)] [(0, (.t 129))], none⟩,
    ⟨(some 131), .app 1 24 (.t 128) (.t 130), none⟩,
    ⟨(some 132), .nilck (.t 124), none⟩,
    ⟨(some 133), .faddr (.t 132) 2, none⟩,
    ⟨none, .store (.t 133) 1 (.t 131), none⟩]
def Z13_47 : IR := .ops l_Z13_47
@[go_sem] theorem w_Z13_47 : wp P Z13_47 Q e H = wpL P l_Z13_47 (Q .normal) e H := idE rfl
@[go_sem] def l_Z13_48 : List GOp := [⟨(some 4), .mv (.c (.bool false)), none⟩]
def Z13_48 : IR := .ops l_Z13_48
@[go_sem] theorem w_Z13_48 : wp P Z13_48 Q e H = wpL P l_Z13_48 (Q .normal) e H := idE rfl
def F_Z13 : IFn := ⟨2, 134, [.t 4], (.seq Z13_0 (.seq Z13_1 (.seq Z13_2 (.seq (.seq Z13_3 Z13_31) (.seq (.seq Z13_32 Z13_35) (.seq Z13_36 (.seq (.seq Z13_37 Z13_45) (.seq Z13_46 (.seq Z13_47 (.seq Z13_48 .ret))))))))))⟩
theorem c_Z13 : compFn Try.prog [(0, [], []), (1, [], []), (2, [], []), (3, [], []), (4, [], []), (5, [], []), (7, [], []), (8, [], []), (6, [], []), (9, [], []), (10, [], []), (11, [], []), (12, [], []), (13, [], []), (14, [(0, []), (1, []), (2, []), (3, []), (4, []), (5, []), (6, []), (7, []), (8, []), (9, []), (10, []), (11, [3]), (12, []), (13, [])], []), (15, [], []), (16, [], []), (17, [], []), (18, [], []), (19, [], []), (20, [], []), (21, [], []), (22, [], []), (23, [], []), (24, [], []), (25, [], []), (26, [], []), (27, [], []), (28, [], []), (29, [], []), (30, [], []), (31, [], [])] Try.f98 = some F_Z13 := by kernel_rfl
theorem a_Z13 (hl : args.length = 2) (h : wp Try.prog (.seq Z13_0 (.seq Z13_1 (.seq Z13_2 (.seq (.seq Z13_3 Z13_31) (.seq (.seq Z13_32 Z13_35) (.seq Z13_36 (.seq (.seq Z13_37 Z13_45) (.seq Z13_46 (.seq Z13_47 (.seq Z13_48 .ret)))))))))) (postQ [.t 4] R) (env0 args) H) : ACall Try.prog n_Z13 args H R :=
  acall_of_wp mixed Try.func98 c_Z13 (by kernel_rfl) hl h
@[go_sem] def l_Z14_0 : List GOp := [⟨(some 1), .box (.t 0), none⟩,
    ⟨(some 2), .mv (.c (.ptr none)), none⟩]
def Z14_0 : IR := .ops l_Z14_0
@[go_sem] theorem w_Z14_0 : wp P Z14_0 Q e H = wpL P l_Z14_0 (Q .normal) e H := idE rfl
@[go_sem] def l_Z14_1 : List GOp := [⟨(some 4), .load (.t 1) 2 true, none⟩,
    ⟨(some 5), .bld [(.int .i64 0), (.sl none 0 0 true 0), (.sl none 0 0 true 0), (.int .i64 0), (.sl none 0 0 true 0), (.bool false)] [(0, 2, (.t 4))], none⟩,
    ⟨(some 6), .box (.t 5), none⟩,
    ⟨(some 3), .mv (.t 6), none⟩]
def Z14_1 : IR := .ops l_Z14_1
@[go_sem] theorem w_Z14_1 : wp P Z14_1 Q e H = wpL P l_Z14_1 (Q .normal) e H := idE rfl
@[go_sem] def l_Z14_2 : List GOp := [⟨(some 7), .mv (.t 3), none⟩,
    ⟨(some 8), .call (n_Z13) [(.t 7), (.c (.sl none 0 0 true 0))], none⟩]
def Z14_2 : IR := .ops l_Z14_2
@[go_sem] theorem w_Z14_2 : wp P Z14_2 Q e H = wpL P l_Z14_2 (Q .normal) e H := idE rfl
@[go_sem] def l_Z14_3 : List GOp := [⟨(some 9), .mv (.t 3), none⟩,
    ⟨(some 2), .mv (.t 9), none⟩]
def Z14_3 : IR := .ops l_Z14_3
@[go_sem] theorem w_Z14_3 : wp P Z14_3 Q e H = wpL P l_Z14_3 (Q .normal) e H := idE rfl
def F_Z14 : IFn := ⟨1, 10, [.t 2], (.seq Z14_0 (.seq Z14_1 (.seq Z14_2 (.seq Z14_3 .ret))))⟩
theorem c_Z14 : compFn Try.prog [(0, [], []), (1, [], []), (2, [], []), (3, [], [])] Try.f64 = some F_Z14 := by kernel_rfl
theorem a_Z14 (hl : args.length = 1) (h : wp Try.prog (.seq Z14_0 (.seq Z14_1 (.seq Z14_2 (.seq Z14_3 .ret)))) (postQ [.t 2] R) (env0 args) H) : ACall Try.prog n_Z14 args H R :=
  acall_of_wp mixed Try.func64 c_Z14 (by kernel_rfl) hl h
@[go_sem] def l_Z6_0 : List GOp := [⟨(some 1), .box (.t 0), none⟩,
    ⟨(some 2), .mv (.c (.sl none 0 0 true 0)), none⟩,
    ⟨(some 3), .mv (.c (.bool false)), none⟩]
def Z6_0 : IR := .ops l_Z6_0
@[go_sem] theorem w_Z6_0 : wp P Z6_0 Q e H = wpL P l_Z6_0 (Q .normal) e H := idE rfl
@[go_sem] def l_Z6_1 : List GOp := [⟨(some 5), .load (.t 1) 2 true, none⟩,
    ⟨(some 6), .call (n_Z4) [(.t 5)], none⟩,
    ⟨(some 7), .un .not (.t 6), none⟩]
def Z6_1 : IR := .ops l_Z6_1
@[go_sem] theorem w_Z6_1 : wp P Z6_1 Q e H = wpL P l_Z6_1 (Q .normal) e H := idE rfl
@[go_sem] def l_Z6_2 : List GOp := [⟨(some 2), .mv (.c (.sl none 0 0 true 0)), none⟩,
    ⟨(some 3), .mv (.c (.bool false)), none⟩]
def Z6_2 : IR := .ops l_Z6_2
@[go_sem] theorem w_Z6_2 : wp P Z6_2 Q e H = wpL P l_Z6_2 (Q .normal) e H := idE rfl
def Z6_3 : IR := .cond (.t 7) (.seq Z6_2 .ret) .skip
@[go_sem] theorem w_Z6_3 : wp P Z6_3 Q e H = condW P ((.t 7) : X) (.seq Z6_2 .ret) .skip Q e H := idE rfl
@[go_sem] def l_Z6_4 : List GOp := [⟨(some 8), .load (.t 1) 2 true, none⟩,
    ⟨(some 9), .call (n_Z14) [(.t 8)], none⟩,
    ⟨(some 4), .mv (.t 9), none⟩]
def Z6_4 : IR := .ops l_Z6_4
@[go_sem] theorem w_Z6_4 : wp P Z6_4 Q e H = wpL P l_Z6_4 (Q .normal) e H := idE rfl
@[go_sem] def l_Z6_5 : List GOp := [⟨(some 10), .mv (.t 4), none⟩,
    ⟨(some 11), .nilck (.t 10), none⟩,
    ⟨(some 12), .faddr (.t 11) 5, none⟩,
    ⟨(some 13), .load (.t 12) 1 false, none⟩,
    ⟨(some 14), .mv (.t 13), none⟩,
    ⟨(some 15), .mv (.t 4), (some (14, false))⟩,
    ⟨(some 16), .nilck (.t 15), (some (14, false))⟩,
    ⟨(some 17), .faddr (.t 16) 4, (some (14, false))⟩,
    ⟨(some 18), .load (.t 17) 1 false, (some (14, false))⟩,
    ⟨(some 19), .eqn false .sl (.t 18), (some (14, false))⟩,
    ⟨(some 20), .pick (.t 14) (.c (.bool true)) (.t 19), none⟩]
def Z6_5 : IR := .ops l_Z6_5
@[go_sem] theorem w_Z6_5 : wp P Z6_5 Q e H = wpL P l_Z6_5 (Q .normal) e H := idE rfl
@[go_sem] def l_Z6_6 : List GOp := [⟨(some 2), .mv (.c (.sl none 0 0 true 0)), none⟩,
    ⟨(some 3), .mv (.c (.bool false)), none⟩]
def Z6_6 : IR := .ops l_Z6_6
@[go_sem] theorem w_Z6_6 : wp P Z6_6 Q e H = wpL P l_Z6_6 (Q .normal) e H := idE rfl
def Z6_7 : IR := .cond (.t 20) (.seq Z6_6 .ret) .skip
@[go_sem] theorem w_Z6_7 : wp P Z6_7 Q e H = condW P ((.t 20) : X) (.seq Z6_6 .ret) .skip Q e H := idE rfl
@[go_sem] def l_Z6_8 : List GOp := [⟨(some 21), .mv (.t 4), none⟩,
    ⟨(some 22), .nilck (.t 21), none⟩,
    ⟨(some 23), .faddr (.t 22) 4, none⟩,
    ⟨(some 24), .load (.t 23) 1 false, none⟩,
    ⟨(some 25), .call (n_Z10) [(.t 24)], none⟩,
    ⟨(some 2), .mv (.t 25), none⟩,
    ⟨(some 3), .mv (.c (.bool true)), none⟩]
def Z6_8 : IR := .ops l_Z6_8
@[go_sem] theorem w_Z6_8 : wp P Z6_8 Q e H = wpL P l_Z6_8 (Q .normal) e H := idE rfl
def F_Z6 : IFn := ⟨1, 26, [.t 2, .t 3], (.seq Z6_0 (.seq (.seq Z6_1 Z6_3) (.seq Z6_4 (.seq (.seq Z6_5 Z6_7) (.seq Z6_8 .ret)))))⟩
theorem c_Z6 : compFn Try.prog [(0, [], []), (1, [], []), (2, [], []), (3, [], []), (4, [], []), (5, [], []), (6, [], [])] Try.f31 = some F_Z6 := by kernel_rfl
theorem a_Z6 (hl : args.length = 1) (h : wp Try.prog (.seq Z6_0 (.seq (.seq Z6_1 Z6_3) (.seq Z6_4 (.seq (.seq Z6_5 Z6_7) (.seq Z6_8 .ret))))) (postQ [.t 2, .t 3] R) (env0 args) H) : ACall Try.prog n_Z6 args H R :=
  acall_of_wp mixed Try.func31 c_Z6 (by kernel_rfl) hl h
@[go_sem] def l_Z63_0 : List GOp := [⟨(some 6), .mv (.c (.bool false)), none⟩]
def Z63_0 : IR := .ops l_Z63_0
@[go_sem] theorem w_Z63_0 : wp P Z63_0 Q e H = wpL P l_Z63_0 (Q .normal) e H := idE rfl
@[go_sem] def l_Z63_1 : List GOp := [⟨(some 7), .mv (.t 0), none⟩,
    ⟨(some 8), .mv (.t 1), none⟩,
    ⟨(some 9), .bin .geq (.t 7) (.t 8), none⟩,
    ⟨(some 10), .mv (.t 9), none⟩,
    ⟨(some 11), .mv (.t 0), (some (10, true))⟩,
    ⟨(some 12), .mv (.t 2), (some (10, true))⟩,
    ⟨(some 13), .bin .leq (.t 11) (.t 12), (some (10, true))⟩,
    ⟨(some 14), .pick (.t 10) (.t 13) (.c (.bool false)), none⟩,
    ⟨(some 6), .mv (.t 14), none⟩]
def Z63_1 : IR := .ops l_Z63_1
@[go_sem] theorem w_Z63_1 : wp P Z63_1 Q e H = wpL P l_Z63_1 (Q .normal) e H := idE rfl
def F_Z63 : IFn := ⟨3, 15, [.t 6], (.seq Z63_0 (.seq Z63_1 .ret))⟩
theorem c_Z63 : compFn Try.prog [(0, [], []), (1, [], [])] Try.f55 = some F_Z63 := by kernel_rfl
theorem a_Z63 (hl : args.length = 3) (h : wp Try.prog (.seq Z63_0 (.seq Z63_1 .ret)) (postQ [.t 6] R) (env0 args) H) : ACall Try.prog n_Z63 args H R :=
  acall_of_wp mixed Try.func55 c_Z63 (by kernel_rfl) hl h
@[go_sem] def l_Z54_0 : List GOp := [⟨(some 4), .mv (.c (.bool false)), none⟩]
def Z54_0 : IR := .ops l_Z54_0
@[go_sem] theorem w_Z54_0 : wp P Z54_0 Q e H = wpL P l_Z54_0 (Q .normal) e H := idE rfl
@[go_sem] def l_Z54_1 : List GOp := [⟨(some 5), .mv (.t 0), none⟩,
    ⟨(some 6), .bin .neq (.t 5) (.c (.int .i64 0)), none⟩,
    ⟨(some 7), .mv (.t 6), none⟩,
    ⟨(some 8), .mv (.t 0), (some (7, true))⟩,
    ⟨(some 9), .mv (.t 1), (some (7, true))⟩,
    ⟨(some 10), .un .neg (.t 9), (some (7, true))⟩,
    ⟨(some 11), .mv (.t 1), (some (7, true))⟩,
    ⟨(some 12), .call (n_Z63) [(.t 8), (.t 10), (.t 11)], (some (7, true))⟩,
    ⟨(some 13), .pick (.t 7) (.t 12) (.c (.bool false)), none⟩,
    ⟨(some 4), .mv (.t 13), none⟩]
def Z54_1 : IR := .ops l_Z54_1
@[go_sem] theorem w_Z54_1 : wp P Z54_1 Q e H = wpL P l_Z54_1 (Q .normal) e H := idE rfl
def F_Z54 : IFn := ⟨2, 14, [.t 4], (.seq Z54_0 (.seq Z54_1 .ret))⟩
theorem c_Z54 : compFn Try.prog [(0, [], []), (1, [], [])] Try.f105 = some F_Z54 := by kernel_rfl
theorem a_Z54 (hl : args.length = 2) (h : wp Try.prog (.seq Z54_0 (.seq Z54_1 .ret)) (postQ [.t 4] R) (env0 args) H) : ACall Try.prog n_Z54 args H R :=
  acall_of_wp mixed Try.func105 c_Z54 (by kernel_rfl) hl h
@[go_sem] def l_Z44_0 : List GOp := [⟨(some 4), .mv (.c (.bool false)), none⟩]
def Z44_0 : IR := .ops l_Z44_0
@[go_sem] theorem w_Z44_0 : wp P Z44_0 Q e H = wpL P l_Z44_0 (Q .normal) e H := idE rfl
@[go_sem] def l_Z44_1 : List GOp := [⟨(some 5), .mv (.c (.int .i64 0)), none⟩]
def Z44_1 : IR := .ops l_Z44_1
@[go_sem] theorem w_Z44_1 : wp P Z44_1 Q e H = wpL P l_Z44_1 (Q .normal) e H := idE rfl
@[go_sem] def l_Z44_2 : List GOp := [⟨(some 6), .mv (.t 5), none⟩,
    ⟨(some 7), .mv (.t 0), none⟩,
    ⟨(some 8), .len (.t 7), none⟩,
    ⟨(some 9), .bin .lss (.t 6) (.t 8), none⟩]
def Z44_2 : IR := .ops l_Z44_2
@[go_sem] theorem w_Z44_2 : wp P Z44_2 Q e H = wpL P l_Z44_2 (Q .normal) e H := idE rfl
def Z44_3 : IR := .cond (.t 9) .skip (.exit 0)
@[go_sem] theorem w_Z44_3 : wp P Z44_3 Q e H = condW P ((.t 9) : X) .skip (.exit 0) Q e H := idE rfl
def l_Z44_4 : List GOp := [⟨(some 12), .mv (.t 0), none⟩,
    ⟨(some 13), .mv (.t 5), none⟩,
    ⟨(some 14), .iaddr (.t 12) (.t 13) 1, none⟩,
    ⟨(some 15), .load (.t 14) 1 false, none⟩,
    ⟨(some 16), .mv (.t 1), none⟩,
    ⟨(some 17), .call (n_Z54) [(.t 15), (.t 16)], none⟩,
    ⟨(some 18), .un .not (.t 17), none⟩,
    ⟨(some 19), .mv (.t 18), none⟩,
    ⟨(some 20), .mv (.t 5), (some (19, false))⟩,
    ⟨(some 21), .bin .gtr (.t 20) (.c (.int .i64 0)), (some (19, false))⟩,
    ⟨(some 22), .mv (.t 21), (some (19, false))⟩,
    ⟨(some 23), .mv (.t 0), (some (22, true))⟩,
    ⟨(some 24), .mv (.t 5), (some (22, true))⟩,
    ⟨(some 25), .iaddr (.t 23) (.t 24) 1, (some (22, true))⟩,
    ⟨(some 26), .load (.t 25) 1 false, (some (22, true))⟩,
    ⟨(some 27), .call (n_Z48) [(.t 26)], (some (22, true))⟩,
    ⟨(some 28), .mv (.t 0), (some (22, true))⟩,
    ⟨(some 29), .mv (.t 5), (some (22, true))⟩,
    ⟨(some 30), .bin .sub (.t 29) (.c (.int .i64 1)), (some (22, true))⟩,
    ⟨(some 31), .iaddr (.t 28) (.t 30) 1, (some (22, true))⟩,
    ⟨(some 32), .load (.t 31) 1 false, (some (22, true))⟩,
    ⟨(some 33), .call (n_Z48) [(.t 32)], (some (22, true))⟩,
    ⟨(some 34), .bin .leq (.t 27) (.t 33), (some (22, true))⟩,
    ⟨(some 35), .pick (.t 22) (.t 34) (.c (.bool false)), (some (19, false))⟩,
    ⟨(some 36), .pick (.t 19) (.c (.bool true)) (.t 35), none⟩]
@[go_sem] theorem g_Z44_4_0 : gAt l_Z44_4 0 = ⟨(some 12), .mv (.t 0), none⟩ := idE rfl
@[go_sem] theorem g_Z44_4_1 : gAt l_Z44_4 1 = ⟨(some 13), .mv (.t 5), none⟩ := idE rfl
@[go_sem] theorem g_Z44_4_2 : gAt l_Z44_4 2 = ⟨(some 14), .iaddr (.t 12) (.t 13) 1, none⟩ := idE rfl
@[go_sem] theorem g_Z44_4_3 : gAt l_Z44_4 3 = ⟨(some 15), .load (.t 14) 1 false, none⟩ := idE rfl
@[go_sem] theorem g_Z44_4_4 : gAt l_Z44_4 4 = ⟨(some 16), .mv (.t 1), none⟩ := idE rfl
@[go_sem] theorem g_Z44_4_5 : gAt l_Z44_4 5 = ⟨(some 17), .call (n_Z54) [(.t 15), (.t 16)], none⟩ := idE rfl
@[go_sem] theorem g_Z44_4_6 : gAt l_Z44_4 6 = ⟨(some 18), .un .not (.t 17), none⟩ := idE rfl
@[go_sem] theorem g_Z44_4_7 : gAt l_Z44_4 7 = ⟨(some 19), .mv (.t 18), none⟩ := idE rfl
@[go_sem] theorem g_Z44_4_8 : gAt l_Z44_4 8 = ⟨(some 20), .mv (.t 5), (some (19, false))⟩ := idE rfl
@[go_sem] theorem g_Z44_4_9 : gAt l_Z44_4 9 = ⟨(some 21), .bin .gtr (.t 20) (.c (.int .i64 0)), (some (19, false))⟩ := idE rfl
@[go_sem] theorem g_Z44_4_10 : gAt l_Z44_4 10 = ⟨(some 22), .mv (.t 21), (some (19, false))⟩ := idE rfl
@[go_sem] theorem g_Z44_4_11 : gAt l_Z44_4 11 = ⟨(some 23), .mv (.t 0), (some (22, true))⟩ := idE rfl
@[go_sem] theorem g_Z44_4_12 : gAt l_Z44_4 12 = ⟨(some 24), .mv (.t 5), (some (22, true))⟩ := idE rfl
@[go_sem] theorem g_Z44_4_13 : gAt l_Z44_4 13 = ⟨(some 25), .iaddr (.t 23) (.t 24) 1, (some (22, true))⟩ := idE rfl
@[go_sem] theorem g_Z44_4_14 : gAt l_Z44_4 14 = ⟨(some 26), .load (.t 25) 1 false, (some (22, true))⟩ := idE rfl
@[go_sem] theorem g_Z44_4_15 : gAt l_Z44_4 15 = ⟨(some 27), .call (n_Z48) [(.t 26)], (some (22, true))⟩ := idE rfl
@[go_sem] theorem g_Z44_4_16 : gAt l_Z44_4 16 = ⟨(some 28), .mv (.t 0), (some (22, true))⟩ := idE rfl
@[go_sem] theorem g_Z44_4_17 : gAt l_Z44_4 17 = ⟨(some 29), .mv (.t 5), (some (22, true))⟩ := idE rfl
@[go_sem] theorem g_Z44_4_18 : gAt l_Z44_4 18 = ⟨(some 30), .bin .sub (.t 29) (.c (.int .i64 1)), (some (22, true))⟩ := idE rfl
@[go_sem] theorem g_Z44_4_19 : gAt l_Z44_4 19 = ⟨(some 31), .iaddr (.t 28) (.t 30) 1, (some (22, true))⟩ := idE rfl
@[go_sem] theorem g_Z44_4_20 : gAt l_Z44_4 20 = ⟨(some 32), .load (.t 31) 1 false, (some (22, true))⟩ := idE rfl
@[go_sem] theorem g_Z44_4_21 : gAt l_Z44_4 21 = ⟨(some 33), .call (n_Z48) [(.t 32)], (some (22, true))⟩ := idE rfl
@[go_sem] theorem g_Z44_4_22 : gAt l_Z44_4 22 = ⟨(some 34), .bin .leq (.t 27) (.t 33), (some (22, true))⟩ := idE rfl
@[go_sem] theorem g_Z44_4_23 : gAt l_Z44_4 23 = ⟨(some 35), .pick (.t 22) (.t 34) (.c (.bool false)), (some (19, false))⟩ := idE rfl
@[go_sem] theorem g_Z44_4_24 : gAt l_Z44_4 24 = ⟨(some 36), .pick (.t 19) (.c (.bool true)) (.t 35), none⟩ := idE rfl
def Z44_4 : IR := .dops l_Z44_4 [(0, []), (1, []), (2, []), (3, []), (4, []), (5, []), (6, []), (7, []), (8, []), (9, []), (10, []), (11, []), (12, []), (13, []), (14, []), (16, []), (17, []), (18, []), (19, []), (20, []), (15, [20]), (21, []), (22, []), (23, []), (24, [])]
@[go_sem] theorem w_Z44_4 : wp P Z44_4 Q e H = wpD P l_Z44_4 [(0, []), (1, []), (2, []), (3, []), (4, []), (5, []), (6, []), (7, []), (8, []), (9, []), (10, []), (11, []), (12, []), (13, []), (14, []), (16, []), (17, []), (18, []), (19, []), (20, []), (15, [20]), (21, []), (22, []), (23, []), (24, [])] (Q .normal) e H := idE rfl
@[go_sem] def l_Z44_5 : List GOp := [⟨(some 4), .mv (.c (.bool false)), none⟩]
def Z44_5 : IR := .ops l_Z44_5
@[go_sem] theorem w_Z44_5 : wp P Z44_5 Q e H = wpL P l_Z44_5 (Q .normal) e H := idE rfl
def Z44_6 : IR := .cond (.t 36) (.seq Z44_5 .ret) .skip
@[go_sem] theorem w_Z44_6 : wp P Z44_6 Q e H = condW P ((.t 36) : X) (.seq Z44_5 .ret) .skip Q e H := idE rfl
def Z44_7 : IR := .block 1 (.seq Z44_4 Z44_6)
@[go_sem] theorem w_Z44_7 : wp P Z44_7 Q e H = wp P (.seq Z44_4 Z44_6) (blockQ 1 Q) e H := idE rfl
@[go_sem] def l_Z44_8 : List GOp := [⟨(some 10), .mv (.t 5), none⟩,
    ⟨(some 11), .bin .add (.t 10) (.c (.int .i64 1)), none⟩,
    ⟨(some 5), .mv (.t 11), none⟩]
def Z44_8 : IR := .ops l_Z44_8
@[go_sem] theorem w_Z44_8 : wp P Z44_8 Q e H = wpL P l_Z44_8 (Q .normal) e H := idE rfl
def Z44_9 : IR := .loop (.seq (.seq Z44_2 Z44_3) (.seq Z44_7 Z44_8))
def Z44_10 : IR := .block 0 Z44_9
@[go_sem] theorem w_Z44_10 : wp P Z44_10 Q e H = wp P Z44_9 (blockQ 0 Q) e H := idE rfl
@[go_sem] def l_Z44_11 : List GOp := [⟨(some 37), .mv (.t 1), none⟩,
    ⟨(some 38), .call (n_Z63) [(.t 37), (.c (.int .i64 0)), (.c (.int .i64 700))], none⟩,
    ⟨(some 4), .mv (.t 38), none⟩]
def Z44_11 : IR := .ops l_Z44_11
@[go_sem] theorem w_Z44_11 : wp P Z44_11 Q e H = wpL P l_Z44_11 (Q .normal) e H := idE rfl
def F_Z44 : IFn := ⟨2, 39, [.t 4], (.seq Z44_0 (.seq (.seq Z44_1 Z44_10) (.seq Z44_11 .ret)))⟩
theorem c_Z44 : compFn Try.prog [(0, [], []), (1, [], []), (2, [], []), (4, [(0, []), (1, []), (2, []), (3, []), (4, []), (5, []), (6, []), (7, []), (8, []), (9, []), (10, []), (11, []), (12, []), (13, []), (14, []), (16, []), (17, []), (18, []), (19, []), (20, []), (15, [20]), (21, []), (22, []), (23, []), (24, [])], []), (5, [], []), (3, [], []), (6, [], [])] Try.f71 = some F_Z44 := by kernel_rfl
theorem a_Z44 (hl : args.length = 2) (h : wp Try.prog (.seq Z44_0 (.seq (.seq Z44_1 Z44_10) (.seq Z44_11 .ret))) (postQ [.t 4] R) (env0 args) H) : ACall Try.prog n_Z44 args H R :=
  acall_of_wp mixed Try.func71 c_Z44 (by kernel_rfl) hl h
@[go_sem] def l_Z45_0 : List GOp := [⟨(some 1), .box (.t 0), none⟩,
    ⟨(some 2), .mv (.c (.bool false)), none⟩]
def Z45_0 : IR := .ops l_Z45_0
@[go_sem] theorem w_Z45_0 : wp P Z45_0 Q e H = wpL P l_Z45_0 (Q .normal) e H := idE rfl
@[go_sem] def l_Z45_1 : List GOp := [⟨(some 4), .faddr (.t 1) 0, none⟩,
    ⟨(some 5), .load (.t 4) 1 false, none⟩,
    ⟨(some 6), .call (n_Z63) [(.t 5), (.c (.int .i64 0)), (.c (.int .i64 700))], none⟩,
    ⟨(some 7), .un .not (.t 6), none⟩,
    ⟨(some 8), .mv (.t 7), none⟩,
    ⟨(some 9), .faddr (.t 1) 1, (some (8, false))⟩,
    ⟨(some 10), .load (.t 9) 1 false, (some (8, false))⟩,
    ⟨(some 11), .len (.t 10), (some (8, false))⟩,
    ⟨(some 12), .bin .gtr (.t 11) (.c (.int .i64 2500)), (some (8, false))⟩,
    ⟨(some 13), .pick (.t 8) (.c (.bool true)) (.t 12), none⟩]
def Z45_1 : IR := .ops l_Z45_1
@[go_sem] theorem w_Z45_1 : wp P Z45_1 Q e H = wpL P l_Z45_1 (Q .normal) e H := idE rfl
@[go_sem] def l_Z45_2 : List GOp := [⟨(some 2), .mv (.c (.bool false)), none⟩]
def Z45_2 : IR := .ops l_Z45_2
@[go_sem] theorem w_Z45_2 : wp P Z45_2 Q e H = wpL P l_Z45_2 (Q .normal) e H := idE rfl
def Z45_3 : IR := .cond (.t 13) (.seq Z45_2 .ret) .skip
@[go_sem] theorem w_Z45_3 : wp P Z45_3 Q e H = condW P ((.t 13) : X) (.seq Z45_2 .ret) .skip Q e H := idE rfl
@[go_sem] def l_Z45_4 : List GOp := [⟨(some 3), .mv (.c (.int .i64 0)), none⟩]
def Z45_4 : IR := .ops l_Z45_4
@[go_sem] theorem w_Z45_4 : wp P Z45_4 Q e H = wpL P l_Z45_4 (Q .normal) e H := idE rfl
@[go_sem] def l_Z45_5 : List GOp := [⟨(some 14), .mv (.t 3), none⟩,
    ⟨(some 15), .faddr (.t 1) 1, none⟩,
    ⟨(some 16), .load (.t 15) 1 false, none⟩,
    ⟨(some 17), .len (.t 16), none⟩,
    ⟨(some 18), .bin .lss (.t 14) (.t 17), none⟩]
def Z45_5 : IR := .ops l_Z45_5
@[go_sem] theorem w_Z45_5 : wp P Z45_5 Q e H = wpL P l_Z45_5 (Q .normal) e H := idE rfl
def Z45_6 : IR := .cond (.t 18) .skip (.exit 0)
@[go_sem] theorem w_Z45_6 : wp P Z45_6 Q e H = condW P ((.t 18) : X) .skip (.exit 0) Q e H := idE rfl
def l_Z45_7 : List GOp := [⟨(some 21), .faddr (.t 1) 1, none⟩,
    ⟨(some 22), .load (.t 21) 1 false, none⟩,
    ⟨(some 23), .mv (.t 3), none⟩,
    ⟨(some 24), .iaddr (.t 22) (.t 23) 1, none⟩,
    ⟨(some 25), .load (.t 24) 1 false, none⟩,
    ⟨(some 26), .faddr (.t 1) 0, none⟩,
    ⟨(some 27), .load (.t 26) 1 false, none⟩,
    ⟨(some 28), .call (n_Z44) [(.t 25), (.t 27)], none⟩,
    ⟨(some 29), .un .not (.t 28), none⟩]
@[go_sem] theorem g_Z45_7_0 : gAt l_Z45_7 0 = ⟨(some 21), .faddr (.t 1) 1, none⟩ := idE rfl
@[go_sem] theorem g_Z45_7_1 : gAt l_Z45_7 1 = ⟨(some 22), .load (.t 21) 1 false, none⟩ := idE rfl
@[go_sem] theorem g_Z45_7_2 : gAt l_Z45_7 2 = ⟨(some 23), .mv (.t 3), none⟩ := idE rfl
@[go_sem] theorem g_Z45_7_3 : gAt l_Z45_7 3 = ⟨(some 24), .iaddr (.t 22) (.t 23) 1, none⟩ := idE rfl
@[go_sem] theorem g_Z45_7_4 : gAt l_Z45_7 4 = ⟨(some 25), .load (.t 24) 1 false, none⟩ := idE rfl
@[go_sem] theorem g_Z45_7_5 : gAt l_Z45_7 5 = ⟨(some 26), .faddr (.t 1) 0, none⟩ := idE rfl
@[go_sem] theorem g_Z45_7_6 : gAt l_Z45_7 6 = ⟨(some 27), .load (.t 26) 1 false, none⟩ := idE rfl
@[go_sem] theorem g_Z45_7_7 : gAt l_Z45_7 7 = ⟨(some 28), .call (n_Z44) [(.t 25), (.t 27)], none⟩ := idE rfl
@[go_sem] theorem g_Z45_7_8 : gAt l_Z45_7 8 = ⟨(some 29), .un .not (.t 28), none⟩ := idE rfl
def Z45_7 : IR := .dops l_Z45_7 [(0, []), (1, []), (2, []), (3, []), (4, []), (5, []), (6, []), (7, []), (8, [])]
@[go_sem] theorem w_Z45_7 : wp P Z45_7 Q e H = wpD P l_Z45_7 [(0, []), (1, []), (2, []), (3, []), (4, []), (5, []), (6, []), (7, []), (8, [])] (Q .normal) e H := idE rfl
@[go_sem] def l_Z45_8 : List GOp := [⟨(some 2), .mv (.c (.bool false)), none⟩]
def Z45_8 : IR := .ops l_Z45_8
@[go_sem] theorem w_Z45_8 : wp P Z45_8 Q e H = wpL P l_Z45_8 (Q .normal) e H := idE rfl
def Z45_9 : IR := .cond (.t 29) (.seq Z45_8 .ret) .skip
@[go_sem] theorem w_Z45_9 : wp P Z45_9 Q e H = condW P ((.t 29) : X) (.seq Z45_8 .ret) .skip Q e H := idE rfl
def Z45_10 : IR := .block 1 (.seq Z45_7 Z45_9)
@[go_sem] theorem w_Z45_10 : wp P Z45_10 Q e H = wp P (.seq Z45_7 Z45_9) (blockQ 1 Q) e H := idE rfl
@[go_sem] def l_Z45_11 : List GOp := [⟨(some 19), .mv (.t 3), none⟩,
    ⟨(some 20), .bin .add (.t 19) (.c (.int .i64 1)), none⟩,
    ⟨(some 3), .mv (.t 20), none⟩]
def Z45_11 : IR := .ops l_Z45_11
@[go_sem] theorem w_Z45_11 : wp P Z45_11 Q e H = wpL P l_Z45_11 (Q .normal) e H := idE rfl
def Z45_12 : IR := .loop (.seq (.seq Z45_5 Z45_6) (.seq Z45_10 Z45_11))
def Z45_13 : IR := .block 0 Z45_12
@[go_sem] theorem w_Z45_13 : wp P Z45_13 Q e H = wp P Z45_12 (blockQ 0 Q) e H := idE rfl
@[go_sem] def l_Z45_14 : List GOp := [⟨(some 2), .mv (.c (.bool true)), none⟩]
def Z45_14 : IR := .ops l_Z45_14
@[go_sem] theorem w_Z45_14 : wp P Z45_14 Q e H = wpL P l_Z45_14 (Q .normal) e H := idE rfl
def F_Z45 : IFn := ⟨1, 30, [.t 2], (.seq Z45_0 (.seq (.seq Z45_1 Z45_3) (.seq (.seq Z45_4 Z45_13) (.seq Z45_14 .ret))))⟩
theorem c_Z45 : compFn Try.prog [(0, [], []), (1, [], []), (2, [], []), (3, [], []), (4, [], []), (6, [(0, []), (1, []), (2, []), (3, []), (4, []), (5, []), (6, []), (7, []), (8, [])], []), (7, [], []), (5, [], []), (8, [], [])] Try.f28 = some F_Z45 := by kernel_rfl
theorem a_Z45 (hl : args.length = 1) (h : wp Try.prog (.seq Z45_0 (.seq (.seq Z45_1 Z45_3) (.seq (.seq Z45_4 Z45_13) (.seq Z45_14 .ret)))) (postQ [.t 2] R) (env0 args) H) : ACall Try.prog n_Z45 args H R :=
  acall_of_wp mixed Try.func28 c_Z45 (by kernel_rfl) hl h
@[go_sem] def l_Z52_0 : List GOp := [⟨(some 4), .mv (.c (.sl none 0 0 true 0)), none⟩]
def Z52_0 : IR := .ops l_Z52_0
@[go_sem] theorem w_Z52_0 : wp P Z52_0 Q e H = wpL P l_Z52_0 (Q .normal) e H := idE rfl
@[go_sem] def l_Z52_1 : List GOp := [⟨(some 7), .mv (.t 1), none⟩,
    ⟨(some 8), .bin .add (.t 7) (.c (.int .i64 1)), none⟩,
    ⟨(some 9), .mks [(.int .i64 0)] 8 (.t 8), none⟩,
    ⟨(some 5), .mv (.t 9), none⟩]
def Z52_1 : IR := .ops l_Z52_1
@[go_sem] theorem w_Z52_1 : wp P Z52_1 Q e H = wpL P l_Z52_1 (Q .normal) e H := idE rfl
@[go_sem] def l_Z52_2 : List GOp := [⟨(some 6), .mv (.c (.int .i64 0)), none⟩]
def Z52_2 : IR := .ops l_Z52_2
@[go_sem] theorem w_Z52_2 : wp P Z52_2 Q e H = wpL P l_Z52_2 (Q .normal) e H := idE rfl
@[go_sem] def l_Z52_3 : List GOp := [⟨(some 10), .mv (.t 6), none⟩,
    ⟨(some 11), .mv (.t 0), none⟩,
    ⟨(some 12), .len (.t 11), none⟩,
    ⟨(some 13), .bin .lss (.t 10) (.t 12), none⟩]
def Z52_3 : IR := .ops l_Z52_3
@[go_sem] theorem w_Z52_3 : wp P Z52_3 Q e H = wpL P l_Z52_3 (Q .normal) e H := idE rfl
def Z52_4 : IR := .cond (.t 13) .skip (.exit 0)
@[go_sem] theorem w_Z52_4 : wp P Z52_4 Q e H = condW P ((.t 13) : X) .skip (.exit 0) Q e H := idE rfl
def l_Z52_5 : List GOp := [⟨(some 16), .mv (.t 5), none⟩,
    ⟨(some 17), .mv (.t 0), none⟩,
    ⟨(some 18), .mv (.t 6), none⟩,
    ⟨(some 19), .iaddr (.t 17) (.t 18) 1, none⟩,
    ⟨(some 20), .load (.t 19) 1 false, none⟩,
    ⟨(some 21), .call (n_Z48) [(.t 20)], none⟩,
    ⟨(some 22), .mv (.t 0), none⟩,
    ⟨(some 23), .mv (.t 6), none⟩,
    ⟨(some 24), .iaddr (.t 22) (.t 23) 1, none⟩,
    ⟨(some 25), .load (.t 24) 1 false, none⟩,
    ⟨(some 26), .iaddr (.t 16) (.t 21) 1, none⟩,
    ⟨none, .store (.t 26) 1 (.t 25), none⟩]
@[go_sem] theorem g_Z52_5_0 : gAt l_Z52_5 0 = ⟨(some 16), .mv (.t 5), none⟩ := idE rfl
@[go_sem] theorem g_Z52_5_1 : gAt l_Z52_5 1 = ⟨(some 17), .mv (.t 0), none⟩ := idE rfl
@[go_sem] theorem g_Z52_5_2 : gAt l_Z52_5 2 = ⟨(some 18), .mv (.t 6), none⟩ := idE rfl
@[go_sem] theorem g_Z52_5_3 : gAt l_Z52_5 3 = ⟨(some 19), .iaddr (.t 17) (.t 18) 1, none⟩ := idE rfl
@[go_sem] theorem g_Z52_5_4 : gAt l_Z52_5 4 = ⟨(some 20), .load (.t 19) 1 false, none⟩ := idE rfl
@[go_sem] theorem g_Z52_5_5 : gAt l_Z52_5 5 = ⟨(some 21), .call (n_Z48) [(.t 20)], none⟩ := idE rfl
@[go_sem] theorem g_Z52_5_6 : gAt l_Z52_5 6 = ⟨(some 22), .mv (.t 0), none⟩ := idE rfl
@[go_sem] theorem g_Z52_5_7 : gAt l_Z52_5 7 = ⟨(some 23), .mv (.t 6), none⟩ := idE rfl
@[go_sem] theorem g_Z52_5_8 : gAt l_Z52_5 8 = ⟨(some 24), .iaddr (.t 22) (.t 23) 1, none⟩ := idE rfl
@[go_sem] theorem g_Z52_5_9 : gAt l_Z52_5 9 = ⟨(some 25), .load (.t 24) 1 false, none⟩ := idE rfl
@[go_sem] theorem g_Z52_5_10 : gAt l_Z52_5 10 = ⟨(some 26), .iaddr (.t 16) (.t 21) 1, none⟩ := idE rfl
@[go_sem] theorem g_Z52_5_11 : gAt l_Z52_5 11 = ⟨none, .store (.t 26) 1 (.t 25), none⟩ := idE rfl
def Z52_5 : IR := .dops l_Z52_5 [(0, []), (1, []), (2, []), (3, []), (4, []), (6, []), (7, []), (8, []), (9, []), (5, [9]), (10, []), (11, [])]
@[go_sem] theorem w_Z52_5 : wp P Z52_5 Q e H = wpD P l_Z52_5 [(0, []), (1, []), (2, []), (3, []), (4, []), (6, []), (7, []), (8, []), (9, []), (5, [9]), (10, []), (11, [])] (Q .normal) e H := idE rfl
def Z52_6 : IR := .block 1 Z52_5
@[go_sem] theorem w_Z52_6 : wp P Z52_6 Q e H = wp P Z52_5 (blockQ 1 Q) e H := idE rfl
@[go_sem] def l_Z52_7 : List GOp := [⟨(some 14), .mv (.t 6), none⟩,
    ⟨(some 15), .bin .add (.t 14) (.c (.int .i64 1)), none⟩,
    ⟨(some 6), .mv (.t 15), none⟩]
def Z52_7 : IR := .ops l_Z52_7
@[go_sem] theorem w_Z52_7 : wp P Z52_7 Q e H = wpL P l_Z52_7 (Q .normal) e H := idE rfl
def Z52_8 : IR := .loop (.seq (.seq Z52_3 Z52_4) (.seq Z52_6 Z52_7))
def Z52_9 : IR := .block 0 Z52_8
@[go_sem] theorem w_Z52_9 : wp P Z52_9 Q e H = wp P Z52_8 (blockQ 0 Q) e H := idE rfl
@[go_sem] def l_Z52_10 : List GOp := [⟨(some 27), .mv (.t 5), none⟩,
    ⟨(some 4), .mv (.t 27), none⟩]
def Z52_10 : IR := .ops l_Z52_10
@[go_sem] theorem w_Z52_10 : wp P Z52_10 Q e H = wpL P l_Z52_10 (Q .normal) e H := idE rfl
def F_Z52 : IFn := ⟨2, 28, [.t 4], (.seq Z52_0 (.seq Z52_1 (.seq (.seq Z52_2 Z52_9) (.seq Z52_10 .ret))))⟩
theorem c_Z52 : compFn Try.prog [(0, [], []), (1, [], []), (2, [], []), (3, [], []), (5, [(0, []), (1, []), (2, []), (3, []), (4, []), (6, []), (7, []), (8, []), (9, []), (5, [9]), (10, []), (11, [])], []), (4, [], []), (6, [], [])] Try.f131 = some F_Z52 := by kernel_rfl
theorem a_Z52 (hl : args.length = 2) (h : wp Try.prog (.seq Z52_0 (.seq Z52_1 (.seq (.seq Z52_2 Z52_9) (.seq Z52_10 .ret)))) (postQ [.t 4] R) (env0 args) H) : ACall Try.prog n_Z52 args H R :=
  acall_of_wp mixed Try.func131 c_Z52 (by kernel_rfl) hl h
@[go_sem] def l_Z53_0 : List GOp := [⟨(some 4), .mv (.c (.int .i64 0)), none⟩,
    ⟨(some 5), .mv (.c (.int .i64 0)), none⟩]
def Z53_0 : IR := .ops l_Z53_0
@[go_sem] theorem w_Z53_0 : wp P Z53_0 Q e H = wpL P l_Z53_0 (Q .normal) e H := idE rfl
@[go_sem] def l_Z53_1 : List GOp := [⟨(some 6), .mv (.c (.int .i64 0)), none⟩]
def Z53_1 : IR := .ops l_Z53_1
@[go_sem] theorem w_Z53_1 : wp P Z53_1 Q e H = wpL P l_Z53_1 (Q .normal) e H := idE rfl
@[go_sem] def l_Z53_2 : List GOp := [⟨(some 7), .mv (.c (.int .i64 0)), none⟩]
def Z53_2 : IR := .ops l_Z53_2
@[go_sem] theorem w_Z53_2 : wp P Z53_2 Q e H = wpL P l_Z53_2 (Q .normal) e H := idE rfl
@[go_sem] def l_Z53_3 : List GOp := [⟨(some 8), .mv (.c (.int .i64 0)), none⟩]
def Z53_3 : IR := .ops l_Z53_3
@[go_sem] theorem w_Z53_3 : wp P Z53_3 Q e H = wpL P l_Z53_3 (Q .normal) e H := idE rfl
@[go_sem] def l_Z53_4 : List GOp := [⟨(some 10), .mv (.t 8), none⟩,
    ⟨(some 11), .mv (.t 0), none⟩,
    ⟨(some 12), .len (.t 11), none⟩,
    ⟨(some 13), .bin .lss (.t 10) (.t 12), none⟩]
def Z53_4 : IR := .ops l_Z53_4
@[go_sem] theorem w_Z53_4 : wp P Z53_4 Q e H = wpL P l_Z53_4 (Q .normal) e H := idE rfl
def Z53_5 : IR := .cond (.t 13) .skip (.exit 0)
@[go_sem] theorem w_Z53_5 : wp P Z53_5 Q e H = condW P ((.t 13) : X) .skip (.exit 0) Q e H := idE rfl
@[go_sem] def l_Z53_6 : List GOp := [⟨(some 16), .mv (.t 1), none⟩,
    ⟨(some 17), .mv (.t 0), none⟩,
    ⟨(some 18), .mv (.t 8), none⟩,
    ⟨(some 19), .iaddr (.t 17) (.t 18) 1, none⟩,
    ⟨(some 20), .load (.t 19) 1 false, none⟩,
    ⟨(some 21), .call (n_Z48) [(.t 20)], none⟩,
    ⟨(some 22), .iaddr (.t 16) (.t 21) 1, none⟩,
    ⟨(some 23), .load (.t 22) 1 false, none⟩,
    ⟨(some 9), .mv (.t 23), none⟩]
def Z53_6 : IR := .ops l_Z53_6
@[go_sem] theorem w_Z53_6 : wp P Z53_6 Q e H = wpL P l_Z53_6 (Q .normal) e H := idE rfl
@[go_sem] def l_Z53_7 : List GOp := [⟨(some 24), .mv (.t 9), none⟩,
    ⟨(some 25), .mv (.t 0), none⟩,
    ⟨(some 26), .mv (.t 8), none⟩,
    ⟨(some 27), .iaddr (.t 25) (.t 26) 1, none⟩,
    ⟨(some 28), .load (.t 27) 1 false, none⟩,
    ⟨(some 29), .bin .eql (.t 24) (.t 28), none⟩]
def Z53_7 : IR := .ops l_Z53_7
@[go_sem] theorem w_Z53_7 : wp P Z53_7 Q e H = wpL P l_Z53_7 (Q .normal) e H := idE rfl
@[go_sem] def l_Z53_8 : List GOp := [⟨(some 4), .mv (.c (.int .i64 (-1))), none⟩,
    ⟨(some 5), .mv (.c (.int .i64 0)), none⟩]
def Z53_8 : IR := .ops l_Z53_8
@[go_sem] theorem w_Z53_8 : wp P Z53_8 Q e H = wpL P l_Z53_8 (Q .normal) e H := idE rfl
def Z53_9 : IR := .cond (.t 29) (.seq Z53_8 .ret) .skip
@[go_sem] theorem w_Z53_9 : wp P Z53_9 Q e H = condW P ((.t 29) : X) (.seq Z53_8 .ret) .skip Q e H := idE rfl
@[go_sem] def l_Z53_10 : List GOp := [⟨(some 30), .mv (.t 9), none⟩,
    ⟨(some 31), .bin .eql (.t 30) (.c (.int .i64 0)), none⟩]
def Z53_10 : IR := .ops l_Z53_10
@[go_sem] theorem w_Z53_10 : wp P Z53_10 Q e H = wpL P l_Z53_10 (Q .normal) e H := idE rfl
@[go_sem] def l_Z53_11 : List GOp := [⟨(some 32), .mv (.t 6), none⟩,
    ⟨(some 33), .bin .add (.t 32) (.c (.int .i64 1)), none⟩,
    ⟨(some 6), .mv (.t 33), none⟩]
def Z53_11 : IR := .ops l_Z53_11
@[go_sem] theorem w_Z53_11 : wp P Z53_11 Q e H = wpL P l_Z53_11 (Q .normal) e H := idE rfl
@[go_sem] def l_Z53_12 : List GOp := [⟨(some 34), .mv (.t 0), none⟩,
    ⟨(some 35), .mv (.t 8), none⟩,
    ⟨(some 36), .iaddr (.t 34) (.t 35) 1, none⟩,
    ⟨(some 37), .load (.t 36) 1 false, none⟩,
    ⟨(some 7), .mv (.t 37), none⟩]
def Z53_12 : IR := .ops l_Z53_12
@[go_sem] theorem w_Z53_12 : wp P Z53_12 Q e H = wpL P l_Z53_12 (Q .normal) e H := idE rfl
def Z53_13 : IR := .cond (.t 31) (.seq Z53_11 Z53_12) .skip
@[go_sem] theorem w_Z53_13 : wp P Z53_13 Q e H = condW P ((.t 31) : X) (.seq Z53_11 Z53_12) .skip Q e H := idE rfl
def Z53_14 : IR := .block 1 (.seq Z53_6 (.seq (.seq Z53_7 Z53_9) (.seq Z53_10 Z53_13)))
@[go_sem] theorem w_Z53_14 : wp P Z53_14 Q e H = wp P (.seq Z53_6 (.seq (.seq Z53_7 Z53_9) (.seq Z53_10 Z53_13))) (blockQ 1 Q) e H := idE rfl
@[go_sem] def l_Z53_15 : List GOp := [⟨(some 14), .mv (.t 8), none⟩,
    ⟨(some 15), .bin .add (.t 14) (.c (.int .i64 1)), none⟩,
    ⟨(some 8), .mv (.t 15), none⟩]
def Z53_15 : IR := .ops l_Z53_15
@[go_sem] theorem w_Z53_15 : wp P Z53_15 Q e H = wpL P l_Z53_15 (Q .normal) e H := idE rfl
def Z53_16 : IR := .loop (.seq (.seq Z53_4 Z53_5) (.seq Z53_14 Z53_15))
def Z53_17 : IR := .block 0 Z53_16
@[go_sem] theorem w_Z53_17 : wp P Z53_17 Q e H = wp P Z53_16 (blockQ 0 Q) e H := idE rfl
@[go_sem] def l_Z53_18 : List GOp := [⟨(some 38), .mv (.t 6), none⟩,
    ⟨(some 39), .mv (.t 7), none⟩,
    ⟨(some 4), .mv (.t 38), none⟩,
    ⟨(some 5), .mv (.t 39), none⟩]
def Z53_18 : IR := .ops l_Z53_18
@[go_sem] theorem w_Z53_18 : wp P Z53_18 Q e H = wpL P l_Z53_18 (Q .normal) e H := idE rfl
def F_Z53 : IFn := ⟨2, 40, [.t 4, .t 5], (.seq Z53_0 (.seq Z53_1 (.seq Z53_2 (.seq (.seq Z53_3 Z53_17) (.seq Z53_18 .ret)))))⟩
theorem c_Z53 : compFn Try.prog [(0, [], []), (1, [], []), (2, [], []), (3, [], []), (4, [], []), (6, [], []), (7, [], []), (8, [], []), (9, [], []), (10, [], []), (11, [], []), (5, [], []), (12, [], [])] Try.f142 = some F_Z53 := by kernel_rfl
theorem a_Z53 (hl : args.length = 2) (h : wp Try.prog (.seq Z53_0 (.seq Z53_1 (.seq Z53_2 (.seq (.seq Z53_3 Z53_17) (.seq Z53_18 .ret))))) (postQ [.t 4, .t 5] R) (env0 args) H) : ACall Try.prog n_Z53 args H R :=
  acall_of_wp mixed Try.func142 c_Z53 (by kernel_rfl) hl h
@[go_sem] def l_Z51_0 : List GOp := [⟨(some 4), .mv (.c (.bool false)), none⟩]
def Z51_0 : IR := .ops l_Z51_0
@[go_sem] theorem w_Z51_0 : wp P Z51_0 Q e H = wpL P l_Z51_0 (Q .normal) e H := idE rfl
@[go_sem] def l_Z51_1 : List GOp := [⟨(some 5), .mv (.c (.bool true)), none⟩]
def Z51_1 : IR := .ops l_Z51_1
@[go_sem] theorem w_Z51_1 : wp P Z51_1 Q e H = wpL P l_Z51_1 (Q .normal) e H := idE rfl
@[go_sem] def l_Z51_2 : List GOp := [⟨(some 9), .mv (.t 5), none⟩]
def Z51_2 : IR := .ops l_Z51_2
@[go_sem] theorem w_Z51_2 : wp P Z51_2 Q e H = wpL P l_Z51_2 (Q .normal) e H := idE rfl
def Z51_3 : IR := .cond (.t 9) .skip (.exit 0)
@[go_sem] theorem w_Z51_3 : wp P Z51_3 Q e H = condW P ((.t 9) : X) .skip (.exit 0) Q e H := idE rfl
@[go_sem] def l_Z51_4 : List GOp := [⟨(some 5), .mv (.c (.bool false)), none⟩]
def Z51_4 : IR := .ops l_Z51_4
@[go_sem] theorem w_Z51_4 : wp P Z51_4 Q e H = wpL P l_Z51_4 (Q .normal) e H := idE rfl
@[go_sem] def l_Z51_5 : List GOp := [⟨(some 6), .mv (.c (.int .i64 0)), none⟩]
def Z51_5 : IR := .ops l_Z51_5
@[go_sem] theorem w_Z51_5 : wp P Z51_5 Q e H = wpL P l_Z51_5 (Q .normal) e H := idE rfl
@[go_sem] def l_Z51_6 : List GOp := [⟨(some 10), .mv (.t 6), none⟩,
    ⟨(some 11), .mv (.t 0), none⟩,
    ⟨(some 12), .len (.t 11), none⟩,
    ⟨(some 13), .bin .lss (.t 10) (.t 12), none⟩]
def Z51_6 : IR := .ops l_Z51_6
@[go_sem] theorem w_Z51_6 : wp P Z51_6 Q e H = wpL P l_Z51_6 (Q .normal) e H := idE rfl
def Z51_7 : IR := .cond (.t 13) .skip (.exit 2)
@[go_sem] theorem w_Z51_7 : wp P Z51_7 Q e H = condW P ((.t 13) : X) .skip (.exit 2) Q e H := idE rfl
@[go_sem] def l_Z51_8 : List GOp := [⟨(some 17), .mv (.t 0), none⟩,
    ⟨(some 18), .mv (.t 6), none⟩,
    ⟨(some 19), .iaddr (.t 17) (.t 18) 1, none⟩,
    ⟨(some 20), .load (.t 19) 1 false, none⟩,
    ⟨(some 21), .mv (.t 1), none⟩,
    ⟨(some 22), .call (n_Z53) [(.t 20), (.t 21)], none⟩,
    ⟨(some 16), .mv (.t 22), none⟩,
    ⟨(some 23), .ext (.t 16) 0, none⟩,
    ⟨(some 24), .ext (.t 16) 1, none⟩,
    ⟨(some 7), .mv (.t 23), none⟩,
    ⟨(some 8), .mv (.t 24), none⟩]
def Z51_8 : IR := .ops l_Z51_8
@[go_sem] theorem w_Z51_8 : wp P Z51_8 Q e H = wpL P l_Z51_8 (Q .normal) e H := idE rfl
@[go_sem] def l_Z51_9 : List GOp := [⟨(some 25), .mv (.t 7), none⟩,
    ⟨(some 26), .bin .eql (.t 25) (.c (.int .i64 0)), none⟩]
def Z51_9 : IR := .ops l_Z51_9
@[go_sem] theorem w_Z51_9 : wp P Z51_9 Q e H = wpL P l_Z51_9 (Q .normal) e H := idE rfl
@[go_sem] def l_Z51_10 : List GOp := [⟨(some 4), .mv (.c (.bool false)), none⟩]
def Z51_10 : IR := .ops l_Z51_10
@[go_sem] theorem w_Z51_10 : wp P Z51_10 Q e H = wpL P l_Z51_10 (Q .normal) e H := idE rfl
def Z51_11 : IR := .cond (.t 26) (.seq Z51_10 .ret) .skip
@[go_sem] theorem w_Z51_11 : wp P Z51_11 Q e H = condW P ((.t 26) : X) (.seq Z51_10 .ret) .skip Q e H := idE rfl
@[go_sem] def l_Z51_12 : List GOp := [⟨(some 27), .mv (.t 7), none⟩,
    ⟨(some 28), .bin .eql (.t 27) (.c (.int .i64 1)), none⟩]
def Z51_12 : IR := .ops l_Z51_12
@[go_sem] theorem w_Z51_12 : wp P Z51_12 Q e H = wpL P l_Z51_12 (Q .normal) e H := idE rfl
@[go_sem] def l_Z51_13 : List GOp := [⟨(some 29), .mv (.t 1), none⟩,
    ⟨(some 30), .mv (.t 8), none⟩,
    ⟨(some 31), .call (n_Z48) [(.t 30)], none⟩,
    ⟨(some 32), .mv (.t 8), none⟩,
    ⟨(some 33), .iaddr (.t 29) (.t 31) 1, none⟩,
    ⟨none, .store (.t 33) 1 (.t 32), none⟩]
def Z51_13 : IR := .ops l_Z51_13
@[go_sem] theorem w_Z51_13 : wp P Z51_13 Q e H = wpL P l_Z51_13 (Q .normal) e H := idE rfl
@[go_sem] def l_Z51_14 : List GOp := [⟨(some 5), .mv (.c (.bool true)), none⟩]
def Z51_14 : IR := .ops l_Z51_14
@[go_sem] theorem w_Z51_14 : wp P Z51_14 Q e H = wpL P l_Z51_14 (Q .normal) e H := idE rfl
def Z51_15 : IR := .cond (.t 28) (.seq Z51_13 Z51_14) .skip
@[go_sem] theorem w_Z51_15 : wp P Z51_15 Q e H = condW P ((.t 28) : X) (.seq Z51_13 Z51_14) .skip Q e H := idE rfl
def Z51_16 : IR := .block 3 (.seq Z51_8 (.seq (.seq Z51_9 Z51_11) (.seq Z51_12 Z51_15)))
@[go_sem] theorem w_Z51_16 : wp P Z51_16 Q e H = wp P (.seq Z51_8 (.seq (.seq Z51_9 Z51_11) (.seq Z51_12 Z51_15))) (blockQ 3 Q) e H := idE rfl
@[go_sem] def l_Z51_17 : List GOp := [⟨(some 14), .mv (.t 6), none⟩,
    ⟨(some 15), .bin .add (.t 14) (.c (.int .i64 1)), none⟩,
    ⟨(some 6), .mv (.t 15), none⟩]
def Z51_17 : IR := .ops l_Z51_17
@[go_sem] theorem w_Z51_17 : wp P Z51_17 Q e H = wpL P l_Z51_17 (Q .normal) e H := idE rfl
def Z51_18 : IR := .loop (.seq (.seq Z51_6 Z51_7) (.seq Z51_16 Z51_17))
def Z51_19 : IR := .block 2 Z51_18
@[go_sem] theorem w_Z51_19 : wp P Z51_19 Q e H = wp P Z51_18 (blockQ 2 Q) e H := idE rfl
def Z51_20 : IR := .block 1 (.seq Z51_4 (.seq Z51_5 Z51_19))
@[go_sem] theorem w_Z51_20 : wp P Z51_20 Q e H = wp P (.seq Z51_4 (.seq Z51_5 Z51_19)) (blockQ 1 Q) e H := idE rfl
def Z51_21 : IR := .loop (.seq (.seq Z51_2 Z51_3) Z51_20)
def Z51_22 : IR := .block 0 Z51_21
@[go_sem] theorem w_Z51_22 : wp P Z51_22 Q e H = wp P Z51_21 (blockQ 0 Q) e H := idE rfl
@[go_sem] def l_Z51_23 : List GOp := [⟨(some 4), .mv (.c (.bool true)), none⟩]
def Z51_23 : IR := .ops l_Z51_23
@[go_sem] theorem w_Z51_23 : wp P Z51_23 Q e H = wpL P l_Z51_23 (Q .normal) e H := idE rfl
def F_Z51 : IFn := ⟨2, 34, [.t 4], (.seq Z51_0 (.seq (.seq Z51_1 Z51_22) (.seq Z51_23 .ret)))⟩
theorem c_Z51 : compFn Try.prog [(0, [], []), (1, [], []), (2, [], []), (3, [], []), (4, [], []), (5, [], []), (7, [], []), (8, [], []), (9, [], []), (10, [], []), (11, [], []), (12, [], []), (6, [], []), (13, [], [])] Try.f132 = some F_Z51 := by kernel_rfl
theorem a_Z51 (hl : args.length = 2) (h : wp Try.prog (.seq Z51_0 (.seq (.seq Z51_1 Z51_22) (.seq Z51_23 .ret))) (postQ [.t 4] R) (env0 args) H) : ACall Try.prog n_Z51 args H R :=
  acall_of_wp mixed Try.func132 c_Z51 (by kernel_rfl) hl h
@[go_sem] def l_Z57_0 : List GOp := [⟨(some 2), .mv (.c (.int .i64 0)), none⟩]
def Z57_0 : IR := .ops l_Z57_0
@[go_sem] theorem w_Z57_0 : wp P Z57_0 Q e H = wpL P l_Z57_0 (Q .normal) e H := idE rfl
@[go_sem] def l_Z57_1 : List GOp := [⟨(some 3), .mv (.c (.int .i64 1)), none⟩]
def Z57_1 : IR := .ops l_Z57_1
@[go_sem] theorem w_Z57_1 : wp P Z57_1 Q e H = wpL P l_Z57_1 (Q .normal) e H := idE rfl
@[go_sem] def l_Z57_2 : List GOp := [⟨(some 4), .mv (.t 3), none⟩,
    ⟨(some 5), .mv (.t 0), none⟩,
    ⟨(some 6), .len (.t 5), none⟩,
    ⟨(some 7), .bin .lss (.t 4) (.t 6), none⟩]
def Z57_2 : IR := .ops l_Z57_2
@[go_sem] theorem w_Z57_2 : wp P Z57_2 Q e H = wpL P l_Z57_2 (Q .normal) e H := idE rfl
def Z57_3 : IR := .cond (.t 7) .skip (.exit 0)
@[go_sem] theorem w_Z57_3 : wp P Z57_3 Q e H = condW P ((.t 7) : X) .skip (.exit 0) Q e H := idE rfl
@[go_sem] def l_Z57_4 : List GOp := [⟨(some 10), .mv (.t 0), none⟩,
    ⟨(some 11), .mv (.t 3), none⟩,
    ⟨(some 12), .iaddr (.t 10) (.t 11) 1, none⟩,
    ⟨(some 13), .load (.t 12) 1 false, none⟩,
    ⟨(some 14), .bin .eql (.t 13) (.c (.int .i64 0)), none⟩]
def Z57_4 : IR := .ops l_Z57_4
@[go_sem] theorem w_Z57_4 : wp P Z57_4 Q e H = wpL P l_Z57_4 (Q .normal) e H := idE rfl
@[go_sem] def l_Z57_5 : List GOp := [⟨(some 15), .mv (.t 3), none⟩,
    ⟨(some 2), .mv (.t 15), none⟩]
def Z57_5 : IR := .ops l_Z57_5
@[go_sem] theorem w_Z57_5 : wp P Z57_5 Q e H = wpL P l_Z57_5 (Q .normal) e H := idE rfl
def Z57_6 : IR := .cond (.t 14) (.seq Z57_5 .ret) .skip
@[go_sem] theorem w_Z57_6 : wp P Z57_6 Q e H = condW P ((.t 14) : X) (.seq Z57_5 .ret) .skip Q e H := idE rfl
def Z57_7 : IR := .block 1 (.seq Z57_4 Z57_6)
@[go_sem] theorem w_Z57_7 : wp P Z57_7 Q e H = wp P (.seq Z57_4 Z57_6) (blockQ 1 Q) e H := idE rfl
@[go_sem] def l_Z57_8 : List GOp := [⟨(some 8), .mv (.t 3), none⟩,
    ⟨(some 9), .bin .add (.t 8) (.c (.int .i64 1)), none⟩,
    ⟨(some 3), .mv (.t 9), none⟩]
def Z57_8 : IR := .ops l_Z57_8
@[go_sem] theorem w_Z57_8 : wp P Z57_8 Q e H = wpL P l_Z57_8 (Q .normal) e H := idE rfl
def Z57_9 : IR := .loop (.seq (.seq Z57_2 Z57_3) (.seq Z57_7 Z57_8))
def Z57_10 : IR := .block 0 Z57_9
@[go_sem] theorem w_Z57_10 : wp P Z57_10 Q e H = wp P Z57_9 (blockQ 0 Q) e H := idE rfl
@[go_sem] def l_Z57_11 : List GOp := [⟨(some 2), .mv (.c (.int .i64 0)), none⟩]
def Z57_11 : IR := .ops l_Z57_11
@[go_sem] theorem w_Z57_11 : wp P Z57_11 Q e H = wpL P l_Z57_11 (Q .normal) e H := idE rfl
def F_Z57 : IFn := ⟨1, 16, [.t 2], (.seq Z57_0 (.seq (.seq Z57_1 Z57_10) (.seq Z57_11 .ret)))⟩
theorem c_Z57 : compFn Try.prog [(0, [], []), (1, [], []), (2, [], []), (4, [], []), (5, [], []), (3, [], []), (6, [], [])] Try.f133 = some F_Z57 := by kernel_rfl
theorem a_Z57 (hl : args.length = 1) (h : wp Try.prog (.seq Z57_0 (.seq (.seq Z57_1 Z57_10) (.seq Z57_11 .ret))) (postQ [.t 2] R) (env0 args) H) : ACall Try.prog n_Z57 args H R :=
  acall_of_wp mixed Try.func133 c_Z57 (by kernel_rfl) hl h
@[go_sem] def l_Z62_0 : List GOp := [⟨(some 2), .mv (.c (.sl none 0 0 true 0)), none⟩]
def Z62_0 : IR := .ops l_Z62_0
@[go_sem] theorem w_Z62_0 : wp P Z62_0 Q e H = wpL P l_Z62_0 (Q .normal) e H := idE rfl
@[go_sem] def l_Z62_1 : List GOp := [⟨(some 5), .bslc 1 0 [(.int .i64 0)] [], none⟩,
    ⟨(some 3), .mv (.t 5), none⟩]
def Z62_1 : IR := .ops l_Z62_1
@[go_sem] theorem w_Z62_1 : wp P Z62_1 Q e H = wpL P l_Z62_1 (Q .normal) e H := idE rfl
@[go_sem] def l_Z62_2 : List GOp := [⟨(some 4), .mv (.c (.int .i64 1)), none⟩]
def Z62_2 : IR := .ops l_Z62_2
@[go_sem] theorem w_Z62_2 : wp P Z62_2 Q e H = wpL P l_Z62_2 (Q .normal) e H := idE rfl
@[go_sem] def l_Z62_3 : List GOp := [⟨(some 6), .mv (.t 4), none⟩,
    ⟨(some 7), .mv (.t 0), none⟩,
    ⟨(some 8), .len (.t 7), none⟩,
    ⟨(some 9), .bin .lss (.t 6) (.t 8), none⟩]
def Z62_3 : IR := .ops l_Z62_3
@[go_sem] theorem w_Z62_3 : wp P Z62_3 Q e H = wpL P l_Z62_3 (Q .normal) e H := idE rfl
def Z62_4 : IR := .cond (.t 9) .skip (.exit 0)
@[go_sem] theorem w_Z62_4 : wp P Z62_4 Q e H = condW P ((.t 9) : X) .skip (.exit 0) Q e H := idE rfl
@[go_sem] def l_Z62_5 : List GOp := [⟨(some 12), .mv (.t 0), none⟩,
    ⟨(some 13), .mv (.t 4), none⟩,
    ⟨(some 14), .iaddr (.t 12) (.t 13) 1, none⟩,
    ⟨(some 15), .load (.t 14) 1 false, none⟩,
    ⟨(some 16), .bin .gtr (.t 15) (.c (.int .i64 0)), none⟩]
def Z62_5 : IR := .ops l_Z62_5
@[go_sem] theorem w_Z62_5 : wp P Z62_5 Q e H = wpL P l_Z62_5 (Q .normal) e H := idE rfl
@[go_sem] def l_Z62_6 : List GOp := [⟨(some 17), .mv (.t 3), none⟩,
    ⟨(some 18), .bslc 1 1 [(.int .i64 0)] [(0, (.c (.int .i64 1)))], none⟩,
    ⟨(some 19), .app 1 8 (.t 17) (.t 18), none⟩,
    ⟨(some 3), .mv (.t 19), none⟩]
def Z62_6 : IR := .ops l_Z62_6
@[go_sem] theorem w_Z62_6 : wp P Z62_6 Q e H = wpL P l_Z62_6 (Q .normal) e H := idE rfl
@[go_sem] def l_Z62_7 : List GOp := [⟨(some 20), .mv (.t 3), none⟩,
    ⟨(some 21), .bslc 1 1 [(.int .i64 0)] [(0, (.c (.int .i64 0)))], none⟩,
    ⟨(some 22), .app 1 8 (.t 20) (.t 21), none⟩,
    ⟨(some 3), .mv (.t 22), none⟩]
def Z62_7 : IR := .ops l_Z62_7
@[go_sem] theorem w_Z62_7 : wp P Z62_7 Q e H = wpL P l_Z62_7 (Q .normal) e H := idE rfl
def Z62_8 : IR := .cond (.t 16) Z62_6 Z62_7
@[go_sem] theorem w_Z62_8 : wp P Z62_8 Q e H = condW P ((.t 16) : X) Z62_6 Z62_7 Q e H := idE rfl
def Z62_9 : IR := .block 1 (.seq Z62_5 Z62_8)
@[go_sem] theorem w_Z62_9 : wp P Z62_9 Q e H = wp P (.seq Z62_5 Z62_8) (blockQ 1 Q) e H := idE rfl
@[go_sem] def l_Z62_10 : List GOp := [⟨(some 10), .mv (.t 4), none⟩,
    ⟨(some 11), .bin .add (.t 10) (.c (.int .i64 1)), none⟩,
    ⟨(some 4), .mv (.t 11), none⟩]
def Z62_10 : IR := .ops l_Z62_10
@[go_sem] theorem w_Z62_10 : wp P Z62_10 Q e H = wpL P l_Z62_10 (Q .normal) e H := idE rfl
def Z62_11 : IR := .loop (.seq (.seq Z62_3 Z62_4) (.seq Z62_9 Z62_10))
def Z62_12 : IR := .block 0 Z62_11
@[go_sem] theorem w_Z62_12 : wp P Z62_12 Q e H = wp P Z62_11 (blockQ 0 Q) e H := idE rfl
@[go_sem] def l_Z62_13 : List GOp := [⟨(some 23), .mv (.t 3), none⟩,
    ⟨(some 2), .mv (.t 23), none⟩]
def Z62_13 : IR := .ops l_Z62_13
@[go_sem] theorem w_Z62_13 : wp P Z62_13 Q e H = wpL P l_Z62_13 (Q .normal) e H := idE rfl
def F_Z62 : IFn := ⟨1, 24, [.t 2], (.seq Z62_0 (.seq Z62_1 (.seq (.seq Z62_2 Z62_12) (.seq Z62_13 .ret))))⟩
theorem c_Z62 : compFn Try.prog [(0, [], []), (1, [], []), (2, [], []), (3, [], []), (5, [], []), (6, [], []), (7, [], []), (4, [], []), (8, [], [])] Try.f134 = some F_Z62 := by kernel_rfl
theorem a_Z62 (hl : args.length = 1) (h : wp Try.prog (.seq Z62_0 (.seq Z62_1 (.seq (.seq Z62_2 Z62_12) (.seq Z62_13 .ret)))) (postQ [.t 2] R) (env0 args) H) : ACall Try.prog n_Z62 args H R :=
  acall_of_wp mixed Try.func134 c_Z62 (by kernel_rfl) hl h
end Go.M2

namespace Go.M2
open Go.Proofs
variable {P : Program} {Q : Post} {e : Env} {H : Heap} {args : List AV} {R : AV → Heap → Prop}
@[go_sem] def l_Z65_0 : List GOp := [⟨(some 2), .mv (.c (.sl none 0 0 true 0)), none⟩]
def Z65_0 : IR := .ops l_Z65_0
@[go_sem] theorem w_Z65_0 : wp P Z65_0 Q e H = wpL P l_Z65_0 (Q .normal) e H := idE rfl
@[go_sem] def l_Z65_1 : List GOp := [⟨(some 5), .bslc 1 0 [(.int .i64 0)] [], none⟩,
    ⟨(some 3), .mv (.t 5), none⟩]
def Z65_1 : IR := .ops l_Z65_1
@[go_sem] theorem w_Z65_1 : wp P Z65_1 Q e H = wpL P l_Z65_1 (Q .normal) e H := idE rfl
@[go_sem] def l_Z65_2 : List GOp := [⟨(some 4), .mv (.c (.int .i64 0)), none⟩]
def Z65_2 : IR := .ops l_Z65_2
@[go_sem] theorem w_Z65_2 : wp P Z65_2 Q e H = wpL P l_Z65_2 (Q .normal) e H := idE rfl
@[go_sem] def l_Z65_3 : List GOp := [⟨(some 6), .mv (.t 4), none⟩,
    ⟨(some 7), .mv (.t 0), none⟩,
    ⟨(some 8), .len (.t 7), none⟩,
    ⟨(some 9), .bin .lss (.t 6) (.t 8), none⟩]
def Z65_3 : IR := .ops l_Z65_3
@[go_sem] theorem w_Z65_3 : wp P Z65_3 Q e H = wpL P l_Z65_3 (Q .normal) e H := idE rfl
def Z65_4 : IR := .cond (.t 9) .skip (.exit 0)
@[go_sem] theorem w_Z65_4 : wp P Z65_4 Q e H = condW P ((.t 9) : X) .skip (.exit 0) Q e H := idE rfl
@[go_sem] def l_Z65_5 : List GOp := [⟨(some 12), .mv (.t 3), none⟩,
    ⟨(some 13), .mv (.t 0), none⟩,
    ⟨(some 14), .mv (.t 4), none⟩,
    ⟨(some 15), .iaddr (.t 13) (.t 14) 1, none⟩,
    ⟨(some 16), .load (.t 15) 1 false, none⟩,
    ⟨(some 17), .bslc 1 1 [(.int .i64 0)] [(0, (.t 16))], none⟩,
    ⟨(some 18), .app 1 8 (.t 12) (.t 17), none⟩,
    ⟨(some 3), .mv (.t 18), none⟩]
def Z65_5 : IR := .ops l_Z65_5
@[go_sem] theorem w_Z65_5 : wp P Z65_5 Q e H = wpL P l_Z65_5 (Q .normal) e H := idE rfl
def Z65_6 : IR := .block 1 Z65_5
@[go_sem] theorem w_Z65_6 : wp P Z65_6 Q e H = wp P Z65_5 (blockQ 1 Q) e H := idE rfl
@[go_sem] def l_Z65_7 : List GOp := [⟨(some 10), .mv (.t 4), none⟩,
    ⟨(some 11), .bin .add (.t 10) (.c (.int .i64 1)), none⟩,
    ⟨(some 4), .mv (.t 11), none⟩]
def Z65_7 : IR := .ops l_Z65_7
@[go_sem] theorem w_Z65_7 : wp P Z65_7 Q e H = wpL P l_Z65_7 (Q .normal) e H := idE rfl
def Z65_8 : IR := .loop (.seq (.seq Z65_3 Z65_4) (.seq Z65_6 Z65_7))
def Z65_9 : IR := .block 0 Z65_8
@[go_sem] theorem w_Z65_9 : wp P Z65_9 Q e H = wp P Z65_8 (blockQ 0 Q) e H := idE rfl
@[go_sem] def l_Z65_10 : List GOp := [⟨(some 19), .mv (.t 3), none⟩,
    ⟨(some 2), .mv (.t 19), none⟩]
def Z65_10 : IR := .ops l_Z65_10
@[go_sem] theorem w_Z65_10 : wp P Z65_10 Q e H = wpL P l_Z65_10 (Q .normal) e H := idE rfl
def F_Z65 : IFn := ⟨1, 20, [.t 2], (.seq Z65_0 (.seq Z65_1 (.seq (.seq Z65_2 Z65_9) (.seq Z65_10 .ret))))⟩
theorem c_Z65 : compFn Try.prog [(0, [], []), (1, [], []), (2, [], []), (3, [], []), (5, [], []), (4, [], []), (6, [], [])] Try.f88 = some F_Z65 := by kernel_rfl
theorem a_Z65 (hl : args.length = 1) (h : wp Try.prog (.seq Z65_0 (.seq Z65_1 (.seq (.seq Z65_2 Z65_9) (.seq Z65_10 .ret)))) (postQ [.t 2] R) (env0 args) H) : ACall Try.prog n_Z65 args H R :=
  acall_of_wp mixed Try.func88 c_Z65 (by kernel_rfl) hl h
@[go_sem] def l_Z58_0 : List GOp := [⟨(some 4), .mv (.c (.sl none 0 0 true 0)), none⟩]
def Z58_0 : IR := .ops l_Z58_0
@[go_sem] theorem w_Z58_0 : wp P Z58_0 Q e H = wpL P l_Z58_0 (Q .normal) e H := idE rfl
@[go_sem] def l_Z58_1 : List GOp := [⟨(some 9), .bslc 1 0 [(.int .i64 0)] [], none⟩,
    ⟨(some 5), .mv (.t 9), none⟩]
def Z58_1 : IR := .ops l_Z58_1
@[go_sem] theorem w_Z58_1 : wp P Z58_1 Q e H = wpL P l_Z58_1 (Q .normal) e H := idE rfl
@[go_sem] def l_Z58_2 : List GOp := [⟨(some 6), .mv (.c (.int .i64 0)), none⟩]
def Z58_2 : IR := .ops l_Z58_2
@[go_sem] theorem w_Z58_2 : wp P Z58_2 Q e H = wpL P l_Z58_2 (Q .normal) e H := idE rfl
@[go_sem] def l_Z58_3 : List GOp := [⟨(some 10), .mv (.t 6), none⟩,
    ⟨(some 11), .mv (.t 0), none⟩,
    ⟨(some 12), .len (.t 11), none⟩,
    ⟨(some 13), .bin .lss (.t 10) (.t 12), none⟩]
def Z58_3 : IR := .ops l_Z58_3
@[go_sem] theorem w_Z58_3 : wp P Z58_3 Q e H = wpL P l_Z58_3 (Q .normal) e H := idE rfl
def Z58_4 : IR := .cond (.t 13) .skip (.exit 0)
@[go_sem] theorem w_Z58_4 : wp P Z58_4 Q e H = condW P ((.t 13) : X) .skip (.exit 0) Q e H := idE rfl
@[go_sem] def l_Z58_5 : List GOp := [⟨(some 16), .mv (.t 5), none⟩,
    ⟨(some 17), .mv (.t 0), none⟩,
    ⟨(some 18), .mv (.t 6), none⟩,
    ⟨(some 19), .iaddr (.t 17) (.t 18) 1, none⟩,
    ⟨(some 20), .load (.t 19) 1 false, none⟩,
    ⟨(some 21), .un .neg (.t 20), none⟩,
    ⟨(some 22), .bslc 1 1 [(.int .i64 0)] [(0, (.t 21))], none⟩,
    ⟨(some 23), .app 1 8 (.t 16) (.t 22), none⟩,
    ⟨(some 5), .mv (.t 23), none⟩]
def Z58_5 : IR := .ops l_Z58_5
@[go_sem] theorem w_Z58_5 : wp P Z58_5 Q e H = wpL P l_Z58_5 (Q .normal) e H := idE rfl
def Z58_6 : IR := .block 1 Z58_5
@[go_sem] theorem w_Z58_6 : wp P Z58_6 Q e H = wp P Z58_5 (blockQ 1 Q) e H := idE rfl
@[go_sem] def l_Z58_7 : List GOp := [⟨(some 14), .mv (.t 6), none⟩,
    ⟨(some 15), .bin .add (.t 14) (.c (.int .i64 1)), none⟩,
    ⟨(some 6), .mv (.t 15), none⟩]
def Z58_7 : IR := .ops l_Z58_7
@[go_sem] theorem w_Z58_7 : wp P Z58_7 Q e H = wpL P l_Z58_7 (Q .normal) e H := idE rfl
def Z58_8 : IR := .loop (.seq (.seq Z58_3 Z58_4) (.seq Z58_6 Z58_7))
def Z58_9 : IR := .block 0 Z58_8
@[go_sem] theorem w_Z58_9 : wp P Z58_9 Q e H = wp P Z58_8 (blockQ 0 Q) e H := idE rfl
@[go_sem] def l_Z58_10 : List GOp := [⟨(some 25), .mv (.t 5), none⟩,
    ⟨(some 26), .mv (.t 1), none⟩,
    ⟨(some 27), .call (n_Z49) [(.t 25), (.t 26)], none⟩,
    ⟨(some 24), .mv (.t 27), none⟩,
    ⟨(some 28), .ext (.t 24) 0, none⟩,
    ⟨(some 29), .ext (.t 24) 1, none⟩,
    ⟨(some 7), .mv (.t 28), none⟩,
    ⟨(some 8), .mv (.t 29), none⟩]
def Z58_10 : IR := .ops l_Z58_10
@[go_sem] theorem w_Z58_10 : wp P Z58_10 Q e H = wpL P l_Z58_10 (Q .normal) e H := idE rfl
@[go_sem] def l_Z58_11 : List GOp := [⟨(some 30), .mv (.t 7), none⟩,
    ⟨(some 4), .mv (.t 30), none⟩]
def Z58_11 : IR := .ops l_Z58_11
@[go_sem] theorem w_Z58_11 : wp P Z58_11 Q e H = wpL P l_Z58_11 (Q .normal) e H := idE rfl
def F_Z58 : IFn := ⟨2, 31, [.t 4], (.seq Z58_0 (.seq Z58_1 (.seq (.seq Z58_2 Z58_9) (.seq Z58_10 (.seq Z58_11 .ret)))))⟩
theorem c_Z58 : compFn Try.prog [(0, [], []), (1, [], []), (2, [], []), (3, [], []), (5, [], []), (4, [], []), (6, [], []), (7, [], [])] Try.f135 = some F_Z58 := by kernel_rfl
theorem a_Z58 (hl : args.length = 2) (h : wp Try.prog (.seq Z58_0 (.seq Z58_1 (.seq (.seq Z58_2 Z58_9) (.seq Z58_10 (.seq Z58_11 .ret))))) (postQ [.t 4] R) (env0 args) H) : ACall Try.prog n_Z58 args H R :=
  acall_of_wp mixed Try.func135 c_Z58 (by kernel_rfl) hl h
@[go_sem] def l_Z61_0 : List GOp := [⟨(some 3), .box (.t 0), none⟩,
    ⟨(some 6), .alloc [(.sl none 0 0 true 0), (.sl none 0 0 true 0), (.int .i64 0), (.bool false)], none⟩,
    ⟨(some 7), .mv (.c (.sl none 0 0 true 0)), none⟩,
    ⟨(some 8), .mv (.c (.bool false)), none⟩]
def Z61_0 : IR := .ops l_Z61_0
@[go_sem] theorem w_Z61_0 : wp P Z61_0 Q e H = wpL P l_Z61_0 (Q .normal) e H := idE rfl
@[go_sem] def l_Z61_1 : List GOp := [⟨(some 17), .mv (.t 1), none⟩,
    ⟨(some 18), .mv (.t 2), none⟩,
    ⟨(some 19), .call (n_Z52) [(.t 17), (.t 18)], none⟩,
    ⟨(some 9), .mv (.t 19), none⟩]
def Z61_1 : IR := .ops l_Z61_1
@[go_sem] theorem w_Z61_1 : wp P Z61_1 Q e H = wpL P l_Z61_1 (Q .normal) e H := idE rfl
@[go_sem] def l_Z61_2 : List GOp := [⟨(some 20), .faddr (.t 3) 0, none⟩,
    ⟨(some 21), .load (.t 20) 1 false, none⟩,
    ⟨(some 22), .mv (.t 9), none⟩,
    ⟨(some 23), .call (n_Z51) [(.t 21), (.t 22)], none⟩]
def Z61_2 : IR := .ops l_Z61_2
@[go_sem] theorem w_Z61_2 : wp P Z61_2 Q e H = wpL P l_Z61_2 (Q .normal) e H := idE rfl
@[go_sem] def l_Z61_3 : List GOp := [⟨(some 24), .mv (.t 9), none⟩,
    ⟨(some 25), .call (n_Z57) [(.t 24)], none⟩,
    ⟨(some 10), .mv (.t 25), none⟩]
def Z61_3 : IR := .ops l_Z61_3
@[go_sem] theorem w_Z61_3 : wp P Z61_3 Q e H = wpL P l_Z61_3 (Q .normal) e H := idE rfl
@[go_sem] def l_Z61_4 : List GOp := [⟨(some 26), .mv (.t 10), none⟩,
    ⟨(some 27), .bin .eql (.t 26) (.c (.int .i64 0)), none⟩]
def Z61_4 : IR := .ops l_Z61_4
@[go_sem] theorem w_Z61_4 : wp P Z61_4 Q e H = wpL P l_Z61_4 (Q .normal) e H := idE rfl
def l_Z61_5 : List GOp := [⟨(some 28), .load (.t 3) 4 true, none⟩,
    ⟨(some 29), .mv (.t 9), none⟩,
    ⟨(some 30), .call (n_Z62) [(.t 29)], none⟩,
    ⟨none, .store (.t 6) 4 (.t 28), none⟩,
    ⟨(some 7), .mv (.t 30), none⟩,
    ⟨(some 8), .mv (.c (.bool true)), none⟩]
@[go_sem] theorem g_Z61_5_0 : gAt l_Z61_5 0 = ⟨(some 28), .load (.t 3) 4 true, none⟩ := idE rfl
@[go_sem] theorem g_Z61_5_1 : gAt l_Z61_5 1 = ⟨(some 29), .mv (.t 9), none⟩ := idE rfl
@[go_sem] theorem g_Z61_5_2 : gAt l_Z61_5 2 = ⟨(some 30), .call (n_Z62) [(.t 29)], none⟩ := idE rfl
@[go_sem] theorem g_Z61_5_3 : gAt l_Z61_5 3 = ⟨none, .store (.t 6) 4 (.t 28), none⟩ := idE rfl
@[go_sem] theorem g_Z61_5_4 : gAt l_Z61_5 4 = ⟨(some 7), .mv (.t 30), none⟩ := idE rfl
@[go_sem] theorem g_Z61_5_5 : gAt l_Z61_5 5 = ⟨(some 8), .mv (.c (.bool true)), none⟩ := idE rfl
def Z61_5 : IR := .dops l_Z61_5 [(0, []), (1, []), (2, [0]), (3, []), (4, []), (5, [])]
@[go_sem] theorem w_Z61_5 : wp P Z61_5 Q e H = wpD P l_Z61_5 [(0, []), (1, []), (2, [0]), (3, []), (4, []), (5, [])] (Q .normal) e H := idE rfl
def Z61_6 : IR := .cond (.t 27) (.seq Z61_5 .ret) .skip
@[go_sem] theorem w_Z61_6 : wp P Z61_6 Q e H = condW P ((.t 27) : X) (.seq Z61_5 .ret) .skip Q e H := idE rfl
@[go_sem] def l_Z61_7 : List GOp := [⟨(some 31), .faddr (.t 3) 2, none⟩,
    ⟨(some 32), .load (.t 31) 1 false, none⟩,
    ⟨(some 33), .bin .add (.t 32) (.c (.int .i64 1)), none⟩,
    ⟨(some 34), .faddr (.t 3) 2, none⟩,
    ⟨none, .store (.t 34) 1 (.t 33), none⟩]
def Z61_7 : IR := .ops l_Z61_7
@[go_sem] theorem w_Z61_7 : wp P Z61_7 Q e H = wpL P l_Z61_7 (Q .normal) e H := idE rfl
def l_Z61_8 : List GOp := [⟨(some 36), .load (.t 3) 4 true, none⟩,
    ⟨(some 37), .mv (.t 1), none⟩,
    ⟨(some 38), .call (n_Z65) [(.t 37)], none⟩,
    ⟨(some 39), .mv (.t 10), none⟩,
    ⟨(some 40), .un .neg (.t 39), none⟩,
    ⟨(some 41), .bslc 1 1 [(.int .i64 0)] [(0, (.t 40))], none⟩,
    ⟨(some 42), .app 1 8 (.t 38) (.t 41), none⟩,
    ⟨(some 43), .mv (.t 2), none⟩,
    ⟨(some 44), .call (n_Z61) [(.t 36), (.t 42), (.t 43)], none⟩,
    ⟨(some 35), .mv (.t 44), none⟩,
    ⟨(some 45), .ext (.t 35) 0, none⟩,
    ⟨(some 46), .ext (.t 35) 1, none⟩,
    ⟨(some 47), .ext (.t 35) 2, none⟩,
    ⟨(some 11), .alloc [(.sl none 0 0 true 0), (.sl none 0 0 true 0), (.int .i64 0), (.bool false)], none⟩,
    ⟨none, .store (.t 11) 4 (.t 45), none⟩,
    ⟨(some 12), .mv (.t 46), none⟩,
    ⟨(some 13), .mv (.t 47), none⟩]
@[go_sem] theorem g_Z61_8_0 : gAt l_Z61_8 0 = ⟨(some 36), .load (.t 3) 4 true, none⟩ := idE rfl
@[go_sem] theorem g_Z61_8_1 : gAt l_Z61_8 1 = ⟨(some 37), .mv (.t 1), none⟩ := idE rfl
@[go_sem] theorem g_Z61_8_2 : gAt l_Z61_8 2 = ⟨(some 38), .call (n_Z65) [(.t 37)], none⟩ := idE rfl
@[go_sem] theorem g_Z61_8_3 : gAt l_Z61_8 3 = ⟨(some 39), .mv (.t 10), none⟩ := idE rfl
@[go_sem] theorem g_Z61_8_4 : gAt l_Z61_8 4 = ⟨(some 40), .un .neg (.t 39), none⟩ := idE rfl
@[go_sem] theorem g_Z61_8_5 : gAt l_Z61_8 5 = ⟨(some 41), .bslc 1 1 [(.int .i64 0)] [(0, (.t 40))], none⟩ := idE rfl
@[go_sem] theorem g_Z61_8_6 : gAt l_Z61_8 6 = ⟨(some 42), .app 1 8 (.t 38) (.t 41), none⟩ := idE rfl
@[go_sem] theorem g_Z61_8_7 : gAt l_Z61_8 7 = ⟨(some 43), .mv (.t 2), none⟩ := idE rfl
@[go_sem] theorem g_Z61_8_8 : gAt l_Z61_8 8 = ⟨(some 44), .call (n_Z61) [(.t 36), (.t 42), (.t 43)], none⟩ := idE rfl
@[go_sem] theorem g_Z61_8_9 : gAt l_Z61_8 9 = ⟨(some 35), .mv (.t 44), none⟩ := idE rfl
@[go_sem] theorem g_Z61_8_10 : gAt l_Z61_8 10 = ⟨(some 45), .ext (.t 35) 0, none⟩ := idE rfl
@[go_sem] theorem g_Z61_8_11 : gAt l_Z61_8 11 = ⟨(some 46), .ext (.t 35) 1, none⟩ := idE rfl
@[go_sem] theorem g_Z61_8_12 : gAt l_Z61_8 12 = ⟨(some 47), .ext (.t 35) 2, none⟩ := idE rfl
@[go_sem] theorem g_Z61_8_13 : gAt l_Z61_8 13 = ⟨(some 11), .alloc [(.sl none 0 0 true 0), (.sl none 0 0 true 0), (.int .i64 0), (.bool false)], none⟩ := idE rfl
@[go_sem] theorem g_Z61_8_14 : gAt l_Z61_8 14 = ⟨none, .store (.t 11) 4 (.t 45), none⟩ := idE rfl
@[go_sem] theorem g_Z61_8_15 : gAt l_Z61_8 15 = ⟨(some 12), .mv (.t 46), none⟩ := idE rfl
@[go_sem] theorem g_Z61_8_16 : gAt l_Z61_8 16 = ⟨(some 13), .mv (.t 47), none⟩ := idE rfl
def Z61_8 : IR := .dops l_Z61_8 [(0, []), (1, []), (3, []), (4, []), (7, []), (2, [0, 5]), (5, []), (6, [0]), (8, []), (9, []), (10, []), (11, []), (12, []), (13, []), (14, []), (15, []), (16, [])]
@[go_sem] theorem w_Z61_8 : wp P Z61_8 Q e H = wpD P l_Z61_8 [(0, []), (1, []), (3, []), (4, []), (7, []), (2, [0, 5]), (5, []), (6, [0]), (8, []), (9, []), (10, []), (11, []), (12, []), (13, []), (14, []), (15, []), (16, [])] (Q .normal) e H := idE rfl
@[go_sem] def l_Z61_9 : List GOp := [⟨(some 48), .mv (.t 13), none⟩,
    ⟨(some 49), .mv (.t 48), none⟩,
    ⟨(some 50), .faddr (.t 11) 3, (some (49, false))⟩,
    ⟨(some 51), .load (.t 50) 1 false, (some (49, false))⟩,
    ⟨(some 52), .pick (.t 49) (.c (.bool true)) (.t 51), none⟩]
def Z61_9 : IR := .ops l_Z61_9
@[go_sem] theorem w_Z61_9 : wp P Z61_9 Q e H = wpL P l_Z61_9 (Q .normal) e H := idE rfl
@[go_sem] def l_Z61_10 : List GOp := [⟨(some 53), .load (.t 11) 4 true, none⟩,
    ⟨(some 54), .mv (.t 12), none⟩,
    ⟨(some 55), .mv (.t 13), none⟩,
    ⟨none, .store (.t 6) 4 (.t 53), none⟩,
    ⟨(some 7), .mv (.t 54), none⟩,
    ⟨(some 8), .mv (.t 55), none⟩]
def Z61_10 : IR := .ops l_Z61_10
@[go_sem] theorem w_Z61_10 : wp P Z61_10 Q e H = wpL P l_Z61_10 (Q .normal) e H := idE rfl
def Z61_11 : IR := .cond (.t 52) (.seq Z61_10 .ret) .skip
@[go_sem] theorem w_Z61_11 : wp P Z61_11 Q e H = condW P ((.t 52) : X) (.seq Z61_10 .ret) .skip Q e H := idE rfl
def l_Z61_12 : List GOp := [⟨(some 57), .load (.t 11) 4 true, none⟩,
    ⟨(some 58), .mv (.t 1), none⟩,
    ⟨(some 59), .call (n_Z65) [(.t 58)], none⟩,
    ⟨(some 60), .mv (.t 10), none⟩,
    ⟨(some 61), .bslc 1 1 [(.int .i64 0)] [(0, (.t 60))], none⟩,
    ⟨(some 62), .app 1 8 (.t 59) (.t 61), none⟩,
    ⟨(some 63), .mv (.t 2), none⟩,
    ⟨(some 64), .call (n_Z61) [(.t 57), (.t 62), (.t 63)], none⟩,
    ⟨(some 56), .mv (.t 64), none⟩,
    ⟨(some 65), .ext (.t 56) 0, none⟩,
    ⟨(some 66), .ext (.t 56) 1, none⟩,
    ⟨(some 67), .ext (.t 56) 2, none⟩,
    ⟨(some 14), .alloc [(.sl none 0 0 true 0), (.sl none 0 0 true 0), (.int .i64 0), (.bool false)], none⟩,
    ⟨none, .store (.t 14) 4 (.t 65), none⟩,
    ⟨(some 15), .mv (.t 66), none⟩,
    ⟨(some 16), .mv (.t 67), none⟩]
@[go_sem] theorem g_Z61_12_0 : gAt l_Z61_12 0 = ⟨(some 57), .load (.t 11) 4 true, none⟩ := idE rfl
@[go_sem] theorem g_Z61_12_1 : gAt l_Z61_12 1 = ⟨(some 58), .mv (.t 1), none⟩ := idE rfl
@[go_sem] theorem g_Z61_12_2 : gAt l_Z61_12 2 = ⟨(some 59), .call (n_Z65) [(.t 58)], none⟩ := idE rfl
@[go_sem] theorem g_Z61_12_3 : gAt l_Z61_12 3 = ⟨(some 60), .mv (.t 10), none⟩ := idE rfl
@[go_sem] theorem g_Z61_12_4 : gAt l_Z61_12 4 = ⟨(some 61), .bslc 1 1 [(.int .i64 0)] [(0, (.t 60))], none⟩ := idE rfl
@[go_sem] theorem g_Z61_12_5 : gAt l_Z61_12 5 = ⟨(some 62), .app 1 8 (.t 59) (.t 61), none⟩ := idE rfl
@[go_sem] theorem g_Z61_12_6 : gAt l_Z61_12 6 = ⟨(some 63), .mv (.t 2), none⟩ := idE rfl
@[go_sem] theorem g_Z61_12_7 : gAt l_Z61_12 7 = ⟨(some 64), .call (n_Z61) [(.t 57), (.t 62), (.t 63)], none⟩ := idE rfl
@[go_sem] theorem g_Z61_12_8 : gAt l_Z61_12 8 = ⟨(some 56), .mv (.t 64), none⟩ := idE rfl
@[go_sem] theorem g_Z61_12_9 : gAt l_Z61_12 9 = ⟨(some 65), .ext (.t 56) 0, none⟩ := idE rfl
@[go_sem] theorem g_Z61_12_10 : gAt l_Z61_12 10 = ⟨(some 66), .ext (.t 56) 1, none⟩ := idE rfl
@[go_sem] theorem g_Z61_12_11 : gAt l_Z61_12 11 = ⟨(some 67), .ext (.t 56) 2, none⟩ := idE rfl
@[go_sem] theorem g_Z61_12_12 : gAt l_Z61_12 12 = ⟨(some 14), .alloc [(.sl none 0 0 true 0), (.sl none 0 0 true 0), (.int .i64 0), (.bool false)], none⟩ := idE rfl
@[go_sem] theorem g_Z61_12_13 : gAt l_Z61_12 13 = ⟨none, .store (.t 14) 4 (.t 65), none⟩ := idE rfl
@[go_sem] theorem g_Z61_12_14 : gAt l_Z61_12 14 = ⟨(some 15), .mv (.t 66), none⟩ := idE rfl
@[go_sem] theorem g_Z61_12_15 : gAt l_Z61_12 15 = ⟨(some 16), .mv (.t 67), none⟩ := idE rfl
def Z61_12 : IR := .dops l_Z61_12 [(0, []), (1, []), (3, []), (6, []), (2, [0, 4]), (4, []), (5, [0]), (7, []), (8, []), (9, []), (10, []), (11, []), (12, []), (13, []), (14, []), (15, [])]
@[go_sem] theorem w_Z61_12 : wp P Z61_12 Q e H = wpD P l_Z61_12 [(0, []), (1, []), (3, []), (6, []), (2, [0, 4]), (4, []), (5, [0]), (7, []), (8, []), (9, []), (10, []), (11, []), (12, []), (13, []), (14, []), (15, [])] (Q .normal) e H := idE rfl
@[go_sem] def l_Z61_13 : List GOp := [⟨(some 68), .mv (.t 16), none⟩,
    ⟨(some 69), .mv (.t 68), none⟩,
    ⟨(some 70), .faddr (.t 14) 3, (some (69, false))⟩,
    ⟨(some 71), .load (.t 70) 1 false, (some (69, false))⟩,
    ⟨(some 72), .pick (.t 69) (.c (.bool true)) (.t 71), none⟩]
def Z61_13 : IR := .ops l_Z61_13
@[go_sem] theorem w_Z61_13 : wp P Z61_13 Q e H = wpL P l_Z61_13 (Q .normal) e H := idE rfl
@[go_sem] def l_Z61_14 : List GOp := [⟨(some 73), .load (.t 14) 4 true, none⟩,
    ⟨(some 74), .mv (.t 15), none⟩,
    ⟨(some 75), .mv (.t 16), none⟩,
    ⟨none, .store (.t 6) 4 (.t 73), none⟩,
    ⟨(some 7), .mv (.t 74), none⟩,
    ⟨(some 8), .mv (.t 75), none⟩]
def Z61_14 : IR := .ops l_Z61_14
@[go_sem] theorem w_Z61_14 : wp P Z61_14 Q e H = wpL P l_Z61_14 (Q .normal) e H := idE rfl
def Z61_15 : IR := .cond (.t 72) (.seq Z61_14 .ret) .skip
@[go_sem] theorem w_Z61_15 : wp P Z61_15 Q e H = condW P ((.t 72) : X) (.seq Z61_14 .ret) .skip Q e H := idE rfl
@[go_sem] def l_Z61_16 : List GOp := [⟨(some 76), .load (.t 14) 4 true, none⟩,
    ⟨none, .store (.t 3) 4 (.t 76), none⟩]
def Z61_16 : IR := .ops l_Z61_16
@[go_sem] theorem w_Z61_16 : wp P Z61_16 Q e H = wpL P l_Z61_16 (Q .normal) e H := idE rfl
def Z61_17 : IR := .cond (.t 23) (.seq Z61_3 (.seq (.seq Z61_4 Z61_6) (.seq Z61_7 (.seq Z61_8 (.seq (.seq Z61_9 Z61_11) (.seq Z61_12 (.seq (.seq Z61_13 Z61_15) Z61_16))))))) .skip
@[go_sem] theorem w_Z61_17 : wp P Z61_17 Q e H = condW P ((.t 23) : X) (.seq Z61_3 (.seq (.seq Z61_4 Z61_6) (.seq Z61_7 (.seq Z61_8 (.seq (.seq Z61_9 Z61_11) (.seq Z61_12 (.seq (.seq Z61_13 Z61_15) Z61_16))))))) .skip Q e H := idE rfl
def l_Z61_18 : List GOp := [⟨(some 77), .faddr (.t 3) 1, none⟩,
    ⟨(some 78), .load (.t 77) 1 false, none⟩,
    ⟨(some 79), .mv (.t 1), none⟩,
    ⟨(some 80), .mv (.t 2), none⟩,
    ⟨(some 81), .call (n_Z58) [(.t 79), (.t 80)], none⟩,
    ⟨(some 82), .bslc 1 1 [(.sl none 0 0 true 0)] [(0, (.t 81))], none⟩,
    ⟨(some 83), .app 1 24 (.t 78) (.t 82), none⟩,
    ⟨(some 84), .faddr (.t 3) 1, none⟩,
    ⟨none, .store (.t 84) 1 (.t 83), none⟩]
@[go_sem] theorem g_Z61_18_0 : gAt l_Z61_18 0 = ⟨(some 77), .faddr (.t 3) 1, none⟩ := idE rfl
@[go_sem] theorem g_Z61_18_1 : gAt l_Z61_18 1 = ⟨(some 78), .load (.t 77) 1 false, none⟩ := idE rfl
@[go_sem] theorem g_Z61_18_2 : gAt l_Z61_18 2 = ⟨(some 79), .mv (.t 1), none⟩ := idE rfl
@[go_sem] theorem g_Z61_18_3 : gAt l_Z61_18 3 = ⟨(some 80), .mv (.t 2), none⟩ := idE rfl
@[go_sem] theorem g_Z61_18_4 : gAt l_Z61_18 4 = ⟨(some 81), .call (n_Z58) [(.t 79), (.t 80)], none⟩ := idE rfl
@[go_sem] theorem g_Z61_18_5 : gAt l_Z61_18 5 = ⟨(some 82), .bslc 1 1 [(.sl none 0 0 true 0)] [(0, (.t 81))], none⟩ := idE rfl
@[go_sem] theorem g_Z61_18_6 : gAt l_Z61_18 6 = ⟨(some 83), .app 1 24 (.t 78) (.t 82), none⟩ := idE rfl
@[go_sem] theorem g_Z61_18_7 : gAt l_Z61_18 7 = ⟨(some 84), .faddr (.t 3) 1, none⟩ := idE rfl
@[go_sem] theorem g_Z61_18_8 : gAt l_Z61_18 8 = ⟨none, .store (.t 84) 1 (.t 83), none⟩ := idE rfl
def Z61_18 : IR := .dops l_Z61_18 [(0, []), (1, []), (2, []), (3, []), (4, [1]), (5, []), (6, []), (7, []), (8, [])]
@[go_sem] theorem w_Z61_18 : wp P Z61_18 Q e H = wpD P l_Z61_18 [(0, []), (1, []), (2, []), (3, []), (4, [1]), (5, []), (6, []), (7, []), (8, [])] (Q .normal) e H := idE rfl
@[go_sem] def l_Z61_19 : List GOp := [⟨(some 85), .faddr (.t 3) 1, none⟩,
    ⟨(some 86), .load (.t 85) 1 false, none⟩,
    ⟨(some 87), .len (.t 86), none⟩,
    ⟨(some 88), .bin .gtr (.t 87) (.c (.int .i64 600)), none⟩,
    ⟨(some 89), .faddr (.t 3) 3, none⟩,
    ⟨none, .store (.t 89) 1 (.t 88), none⟩]
def Z61_19 : IR := .ops l_Z61_19
@[go_sem] theorem w_Z61_19 : wp P Z61_19 Q e H = wpL P l_Z61_19 (Q .normal) e H := idE rfl
@[go_sem] def l_Z61_20 : List GOp := [⟨(some 90), .load (.t 3) 4 true, none⟩,
    ⟨none, .store (.t 6) 4 (.t 90), none⟩,
    ⟨(some 7), .mv (.c (.sl none 0 0 true 0)), none⟩,
    ⟨(some 8), .mv (.c (.bool false)), none⟩]
def Z61_20 : IR := .ops l_Z61_20
@[go_sem] theorem w_Z61_20 : wp P Z61_20 Q e H = wpL P l_Z61_20 (Q .normal) e H := idE rfl
def F_Z61 : IFn := ⟨3, 91, [.c 6 4 true, .t 7, .t 8], (.seq Z61_0 (.seq Z61_1 (.seq (.seq Z61_2 Z61_17) (.seq Z61_18 (.seq Z61_19 (.seq Z61_20 .ret))))))⟩
theorem c_Z61 : compFn Try.prog [(0, [], []), (1, [], []), (2, [], []), (3, [], []), (4, [], []), (5, [(0, []), (1, []), (2, [0]), (3, []), (4, []), (5, [])], []), (6, [], []), (7, [(0, []), (1, []), (3, []), (4, []), (7, []), (2, [0, 5]), (5, []), (6, [0]), (8, []), (9, []), (10, []), (11, []), (12, []), (13, []), (14, []), (15, []), (16, [])], []), (8, [], []), (9, [], []), (10, [(0, []), (1, []), (3, []), (6, []), (2, [0, 4]), (4, []), (5, [0]), (7, []), (8, []), (9, []), (10, []), (11, []), (12, []), (13, []), (14, []), (15, [])], []), (11, [], []), (12, [], []), (13, [], []), (14, [(0, []), (1, []), (2, []), (3, []), (4, [1]), (5, []), (6, []), (7, []), (8, [])], []), (15, [], []), (16, [], [])] Try.f97 = some F_Z61 := by kernel_rfl
theorem a_Z61 (hl : args.length = 3) (h : wp Try.prog (.seq Z61_0 (.seq Z61_1 (.seq (.seq Z61_2 Z61_17) (.seq Z61_18 (.seq Z61_19 (.seq Z61_20 .ret)))))) (postQ [.c 6 4 true, .t 7, .t 8] R) (env0 args) H) : ACall Try.prog n_Z61 args H R :=
  acall_of_wp mixed Try.func97 c_Z61 (by kernel_rfl) hl h
@[go_sem] def l_Z59_0 : List GOp := [⟨(some 1), .box (.t 0), none⟩,
    ⟨(some 2), .alloc [(.sl none 0 0 true 0), (.sl none 0 0 true 0), (.int .i64 0), (.bool false)], none⟩,
    ⟨(some 3), .mv (.c (.sl none 0 0 true 0)), none⟩,
    ⟨(some 4), .mv (.c (.bool false)), none⟩]
def Z59_0 : IR := .ops l_Z59_0
@[go_sem] theorem w_Z59_0 : wp P Z59_0 Q e H = wpL P l_Z59_0 (Q .normal) e H := idE rfl
@[go_sem] def l_Z59_1 : List GOp := [⟨(some 5), .faddr (.t 1) 1, none⟩,
    ⟨(some 6), .load (.t 5) 1 false, none⟩,
    ⟨(some 7), .bld [(.sl none 0 0 true 0), (.sl none 0 0 true 0), (.int .i64 0), (.bool false)] [(0, 1, (.t 6))], none⟩,
    ⟨(some 8), .bslc 1 0 [(.int .i64 0)] [], none⟩,
    ⟨(some 9), .faddr (.t 1) 0, none⟩,
    ⟨(some 10), .load (.t 9) 1 false, none⟩,
    ⟨(some 11), .call (n_Z61) [(.t 7), (.t 8), (.t 10)], none⟩,
    ⟨(some 12), .ext (.t 11) 0, none⟩,
    ⟨(some 13), .ext (.t 11) 1, none⟩,
    ⟨(some 14), .ext (.t 11) 2, none⟩,
    ⟨none, .store (.t 2) 4 (.t 12), none⟩,
    ⟨(some 3), .mv (.t 13), none⟩,
    ⟨(some 4), .mv (.t 14), none⟩]
def Z59_1 : IR := .ops l_Z59_1
@[go_sem] theorem w_Z59_1 : wp P Z59_1 Q e H = wpL P l_Z59_1 (Q .normal) e H := idE rfl
def F_Z59 : IFn := ⟨1, 15, [.c 2 4 true, .t 3, .t 4], (.seq Z59_0 (.seq Z59_1 .ret))⟩
theorem c_Z59 : compFn Try.prog [(0, [], []), (1, [], [])] Try.f63 = some F_Z59 := by kernel_rfl
theorem a_Z59 (hl : args.length = 1) (h : wp Try.prog (.seq Z59_0 (.seq Z59_1 .ret)) (postQ [.c 2 4 true, .t 3, .t 4] R) (env0 args) H) : ACall Try.prog n_Z59 args H R :=
  acall_of_wp mixed Try.func63 c_Z59 (by kernel_rfl) hl h
@[go_sem] def l_Z47_0 : List GOp := [⟨(some 1), .box (.t 0), none⟩,
    ⟨(some 2), .mv (.c (.sl none 0 0 true 0)), none⟩,
    ⟨(some 3), .mv (.c (.bool false)), none⟩]
def Z47_0 : IR := .ops l_Z47_0
@[go_sem] theorem w_Z47_0 : wp P Z47_0 Q e H = wpL P l_Z47_0 (Q .normal) e H := idE rfl
@[go_sem] def l_Z47_1 : List GOp := [⟨(some 7), .load (.t 1) 2 true, none⟩,
    ⟨(some 8), .call (n_Z45) [(.t 7)], none⟩,
    ⟨(some 9), .un .not (.t 8), none⟩]
def Z47_1 : IR := .ops l_Z47_1
@[go_sem] theorem w_Z47_1 : wp P Z47_1 Q e H = wpL P l_Z47_1 (Q .normal) e H := idE rfl
@[go_sem] def l_Z47_2 : List GOp := [⟨(some 2), .mv (.c (.sl none 0 0 true 0)), none⟩,
    ⟨(some 3), .mv (.c (.bool false)), none⟩]
def Z47_2 : IR := .ops l_Z47_2
@[go_sem] theorem w_Z47_2 : wp P Z47_2 Q e H = wpL P l_Z47_2 (Q .normal) e H := idE rfl
def Z47_3 : IR := .cond (.t 9) (.seq Z47_2 .ret) .skip
@[go_sem] theorem w_Z47_3 : wp P Z47_3 Q e H = condW P ((.t 9) : X) (.seq Z47_2 .ret) .skip Q e H := idE rfl
@[go_sem] def l_Z47_4 : List GOp := [⟨(some 11), .load (.t 1) 2 true, none⟩,
    ⟨(some 12), .call (n_Z59) [(.t 11)], none⟩,
    ⟨(some 10), .mv (.t 12), none⟩,
    ⟨(some 13), .ext (.t 10) 0, none⟩,
    ⟨(some 14), .ext (.t 10) 1, none⟩,
    ⟨(some 15), .ext (.t 10) 2, none⟩,
    ⟨(some 4), .alloc [(.sl none 0 0 true 0), (.sl none 0 0 true 0), (.int .i64 0), (.bool false)], none⟩,
    ⟨none, .store (.t 4) 4 (.t 13), none⟩,
    ⟨(some 5), .mv (.t 14), none⟩,
    ⟨(some 6), .mv (.t 15), none⟩]
def Z47_4 : IR := .ops l_Z47_4
@[go_sem] theorem w_Z47_4 : wp P Z47_4 Q e H = wpL P l_Z47_4 (Q .normal) e H := idE rfl
@[go_sem] def l_Z47_5 : List GOp := [⟨(some 16), .mv (.t 5), none⟩,
    ⟨(some 17), .mv (.t 6), none⟩,
    ⟨(some 2), .mv (.t 16), none⟩,
    ⟨(some 3), .mv (.t 17), none⟩]
def Z47_5 : IR := .ops l_Z47_5
@[go_sem] theorem w_Z47_5 : wp P Z47_5 Q e H = wpL P l_Z47_5 (Q .normal) e H := idE rfl
def F_Z47 : IFn := ⟨1, 18, [.t 2, .t 3], (.seq Z47_0 (.seq (.seq Z47_1 Z47_3) (.seq Z47_4 (.seq Z47_5 .ret))))⟩
theorem c_Z47 : compFn Try.prog [(0, [], []), (1, [], []), (2, [], []), (3, [], []), (4, [], [])] Try.f30 = some F_Z47 := by kernel_rfl
theorem a_Z47 (hl : args.length = 1) (h : wp Try.prog (.seq Z47_0 (.seq (.seq Z47_1 Z47_3) (.seq Z47_4 (.seq Z47_5 .ret)))) (postQ [.t 2, .t 3] R) (env0 args) H) : ACall Try.prog n_Z47 args H R :=
  acall_of_wp mixed Try.func30 c_Z47 (by kernel_rfl) hl h
@[go_sem] def l_Z19_0 : List GOp := [⟨(some 4), .mv (.c (.bool false)), none⟩]
def Z19_0 : IR := .ops l_Z19_0
@[go_sem] theorem w_Z19_0 : wp P Z19_0 Q e H = wpL P l_Z19_0 (Q .normal) e H := idE rfl
@[go_sem] def l_Z19_1 : List GOp := [⟨(some 7), .mv (.t 0), none⟩,
    ⟨(some 8), .len (.t 7), none⟩,
    ⟨(some 9), .mv (.t 1), none⟩,
    ⟨(some 10), .len (.t 9), none⟩,
    ⟨(some 11), .bin .neq (.t 8) (.t 10), none⟩]
def Z19_1 : IR := .ops l_Z19_1
@[go_sem] theorem w_Z19_1 : wp P Z19_1 Q e H = wpL P l_Z19_1 (Q .normal) e H := idE rfl
@[go_sem] def l_Z19_2 : List GOp := [⟨(some 4), .mv (.c (.bool false)), none⟩]
def Z19_2 : IR := .ops l_Z19_2
@[go_sem] theorem w_Z19_2 : wp P Z19_2 Q e H = wpL P l_Z19_2 (Q .normal) e H := idE rfl
def Z19_3 : IR := .cond (.t 11) (.seq Z19_2 .ret) .skip
@[go_sem] theorem w_Z19_3 : wp P Z19_3 Q e H = condW P ((.t 11) : X) (.seq Z19_2 .ret) .skip Q e H := idE rfl
@[go_sem] def l_Z19_4 : List GOp := [⟨(some 12), .mv (.t 0), none⟩,
    ⟨(some 13), .len (.t 12), none⟩,
    ⟨(some 14), .mv (.c (.int .i64 0)), none⟩]
def Z19_4 : IR := .ops l_Z19_4
@[go_sem] theorem w_Z19_4 : wp P Z19_4 Q e H = wpL P l_Z19_4 (Q .normal) e H := idE rfl
@[go_sem] def l_Z19_5 : List GOp := [⟨(some 15), .bin .lss (.t 14) (.t 13), none⟩]
def Z19_5 : IR := .ops l_Z19_5
@[go_sem] theorem w_Z19_5 : wp P Z19_5 Q e H = wpL P l_Z19_5 (Q .normal) e H := idE rfl
def Z19_6 : IR := .cond (.t 15) .skip (.exit 0)
@[go_sem] theorem w_Z19_6 : wp P Z19_6 Q e H = condW P ((.t 15) : X) .skip (.exit 0) Q e H := idE rfl
@[go_sem] def l_Z19_7 : List GOp := [⟨(some 16), .mv (.t 14), none⟩,
    ⟨(some 17), .iaddr (.t 12) (.t 14) 1, none⟩,
    ⟨(some 18), .load (.t 17) 1 false, none⟩,
    ⟨(some 5), .mv (.t 16), none⟩,
    ⟨(some 6), .mv (.t 18), none⟩]
def Z19_7 : IR := .ops l_Z19_7
@[go_sem] theorem w_Z19_7 : wp P Z19_7 Q e H = wpL P l_Z19_7 (Q .normal) e H := idE rfl
@[go_sem] def l_Z19_8 : List GOp := [⟨(some 19), .mv (.t 1), none⟩,
    ⟨(some 20), .mv (.t 5), none⟩,
    ⟨(some 21), .iaddr (.t 19) (.t 20) 1, none⟩,
    ⟨(some 22), .load (.t 21) 1 false, none⟩,
    ⟨(some 23), .mv (.t 6), none⟩,
    ⟨(some 24), .bin .neq (.t 22) (.t 23), none⟩]
def Z19_8 : IR := .ops l_Z19_8
@[go_sem] theorem w_Z19_8 : wp P Z19_8 Q e H = wpL P l_Z19_8 (Q .normal) e H := idE rfl
@[go_sem] def l_Z19_9 : List GOp := [⟨(some 4), .mv (.c (.bool false)), none⟩]
def Z19_9 : IR := .ops l_Z19_9
@[go_sem] theorem w_Z19_9 : wp P Z19_9 Q e H = wpL P l_Z19_9 (Q .normal) e H := idE rfl
def Z19_10 : IR := .cond (.t 24) (.seq Z19_9 .ret) .skip
@[go_sem] theorem w_Z19_10 : wp P Z19_10 Q e H = condW P ((.t 24) : X) (.seq Z19_9 .ret) .skip Q e H := idE rfl
def Z19_11 : IR := .block 1 (.seq Z19_7 (.seq Z19_8 Z19_10))
@[go_sem] theorem w_Z19_11 : wp P Z19_11 Q e H = wp P (.seq Z19_7 (.seq Z19_8 Z19_10)) (blockQ 1 Q) e H := idE rfl
@[go_sem] def l_Z19_12 : List GOp := [⟨(some 25), .bin .add (.t 14) (.c (.int .i64 1)), none⟩,
    ⟨(some 14), .mv (.t 25), none⟩]
def Z19_12 : IR := .ops l_Z19_12
@[go_sem] theorem w_Z19_12 : wp P Z19_12 Q e H = wpL P l_Z19_12 (Q .normal) e H := idE rfl
def Z19_13 : IR := .loop (.seq Z19_5 (.seq Z19_6 (.seq Z19_11 Z19_12)))
def Z19_14 : IR := .block 0 Z19_13
@[go_sem] theorem w_Z19_14 : wp P Z19_14 Q e H = wp P Z19_13 (blockQ 0 Q) e H := idE rfl
@[go_sem] def l_Z19_15 : List GOp := [⟨(some 4), .mv (.c (.bool true)), none⟩]
def Z19_15 : IR := .ops l_Z19_15
@[go_sem] theorem w_Z19_15 : wp P Z19_15 Q e H = wpL P l_Z19_15 (Q .normal) e H := idE rfl
def F_Z19 : IFn := ⟨2, 26, [.t 4], (.seq Z19_0 (.seq (.seq Z19_1 Z19_3) (.seq (.seq Z19_4 Z19_14) (.seq Z19_15 .ret))))⟩
theorem c_Z19 : compFn Try.prog [(0, [], []), (1, [], []), (2, [], []), (3, [], []), (4, [], []), (5, [], []), (6, [], []), (7, [], []), (8, [], []), (9, [], [])] Try.f40 = some F_Z19 := by kernel_rfl
theorem a_Z19 (hl : args.length = 2) (h : wp Try.prog (.seq Z19_0 (.seq (.seq Z19_1 Z19_3) (.seq (.seq Z19_4 Z19_14) (.seq Z19_15 .ret)))) (postQ [.t 4] R) (env0 args) H) : ACall Try.prog n_Z19 args H R :=
  acall_of_wp mixed Try.func40 c_Z19 (by kernel_rfl) hl h
@[go_sem] def l_Z12_0 : List GOp := [⟨(some 1), .box (.t 0), none⟩,
    ⟨(some 2), .mv (.c (.bool false)), none⟩]
def Z12_0 : IR := .ops l_Z12_0
@[go_sem] theorem w_Z12_0 : wp P Z12_0 Q e H = wpL P l_Z12_0 (Q .normal) e H := idE rfl
@[go_sem] def l_Z12_1 : List GOp := [⟨(some 3), .load (.t 1) 2 true, none⟩,
    ⟨(some 4), .call (n_Z4) [(.t 3)], none⟩,
    ⟨(some 5), .mv (.t 4), none⟩,
    ⟨(some 6), .faddr (.t 1) 0, (some (5, true))⟩,
    ⟨(some 7), .load (.t 6) 1 false, (some (5, true))⟩,
    ⟨(some 8), .bin .leq (.t 7) (.c (.int .i64 20)), (some (5, true))⟩,
    ⟨(some 9), .pick (.t 5) (.t 8) (.c (.bool false)), none⟩,
    ⟨(some 2), .mv (.t 9), none⟩]
def Z12_1 : IR := .ops l_Z12_1
@[go_sem] theorem w_Z12_1 : wp P Z12_1 Q e H = wpL P l_Z12_1 (Q .normal) e H := idE rfl
def F_Z12 : IFn := ⟨1, 10, [.t 2], (.seq Z12_0 (.seq Z12_1 .ret))⟩
theorem c_Z12 : compFn Try.prog [(0, [], []), (1, [], [])] Try.f75 = some F_Z12 := by kernel_rfl
theorem a_Z12 (hl : args.length = 1) (h : wp Try.prog (.seq Z12_0 (.seq Z12_1 .ret)) (postQ [.t 2] R) (env0 args) H) : ACall Try.prog n_Z12 args H R :=
  acall_of_wp mixed Try.func75 c_Z12 (by kernel_rfl) hl h
@[go_sem] def l_Z5_1_0 : List GOp := [⟨(some 3), .mv (.c (.bool false)), none⟩]
def Z5_1_0 : IR := .ops l_Z5_1_0
@[go_sem] theorem w_Z5_1_0 : wp P Z5_1_0 Q e H = wpL P l_Z5_1_0 (Q .normal) e H := idE rfl
@[go_sem] def l_Z5_1_1 : List GOp := [⟨(some 4), .load (.t 1) 1 false, none⟩,
    ⟨(some 5), .bin .add (.t 4) (.c (.int .i64 1)), none⟩,
    ⟨none, .store (.t 1) 1 (.t 5), none⟩]
def Z5_1_1 : IR := .ops l_Z5_1_1
@[go_sem] theorem w_Z5_1_1 : wp P Z5_1_1 Q e H = wpL P l_Z5_1_1 (Q .normal) e H := idE rfl
@[go_sem] def l_Z5_1_2 : List GOp := [⟨(some 3), .mv (.c (.bool true)), none⟩]
def Z5_1_2 : IR := .ops l_Z5_1_2
@[go_sem] theorem w_Z5_1_2 : wp P Z5_1_2 Q e H = wpL P l_Z5_1_2 (Q .normal) e H := idE rfl
def F_Z5_1 : IFn := ⟨2, 6, [.t 3], (.seq Z5_1_0 (.seq Z5_1_1 (.seq Z5_1_2 .ret)))⟩
theorem c_Z5_1 : compFn Try.prog [(0, [], []), (1, [], []), (2, [], [])] Try.f77 = some F_Z5_1 := by kernel_rfl
theorem a_Z5_1 (hl : args.length = 2) (h : wp Try.prog (.seq Z5_1_0 (.seq Z5_1_1 (.seq Z5_1_2 .ret))) (postQ [.t 3] R) (env0 args) H) : ACall Try.prog n_Z5_1 args H R :=
  acall_of_wp mixed Try.func77 c_Z5_1 (by kernel_rfl) hl h
def l_Z16_0 : List GOp := [⟨(some 14), .mv (.t 1), none⟩,
    ⟨(some 15), .len (.t 14), none⟩,
    ⟨(some 16), .mks [(.int .i64 0)] 8 (.t 15), none⟩,
    ⟨(some 17), .mv (.t 1), none⟩,
    ⟨(some 18), .len (.t 17), none⟩,
    ⟨(some 19), .mks [(.int .i64 0)] 8 (.t 18), none⟩,
    ⟨(some 6), .mv (.t 16), none⟩,
    ⟨(some 7), .mv (.t 19), none⟩]
@[go_sem] theorem g_Z16_0_0 : gAt l_Z16_0 0 = ⟨(some 14), .mv (.t 1), none⟩ := idE rfl
@[go_sem] theorem g_Z16_0_1 : gAt l_Z16_0 1 = ⟨(some 15), .len (.t 14), none⟩ := idE rfl
@[go_sem] theorem g_Z16_0_2 : gAt l_Z16_0 2 = ⟨(some 16), .mks [(.int .i64 0)] 8 (.t 15), none⟩ := idE rfl
@[go_sem] theorem g_Z16_0_3 : gAt l_Z16_0 3 = ⟨(some 17), .mv (.t 1), none⟩ := idE rfl
@[go_sem] theorem g_Z16_0_4 : gAt l_Z16_0 4 = ⟨(some 18), .len (.t 17), none⟩ := idE rfl
@[go_sem] theorem g_Z16_0_5 : gAt l_Z16_0 5 = ⟨(some 19), .mks [(.int .i64 0)] 8 (.t 18), none⟩ := idE rfl
@[go_sem] theorem g_Z16_0_6 : gAt l_Z16_0 6 = ⟨(some 6), .mv (.t 16), none⟩ := idE rfl
@[go_sem] theorem g_Z16_0_7 : gAt l_Z16_0 7 = ⟨(some 7), .mv (.t 19), none⟩ := idE rfl
def Z16_0 : IR := .dops l_Z16_0 [(0, []), (1, []), (3, []), (4, []), (2, []), (6, []), (5, []), (7, [])]
@[go_sem] theorem w_Z16_0 : wp P Z16_0 Q e H = wpD P l_Z16_0 [(0, []), (1, []), (3, []), (4, []), (2, []), (6, []), (5, []), (7, [])] (Q .normal) e H := idE rfl
@[go_sem] def l_Z16_1 : List GOp := [⟨(some 20), .mv (.t 1), none⟩,
    ⟨(some 21), .len (.t 20), none⟩,
    ⟨(some 22), .mv (.c (.int .i64 0)), none⟩]
def Z16_1 : IR := .ops l_Z16_1
@[go_sem] theorem w_Z16_1 : wp P Z16_1 Q e H = wpL P l_Z16_1 (Q .normal) e H := idE rfl
@[go_sem] def l_Z16_2 : List GOp := [⟨(some 23), .bin .lss (.t 22) (.t 21), none⟩]
def Z16_2 : IR := .ops l_Z16_2
@[go_sem] theorem w_Z16_2 : wp P Z16_2 Q e H = wpL P l_Z16_2 (Q .normal) e H := idE rfl
def Z16_3 : IR := .cond (.t 23) .skip (.exit 0)
@[go_sem] theorem w_Z16_3 : wp P Z16_3 Q e H = condW P ((.t 23) : X) .skip (.exit 0) Q e H := idE rfl
@[go_sem] def l_Z16_4 : List GOp := [⟨(some 24), .mv (.t 22), none⟩,
    ⟨(some 25), .iaddr (.t 20) (.t 22) 1, none⟩,
    ⟨(some 26), .load (.t 25) 1 false, none⟩,
    ⟨(some 8), .mv (.t 24), none⟩,
    ⟨(some 9), .mv (.t 26), none⟩]
def Z16_4 : IR := .ops l_Z16_4
@[go_sem] theorem w_Z16_4 : wp P Z16_4 Q e H = wpL P l_Z16_4 (Q .normal) e H := idE rfl
@[go_sem] def l_Z16_5 : List GOp := [⟨(some 27), .mv (.t 9), none⟩,
    ⟨(some 28), .len (.t 27), none⟩,
    ⟨(some 29), .mv (.c (.int .i64 0)), none⟩]
def Z16_5 : IR := .ops l_Z16_5
@[go_sem] theorem w_Z16_5 : wp P Z16_5 Q e H = wpL P l_Z16_5 (Q .normal) e H := idE rfl
@[go_sem] def l_Z16_6 : List GOp := [⟨(some 30), .bin .lss (.t 29) (.t 28), none⟩]
def Z16_6 : IR := .ops l_Z16_6
@[go_sem] theorem w_Z16_6 : wp P Z16_6 Q e H = wpL P l_Z16_6 (Q .normal) e H := idE rfl
def Z16_7 : IR := .cond (.t 30) .skip (.exit 2)
@[go_sem] theorem w_Z16_7 : wp P Z16_7 Q e H = condW P ((.t 30) : X) .skip (.exit 2) Q e H := idE rfl
@[go_sem] def l_Z16_8 : List GOp := [⟨(some 31), .iaddr (.t 27) (.t 29) 1, none⟩,
    ⟨(some 32), .load (.t 31) 1 false, none⟩,
    ⟨(some 11), .mv (.t 32), none⟩]
def Z16_8 : IR := .ops l_Z16_8
@[go_sem] theorem w_Z16_8 : wp P Z16_8 Q e H = wpL P l_Z16_8 (Q .normal) e H := idE rfl
@[go_sem] def l_Z16_9 : List GOp := [⟨(some 33), .mv (.t 11), none⟩,
    ⟨(some 34), .bin .gtr (.t 33) (.c (.int .i64 0)), none⟩]
def Z16_9 : IR := .ops l_Z16_9
@[go_sem] theorem w_Z16_9 : wp P Z16_9 Q e H = wpL P l_Z16_9 (Q .normal) e H := idE rfl
def l_Z16_10 : List GOp := [⟨(some 35), .mv (.t 6), none⟩,
    ⟨(some 36), .mv (.t 8), none⟩,
    ⟨(some 37), .iaddr (.t 35) (.t 36) 1, none⟩,
    ⟨(some 38), .load (.t 37) 1 false, none⟩,
    ⟨(some 39), .mv (.t 11), none⟩,
    ⟨(some 40), .bin .sub (.t 39) (.c (.int .i64 1)), none⟩,
    ⟨(some 41), .bin .shl (.c (.int .i64 1)) (.t 40), none⟩,
    ⟨(some 42), .bin .or (.t 38) (.t 41), none⟩,
    ⟨(some 43), .iaddr (.t 35) (.t 36) 1, none⟩,
    ⟨none, .store (.t 43) 1 (.t 42), none⟩]
@[go_sem] theorem g_Z16_10_0 : gAt l_Z16_10 0 = ⟨(some 35), .mv (.t 6), none⟩ := idE rfl
@[go_sem] theorem g_Z16_10_1 : gAt l_Z16_10 1 = ⟨(some 36), .mv (.t 8), none⟩ := idE rfl
@[go_sem] theorem g_Z16_10_2 : gAt l_Z16_10 2 = ⟨(some 37), .iaddr (.t 35) (.t 36) 1, none⟩ := idE rfl
@[go_sem] theorem g_Z16_10_3 : gAt l_Z16_10 3 = ⟨(some 38), .load (.t 37) 1 false, none⟩ := idE rfl
@[go_sem] theorem g_Z16_10_4 : gAt l_Z16_10 4 = ⟨(some 39), .mv (.t 11), none⟩ := idE rfl
@[go_sem] theorem g_Z16_10_5 : gAt l_Z16_10 5 = ⟨(some 40), .bin .sub (.t 39) (.c (.int .i64 1)), none⟩ := idE rfl
@[go_sem] theorem g_Z16_10_6 : gAt l_Z16_10 6 = ⟨(some 41), .bin .shl (.c (.int .i64 1)) (.t 40), none⟩ := idE rfl
@[go_sem] theorem g_Z16_10_7 : gAt l_Z16_10 7 = ⟨(some 42), .bin .or (.t 38) (.t 41), none⟩ := idE rfl
@[go_sem] theorem g_Z16_10_8 : gAt l_Z16_10 8 = ⟨(some 43), .iaddr (.t 35) (.t 36) 1, none⟩ := idE rfl
@[go_sem] theorem g_Z16_10_9 : gAt l_Z16_10 9 = ⟨none, .store (.t 43) 1 (.t 42), none⟩ := idE rfl
def Z16_10 : IR := .dops l_Z16_10 [(0, []), (1, []), (2, []), (3, []), (4, []), (5, []), (6, []), (7, []), (8, []), (9, [])]
@[go_sem] theorem w_Z16_10 : wp P Z16_10 Q e H = wpD P l_Z16_10 [(0, []), (1, []), (2, []), (3, []), (4, []), (5, []), (6, []), (7, []), (8, []), (9, [])] (Q .normal) e H := idE rfl
def l_Z16_11 : List GOp := [⟨(some 44), .mv (.t 7), none⟩,
    ⟨(some 45), .mv (.t 8), none⟩,
    ⟨(some 46), .iaddr (.t 44) (.t 45) 1, none⟩,
    ⟨(some 47), .load (.t 46) 1 false, none⟩,
    ⟨(some 48), .mv (.t 11), none⟩,
    ⟨(some 49), .un .neg (.t 48), none⟩,
    ⟨(some 50), .bin .sub (.t 49) (.c (.int .i64 1)), none⟩,
    ⟨(some 51), .bin .shl (.c (.int .i64 1)) (.t 50), none⟩,
    ⟨(some 52), .bin .or (.t 47) (.t 51), none⟩,
    ⟨(some 53), .iaddr (.t 44) (.t 45) 1, none⟩,
    ⟨none, .store (.t 53) 1 (.t 52), none⟩]
@[go_sem] theorem g_Z16_11_0 : gAt l_Z16_11 0 = ⟨(some 44), .mv (.t 7), none⟩ := idE rfl
@[go_sem] theorem g_Z16_11_1 : gAt l_Z16_11 1 = ⟨(some 45), .mv (.t 8), none⟩ := idE rfl
@[go_sem] theorem g_Z16_11_2 : gAt l_Z16_11 2 = ⟨(some 46), .iaddr (.t 44) (.t 45) 1, none⟩ := idE rfl
@[go_sem] theorem g_Z16_11_3 : gAt l_Z16_11 3 = ⟨(some 47), .load (.t 46) 1 false, none⟩ := idE rfl
@[go_sem] theorem g_Z16_11_4 : gAt l_Z16_11 4 = ⟨(some 48), .mv (.t 11), none⟩ := idE rfl
@[go_sem] theorem g_Z16_11_5 : gAt l_Z16_11 5 = ⟨(some 49), .un .neg (.t 48), none⟩ := idE rfl
@[go_sem] theorem g_Z16_11_6 : gAt l_Z16_11 6 = ⟨(some 50), .bin .sub (.t 49) (.c (.int .i64 1)), none⟩ := idE rfl
@[go_sem] theorem g_Z16_11_7 : gAt l_Z16_11 7 = ⟨(some 51), .bin .shl (.c (.int .i64 1)) (.t 50), none⟩ := idE rfl
@[go_sem] theorem g_Z16_11_8 : gAt l_Z16_11 8 = ⟨(some 52), .bin .or (.t 47) (.t 51), none⟩ := idE rfl
@[go_sem] theorem g_Z16_11_9 : gAt l_Z16_11 9 = ⟨(some 53), .iaddr (.t 44) (.t 45) 1, none⟩ := idE rfl
@[go_sem] theorem g_Z16_11_10 : gAt l_Z16_11 10 = ⟨none, .store (.t 53) 1 (.t 52), none⟩ := idE rfl
def Z16_11 : IR := .dops l_Z16_11 [(0, []), (1, []), (2, []), (3, []), (4, []), (5, []), (6, []), (7, []), (8, []), (9, []), (10, [])]
@[go_sem] theorem w_Z16_11 : wp P Z16_11 Q e H = wpD P l_Z16_11 [(0, []), (1, []), (2, []), (3, []), (4, []), (5, []), (6, []), (7, []), (8, []), (9, []), (10, [])] (Q .normal) e H := idE rfl
def Z16_12 : IR := .cond (.t 34) Z16_10 Z16_11
@[go_sem] theorem w_Z16_12 : wp P Z16_12 Q e H = condW P ((.t 34) : X) Z16_10 Z16_11 Q e H := idE rfl
def Z16_13 : IR := .block 3 (.seq Z16_8 (.seq Z16_9 Z16_12))
@[go_sem] theorem w_Z16_13 : wp P Z16_13 Q e H = wp P (.seq Z16_8 (.seq Z16_9 Z16_12)) (blockQ 3 Q) e H := idE rfl
@[go_sem] def l_Z16_14 : List GOp := [⟨(some 54), .bin .add (.t 29) (.c (.int .i64 1)), none⟩,
    ⟨(some 29), .mv (.t 54), none⟩]
def Z16_14 : IR := .ops l_Z16_14
@[go_sem] theorem w_Z16_14 : wp P Z16_14 Q e H = wpL P l_Z16_14 (Q .normal) e H := idE rfl
def Z16_15 : IR := .loop (.seq Z16_6 (.seq Z16_7 (.seq Z16_13 Z16_14)))
def Z16_16 : IR := .block 2 Z16_15
@[go_sem] theorem w_Z16_16 : wp P Z16_16 Q e H = wp P Z16_15 (blockQ 2 Q) e H := idE rfl
def Z16_17 : IR := .block 1 (.seq Z16_4 (.seq Z16_5 Z16_16))
@[go_sem] theorem w_Z16_17 : wp P Z16_17 Q e H = wp P (.seq Z16_4 (.seq Z16_5 Z16_16)) (blockQ 1 Q) e H := idE rfl
@[go_sem] def l_Z16_18 : List GOp := [⟨(some 55), .bin .add (.t 22) (.c (.int .i64 1)), none⟩,
    ⟨(some 22), .mv (.t 55), none⟩]
def Z16_18 : IR := .ops l_Z16_18
@[go_sem] theorem w_Z16_18 : wp P Z16_18 Q e H = wpL P l_Z16_18 (Q .normal) e H := idE rfl
def Z16_19 : IR := .loop (.seq Z16_2 (.seq Z16_3 (.seq Z16_17 Z16_18)))
def Z16_20 : IR := .block 0 Z16_19
@[go_sem] theorem w_Z16_20 : wp P Z16_20 Q e H = wp P Z16_19 (blockQ 0 Q) e H := idE rfl
@[go_sem] def l_Z16_21 : List GOp := [⟨(some 56), .mv (.t 0), none⟩,
    ⟨(some 57), .bin .shl (.c (.int .i64 1)) (.t 56), none⟩,
    ⟨(some 58), .mv (.c (.int .i64 0)), none⟩]
def Z16_21 : IR := .ops l_Z16_21
@[go_sem] theorem w_Z16_21 : wp P Z16_21 Q e H = wpL P l_Z16_21 (Q .normal) e H := idE rfl
@[go_sem] def l_Z16_22 : List GOp := [⟨(some 59), .bin .lss (.t 58) (.t 57), none⟩]
def Z16_22 : IR := .ops l_Z16_22
@[go_sem] theorem w_Z16_22 : wp P Z16_22 Q e H = wpL P l_Z16_22 (Q .normal) e H := idE rfl
def Z16_23 : IR := .cond (.t 59) .skip (.exit 4)
@[go_sem] theorem w_Z16_23 : wp P Z16_23 Q e H = condW P ((.t 59) : X) .skip (.exit 4) Q e H := idE rfl
@[go_sem] def l_Z16_24 : List GOp := [⟨(some 60), .mv (.t 58), none⟩,
    ⟨(some 12), .mv (.t 60), none⟩]
def Z16_24 : IR := .ops l_Z16_24
@[go_sem] theorem w_Z16_24 : wp P Z16_24 Q e H = wpL P l_Z16_24 (Q .normal) e H := idE rfl
@[go_sem] def l_Z16_25 : List GOp := [⟨(some 61), .mv (.t 1), none⟩,
    ⟨(some 62), .len (.t 61), none⟩,
    ⟨(some 63), .mv (.c (.int .i64 0)), none⟩]
def Z16_25 : IR := .ops l_Z16_25
@[go_sem] theorem w_Z16_25 : wp P Z16_25 Q e H = wpL P l_Z16_25 (Q .normal) e H := idE rfl
@[go_sem] def l_Z16_26 : List GOp := [⟨(some 64), .bin .lss (.t 63) (.t 62), none⟩]
def Z16_26 : IR := .ops l_Z16_26
@[go_sem] theorem w_Z16_26 : wp P Z16_26 Q e H = wpL P l_Z16_26 (Q .normal) e H := idE rfl
def Z16_27 : IR := .cond (.t 64) .skip (.exit 6)
@[go_sem] theorem w_Z16_27 : wp P Z16_27 Q e H = condW P ((.t 64) : X) .skip (.exit 6) Q e H := idE rfl
@[go_sem] def l_Z16_28 : List GOp := [⟨(some 65), .mv (.t 63), none⟩,
    ⟨(some 13), .mv (.t 65), none⟩]
def Z16_28 : IR := .ops l_Z16_28
@[go_sem] theorem w_Z16_28 : wp P Z16_28 Q e H = wpL P l_Z16_28 (Q .normal) e H := idE rfl
@[go_sem] def l_Z16_29 : List GOp := [⟨(some 66), .mv (.t 12), none⟩,
    ⟨(some 67), .mv (.t 6), none⟩,
    ⟨(some 68), .mv (.t 13), none⟩,
    ⟨(some 69), .iaddr (.t 67) (.t 68) 1, none⟩,
    ⟨(some 70), .load (.t 69) 1 false, none⟩,
    ⟨(some 71), .bin .and (.t 66) (.t 70), none⟩,
    ⟨(some 72), .bin .eql (.t 71) (.c (.int .i64 0)), none⟩,
    ⟨(some 73), .mv (.t 72), none⟩,
    ⟨(some 74), .mv (.t 12), (some (73, true))⟩,
    ⟨(some 75), .un .xor (.t 74), (some (73, true))⟩,
    ⟨(some 76), .mv (.t 7), (some (73, true))⟩,
    ⟨(some 77), .mv (.t 13), (some (73, true))⟩,
    ⟨(some 78), .iaddr (.t 76) (.t 77) 1, (some (73, true))⟩,
    ⟨(some 79), .load (.t 78) 1 false, (some (73, true))⟩,
    ⟨(some 80), .bin .and (.t 75) (.t 79), (some (73, true))⟩,
    ⟨(some 81), .bin .eql (.t 80) (.c (.int .i64 0)), (some (73, true))⟩,
    ⟨(some 82), .pick (.t 73) (.t 81) (.c (.bool false)), none⟩]
def Z16_29 : IR := .ops l_Z16_29
@[go_sem] theorem w_Z16_29 : wp P Z16_29 Q e H = wpL P l_Z16_29 (Q .normal) e H := idE rfl
def Z16_30 : IR := .cond (.t 82) (.exit 5) .skip
@[go_sem] theorem w_Z16_30 : wp P Z16_30 Q e H = condW P ((.t 82) : X) (.exit 5) .skip Q e H := idE rfl
def Z16_31 : IR := .block 7 (.seq Z16_28 (.seq Z16_29 Z16_30))
@[go_sem] theorem w_Z16_31 : wp P Z16_31 Q e H = wp P (.seq Z16_28 (.seq Z16_29 Z16_30)) (blockQ 7 Q) e H := idE rfl
@[go_sem] def l_Z16_32 : List GOp := [⟨(some 83), .bin .add (.t 63) (.c (.int .i64 1)), none⟩,
    ⟨(some 63), .mv (.t 83), none⟩]
def Z16_32 : IR := .ops l_Z16_32
@[go_sem] theorem w_Z16_32 : wp P Z16_32 Q e H = wpL P l_Z16_32 (Q .normal) e H := idE rfl
def Z16_33 : IR := .loop (.seq Z16_26 (.seq Z16_27 (.seq Z16_31 Z16_32)))
def Z16_34 : IR := .block 6 Z16_33
@[go_sem] theorem w_Z16_34 : wp P Z16_34 Q e H = wp P Z16_33 (blockQ 6 Q) e H := idE rfl
@[go_sem] def l_Z16_35 : List GOp := [⟨(some 84), .mv (.t 2), none⟩,
    ⟨(some 85), .mv (.t 12), none⟩,
    ⟨(some 86), .callv (.t 84) [(.t 85)], none⟩,
    ⟨(some 87), .un .not (.t 86), none⟩]
def Z16_35 : IR := .ops l_Z16_35
@[go_sem] theorem w_Z16_35 : wp P Z16_35 Q e H = wpL P l_Z16_35 (Q .normal) e H := idE rfl
def Z16_36 : IR := .cond (.t 87) .ret .skip
@[go_sem] theorem w_Z16_36 : wp P Z16_36 Q e H = condW P ((.t 87) : X) .ret .skip Q e H := idE rfl
def Z16_37 : IR := .block 5 (.seq Z16_24 (.seq (.seq Z16_25 Z16_34) (.seq Z16_35 Z16_36)))
@[go_sem] theorem w_Z16_37 : wp P Z16_37 Q e H = wp P (.seq Z16_24 (.seq (.seq Z16_25 Z16_34) (.seq Z16_35 Z16_36))) (blockQ 5 Q) e H := idE rfl
@[go_sem] def l_Z16_38 : List GOp := [⟨(some 88), .bin .add (.t 58) (.c (.int .i64 1)), none⟩,
    ⟨(some 58), .mv (.t 88), none⟩]
def Z16_38 : IR := .ops l_Z16_38
@[go_sem] theorem w_Z16_38 : wp P Z16_38 Q e H = wpL P l_Z16_38 (Q .normal) e H := idE rfl
def Z16_39 : IR := .loop (.seq Z16_22 (.seq Z16_23 (.seq Z16_37 Z16_38)))
def Z16_40 : IR := .block 4 Z16_39
@[go_sem] theorem w_Z16_40 : wp P Z16_40 Q e H = wp P Z16_39 (blockQ 4 Q) e H := idE rfl
def F_Z16 : IFn := ⟨3, 89, [], (.seq Z16_0 (.seq (.seq Z16_1 Z16_20) (.seq .skip (.seq Z16_21 Z16_40))))⟩
theorem c_Z16 : compFn Try.prog [(0, [(0, []), (1, []), (3, []), (4, []), (2, []), (6, []), (5, []), (7, [])], []), (1, [], []), (2, [], []), (3, [], []), (4, [], []), (5, [], []), (6, [], []), (7, [], []), (8, [(0, []), (1, []), (2, []), (3, []), (4, []), (5, []), (6, []), (7, []), (8, []), (9, [])], []), (9, [(0, []), (1, []), (2, []), (3, []), (4, []), (5, []), (6, []), (7, []), (8, []), (9, []), (10, [])], []), (10, [], []), (11, [], []), (12, [], []), (13, [], []), (14, [], []), (15, [], []), (16, [], []), (17, [], []), (18, [], []), (19, [], []), (20, [], []), (21, [], [])] Try.f76 = some F_Z16 := by kernel_rfl
theorem a_Z16 (hl : args.length = 3) (h : wp Try.prog (.seq Z16_0 (.seq (.seq Z16_1 Z16_20) (.seq .skip (.seq Z16_21 Z16_40)))) (postQ [] R) (env0 args) H) : ACall Try.prog n_Z16 args H R :=
  acall_of_wp mixed Try.func76 c_Z16 (by kernel_rfl) hl h
@[go_sem] def l_Z5_0 : List GOp := [⟨(some 1), .box (.t 0), none⟩,
    ⟨(some 2), .mv (.c (.int .i64 0)), none⟩]
def Z5_0 : IR := .ops l_Z5_0
@[go_sem] theorem w_Z5_0 : wp P Z5_0 Q e H = wpL P l_Z5_0 (Q .normal) e H := idE rfl
@[go_sem] def l_Z5_1 : List GOp := [⟨(some 4), .load (.t 1) 2 true, none⟩,
    ⟨(some 5), .call (n_Z12) [(.t 4)], none⟩,
    ⟨(some 6), .un .not (.t 5), none⟩]
def Z5_1 : IR := .ops l_Z5_1
@[go_sem] theorem w_Z5_1 : wp P Z5_1 Q e H = wpL P l_Z5_1 (Q .normal) e H := idE rfl
@[go_sem] def l_Z5_2 : List GOp := [⟨(some 2), .mv (.c (.int .i64 (-1))), none⟩]
def Z5_2 : IR := .ops l_Z5_2
@[go_sem] theorem w_Z5_2 : wp P Z5_2 Q e H = wpL P l_Z5_2 (Q .normal) e H := idE rfl
def Z5_3 : IR := .cond (.t 6) (.seq Z5_2 .ret) .skip
@[go_sem] theorem w_Z5_3 : wp P Z5_3 Q e H = condW P ((.t 6) : X) (.seq Z5_2 .ret) .skip Q e H := idE rfl
@[go_sem] def l_Z5_4 : List GOp := [⟨(some 3), .alloc [(.int .i64 0)], none⟩,
    ⟨none, .store (.t 3) 1 (.c (.int .i64 0)), none⟩]
def Z5_4 : IR := .ops l_Z5_4
@[go_sem] theorem w_Z5_4 : wp P Z5_4 Q e H = wpL P l_Z5_4 (Q .normal) e H := idE rfl
@[go_sem] def l_Z5_5 : List GOp := [⟨(some 7), .faddr (.t 1) 0, none⟩,
    ⟨(some 8), .load (.t 7) 1 false, none⟩,
    ⟨(some 9), .faddr (.t 1) 1, none⟩,
    ⟨(some 10), .load (.t 9) 1 false, none⟩,
    ⟨(some 11), .mkfn (n_Z5_1) [(.t 3)], none⟩,
    ⟨(some 12), .call (n_Z16) [(.t 8), (.t 10), (.t 11)], none⟩]
def Z5_5 : IR := .ops l_Z5_5
@[go_sem] theorem w_Z5_5 : wp P Z5_5 Q e H = wpL P l_Z5_5 (Q .normal) e H := idE rfl
@[go_sem] def l_Z5_6 : List GOp := [⟨(some 13), .load (.t 3) 1 false, none⟩,
    ⟨(some 2), .mv (.t 13), none⟩]
def Z5_6 : IR := .ops l_Z5_6
@[go_sem] theorem w_Z5_6 : wp P Z5_6 Q e H = wpL P l_Z5_6 (Q .normal) e H := idE rfl
def F_Z5 : IFn := ⟨1, 14, [.t 2], (.seq Z5_0 (.seq (.seq Z5_1 Z5_3) (.seq Z5_4 (.seq Z5_5 (.seq Z5_6 .ret)))))⟩
theorem c_Z5 : compFn Try.prog [(0, [], []), (1, [], []), (2, [], []), (3, [], []), (4, [], []), (5, [], [])] Try.f41 = some F_Z5 := by kernel_rfl
theorem a_Z5 (hl : args.length = 1) (h : wp Try.prog (.seq Z5_0 (.seq (.seq Z5_1 Z5_3) (.seq Z5_4 (.seq Z5_5 (.seq Z5_6 .ret))))) (postQ [.t 2] R) (env0 args) H) : ACall Try.prog n_Z5 args H R :=
  acall_of_wp mixed Try.func41 c_Z5 (by kernel_rfl) hl h
@[go_sem] def l_Z18_0 : List GOp := [⟨(some 2), .mv (.c (.bool false)), none⟩]
def Z18_0 : IR := .ops l_Z18_0
@[go_sem] theorem w_Z18_0 : wp P Z18_0 Q e H = wpL P l_Z18_0 (Q .normal) e H := idE rfl
@[go_sem] def l_Z18_1 : List GOp := [⟨(some 14), .mv (.t 0), none⟩,
    ⟨(some 15), .len (.t 14), none⟩,
    ⟨(some 16), .bin .gtr (.t 15) (.c (.int .i64 1048576)), none⟩]
def Z18_1 : IR := .ops l_Z18_1
@[go_sem] theorem w_Z18_1 : wp P Z18_1 Q e H = wpL P l_Z18_1 (Q .normal) e H := idE rfl
@[go_sem] def l_Z18_2 : List GOp := [⟨(some 2), .mv (.c (.bool true)), none⟩]
def Z18_2 : IR := .ops l_Z18_2
@[go_sem] theorem w_Z18_2 : wp P Z18_2 Q e H = wpL P l_Z18_2 (Q .normal) e H := idE rfl
def Z18_3 : IR := .cond (.t 16) (.seq Z18_2 .ret) .skip
@[go_sem] theorem w_Z18_3 : wp P Z18_3 Q e H = condW P ((.t 16) : X) (.seq Z18_2 .ret) .skip Q e H := idE rfl
@[go_sem] def l_Z18_4 : List GOp := [⟨(some 17), .mv (.t 0), none⟩,
    ⟨(some 18), .call (n_Z46) [(.t 17)], none⟩,
    ⟨(some 3), .alloc [(.int .i64 0), (.sl none 0 0 true 0)], none⟩,
    ⟨none, .store (.t 3) 2 (.t 18), none⟩]
def Z18_4 : IR := .ops l_Z18_4
@[go_sem] theorem w_Z18_4 : wp P Z18_4 Q e H = wpL P l_Z18_4 (Q .normal) e H := idE rfl
@[go_sem] def l_Z18_5 : List GOp := [⟨(some 20), .load (.t 3) 2 true, none⟩,
    ⟨(some 21), .call (n_Z6) [(.t 20)], none⟩,
    ⟨(some 19), .mv (.t 21), none⟩,
    ⟨(some 22), .ext (.t 19) 0, none⟩,
    ⟨(some 23), .ext (.t 19) 1, none⟩,
    ⟨(some 4), .mv (.t 22), none⟩,
    ⟨(some 5), .mv (.t 23), none⟩]
def Z18_5 : IR := .ops l_Z18_5
@[go_sem] theorem w_Z18_5 : wp P Z18_5 Q e H = wpL P l_Z18_5 (Q .normal) e H := idE rfl
@[go_sem] def l_Z18_6 : List GOp := [⟨(some 25), .load (.t 3) 2 true, none⟩,
    ⟨(some 26), .call (n_Z47) [(.t 25)], none⟩,
    ⟨(some 24), .mv (.t 26), none⟩,
    ⟨(some 27), .ext (.t 24) 0, none⟩,
    ⟨(some 28), .ext (.t 24) 1, none⟩,
    ⟨(some 6), .mv (.t 27), none⟩,
    ⟨(some 7), .mv (.t 28), none⟩]
def Z18_6 : IR := .ops l_Z18_6
@[go_sem] theorem w_Z18_6 : wp P Z18_6 Q e H = wpL P l_Z18_6 (Q .normal) e H := idE rfl
def l_Z18_7 : List GOp := [⟨(some 29), .mv (.t 5), none⟩,
    ⟨(some 30), .mv (.t 7), none⟩,
    ⟨(some 31), .beq true (.t 29) (.t 30), none⟩,
    ⟨(some 32), .mv (.t 31), none⟩,
    ⟨(some 33), .mv (.t 4), (some (32, false))⟩,
    ⟨(some 34), .mv (.t 6), (some (32, false))⟩,
    ⟨(some 35), .call (n_Z19) [(.t 33), (.t 34)], (some (32, false))⟩,
    ⟨(some 36), .un .not (.t 35), (some (32, false))⟩,
    ⟨(some 37), .pick (.t 32) (.c (.bool true)) (.t 36), none⟩,
    ⟨(some 38), .mv (.t 37), none⟩,
    ⟨(some 39), .load (.t 3) 2 true, (some (38, false))⟩,
    ⟨(some 40), .call (n_Z4) [(.t 39)], (some (38, false))⟩,
    ⟨(some 41), .load (.t 3) 2 true, (some (38, false))⟩,
    ⟨(some 42), .call (n_Z45) [(.t 41)], (some (38, false))⟩,
    ⟨(some 43), .beq true (.t 40) (.t 42), (some (38, false))⟩,
    ⟨(some 44), .pick (.t 38) (.c (.bool true)) (.t 43), none⟩]
@[go_sem] theorem g_Z18_7_0 : gAt l_Z18_7 0 = ⟨(some 29), .mv (.t 5), none⟩ := idE rfl
@[go_sem] theorem g_Z18_7_1 : gAt l_Z18_7 1 = ⟨(some 30), .mv (.t 7), none⟩ := idE rfl
@[go_sem] theorem g_Z18_7_2 : gAt l_Z18_7 2 = ⟨(some 31), .beq true (.t 29) (.t 30), none⟩ := idE rfl
@[go_sem] theorem g_Z18_7_3 : gAt l_Z18_7 3 = ⟨(some 32), .mv (.t 31), none⟩ := idE rfl
@[go_sem] theorem g_Z18_7_4 : gAt l_Z18_7 4 = ⟨(some 33), .mv (.t 4), (some (32, false))⟩ := idE rfl
@[go_sem] theorem g_Z18_7_5 : gAt l_Z18_7 5 = ⟨(some 34), .mv (.t 6), (some (32, false))⟩ := idE rfl
@[go_sem] theorem g_Z18_7_6 : gAt l_Z18_7 6 = ⟨(some 35), .call (n_Z19) [(.t 33), (.t 34)], (some (32, false))⟩ := idE rfl
@[go_sem] theorem g_Z18_7_7 : gAt l_Z18_7 7 = ⟨(some 36), .un .not (.t 35), (some (32, false))⟩ := idE rfl
@[go_sem] theorem g_Z18_7_8 : gAt l_Z18_7 8 = ⟨(some 37), .pick (.t 32) (.c (.bool true)) (.t 36), none⟩ := idE rfl
@[go_sem] theorem g_Z18_7_9 : gAt l_Z18_7 9 = ⟨(some 38), .mv (.t 37), none⟩ := idE rfl
@[go_sem] theorem g_Z18_7_10 : gAt l_Z18_7 10 = ⟨(some 39), .load (.t 3) 2 true, (some (38, false))⟩ := idE rfl
@[go_sem] theorem g_Z18_7_11 : gAt l_Z18_7 11 = ⟨(some 40), .call (n_Z4) [(.t 39)], (some (38, false))⟩ := idE rfl
@[go_sem] theorem g_Z18_7_12 : gAt l_Z18_7 12 = ⟨(some 41), .load (.t 3) 2 true, (some (38, false))⟩ := idE rfl
@[go_sem] theorem g_Z18_7_13 : gAt l_Z18_7 13 = ⟨(some 42), .call (n_Z45) [(.t 41)], (some (38, false))⟩ := idE rfl
@[go_sem] theorem g_Z18_7_14 : gAt l_Z18_7 14 = ⟨(some 43), .beq true (.t 40) (.t 42), (some (38, false))⟩ := idE rfl
@[go_sem] theorem g_Z18_7_15 : gAt l_Z18_7 15 = ⟨(some 44), .pick (.t 38) (.c (.bool true)) (.t 43), none⟩ := idE rfl
def Z18_7 : IR := .dops l_Z18_7 [(0, []), (1, []), (2, []), (3, []), (4, []), (5, []), (6, []), (7, []), (8, []), (9, []), (10, []), (12, []), (11, [12]), (13, []), (14, []), (15, [])]
@[go_sem] theorem w_Z18_7 : wp P Z18_7 Q e H = wpD P l_Z18_7 [(0, []), (1, []), (2, []), (3, []), (4, []), (5, []), (6, []), (7, []), (8, []), (9, []), (10, []), (12, []), (11, [12]), (13, []), (14, []), (15, [])] (Q .normal) e H := idE rfl
@[go_sem] def l_Z18_8 : List GOp := [⟨(some 2), .mv (.c (.bool false)), none⟩]
def Z18_8 : IR := .ops l_Z18_8
@[go_sem] theorem w_Z18_8 : wp P Z18_8 Q e H = wpL P l_Z18_8 (Q .normal) e H := idE rfl
def Z18_9 : IR := .cond (.t 44) (.seq Z18_8 .ret) .skip
@[go_sem] theorem w_Z18_9 : wp P Z18_9 Q e H = condW P ((.t 44) : X) (.seq Z18_8 .ret) .skip Q e H := idE rfl
@[go_sem] def l_Z18_10 : List GOp := [⟨(some 45), .mv (.t 4), none⟩,
    ⟨(some 46), .len (.t 45), none⟩,
    ⟨(some 47), .mv (.c (.int .i64 0)), none⟩]
def Z18_10 : IR := .ops l_Z18_10
@[go_sem] theorem w_Z18_10 : wp P Z18_10 Q e H = wpL P l_Z18_10 (Q .normal) e H := idE rfl
@[go_sem] def l_Z18_11 : List GOp := [⟨(some 48), .bin .lss (.t 47) (.t 46), none⟩]
def Z18_11 : IR := .ops l_Z18_11
@[go_sem] theorem w_Z18_11 : wp P Z18_11 Q e H = wpL P l_Z18_11 (Q .normal) e H := idE rfl
def Z18_12 : IR := .cond (.t 48) .skip (.exit 0)
@[go_sem] theorem w_Z18_12 : wp P Z18_12 Q e H = condW P ((.t 48) : X) .skip (.exit 0) Q e H := idE rfl
@[go_sem] def l_Z18_13 : List GOp := [⟨(some 49), .mv (.t 47), none⟩,
    ⟨(some 8), .mv (.t 49), none⟩]
def Z18_13 : IR := .ops l_Z18_13
@[go_sem] theorem w_Z18_13 : wp P Z18_13 Q e H = wpL P l_Z18_13 (Q .normal) e H := idE rfl
@[go_sem] def l_Z18_14 : List GOp := [⟨(some 50), .mv (.t 4), none⟩,
    ⟨(some 51), .mv (.t 8), none⟩,
    ⟨(some 52), .iaddr (.t 50) (.t 51) 1, none⟩,
    ⟨(some 53), .load (.t 52) 1 false, none⟩,
    ⟨(some 54), .bin .eql (.t 53) (.c (.int .i64 0)), none⟩]
def Z18_14 : IR := .ops l_Z18_14
@[go_sem] theorem w_Z18_14 : wp P Z18_14 Q e H = wpL P l_Z18_14 (Q .normal) e H := idE rfl
def Z18_15 : IR := .cond (.t 54) (.exit 1) .skip
@[go_sem] theorem w_Z18_15 : wp P Z18_15 Q e H = condW P ((.t 54) : X) (.exit 1) .skip Q e H := idE rfl
@[go_sem] def l_Z18_16 : List GOp := [⟨(some 55), .mv (.t 8), none⟩,
    ⟨(some 56), .bin .add (.t 55) (.c (.int .i64 1)), none⟩,
    ⟨(some 57), .un .neg (.t 56), none⟩,
    ⟨(some 58), .bslc 1 1 [(.int .i64 0)] [(0, (.t 57))], none⟩,
    ⟨(some 9), .mv (.t 58), none⟩]
def Z18_16 : IR := .ops l_Z18_16
@[go_sem] theorem w_Z18_16 : wp P Z18_16 Q e H = wpL P l_Z18_16 (Q .normal) e H := idE rfl
@[go_sem] def l_Z18_17 : List GOp := [⟨(some 59), .mv (.t 8), none⟩,
    ⟨(some 60), .mv (.c (.int .i64 0)), none⟩]
def Z18_17 : IR := .ops l_Z18_17
@[go_sem] theorem w_Z18_17 : wp P Z18_17 Q e H = wpL P l_Z18_17 (Q .normal) e H := idE rfl
@[go_sem] def l_Z18_18 : List GOp := [⟨(some 61), .bin .lss (.t 60) (.t 59), none⟩]
def Z18_18 : IR := .ops l_Z18_18
@[go_sem] theorem w_Z18_18 : wp P Z18_18 Q e H = wpL P l_Z18_18 (Q .normal) e H := idE rfl
def Z18_19 : IR := .cond (.t 61) .skip (.exit 2)
@[go_sem] theorem w_Z18_19 : wp P Z18_19 Q e H = condW P ((.t 61) : X) .skip (.exit 2) Q e H := idE rfl
@[go_sem] def l_Z18_20 : List GOp := [⟨(some 62), .mv (.t 60), none⟩,
    ⟨(some 10), .mv (.t 62), none⟩]
def Z18_20 : IR := .ops l_Z18_20
@[go_sem] theorem w_Z18_20 : wp P Z18_20 Q e H = wpL P l_Z18_20 (Q .normal) e H := idE rfl
@[go_sem] def l_Z18_21 : List GOp := [⟨(some 63), .mv (.t 9), none⟩,
    ⟨(some 64), .mv (.t 10), none⟩,
    ⟨(some 65), .bin .add (.t 64) (.c (.int .i64 1)), none⟩,
    ⟨(some 66), .mv (.t 4), none⟩,
    ⟨(some 67), .mv (.t 10), none⟩,
    ⟨(some 68), .iaddr (.t 66) (.t 67) 1, none⟩,
    ⟨(some 69), .load (.t 68) 1 false, none⟩,
    ⟨(some 70), .bin .mul (.c (.int .i64 2)) (.t 69), none⟩,
    ⟨(some 71), .bin .sub (.t 70) (.c (.int .i64 1)), none⟩,
    ⟨(some 72), .bin .mul (.t 65) (.t 71), none⟩,
    ⟨(some 73), .bslc 1 1 [(.int .i64 0)] [(0, (.t 72))], none⟩,
    ⟨(some 74), .app 1 8 (.t 63) (.t 73), none⟩,
    ⟨(some 9), .mv (.t 74), none⟩]
def Z18_21 : IR := .ops l_Z18_21
@[go_sem] theorem w_Z18_21 : wp P Z18_21 Q e H = wpL P l_Z18_21 (Q .normal) e H := idE rfl
def Z18_22 : IR := .block 3 (.seq Z18_20 Z18_21)
@[go_sem] theorem w_Z18_22 : wp P Z18_22 Q e H = wp P (.seq Z18_20 Z18_21) (blockQ 3 Q) e H := idE rfl
@[go_sem] def l_Z18_23 : List GOp := [⟨(some 75), .bin .add (.t 60) (.c (.int .i64 1)), none⟩,
    ⟨(some 60), .mv (.t 75), none⟩]
def Z18_23 : IR := .ops l_Z18_23
@[go_sem] theorem w_Z18_23 : wp P Z18_23 Q e H = wpL P l_Z18_23 (Q .normal) e H := idE rfl
def Z18_24 : IR := .loop (.seq Z18_18 (.seq Z18_19 (.seq Z18_22 Z18_23)))
def Z18_25 : IR := .block 2 Z18_24
@[go_sem] theorem w_Z18_25 : wp P Z18_25 Q e H = wp P Z18_24 (blockQ 2 Q) e H := idE rfl
def l_Z18_26 : List GOp := [⟨(some 76), .faddr (.t 3) 0, none⟩,
    ⟨(some 77), .load (.t 76) 1 false, none⟩,
    ⟨(some 78), .bslc 1 0 [(.sl none 0 0 true 0)] [], none⟩,
    ⟨(some 79), .faddr (.t 3) 1, none⟩,
    ⟨(some 80), .load (.t 79) 1 false, none⟩,
    ⟨(some 81), .app 1 24 (.t 78) (.t 80), none⟩,
    ⟨(some 82), .bld [(.int .i64 0), (.sl none 0 0 true 0)] [(0, 1, (.t 77)), (1, 1, (.t 81))], none⟩,
    ⟨(some 11), .alloc [(.int .i64 0), (.sl none 0 0 true 0)], none⟩,
    ⟨none, .store (.t 11) 2 (.t 82), none⟩]
@[go_sem] theorem g_Z18_26_0 : gAt l_Z18_26 0 = ⟨(some 76), .faddr (.t 3) 0, none⟩ := idE rfl
@[go_sem] theorem g_Z18_26_1 : gAt l_Z18_26 1 = ⟨(some 77), .load (.t 76) 1 false, none⟩ := idE rfl
@[go_sem] theorem g_Z18_26_2 : gAt l_Z18_26 2 = ⟨(some 78), .bslc 1 0 [(.sl none 0 0 true 0)] [], none⟩ := idE rfl
@[go_sem] theorem g_Z18_26_3 : gAt l_Z18_26 3 = ⟨(some 79), .faddr (.t 3) 1, none⟩ := idE rfl
@[go_sem] theorem g_Z18_26_4 : gAt l_Z18_26 4 = ⟨(some 80), .load (.t 79) 1 false, none⟩ := idE rfl
@[go_sem] theorem g_Z18_26_5 : gAt l_Z18_26 5 = ⟨(some 81), .app 1 24 (.t 78) (.t 80), none⟩ := idE rfl
@[go_sem] theorem g_Z18_26_6 : gAt l_Z18_26 6 = ⟨(some 82), .bld [(.int .i64 0), (.sl none 0 0 true 0)] [(0, 1, (.t 77)), (1, 1, (.t 81))], none⟩ := idE rfl
@[go_sem] theorem g_Z18_26_7 : gAt l_Z18_26 7 = ⟨(some 11), .alloc [(.int .i64 0), (.sl none 0 0 true 0)], none⟩ := idE rfl
@[go_sem] theorem g_Z18_26_8 : gAt l_Z18_26 8 = ⟨none, .store (.t 11) 2 (.t 82), none⟩ := idE rfl
def Z18_26 : IR := .dops l_Z18_26 [(0, []), (1, []), (3, []), (4, []), (2, []), (5, [1]), (6, []), (7, []), (8, [])]
@[go_sem] theorem w_Z18_26 : wp P Z18_26 Q e H = wpD P l_Z18_26 [(0, []), (1, []), (3, []), (4, []), (2, []), (5, [1]), (6, []), (7, []), (8, [])] (Q .normal) e H := idE rfl
@[go_sem] def l_Z18_27 : List GOp := [⟨(some 83), .mv (.t 9), none⟩,
    ⟨(some 84), .len (.t 83), none⟩,
    ⟨(some 85), .mv (.c (.int .i64 0)), none⟩]
def Z18_27 : IR := .ops l_Z18_27
@[go_sem] theorem w_Z18_27 : wp P Z18_27 Q e H = wpL P l_Z18_27 (Q .normal) e H := idE rfl
@[go_sem] def l_Z18_28 : List GOp := [⟨(some 86), .bin .lss (.t 85) (.t 84), none⟩]
def Z18_28 : IR := .ops l_Z18_28
@[go_sem] theorem w_Z18_28 : wp P Z18_28 Q e H = wpL P l_Z18_28 (Q .normal) e H := idE rfl
def Z18_29 : IR := .cond (.t 86) .skip (.exit 4)
@[go_sem] theorem w_Z18_29 : wp P Z18_29 Q e H = condW P ((.t 86) : X) .skip (.exit 4) Q e H := idE rfl
@[go_sem] def l_Z18_30 : List GOp := [⟨(some 87), .iaddr (.t 83) (.t 85) 1, none⟩,
    ⟨(some 88), .load (.t 87) 1 false, none⟩,
    ⟨(some 13), .mv (.t 88), none⟩]
def Z18_30 : IR := .ops l_Z18_30
@[go_sem] theorem w_Z18_30 : wp P Z18_30 Q e H = wpL P l_Z18_30 (Q .normal) e H := idE rfl
@[go_sem] def l_Z18_31 : List GOp := [⟨(some 89), .faddr (.t 11) 1, none⟩,
    ⟨(some 90), .load (.t 89) 1 false, none⟩,
    ⟨(some 91), .mv (.t 13), none⟩,
    ⟨(some 92), .bslc 1 1 [(.int .i64 0)] [(0, (.t 91))], none⟩,
    ⟨(some 93), .bslo 1 1 [(.sl none 0 0 true 0)] [(0, (.t 92))], none⟩,
    ⟨(some 94), .app 1 24 (.t 90) (.t 93), none⟩,
    ⟨(some 95), .faddr (.t 11) 1, none⟩,
    ⟨none, .store (.t 95) 1 (.t 94), none⟩]
def Z18_31 : IR := .ops l_Z18_31
@[go_sem] theorem w_Z18_31 : wp P Z18_31 Q e H = wpL P l_Z18_31 (Q .normal) e H := idE rfl
def Z18_32 : IR := .block 5 (.seq Z18_30 Z18_31)
@[go_sem] theorem w_Z18_32 : wp P Z18_32 Q e H = wp P (.seq Z18_30 Z18_31) (blockQ 5 Q) e H := idE rfl
@[go_sem] def l_Z18_33 : List GOp := [⟨(some 96), .bin .add (.t 85) (.c (.int .i64 1)), none⟩,
    ⟨(some 85), .mv (.t 96), none⟩]
def Z18_33 : IR := .ops l_Z18_33
@[go_sem] theorem w_Z18_33 : wp P Z18_33 Q e H = wpL P l_Z18_33 (Q .normal) e H := idE rfl
def Z18_34 : IR := .loop (.seq Z18_28 (.seq Z18_29 (.seq Z18_32 Z18_33)))
def Z18_35 : IR := .block 4 Z18_34
@[go_sem] theorem w_Z18_35 : wp P Z18_35 Q e H = wp P Z18_34 (blockQ 4 Q) e H := idE rfl
@[go_sem] def l_Z18_36 : List GOp := [⟨(some 97), .load (.t 11) 2 true, none⟩,
    ⟨(some 98), .call (n_Z5) [(.t 97)], none⟩,
    ⟨(some 99), .bin .neq (.t 98) (.c (.int .i64 0)), none⟩]
def Z18_36 : IR := .ops l_Z18_36
@[go_sem] theorem w_Z18_36 : wp P Z18_36 Q e H = wpL P l_Z18_36 (Q .normal) e H := idE rfl
@[go_sem] def l_Z18_37 : List GOp := [⟨(some 2), .mv (.c (.bool false)), none⟩]
def Z18_37 : IR := .ops l_Z18_37
@[go_sem] theorem w_Z18_37 : wp P Z18_37 Q e H = wpL P l_Z18_37 (Q .normal) e H := idE rfl
def Z18_38 : IR := .cond (.t 99) (.seq Z18_37 .ret) .skip
@[go_sem] theorem w_Z18_38 : wp P Z18_38 Q e H = condW P ((.t 99) : X) (.seq Z18_37 .ret) .skip Q e H := idE rfl
def Z18_39 : IR := .block 1 (.seq Z18_13 (.seq (.seq Z18_14 Z18_15) (.seq Z18_16 (.seq (.seq Z18_17 Z18_25) (.seq Z18_26 (.seq (.seq Z18_27 Z18_35) (.seq Z18_36 Z18_38)))))))
@[go_sem] theorem w_Z18_39 : wp P Z18_39 Q e H = wp P (.seq Z18_13 (.seq (.seq Z18_14 Z18_15) (.seq Z18_16 (.seq (.seq Z18_17 Z18_25) (.seq Z18_26 (.seq (.seq Z18_27 Z18_35) (.seq Z18_36 Z18_38))))))) (blockQ 1 Q) e H := idE rfl
@[go_sem] def l_Z18_40 : List GOp := [⟨(some 100), .bin .add (.t 47) (.c (.int .i64 1)), none⟩,
    ⟨(some 47), .mv (.t 100), none⟩]
def Z18_40 : IR := .ops l_Z18_40
@[go_sem] theorem w_Z18_40 : wp P Z18_40 Q e H = wpL P l_Z18_40 (Q .normal) e H := idE rfl
def Z18_41 : IR := .loop (.seq Z18_11 (.seq Z18_12 (.seq Z18_39 Z18_40)))
def Z18_42 : IR := .block 0 Z18_41
@[go_sem] theorem w_Z18_42 : wp P Z18_42 Q e H = wp P Z18_41 (blockQ 0 Q) e H := idE rfl
@[go_sem] def l_Z18_43 : List GOp := [⟨(some 2), .mv (.c (.bool true)), none⟩]
def Z18_43 : IR := .ops l_Z18_43
@[go_sem] theorem w_Z18_43 : wp P Z18_43 Q e H = wpL P l_Z18_43 (Q .normal) e H := idE rfl
def F_Z18 : IFn := ⟨1, 101, [.t 2], (.seq Z18_0 (.seq (.seq Z18_1 Z18_3) (.seq Z18_4 (.seq Z18_5 (.seq Z18_6 (.seq (.seq Z18_7 Z18_9) (.seq (.seq Z18_10 Z18_42) (.seq Z18_43 .ret))))))))⟩
theorem c_Z18 : compFn Try.prog [(0, [], []), (1, [], []), (2, [], []), (3, [], []), (4, [], []), (5, [], []), (6, [(0, []), (1, []), (2, []), (3, []), (4, []), (5, []), (6, []), (7, []), (8, []), (9, []), (10, []), (12, []), (11, [12]), (13, []), (14, []), (15, [])], []), (7, [], []), (8, [], []), (9, [], []), (10, [], []), (11, [], []), (12, [], []), (13, [], []), (14, [], []), (15, [], []), (16, [], []), (17, [], []), (18, [(0, []), (1, []), (3, []), (4, []), (2, []), (5, [1]), (6, []), (7, []), (8, [])], []), (19, [], []), (20, [], []), (21, [], []), (22, [], []), (23, [], []), (24, [], []), (25, [], []), (26, [], []), (27, [], [])] Try.f8 = some F_Z18 := by kernel_rfl
theorem a_Z18 (hl : args.length = 1) (h : wp Try.prog (.seq Z18_0 (.seq (.seq Z18_1 Z18_3) (.seq Z18_4 (.seq Z18_5 (.seq Z18_6 (.seq (.seq Z18_7 Z18_9) (.seq (.seq Z18_10 Z18_42) (.seq Z18_43 .ret)))))))) (postQ [.t 2] R) (env0 args) H) : ACall Try.prog n_Z18 args H R :=
  acall_of_wp mixed Try.func8 c_Z18 (by kernel_rfl) hl h
end Go.M2

namespace Go.M2
open Go.Proofs
variable {H : Heap}
theorem s_l1In {n lo hi : Int} : ACall Try.prog n_Z63 [.int .i64 n, .int .i64 lo, .int .i64 hi] H (fun r H' => r = .bool (decide (lo ≤ n ∧ n ≤ hi)) ∧ H' = H) := by
  refine a_Z63 rfl ?_
  simp (maxSteps := 2000000) (disch := first | omega | assumption | exact idP rfl | exact idP (bL rfl) | (simp only [alloc_size, upd_size] <;> omega) | fail) only [go_sem, reduceIte, Nat.reduceEqDiff]
  refine guardW_dec (fun h => ?_) (fun h => ?_)
  · simp (maxSteps := 2000000) (disch := first | omega | assumption | exact idP rfl | exact idP (bL rfl) | (simp only [alloc_size, upd_size] <;> omega) | fail) only [go_sem, reduceIte, Nat.reduceEqDiff, h, AV.bool.injEq, decide_eq_decide, decide_true]
  · simp (maxSteps := 2000000) (disch := first | omega | assumption | exact idP rfl | exact idP (bL rfl) | (simp only [alloc_size, upd_size] <;> omega) | fail) only [go_sem, reduceIte, Nat.reduceEqDiff, h, AV.bool.injEq, decide_eq_decide, decide_false, Bool.false_eq_true, false_and]
theorem s_in {n lo hi : Int} : ACall Try.prog n_Z15 [.int .i64 n, .int .i64 lo, .int .i64 hi] H (fun r H' => r = .bool (decide (lo ≤ n ∧ n ≤ hi)) ∧ H' = H) := by
  refine a_Z15 rfl ?_
  simp (maxSteps := 2000000) (disch := first | omega | assumption | exact idP rfl | exact idP (bL rfl) | (simp only [alloc_size, upd_size] <;> omega) | fail) only [go_sem, reduceIte, Nat.reduceEqDiff]
  refine guardW_dec (fun h => ?_) (fun h => ?_)
  · simp (maxSteps := 2000000) (disch := first | omega | assumption | exact idP rfl | exact idP (bL rfl) | (simp only [alloc_size, upd_size] <;> omega) | fail) only [go_sem, reduceIte, Nat.reduceEqDiff, h, AV.bool.injEq, decide_eq_decide, decide_true]
  · simp (maxSteps := 2000000) (disch := first | omega | assumption | exact idP rfl | exact idP (bL rfl) | (simp only [alloc_size, upd_size] <;> omega) | fail) only [go_sem, reduceIte, Nat.reduceEqDiff, h, AV.bool.injEq, decide_eq_decide, decide_false, Bool.false_eq_true, false_and]
theorem s_l11Abs {n : Int} (h0 : -9223372036854775808 < n) (h1 : n ≤ 9223372036854775807) : ACall Try.prog n_Z48 [.int .i64 n] H (fun r H' => r = .int .i64 (n.natAbs : Int) ∧ H' = H) := by
  refine a_Z48 rfl ?_
  simp (maxSteps := 2000000) (disch := first | omega | assumption | exact idP rfl | exact idP (bL rfl) | (simp only [alloc_size, upd_size] <;> omega) | fail) only [go_sem, reduceIte, Nat.reduceEqDiff]
  refine condV_dec (fun h => ?_) (fun h => ?_)
  · simp (maxSteps := 2000000) (disch := first | omega | assumption | exact idP rfl | exact idP (bL rfl) | (simp only [alloc_size, upd_size] <;> omega) | fail) only [go_sem, reduceIte, Nat.reduceEqDiff, AV.int.injEq]
    omega
  · simp (maxSteps := 2000000) (disch := first | omega | assumption | exact idP rfl | exact idP (bL rfl) | (simp only [alloc_size, upd_size] <;> omega) | fail) only [go_sem, reduceIte, Nat.reduceEqDiff, AV.int.injEq]
    omega
theorem s_atomOf {n : Int} (h0 : -9223372036854775808 < n) (h1 : n ≤ 9223372036854775807) : ACall Try.prog n_Z7 [.int .i64 n] H (fun r H' => r = .int .i64 (n.natAbs : Int) ∧ H' = H) := by
  refine a_Z7 rfl ?_
  simp (maxSteps := 2000000) (disch := first | omega | assumption | exact idP rfl | exact idP (bL rfl) | (simp only [alloc_size, upd_size] <;> omega) | fail) only [go_sem, reduceIte, Nat.reduceEqDiff, AV.int.injEq]
  omega
theorem s_bit {b : Bool} : ACall Try.prog n_Z8 [.bool b] H (fun r H' => r = .int .i64 (if b then 1 else 0) ∧ H' = H) := by
  refine a_Z8 rfl ?_
  simp (maxSteps := 2000000) (disch := first | omega | assumption | exact idP rfl | exact idP (bL rfl) | (simp only [alloc_size, upd_size] <;> omega) | fail) only [go_sem, reduceIte, Nat.reduceEqDiff]
  refine condV_split (fun h => ?_) (fun h => ?_)
  · subst h; simp (maxSteps := 2000000) (disch := first | omega | assumption | exact idP rfl | exact idP (bL rfl) | (simp only [alloc_size, upd_size] <;> omega) | fail) only [go_sem, reduceIte, Nat.reduceEqDiff]
  · subst h; simp (maxSteps := 2000000) (disch := first | omega | assumption | exact idP rfl | exact idP (bL rfl) | (simp only [alloc_size, upd_size] <;> omega) | fail) only [go_sem, reduceIte, Nat.reduceEqDiff, Bool.false_eq_true, if_false]
def litOk (n atoms : Int) : Bool := decide (n ≠ 0 ∧ -atoms ≤ n ∧ n ≤ atoms)
theorem s_l11Lit {n atoms : Int} (h0 : 0 ≤ atoms) (h1 : atoms ≤ 700) : ACall Try.prog n_Z54 [.int .i64 n, .int .i64 atoms] H (fun r H' => r = .bool (litOk n atoms) ∧ H' = H) := by
  refine a_Z54 rfl ?_
  by_cases h : n = 0
  · simp (maxSteps := 2000000) (disch := first | omega | assumption | exact idP rfl | exact idP (bL rfl) | (simp only [alloc_size, upd_size] <;> omega) | fail) only [go_sem, reduceIte, Nat.reduceEqDiff, h, litOk, AV.bool.injEq, false_and]
  · simp (maxSteps := 2000000) (disch := first | omega | assumption | exact idP rfl | exact idP (bL rfl) | (simp only [alloc_size, upd_size] <;> omega) | fail) only [go_sem, reduceIte, Nat.reduceEqDiff, h]
    refine (s_l1In).mono ?_
    rintro r H' ⟨rfl, rfl⟩
    simp (maxSteps := 2000000) (disch := first | omega | assumption | exact idP rfl | exact idP (bL rfl) | (simp only [alloc_size, upd_size] <;> omega) | fail) only [go_sem, reduceIte, Nat.reduceEqDiff, AV.bool.injEq, litOk, decide_eq_decide, h]
    constructor <;> intro h3 <;> refine ⟨?_, ?_⟩ <;> omega
end Go.M2

namespace Go.M2
open Go.Proofs
variable {H : Heap}
theorem zeros_len {z : List AV} {n : Nat} (h : z.length = 1) : (zeros z n).length = n := by
  induction n with
  | zero => rfl
  | succ n ih => simp only [zeros, List.length_append, h, ih]; omega
theorem oneA_isS {α : Type} {sz : Nat} {E : Heap → α → List AV → Prop} {H : Heap} {v : AV} {xs : List α} (h : IsS sz E H v xs) : oneA v = true ∧ cellsOf v = some [v] := by
  obtain ⟨A, c, ex, k, rfl, _⟩ := h
  exact ⟨rfl, rfl⟩
def Tree (H : Heap) (lo hi : Nat) (r : AV) (xss : List (List Int)) : Prop :=
  ∃ (b : Nat) (l : List AV), r = .sl (some (b, 0)) xss.length xss.length true 1 ∧ lo ≤ b ∧ b < hi ∧ b < H.size ∧ H.blk b = .cells l true ∧ l.length = xss.length ∧
    ∀ j (hj : j < xss.length), ∃ bj, l[j]? = some (.sl (some (bj, 0)) xss[j].length xss[j].length true 1) ∧ lo ≤ bj ∧ bj < hi ∧ bj ≠ b ∧ bj < H.size ∧ ∃ zs : List Int, zs.length = xss[j].length ∧ H.blk bj = .cells (zs.map (AV.int .i64)) true
theorem Tree.le {H H' : Heap} {lo hi lo' hi' : Nat} {r : AV} {xss : List (List Int)} (h : Tree H lo hi r xss) (hl : Le H H') (h1 : lo' ≤ lo) (h2 : hi ≤ hi') : Tree H' lo' hi' r xss := by
  obtain ⟨b, l, rfl, q1, q2, q3, q4, q5, q6⟩ := h
  refine ⟨b, l, rfl, by omega, by omega, Nat.lt_of_lt_of_le q3 hl.1, hl.cells q3 q4, q5, fun j hj => ?_⟩
  obtain ⟨bj, r1, r2, r3, r4, r5, zs, r6, r7⟩ := q6 j hj
  exact ⟨bj, r1, by omega, by omega, r4, Nat.lt_of_lt_of_le r5 hl.1, zs, r6, hl.cells r5 r7⟩
def IsCl (H : Heap) (x : AV) (n : Int) (xss : List (List Int)) : Prop := ∃ v, x = .agg [.int .i64 n, v] ∧ IsII H v xss
theorem IsCl.le {H H' : Heap} {x : AV} {n : Int} {xss : List (List Int)} (h : IsCl H x n xss) (hl : Le H H') : IsCl H' x n xss := by
  obtain ⟨v, h1, h2⟩ := h
  exact ⟨v, h1, h2.le hl⟩
end Go.M2

namespace Go.M2
open Go.Proofs
variable {H : Heap}
end Go.M2

namespace Go.M2
open Go.Proofs
variable {H : Heap}
def okAt (atoms : Int) (xs : List Int) (j : Nat) (h : j < xs.length) : Prop := litOk xs[j] atoms = true ∧ (0 < j → xs[j - 1].natAbs < xs[j].natAbs)
def ClOk (atoms : Int) (xs : List Int) : Prop := ∀ j (h : j < xs.length), okAt atoms xs j h
theorem litOk_iff {n atoms : Int} : litOk n atoms = true ↔ n ≠ 0 ∧ -atoms ≤ n ∧ n ≤ atoms := by simp [litOk]
theorem s_specClauseValid {v : AV} {xs : List Int} {atoms : Int} (hv : IsI H v xs) (hl : xs.length ≤ 1048576) (h0 : 0 ≤ atoms) (h1 : atoms ≤ 700) :
    ACall Try.prog n_Z44 [v, .int .i64 atoms] H (fun r H' => H' = H ∧ ∃ b, r = .bool b ∧ (b = true ↔ ClOk atoms xs)) := by
  refine ACall.of fun R hR => a_Z44 rfl ?_
  obtain ⟨A, c, ex, k, rfl, hr⟩ := hv.parts
  simp (maxSteps := 2000000) (disch := first | omega | assumption | exact idP rfl | exact idP (bL rfl) | (simp only [alloc_size, upd_size] <;> omega) | fail) only [go_sem, reduceIte, Nat.reduceEqDiff]
  refine wp_loop_k (fun e H' => H' = H ∧ ∃ (i : Nat), i ≤ xs.length ∧ e 0 = .sl A xs.length c ex k ∧ e 1 = .int .i64 atoms ∧ e 5 = .int .i64 (i : Int) ∧ ∀ j (h : j < xs.length), j < i → okAt atoms xs j h) (fun e _ => ctr xs.length (e 5)) ?_ ?_
  · exact ⟨rfl, 0, Nat.zero_le _, by simp (maxSteps := 2000000) (disch := first | omega | assumption | exact idP rfl | exact idP (bL rfl) | (simp only [alloc_size, upd_size] <;> omega) | fail) only [go_sem, reduceIte, Nat.reduceEqDiff], by simp (maxSteps := 2000000) (disch := first | omega | assumption | exact idP rfl | exact idP (bL rfl) | (simp only [alloc_size, upd_size] <;> omega) | fail) only [go_sem, reduceIte, Nat.reduceEqDiff], by simp (maxSteps := 2000000) (disch := first | omega | assumption | exact idP rfl | exact idP (bL rfl) | (simp only [alloc_size, upd_size] <;> omega) | fail) only [go_sem, reduceIte, Nat.reduceEqDiff]; rfl, fun j _ h => by omega⟩
  · rintro e H1 ⟨rfl, i, hi, e0, e1, e5, hj⟩ K hK
    simp (maxSteps := 2000000) (disch := first | omega | assumption | exact idP rfl | exact idP (bL rfl) | (simp only [alloc_size, upd_size] <;> omega) | fail) only [go_sem, reduceIte, Nat.reduceEqDiff, e0, e1, e5]
    refine condV_dec (fun h => ?_) (fun h => ?_)
    · have hi' : i < xs.length := by omega
      have hg := hr i hi'
      rw [Nat.mul_one] at hg
      simp (maxSteps := 2000000) (disch := first | omega | assumption | exact idP rfl | exact idP (bL rfl) | (simp only [alloc_size, upd_size] <;> omega) | fail) only [go_sem, reduceIte, Nat.reduceEqDiff, e0, e1, e5, hg]
      refine (s_l11Lit h0 h1).mono ?_
      rintro r H2 ⟨rfl, rfl⟩
      cases hlit : litOk xs[i] atoms with
      | false =>
        simp (maxSteps := 2000000) (disch := first | omega | assumption | exact idP rfl | exact idP (bL rfl) | (simp only [alloc_size, upd_size] <;> omega) | fail) only [go_sem, reduceIte, Nat.reduceEqDiff]
        refine hR _ _ ⟨rfl, false, rfl, ?_⟩
        simp only [Bool.false_eq_true, false_iff]
        intro hc
        have := (hc i hi').1
        rw [hlit] at this; cases this
      | true =>
        have hb := litOk_iff.1 hlit
        by_cases hi0 : i = 0
        · have hneg : ¬ (0 : Int) < (i : Int) := by omega
          simp (maxSteps := 2000000) (disch := first | omega | assumption | exact idP rfl | exact idP (bL rfl) | (simp only [alloc_size, upd_size] <;> omega) | fail) only [go_sem, reduceIte, Nat.reduceEqDiff, e0, e1, e5, hneg]
          refine hK _ _ ⟨rfl, i + 1, by omega, by simp (maxSteps := 2000000) (disch := first | omega | assumption | exact idP rfl | exact idP (bL rfl) | (simp only [alloc_size, upd_size] <;> omega) | fail) only [go_sem, reduceIte, Nat.reduceEqDiff, e0], by simp (maxSteps := 2000000) (disch := first | omega | assumption | exact idP rfl | exact idP (bL rfl) | (simp only [alloc_size, upd_size] <;> omega) | fail) only [go_sem, reduceIte, Nat.reduceEqDiff, e1], by simp (maxSteps := 2000000) (disch := first | omega | assumption | exact idP rfl | exact idP (bL rfl) | (simp only [alloc_size, upd_size] <;> omega) | fail) only [go_sem, reduceIte, Nat.reduceEqDiff]; rfl, fun j hj1 hj2 => ?_⟩ (by simp (maxSteps := 2000000) (disch := first | omega | assumption | exact idP rfl | exact idP (bL rfl) | (simp only [alloc_size, upd_size] <;> omega) | fail) only [go_sem, reduceIte, Nat.reduceEqDiff, ctr_int, e5]; omega)
          obtain rfl : j = i := by omega
          exact ⟨hlit, fun h => by omega⟩
        · have hpos : (0 : Int) < (i : Int) := by omega
          have hsub : ((i : Int) - 1).toNat = i - 1 := by omega
          have hg2 := hr (i - 1) (by omega)
          rw [Nat.mul_one] at hg2
          have hb2 := litOk_iff.1 (hj (i - 1) (by omega) (by omega)).1
          simp (maxSteps := 2000000) (disch := first | omega | assumption | exact idP rfl | exact idP (bL rfl) | (simp only [alloc_size, upd_size] <;> omega) | fail) only [go_sem, reduceIte, Nat.reduceEqDiff, e0, e1, e5, hpos, hg, hsub, hg2]
          refine (s_l11Abs (n := xs[i]) (by omega) (by omega)).mono ?_
          rintro r H2 ⟨rfl, rfl⟩
          simp (maxSteps := 2000000) (disch := first | omega | assumption | exact idP rfl | exact idP (bL rfl) | (simp only [alloc_size, upd_size] <;> omega) | fail) only [go_sem, reduceIte, Nat.reduceEqDiff, e0, e1, e5, hsub, hg2]
          refine (s_l11Abs (n := xs[i - 1]) (by omega) (by omega)).mono ?_
          rintro r H2 ⟨rfl, rfl⟩
          simp (maxSteps := 2000000) (disch := first | omega | assumption | exact idP rfl | exact idP (bL rfl) | (simp only [alloc_size, upd_size] <;> omega) | fail) only [go_sem, reduceIte, Nat.reduceEqDiff, e0, e1, e5]
          refine condV_dec (fun h3 => ?_) (fun h3 => ?_)
          · simp (maxSteps := 2000000) (disch := first | omega | assumption | exact idP rfl | exact idP (bL rfl) | (simp only [alloc_size, upd_size] <;> omega) | fail) only [go_sem, reduceIte, Nat.reduceEqDiff]
            refine hR _ _ ⟨rfl, false, rfl, ?_⟩
            simp only [Bool.false_eq_true, false_iff]
            intro hc
            have := (hc i hi').2 (by omega)
            omega
          · simp (maxSteps := 2000000) (disch := first | omega | assumption | exact idP rfl | exact idP (bL rfl) | (simp only [alloc_size, upd_size] <;> omega) | fail) only [go_sem, reduceIte, Nat.reduceEqDiff, e0, e1, e5]
            refine hK _ _ ⟨rfl, i + 1, by omega, by simp (maxSteps := 2000000) (disch := first | omega | assumption | exact idP rfl | exact idP (bL rfl) | (simp only [alloc_size, upd_size] <;> omega) | fail) only [go_sem, reduceIte, Nat.reduceEqDiff, e0], by simp (maxSteps := 2000000) (disch := first | omega | assumption | exact idP rfl | exact idP (bL rfl) | (simp only [alloc_size, upd_size] <;> omega) | fail) only [go_sem, reduceIte, Nat.reduceEqDiff, e1], by simp (maxSteps := 2000000) (disch := first | omega | assumption | exact idP rfl | exact idP (bL rfl) | (simp only [alloc_size, upd_size] <;> omega) | fail) only [go_sem, reduceIte, Nat.reduceEqDiff]; rfl, fun j hj1 hj2 => ?_⟩ (by simp (maxSteps := 2000000) (disch := first | omega | assumption | exact idP rfl | exact idP (bL rfl) | (simp only [alloc_size, upd_size] <;> omega) | fail) only [go_sem, reduceIte, Nat.reduceEqDiff, ctr_int, e5]; omega)
            by_cases hji : j = i
            · subst hji; exact ⟨hlit, fun _ => by omega⟩
            · exact hj j hj1 (by omega)
    · simp (maxSteps := 2000000) (disch := first | omega | assumption | exact idP rfl | exact idP (bL rfl) | (simp only [alloc_size, upd_size] <;> omega) | fail) only [go_sem, reduceIte, Nat.reduceEqDiff, e1]
      refine s_l1In.mono ?_
      rintro r H2 ⟨rfl, rfl⟩
      simp (maxSteps := 2000000) (disch := first | omega | assumption | exact idP rfl | exact idP (bL rfl) | (simp only [alloc_size, upd_size] <;> omega) | fail) only [go_sem, reduceIte, Nat.reduceEqDiff]
      refine hR _ _ ⟨rfl, _, rfl, ?_⟩
      simp only [decide_eq_true_eq]
      exact ⟨fun _ j hj1 => hj j hj1 (by omega), fun _ => by omega⟩
end Go.M2
