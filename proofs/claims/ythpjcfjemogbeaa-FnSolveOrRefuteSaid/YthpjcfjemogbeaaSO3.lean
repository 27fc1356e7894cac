/- The functions, turned for the memory: printed by program. -/
import Derived.Test.YthpjcfjemogbeaaSO2
import Derived.Test.YthpjcfjemogbeaaProg
import Derived.KernelRfl
set_option linter.unusedVariables false
set_option linter.unusedSimpArgs false
set_option maxRecDepth 10000
set_option maxHeartbeats 4000000
namespace Go.M2
open Go.Proofs
variable {P : Program} {Q : Post} {e : Env} {H : Heap} {args : List AV} {R : AV → Heap → Prop}
theorem mixed : Try.prog.follows .mixedOrders = true := by kernel_rfl
def n_Z75 : Nat := 66
def n_Z77 : Nat := 99
def n_Z76 : Nat := 101
def n_Z73 : Nat := 120
def n_Z57 : Nat := 106
def n_Z58 : Nat := 121
def n_Z64 : Nat := 114
def n_Z59 : Nat := 102
def n_Z65 : Nat := 100
def n_Z69 : Nat := 65
def n_Z54 : Nat := 39
def n_Z19 : Nat := 59
def n_Z9 : Nat := 104
def n_Z3 : Nat := 70
def n_Z4_1 : Nat := 69
def n_Z34 : Nat := 103
def n_Z32 : Nat := 68
def n_Z4 : Nat := 27
def n_Z10 : Nat := 107
def n_Z22 : Nat := 72
def n_Z15 : Nat := 73
def n_Z29 : Nat := 136
def n_Z30 : Nat := 125
def n_Z27 : Nat := 155
def n_Z28 : Nat := 156
def n_Z26 : Nat := 140
def n_Z40 : Nat := 147
def n_Z50 : Nat := 158
def n_Z39 : Nat := 148
def n_Z43 : Nat := 159
def n_Z51 : Nat := 160
def n_Z37 : Nat := 149
def n_Z44 : Nat := 163
def n_Z42 : Nat := 162
def n_Z41 : Nat := 161
def n_Z38 : Nat := 150
def n_Z49 : Nat := 151
def n_Z45 : Nat := 152
def n_Z47 : Nat := 153
def n_Z46 : Nat := 154
def n_Z48 : Nat := 139
def n_Z36 : Nat := 126
def n_Z2 : Nat := 141
def n_Z0 : Nat := 129
def n_Z1 : Nat := 128
def n_Z12_1 : Nat := 127
def n_Z31 : Nat := 130
def n_Z14 : Nat := 74
def n_Z12 : Nat := 96
def n_Z17 : Nat := 98
def n_Z18 : Nat := 64
def n_Z7 : Nat := 31
def n_Z72 : Nat := 55
def n_Z63 : Nat := 105
def n_Z52 : Nat := 71
def n_Z53 : Nat := 28
def n_Z61 : Nat := 131
def n_Z62 : Nat := 142
def n_Z60 : Nat := 132
def n_Z66 : Nat := 133
def n_Z71 : Nat := 134
def n_Z74 : Nat := 88
def n_Z67 : Nat := 135
def n_Z70 : Nat := 97
def n_Z68 : Nat := 63
def n_Z56 : Nat := 30
def n_Z13 : Nat := 67
def n_Z6 : Nat := 25
def n_Z55 : Nat := 26
def n_Z25 : Nat := 40
def n_Z35 : Nat := 137
def n_Z33 : Nat := 108
def n_Z11_1 : Nat := 109
def n_Z11 : Nat := 78
def n_Z20 : Nat := 112
def n_Z23_1_1 : Nat := 111
def n_Z23_1 : Nat := 110
def n_Z23 : Nat := 79
def n_Z8 : Nat := 42
def n_Z16 : Nat := 75
def n_Z5_1 : Nat := 77
def n_Z21 : Nat := 76
def n_Z5 : Nat := 41
def n_Z24 : Nat := 9
@[go_sem] def l_Z75_0 : List GOp := [⟨(some 2), .mv (.c (.ptr none)), none⟩]
def Z75_0 : IR := .ops l_Z75_0
@[go_sem] theorem w_Z75_0 : wp P Z75_0 Q e H = wpL P l_Z75_0 (Q .normal) e H := idE rfl
@[go_sem] def l_Z75_1 : List GOp := [⟨(some 3), .mv (.t 0), none⟩,
    ⟨(some 4), .len (.t 3), none⟩,
    ⟨(some 5), .bin .gtr (.t 4) (.c (.int .i64 2000)), none⟩]
def Z75_1 : IR := .ops l_Z75_1
@[go_sem] theorem w_Z75_1 : wp P Z75_1 Q e H = wpL P l_Z75_1 (Q .normal) e H := idE rfl
@[go_sem] def l_Z75_2 : List GOp := [⟨(some 6), .mv (.t 0), none⟩,
    ⟨(some 7), .slc 1 (.t 6) none (some (.c (.int .i64 2000))) none, none⟩,
    ⟨(some 0), .mv (.t 7), none⟩]
def Z75_2 : IR := .ops l_Z75_2
@[go_sem] theorem w_Z75_2 : wp P Z75_2 Q e H = wpL P l_Z75_2 (Q .normal) e H := idE rfl
def Z75_3 : IR := .cond (.t 5) Z75_2 .skip
@[go_sem] theorem w_Z75_3 : wp P Z75_3 Q e H = condW P ((.t 5) : X) Z75_2 .skip Q e H := idE rfl
@[go_sem] def l_Z75_4 : List GOp := [⟨(some 8), .mv (.t 0), none⟩,
    ⟨(some 9), .bld [(.sl none 0 0 true 0), (.int .i64 0)] [(0, 1, (.t 8))], none⟩,
    ⟨(some 10), .box (.t 9), none⟩,
    ⟨(some 2), .mv (.t 10), none⟩]
def Z75_4 : IR := .ops l_Z75_4
@[go_sem] theorem w_Z75_4 : wp P Z75_4 Q e H = wpL P l_Z75_4 (Q .normal) e H := idE rfl
def F_Z75 : IFn := ⟨1, 11, [.t 2], (.seq Z75_0 (.seq (.seq Z75_1 Z75_3) (.seq Z75_4 .ret)))⟩
theorem c_Z75 : compFn Try.prog [(0, [], []), (1, [], []), (2, [], []), (3, [], [])] Try.f66 = some F_Z75 := by kernel_rfl
theorem a_Z75 (hl : args.length = 1) (h : wp Try.prog (.seq Z75_0 (.seq (.seq Z75_1 Z75_3) (.seq Z75_4 .ret))) (postQ [.t 2] R) (env0 args) H) : ACall Try.prog n_Z75 args H R :=
  acall_of_wp mixed Try.func66 c_Z75 (by kernel_rfl) hl h
@[go_sem] def l_Z77_0 : List GOp := [⟨(some 4), .mv (.c (.int .i64 0)), none⟩]
def Z77_0 : IR := .ops l_Z77_0
@[go_sem] theorem w_Z77_0 : wp P Z77_0 Q e H = wpL P l_Z77_0 (Q .normal) e H := idE rfl
@[go_sem] def l_Z77_1 : List GOp := [⟨(some 7), .mv (.t 0), none⟩,
    ⟨(some 8), .mv (.t 0), none⟩,
    ⟨(some 9), .nilck (.t 8), none⟩,
    ⟨(some 10), .faddr (.t 9) 1, none⟩,
    ⟨(some 11), .load (.t 10) 1 false, none⟩,
    ⟨(some 12), .bin .add (.t 11) (.c (.int .i64 1)), none⟩,
    ⟨(some 13), .nilck (.t 7), none⟩,
    ⟨(some 14), .faddr (.t 13) 1, none⟩,
    ⟨none, .store (.t 14) 1 (.t 12), none⟩]
def Z77_1 : IR := .ops l_Z77_1
@[go_sem] theorem w_Z77_1 : wp P Z77_1 Q e H = wpL P l_Z77_1 (Q .normal) e H := idE rfl
@[go_sem] def l_Z77_2 : List GOp := [⟨(some 15), .mv (.t 1), none⟩,
    ⟨(some 16), .bin .lss (.t 15) (.c (.int .i64 1)), none⟩,
    ⟨(some 17), .mv (.t 16), none⟩,
    ⟨(some 18), .mv (.t 0), (some (17, false))⟩,
    ⟨(some 19), .nilck (.t 18), (some (17, false))⟩,
    ⟨(some 20), .faddr (.t 19) 0, (some (17, false))⟩,
    ⟨(some 21), .load (.t 20) 1 false, (some (17, false))⟩,
    ⟨(some 22), .len (.t 21), (some (17, false))⟩,
    ⟨(some 23), .bin .eql (.t 22) (.c (.int .i64 0)), (some (17, false))⟩,
    ⟨(some 24), .pick (.t 17) (.c (.bool true)) (.t 23), none⟩]
def Z77_2 : IR := .ops l_Z77_2
@[go_sem] theorem w_Z77_2 : wp P Z77_2 Q e H = wpL P l_Z77_2 (Q .normal) e H := idE rfl
@[go_sem] def l_Z77_3 : List GOp := [⟨(some 4), .mv (.c (.int .i64 0)), none⟩]
def Z77_3 : IR := .ops l_Z77_3
@[go_sem] theorem w_Z77_3 : wp P Z77_3 Q e H = wpL P l_Z77_3 (Q .normal) e H := idE rfl
def Z77_4 : IR := .cond (.t 24) (.seq Z77_3 .ret) .skip
@[go_sem] theorem w_Z77_4 : wp P Z77_4 Q e H = condW P ((.t 24) : X) (.seq Z77_3 .ret) .skip Q e H := idE rfl
@[go_sem] def l_Z77_5 : List GOp := [⟨(some 25), .mv (.t 0), none⟩,
    ⟨(some 26), .nilck (.t 25), none⟩,
    ⟨(some 27), .faddr (.t 26) 1, none⟩,
    ⟨(some 28), .load (.t 27) 1 false, none⟩,
    ⟨(some 29), .bin .sub (.t 28) (.c (.int .i64 1)), none⟩,
    ⟨(some 5), .mv (.t 29), none⟩]
def Z77_5 : IR := .ops l_Z77_5
@[go_sem] theorem w_Z77_5 : wp P Z77_5 Q e H = wpL P l_Z77_5 (Q .normal) e H := idE rfl
@[go_sem] def l_Z77_6 : List GOp := [⟨(some 30), .mv (.t 5), none⟩,
    ⟨(some 31), .mv (.t 0), none⟩,
    ⟨(some 32), .nilck (.t 31), none⟩,
    ⟨(some 33), .faddr (.t 32) 0, none⟩,
    ⟨(some 34), .load (.t 33) 1 false, none⟩,
    ⟨(some 35), .len (.t 34), none⟩,
    ⟨(some 36), .bin .lss (.t 30) (.t 35), none⟩]
def Z77_6 : IR := .ops l_Z77_6
@[go_sem] theorem w_Z77_6 : wp P Z77_6 Q e H = wpL P l_Z77_6 (Q .normal) e H := idE rfl
@[go_sem] def l_Z77_7 : List GOp := [⟨(some 37), .mv (.t 0), none⟩,
    ⟨(some 38), .nilck (.t 37), none⟩,
    ⟨(some 39), .faddr (.t 38) 0, none⟩,
    ⟨(some 40), .load (.t 39) 1 false, none⟩,
    ⟨(some 41), .mv (.t 5), none⟩,
    ⟨(some 42), .iaddr (.t 40) (.t 41) 1, none⟩,
    ⟨(some 43), .load (.t 42) 1 false, none⟩,
    ⟨(some 44), .cvi .i64 (.t 43), none⟩,
    ⟨(some 45), .mv (.t 1), none⟩,
    ⟨(some 46), .bin .rem (.t 44) (.t 45), none⟩,
    ⟨(some 4), .mv (.t 46), none⟩]
def Z77_7 : IR := .ops l_Z77_7
@[go_sem] theorem w_Z77_7 : wp P Z77_7 Q e H = wpL P l_Z77_7 (Q .normal) e H := idE rfl
def Z77_8 : IR := .cond (.t 36) (.seq Z77_7 .ret) .skip
@[go_sem] theorem w_Z77_8 : wp P Z77_8 Q e H = condW P ((.t 36) : X) (.seq Z77_7 .ret) .skip Q e H := idE rfl
def l_Z77_9 : List GOp := [⟨(some 47), .mv (.t 0), none⟩,
    ⟨(some 48), .nilck (.t 47), none⟩,
    ⟨(some 49), .faddr (.t 48) 0, none⟩,
    ⟨(some 50), .load (.t 49) 1 false, none⟩,
    ⟨(some 51), .mv (.t 5), none⟩,
    ⟨(some 52), .mv (.t 0), none⟩,
    ⟨(some 53), .nilck (.t 52), none⟩,
    ⟨(some 54), .faddr (.t 53) 0, none⟩,
    ⟨(some 55), .load (.t 54) 1 false, none⟩,
    ⟨(some 56), .len (.t 55), none⟩,
    ⟨(some 57), .bin .rem (.t 51) (.t 56), none⟩,
    ⟨(some 58), .iaddr (.t 50) (.t 57) 1, none⟩,
    ⟨(some 59), .load (.t 58) 1 false, none⟩,
    ⟨(some 60), .cvi .i64 (.t 59), none⟩,
    ⟨(some 61), .bin .mul (.t 60) (.c (.int .i64 131)), none⟩,
    ⟨(some 62), .mv (.t 0), none⟩,
    ⟨(some 63), .nilck (.t 62), none⟩,
    ⟨(some 64), .faddr (.t 63) 0, none⟩,
    ⟨(some 65), .load (.t 64) 1 false, none⟩,
    ⟨(some 66), .mv (.t 5), none⟩,
    ⟨(some 67), .bin .mul (.t 66) (.c (.int .i64 7)), none⟩,
    ⟨(some 68), .bin .add (.t 67) (.c (.int .i64 3)), none⟩,
    ⟨(some 69), .mv (.t 0), none⟩,
    ⟨(some 70), .nilck (.t 69), none⟩,
    ⟨(some 71), .faddr (.t 70) 0, none⟩,
    ⟨(some 72), .load (.t 71) 1 false, none⟩,
    ⟨(some 73), .len (.t 72), none⟩,
    ⟨(some 74), .bin .rem (.t 68) (.t 73), none⟩,
    ⟨(some 75), .iaddr (.t 65) (.t 74) 1, none⟩,
    ⟨(some 76), .load (.t 75) 1 false, none⟩,
    ⟨(some 77), .cvi .i64 (.t 76), none⟩,
    ⟨(some 78), .bin .mul (.t 77) (.c (.int .i64 1117)), none⟩,
    ⟨(some 79), .bin .add (.t 61) (.t 78), none⟩,
    ⟨(some 80), .mv (.t 5), none⟩,
    ⟨(some 81), .bin .mul (.t 80) (.c (.int .i64 29)), none⟩,
    ⟨(some 82), .bin .add (.t 79) (.t 81), none⟩,
    ⟨(some 83), .mv (.t 5), none⟩,
    ⟨(some 84), .mv (.t 0), none⟩,
    ⟨(some 85), .nilck (.t 84), none⟩,
    ⟨(some 86), .faddr (.t 85) 0, none⟩,
    ⟨(some 87), .load (.t 86) 1 false, none⟩,
    ⟨(some 88), .len (.t 87), none⟩,
    ⟨(some 89), .bin .quo (.t 83) (.t 88), none⟩,
    ⟨(some 90), .bin .mul (.t 89) (.c (.int .i64 53)), none⟩,
    ⟨(some 91), .bin .add (.t 82) (.t 90), none⟩,
    ⟨(some 6), .mv (.t 91), none⟩]
@[go_sem] theorem g_Z77_9_0 : gAt l_Z77_9 0 = ⟨(some 47), .mv (.t 0), none⟩ := idE rfl
@[go_sem] theorem g_Z77_9_1 : gAt l_Z77_9 1 = ⟨(some 48), .nilck (.t 47), none⟩ := idE rfl
@[go_sem] theorem g_Z77_9_2 : gAt l_Z77_9 2 = ⟨(some 49), .faddr (.t 48) 0, none⟩ := idE rfl
@[go_sem] theorem g_Z77_9_3 : gAt l_Z77_9 3 = ⟨(some 50), .load (.t 49) 1 false, none⟩ := idE rfl
@[go_sem] theorem g_Z77_9_4 : gAt l_Z77_9 4 = ⟨(some 51), .mv (.t 5), none⟩ := idE rfl
@[go_sem] theorem g_Z77_9_5 : gAt l_Z77_9 5 = ⟨(some 52), .mv (.t 0), none⟩ := idE rfl
@[go_sem] theorem g_Z77_9_6 : gAt l_Z77_9 6 = ⟨(some 53), .nilck (.t 52), none⟩ := idE rfl
@[go_sem] theorem g_Z77_9_7 : gAt l_Z77_9 7 = ⟨(some 54), .faddr (.t 53) 0, none⟩ := idE rfl
@[go_sem] theorem g_Z77_9_8 : gAt l_Z77_9 8 = ⟨(some 55), .load (.t 54) 1 false, none⟩ := idE rfl
@[go_sem] theorem g_Z77_9_9 : gAt l_Z77_9 9 = ⟨(some 56), .len (.t 55), none⟩ := idE rfl
@[go_sem] theorem g_Z77_9_10 : gAt l_Z77_9 10 = ⟨(some 57), .bin .rem (.t 51) (.t 56), none⟩ := idE rfl
@[go_sem] theorem g_Z77_9_11 : gAt l_Z77_9 11 = ⟨(some 58), .iaddr (.t 50) (.t 57) 1, none⟩ := idE rfl
@[go_sem] theorem g_Z77_9_12 : gAt l_Z77_9 12 = ⟨(some 59), .load (.t 58) 1 false, none⟩ := idE rfl
@[go_sem] theorem g_Z77_9_13 : gAt l_Z77_9 13 = ⟨(some 60), .cvi .i64 (.t 59), none⟩ := idE rfl
@[go_sem] theorem g_Z77_9_14 : gAt l_Z77_9 14 = ⟨(some 61), .bin .mul (.t 60) (.c (.int .i64 131)), none⟩ := idE rfl
@[go_sem] theorem g_Z77_9_15 : gAt l_Z77_9 15 = ⟨(some 62), .mv (.t 0), none⟩ := idE rfl
@[go_sem] theorem g_Z77_9_16 : gAt l_Z77_9 16 = ⟨(some 63), .nilck (.t 62), none⟩ := idE rfl
@[go_sem] theorem g_Z77_9_17 : gAt l_Z77_9 17 = ⟨(some 64), .faddr (.t 63) 0, none⟩ := idE rfl
@[go_sem] theorem g_Z77_9_18 : gAt l_Z77_9 18 = ⟨(some 65), .load (.t 64) 1 false, none⟩ := idE rfl
@[go_sem] theorem g_Z77_9_19 : gAt l_Z77_9 19 = ⟨(some 66), .mv (.t 5), none⟩ := idE rfl
@[go_sem] theorem g_Z77_9_20 : gAt l_Z77_9 20 = ⟨(some 67), .bin .mul (.t 66) (.c (.int .i64 7)), none⟩ := idE rfl
@[go_sem] theorem g_Z77_9_21 : gAt l_Z77_9 21 = ⟨(some 68), .bin .add (.t 67) (.c (.int .i64 3)), none⟩ := idE rfl
@[go_sem] theorem g_Z77_9_22 : gAt l_Z77_9 22 = ⟨(some 69), .mv (.t 0), none⟩ := idE rfl
@[go_sem] theorem g_Z77_9_23 : gAt l_Z77_9 23 = ⟨(some 70), .nilck (.t 69), none⟩ := idE rfl
@[go_sem] theorem g_Z77_9_24 : gAt l_Z77_9 24 = ⟨(some 71), .faddr (.t 70) 0, none⟩ := idE rfl
@[go_sem] theorem g_Z77_9_25 : gAt l_Z77_9 25 = ⟨(some 72), .load (.t 71) 1 false, none⟩ := idE rfl
@[go_sem] theorem g_Z77_9_26 : gAt l_Z77_9 26 = ⟨(some 73), .len (.t 72), none⟩ := idE rfl
@[go_sem] theorem g_Z77_9_27 : gAt l_Z77_9 27 = ⟨(some 74), .bin .rem (.t 68) (.t 73), none⟩ := idE rfl
@[go_sem] theorem g_Z77_9_28 : gAt l_Z77_9 28 = ⟨(some 75), .iaddr (.t 65) (.t 74) 1, none⟩ := idE rfl
@[go_sem] theorem g_Z77_9_29 : gAt l_Z77_9 29 = ⟨(some 76), .load (.t 75) 1 false, none⟩ := idE rfl
@[go_sem] theorem g_Z77_9_30 : gAt l_Z77_9 30 = ⟨(some 77), .cvi .i64 (.t 76), none⟩ := idE rfl
@[go_sem] theorem g_Z77_9_31 : gAt l_Z77_9 31 = ⟨(some 78), .bin .mul (.t 77) (.c (.int .i64 1117)), none⟩ := idE rfl
@[go_sem] theorem g_Z77_9_32 : gAt l_Z77_9 32 = ⟨(some 79), .bin .add (.t 61) (.t 78), none⟩ := idE rfl
@[go_sem] theorem g_Z77_9_33 : gAt l_Z77_9 33 = ⟨(some 80), .mv (.t 5), none⟩ := idE rfl
@[go_sem] theorem g_Z77_9_34 : gAt l_Z77_9 34 = ⟨(some 81), .bin .mul (.t 80) (.c (.int .i64 29)), none⟩ := idE rfl
@[go_sem] theorem g_Z77_9_35 : gAt l_Z77_9 35 = ⟨(some 82), .bin .add (.t 79) (.t 81), none⟩ := idE rfl
@[go_sem] theorem g_Z77_9_36 : gAt l_Z77_9 36 = ⟨(some 83), .mv (.t 5), none⟩ := idE rfl
@[go_sem] theorem g_Z77_9_37 : gAt l_Z77_9 37 = ⟨(some 84), .mv (.t 0), none⟩ := idE rfl
@[go_sem] theorem g_Z77_9_38 : gAt l_Z77_9 38 = ⟨(some 85), .nilck (.t 84), none⟩ := idE rfl
@[go_sem] theorem g_Z77_9_39 : gAt l_Z77_9 39 = ⟨(some 86), .faddr (.t 85) 0, none⟩ := idE rfl
@[go_sem] theorem g_Z77_9_40 : gAt l_Z77_9 40 = ⟨(some 87), .load (.t 86) 1 false, none⟩ := idE rfl
@[go_sem] theorem g_Z77_9_41 : gAt l_Z77_9 41 = ⟨(some 88), .len (.t 87), none⟩ := idE rfl
@[go_sem] theorem g_Z77_9_42 : gAt l_Z77_9 42 = ⟨(some 89), .bin .quo (.t 83) (.t 88), none⟩ := idE rfl
@[go_sem] theorem g_Z77_9_43 : gAt l_Z77_9 43 = ⟨(some 90), .bin .mul (.t 89) (.c (.int .i64 53)), none⟩ := idE rfl
@[go_sem] theorem g_Z77_9_44 : gAt l_Z77_9 44 = ⟨(some 91), .bin .add (.t 82) (.t 90), none⟩ := idE rfl
@[go_sem] theorem g_Z77_9_45 : gAt l_Z77_9 45 = ⟨(some 6), .mv (.t 91), none⟩ := idE rfl
def Z77_9 : IR := .dops l_Z77_9 [(0, []), (1, []), (2, []), (3, []), (4, []), (5, []), (6, []), (7, []), (8, []), (9, []), (10, []), (11, []), (12, []), (13, []), (14, []), (15, []), (16, []), (17, []), (18, []), (19, []), (20, []), (21, []), (22, []), (23, []), (24, []), (25, []), (26, []), (27, []), (28, []), (29, []), (30, []), (31, []), (32, []), (33, []), (34, []), (35, []), (36, []), (37, []), (38, []), (39, []), (40, []), (41, []), (42, []), (43, []), (44, []), (45, [])]
@[go_sem] theorem w_Z77_9 : wp P Z77_9 Q e H = wpD P l_Z77_9 [(0, []), (1, []), (2, []), (3, []), (4, []), (5, []), (6, []), (7, []), (8, []), (9, []), (10, []), (11, []), (12, []), (13, []), (14, []), (15, []), (16, []), (17, []), (18, []), (19, []), (20, []), (21, []), (22, []), (23, []), (24, []), (25, []), (26, []), (27, []), (28, []), (29, []), (30, []), (31, []), (32, []), (33, []), (34, []), (35, []), (36, []), (37, []), (38, []), (39, []), (40, []), (41, []), (42, []), (43, []), (44, []), (45, [])] (Q .normal) e H := idE rfl
@[go_sem] def l_Z77_10 : List GOp := [⟨(some 92), .mv (.t 6), none⟩,
    ⟨(some 93), .mv (.t 6), none⟩,
    ⟨(some 94), .bin .quo (.t 93) (.c (.int .i64 64)), none⟩,
    ⟨(some 95), .bin .xor (.t 92) (.t 94), none⟩,
    ⟨(some 6), .mv (.t 95), none⟩]
def Z77_10 : IR := .ops l_Z77_10
@[go_sem] theorem w_Z77_10 : wp P Z77_10 Q e H = wpL P l_Z77_10 (Q .normal) e H := idE rfl
@[go_sem] def l_Z77_11 : List GOp := [⟨(some 96), .mv (.t 6), none⟩,
    ⟨(some 97), .mv (.t 1), none⟩,
    ⟨(some 98), .bin .rem (.t 96) (.t 97), none⟩,
    ⟨(some 4), .mv (.t 98), none⟩]
def Z77_11 : IR := .ops l_Z77_11
@[go_sem] theorem w_Z77_11 : wp P Z77_11 Q e H = wpL P l_Z77_11 (Q .normal) e H := idE rfl
def F_Z77 : IFn := ⟨2, 99, [.t 4], (.seq Z77_0 (.seq Z77_1 (.seq (.seq Z77_2 Z77_4) (.seq Z77_5 (.seq (.seq Z77_6 Z77_8) (.seq Z77_9 (.seq Z77_10 (.seq Z77_11 .ret))))))))⟩
theorem c_Z77 : compFn Try.prog [(0, [], []), (1, [], []), (2, [], []), (3, [], []), (4, [], []), (5, [], []), (6, [], []), (7, [(0, []), (1, []), (2, []), (3, []), (4, []), (5, []), (6, []), (7, []), (8, []), (9, []), (10, []), (11, []), (12, []), (13, []), (14, []), (15, []), (16, []), (17, []), (18, []), (19, []), (20, []), (21, []), (22, []), (23, []), (24, []), (25, []), (26, []), (27, []), (28, []), (29, []), (30, []), (31, []), (32, []), (33, []), (34, []), (35, []), (36, []), (37, []), (38, []), (39, []), (40, []), (41, []), (42, []), (43, []), (44, []), (45, [])], []), (8, [], []), (9, [], [])] Try.f99 = some F_Z77 := by kernel_rfl
theorem a_Z77 (hl : args.length = 2) (h : wp Try.prog (.seq Z77_0 (.seq Z77_1 (.seq (.seq Z77_2 Z77_4) (.seq Z77_5 (.seq (.seq Z77_6 Z77_8) (.seq Z77_9 (.seq Z77_10 (.seq Z77_11 .ret)))))))) (postQ [.t 4] R) (env0 args) H) : ACall Try.prog n_Z77 args H R :=
  acall_of_wp mixed Try.func99 c_Z77 (by kernel_rfl) hl h
@[go_sem] def l_Z76_0 : List GOp := [⟨(some 4), .mv (.c (.int .i64 0)), none⟩]
def Z76_0 : IR := .ops l_Z76_0
@[go_sem] theorem w_Z76_0 : wp P Z76_0 Q e H = wpL P l_Z76_0 (Q .normal) e H := idE rfl
@[go_sem] def l_Z76_1 : List GOp := [⟨(some 5), .mv (.t 1), none⟩,
    ⟨(some 6), .mv (.t 0), none⟩,
    ⟨(some 7), .mv (.t 1), none⟩,
    ⟨(some 8), .len (.t 7), none⟩,
    ⟨(some 9), .call (n_Z77) [(.t 6), (.t 8)], none⟩,
    ⟨(some 10), .iaddr (.t 5) (.t 9) 1, none⟩,
    ⟨(some 11), .load (.t 10) 1 false, none⟩,
    ⟨(some 4), .mv (.t 11), none⟩]
def Z76_1 : IR := .ops l_Z76_1
@[go_sem] theorem w_Z76_1 : wp P Z76_1 Q e H = wpL P l_Z76_1 (Q .normal) e H := idE rfl
def F_Z76 : IFn := ⟨2, 12, [.t 4], (.seq Z76_0 (.seq Z76_1 .ret))⟩
theorem c_Z76 : compFn Try.prog [(0, [], []), (1, [], [])] Try.f101 = some F_Z76 := by kernel_rfl
theorem a_Z76 (hl : args.length = 2) (h : wp Try.prog (.seq Z76_0 (.seq Z76_1 .ret)) (postQ [.t 4] R) (env0 args) H) : ACall Try.prog n_Z76 args H R :=
  acall_of_wp mixed Try.func101 c_Z76 (by kernel_rfl) hl h
@[go_sem] def l_Z73_0 : List GOp := [⟨(some 4), .mv (.c (.bool false)), none⟩]
def Z73_0 : IR := .ops l_Z73_0
@[go_sem] theorem w_Z73_0 : wp P Z73_0 Q e H = wpL P l_Z73_0 (Q .normal) e H := idE rfl
@[go_sem] def l_Z73_1 : List GOp := [⟨(some 5), .mv (.c (.int .i64 0)), none⟩]
def Z73_1 : IR := .ops l_Z73_1
@[go_sem] theorem w_Z73_1 : wp P Z73_1 Q e H = wpL P l_Z73_1 (Q .normal) e H := idE rfl
@[go_sem] def l_Z73_2 : List GOp := [⟨(some 6), .mv (.t 5), none⟩,
    ⟨(some 7), .mv (.t 0), none⟩,
    ⟨(some 8), .len (.t 7), none⟩,
    ⟨(some 9), .bin .lss (.t 6) (.t 8), none⟩]
def Z73_2 : IR := .ops l_Z73_2
@[go_sem] theorem w_Z73_2 : wp P Z73_2 Q e H = wpL P l_Z73_2 (Q .normal) e H := idE rfl
def Z73_3 : IR := .cond (.t 9) .skip (.exit 0)
@[go_sem] theorem w_Z73_3 : wp P Z73_3 Q e H = condW P ((.t 9) : X) .skip (.exit 0) Q e H := idE rfl
@[go_sem] def l_Z73_4 : List GOp := [⟨(some 12), .mv (.t 0), none⟩,
    ⟨(some 13), .mv (.t 5), none⟩,
    ⟨(some 14), .iaddr (.t 12) (.t 13) 1, none⟩,
    ⟨(some 15), .load (.t 14) 1 false, none⟩,
    ⟨(some 16), .mv (.t 1), none⟩,
    ⟨(some 17), .bin .eql (.t 15) (.t 16), none⟩]
def Z73_4 : IR := .ops l_Z73_4
@[go_sem] theorem w_Z73_4 : wp P Z73_4 Q e H = wpL P l_Z73_4 (Q .normal) e H := idE rfl
@[go_sem] def l_Z73_5 : List GOp := [⟨(some 4), .mv (.c (.bool true)), none⟩]
def Z73_5 : IR := .ops l_Z73_5
@[go_sem] theorem w_Z73_5 : wp P Z73_5 Q e H = wpL P l_Z73_5 (Q .normal) e H := idE rfl
def Z73_6 : IR := .cond (.t 17) (.seq Z73_5 .ret) .skip
@[go_sem] theorem w_Z73_6 : wp P Z73_6 Q e H = condW P ((.t 17) : X) (.seq Z73_5 .ret) .skip Q e H := idE rfl
def Z73_7 : IR := .block 1 (.seq Z73_4 Z73_6)
@[go_sem] theorem w_Z73_7 : wp P Z73_7 Q e H = wp P (.seq Z73_4 Z73_6) (blockQ 1 Q) e H := idE rfl
@[go_sem] def l_Z73_8 : List GOp := [⟨(some 10), .mv (.t 5), none⟩,
    ⟨(some 11), .bin .add (.t 10) (.c (.int .i64 1)), none⟩,
    ⟨(some 5), .mv (.t 11), none⟩]
def Z73_8 : IR := .ops l_Z73_8
@[go_sem] theorem w_Z73_8 : wp P Z73_8 Q e H = wpL P l_Z73_8 (Q .normal) e H := idE rfl
def Z73_9 : IR := .loop (.seq (.seq Z73_2 Z73_3) (.seq Z73_7 Z73_8))
def Z73_10 : IR := .block 0 Z73_9
@[go_sem] theorem w_Z73_10 : wp P Z73_10 Q e H = wp P Z73_9 (blockQ 0 Q) e H := idE rfl
@[go_sem] def l_Z73_11 : List GOp := [⟨(some 4), .mv (.c (.bool false)), none⟩]
def Z73_11 : IR := .ops l_Z73_11
@[go_sem] theorem w_Z73_11 : wp P Z73_11 Q e H = wpL P l_Z73_11 (Q .normal) e H := idE rfl
def F_Z73 : IFn := ⟨2, 18, [.t 4], (.seq Z73_0 (.seq (.seq Z73_1 Z73_10) (.seq Z73_11 .ret)))⟩
theorem c_Z73 : compFn Try.prog [(0, [], []), (1, [], []), (2, [], []), (4, [], []), (5, [], []), (3, [], []), (6, [], [])] Try.f120 = some F_Z73 := by kernel_rfl
theorem a_Z73 (hl : args.length = 2) (h : wp Try.prog (.seq Z73_0 (.seq (.seq Z73_1 Z73_10) (.seq Z73_11 .ret))) (postQ [.t 4] R) (env0 args) H) : ACall Try.prog n_Z73 args H R :=
  acall_of_wp mixed Try.func120 c_Z73 (by kernel_rfl) hl h
@[go_sem] def l_Z57_0 : List GOp := [⟨(some 2), .mv (.c (.int .i64 0)), none⟩]
def Z57_0 : IR := .ops l_Z57_0
@[go_sem] theorem w_Z57_0 : wp P Z57_0 Q e H = wpL P l_Z57_0 (Q .normal) e H := idE rfl
@[go_sem] def l_Z57_1 : List GOp := [⟨(some 3), .mv (.t 0), none⟩,
    ⟨(some 4), .bin .lss (.t 3) (.c (.int .i64 0)), none⟩]
def Z57_1 : IR := .ops l_Z57_1
@[go_sem] theorem w_Z57_1 : wp P Z57_1 Q e H = wpL P l_Z57_1 (Q .normal) e H := idE rfl
@[go_sem] def l_Z57_2 : List GOp := [⟨(some 5), .mv (.t 0), none⟩,
    ⟨(some 6), .un .neg (.t 5), none⟩,
    ⟨(some 2), .mv (.t 6), none⟩]
def Z57_2 : IR := .ops l_Z57_2
@[go_sem] theorem w_Z57_2 : wp P Z57_2 Q e H = wpL P l_Z57_2 (Q .normal) e H := idE rfl
def Z57_3 : IR := .cond (.t 4) (.seq Z57_2 .ret) .skip
@[go_sem] theorem w_Z57_3 : wp P Z57_3 Q e H = condW P ((.t 4) : X) (.seq Z57_2 .ret) .skip Q e H := idE rfl
@[go_sem] def l_Z57_4 : List GOp := [⟨(some 7), .mv (.t 0), none⟩,
    ⟨(some 2), .mv (.t 7), none⟩]
def Z57_4 : IR := .ops l_Z57_4
@[go_sem] theorem w_Z57_4 : wp P Z57_4 Q e H = wpL P l_Z57_4 (Q .normal) e H := idE rfl
def F_Z57 : IFn := ⟨1, 8, [.t 2], (.seq Z57_0 (.seq (.seq Z57_1 Z57_3) (.seq Z57_4 .ret)))⟩
theorem c_Z57 : compFn Try.prog [(0, [], []), (1, [], []), (2, [], []), (3, [], [])] Try.f106 = some F_Z57 := by kernel_rfl
theorem a_Z57 (hl : args.length = 1) (h : wp Try.prog (.seq Z57_0 (.seq (.seq Z57_1 Z57_3) (.seq Z57_4 .ret))) (postQ [.t 2] R) (env0 args) H) : ACall Try.prog n_Z57 args H R :=
  acall_of_wp mixed Try.func106 c_Z57 (by kernel_rfl) hl h
@[go_sem] def l_Z58_0 : List GOp := [⟨(some 4), .mv (.c (.sl none 0 0 true 0)), none⟩,
    ⟨(some 5), .mv (.c (.bool false)), none⟩]
def Z58_0 : IR := .ops l_Z58_0
@[go_sem] theorem w_Z58_0 : wp P Z58_0 Q e H = wpL P l_Z58_0 (Q .normal) e H := idE rfl
@[go_sem] def l_Z58_1 : List GOp := [⟨(some 11), .mv (.t 1), none⟩,
    ⟨(some 12), .bin .add (.t 11) (.c (.int .i64 1)), none⟩,
    ⟨(some 13), .mks [(.int .i64 0)] 8 (.t 12), none⟩,
    ⟨(some 6), .mv (.t 13), none⟩]
def Z58_1 : IR := .ops l_Z58_1
@[go_sem] theorem w_Z58_1 : wp P Z58_1 Q e H = wpL P l_Z58_1 (Q .normal) e H := idE rfl
@[go_sem] def l_Z58_2 : List GOp := [⟨(some 7), .mv (.c (.int .i64 0)), none⟩]
def Z58_2 : IR := .ops l_Z58_2
@[go_sem] theorem w_Z58_2 : wp P Z58_2 Q e H = wpL P l_Z58_2 (Q .normal) e H := idE rfl
@[go_sem] def l_Z58_3 : List GOp := [⟨(some 14), .mv (.t 7), none⟩,
    ⟨(some 15), .mv (.t 0), none⟩,
    ⟨(some 16), .len (.t 15), none⟩,
    ⟨(some 17), .bin .lss (.t 14) (.t 16), none⟩]
def Z58_3 : IR := .ops l_Z58_3
@[go_sem] theorem w_Z58_3 : wp P Z58_3 Q e H = wpL P l_Z58_3 (Q .normal) e H := idE rfl
def Z58_4 : IR := .cond (.t 17) .skip (.exit 0)
@[go_sem] theorem w_Z58_4 : wp P Z58_4 Q e H = condW P ((.t 17) : X) .skip (.exit 0) Q e H := idE rfl
@[go_sem] def l_Z58_5 : List GOp := [⟨(some 20), .mv (.t 0), none⟩,
    ⟨(some 21), .mv (.t 7), none⟩,
    ⟨(some 22), .iaddr (.t 20) (.t 21) 1, none⟩,
    ⟨(some 23), .load (.t 22) 1 false, none⟩,
    ⟨(some 24), .call (n_Z57) [(.t 23)], none⟩,
    ⟨(some 8), .mv (.t 24), none⟩]
def Z58_5 : IR := .ops l_Z58_5
@[go_sem] theorem w_Z58_5 : wp P Z58_5 Q e H = wpL P l_Z58_5 (Q .normal) e H := idE rfl
def l_Z58_6 : List GOp := [⟨(some 25), .mv (.t 6), none⟩,
    ⟨(some 26), .mv (.t 8), none⟩,
    ⟨(some 27), .iaddr (.t 25) (.t 26) 1, none⟩,
    ⟨(some 28), .load (.t 27) 1 false, none⟩,
    ⟨(some 29), .bin .neq (.t 28) (.c (.int .i64 0)), none⟩,
    ⟨(some 30), .mv (.t 29), none⟩,
    ⟨(some 31), .mv (.t 6), (some (30, true))⟩,
    ⟨(some 32), .mv (.t 8), (some (30, true))⟩,
    ⟨(some 33), .iaddr (.t 31) (.t 32) 1, (some (30, true))⟩,
    ⟨(some 34), .load (.t 33) 1 false, (some (30, true))⟩,
    ⟨(some 35), .mv (.t 0), (some (30, true))⟩,
    ⟨(some 36), .mv (.t 7), (some (30, true))⟩,
    ⟨(some 37), .iaddr (.t 35) (.t 36) 1, (some (30, true))⟩,
    ⟨(some 38), .load (.t 37) 1 false, (some (30, true))⟩,
    ⟨(some 39), .bin .neq (.t 34) (.t 38), (some (30, true))⟩,
    ⟨(some 40), .pick (.t 30) (.t 39) (.c (.bool false)), none⟩]
@[go_sem] theorem g_Z58_6_0 : gAt l_Z58_6 0 = ⟨(some 25), .mv (.t 6), none⟩ := idE rfl
@[go_sem] theorem g_Z58_6_1 : gAt l_Z58_6 1 = ⟨(some 26), .mv (.t 8), none⟩ := idE rfl
@[go_sem] theorem g_Z58_6_2 : gAt l_Z58_6 2 = ⟨(some 27), .iaddr (.t 25) (.t 26) 1, none⟩ := idE rfl
@[go_sem] theorem g_Z58_6_3 : gAt l_Z58_6 3 = ⟨(some 28), .load (.t 27) 1 false, none⟩ := idE rfl
@[go_sem] theorem g_Z58_6_4 : gAt l_Z58_6 4 = ⟨(some 29), .bin .neq (.t 28) (.c (.int .i64 0)), none⟩ := idE rfl
@[go_sem] theorem g_Z58_6_5 : gAt l_Z58_6 5 = ⟨(some 30), .mv (.t 29), none⟩ := idE rfl
@[go_sem] theorem g_Z58_6_6 : gAt l_Z58_6 6 = ⟨(some 31), .mv (.t 6), (some (30, true))⟩ := idE rfl
@[go_sem] theorem g_Z58_6_7 : gAt l_Z58_6 7 = ⟨(some 32), .mv (.t 8), (some (30, true))⟩ := idE rfl
@[go_sem] theorem g_Z58_6_8 : gAt l_Z58_6 8 = ⟨(some 33), .iaddr (.t 31) (.t 32) 1, (some (30, true))⟩ := idE rfl
@[go_sem] theorem g_Z58_6_9 : gAt l_Z58_6 9 = ⟨(some 34), .load (.t 33) 1 false, (some (30, true))⟩ := idE rfl
@[go_sem] theorem g_Z58_6_10 : gAt l_Z58_6 10 = ⟨(some 35), .mv (.t 0), (some (30, true))⟩ := idE rfl
@[go_sem] theorem g_Z58_6_11 : gAt l_Z58_6 11 = ⟨(some 36), .mv (.t 7), (some (30, true))⟩ := idE rfl
@[go_sem] theorem g_Z58_6_12 : gAt l_Z58_6 12 = ⟨(some 37), .iaddr (.t 35) (.t 36) 1, (some (30, true))⟩ := idE rfl
@[go_sem] theorem g_Z58_6_13 : gAt l_Z58_6 13 = ⟨(some 38), .load (.t 37) 1 false, (some (30, true))⟩ := idE rfl
@[go_sem] theorem g_Z58_6_14 : gAt l_Z58_6 14 = ⟨(some 39), .bin .neq (.t 34) (.t 38), (some (30, true))⟩ := idE rfl
@[go_sem] theorem g_Z58_6_15 : gAt l_Z58_6 15 = ⟨(some 40), .pick (.t 30) (.t 39) (.c (.bool false)), none⟩ := idE rfl
def Z58_6 : IR := .dops l_Z58_6 [(0, []), (1, []), (2, []), (3, []), (4, []), (5, []), (6, []), (7, []), (8, []), (9, []), (10, []), (11, []), (12, []), (13, []), (14, []), (15, [])]
@[go_sem] theorem w_Z58_6 : wp P Z58_6 Q e H = wpD P l_Z58_6 [(0, []), (1, []), (2, []), (3, []), (4, []), (5, []), (6, []), (7, []), (8, []), (9, []), (10, []), (11, []), (12, []), (13, []), (14, []), (15, [])] (Q .normal) e H := idE rfl
@[go_sem] def l_Z58_7 : List GOp := [⟨(some 4), .mv (.c (.sl none 0 0 true 0)), none⟩,
    ⟨(some 5), .mv (.c (.bool false)), none⟩]
def Z58_7 : IR := .ops l_Z58_7
@[go_sem] theorem w_Z58_7 : wp P Z58_7 Q e H = wpL P l_Z58_7 (Q .normal) e H := idE rfl
def Z58_8 : IR := .cond (.t 40) (.seq Z58_7 .ret) .skip
@[go_sem] theorem w_Z58_8 : wp P Z58_8 Q e H = condW P ((.t 40) : X) (.seq Z58_7 .ret) .skip Q e H := idE rfl
@[go_sem] def l_Z58_9 : List GOp := [⟨(some 41), .mv (.t 6), none⟩,
    ⟨(some 42), .mv (.t 8), none⟩,
    ⟨(some 43), .mv (.t 0), none⟩,
    ⟨(some 44), .mv (.t 7), none⟩,
    ⟨(some 45), .iaddr (.t 43) (.t 44) 1, none⟩,
    ⟨(some 46), .load (.t 45) 1 false, none⟩,
    ⟨(some 47), .iaddr (.t 41) (.t 42) 1, none⟩,
    ⟨none, .store (.t 47) 1 (.t 46), none⟩]
def Z58_9 : IR := .ops l_Z58_9
@[go_sem] theorem w_Z58_9 : wp P Z58_9 Q e H = wpL P l_Z58_9 (Q .normal) e H := idE rfl
def Z58_10 : IR := .block 1 (.seq Z58_5 (.seq (.seq Z58_6 Z58_8) Z58_9))
@[go_sem] theorem w_Z58_10 : wp P Z58_10 Q e H = wp P (.seq Z58_5 (.seq (.seq Z58_6 Z58_8) Z58_9)) (blockQ 1 Q) e H := idE rfl
@[go_sem] def l_Z58_11 : List GOp := [⟨(some 18), .mv (.t 7), none⟩,
    ⟨(some 19), .bin .add (.t 18) (.c (.int .i64 1)), none⟩,
    ⟨(some 7), .mv (.t 19), none⟩]
def Z58_11 : IR := .ops l_Z58_11
@[go_sem] theorem w_Z58_11 : wp P Z58_11 Q e H = wpL P l_Z58_11 (Q .normal) e H := idE rfl
def Z58_12 : IR := .loop (.seq (.seq Z58_3 Z58_4) (.seq Z58_10 Z58_11))
def Z58_13 : IR := .block 0 Z58_12
@[go_sem] theorem w_Z58_13 : wp P Z58_13 Q e H = wp P Z58_12 (blockQ 0 Q) e H := idE rfl
@[go_sem] def l_Z58_14 : List GOp := [⟨(some 48), .bslc 1 0 [(.int .i64 0)] [], none⟩,
    ⟨(some 9), .mv (.t 48), none⟩]
def Z58_14 : IR := .ops l_Z58_14
@[go_sem] theorem w_Z58_14 : wp P Z58_14 Q e H = wpL P l_Z58_14 (Q .normal) e H := idE rfl
@[go_sem] def l_Z58_15 : List GOp := [⟨(some 10), .mv (.c (.int .i64 1)), none⟩]
def Z58_15 : IR := .ops l_Z58_15
@[go_sem] theorem w_Z58_15 : wp P Z58_15 Q e H = wpL P l_Z58_15 (Q .normal) e H := idE rfl
@[go_sem] def l_Z58_16 : List GOp := [⟨(some 49), .mv (.t 10), none⟩,
    ⟨(some 50), .mv (.t 1), none⟩,
    ⟨(some 51), .bin .leq (.t 49) (.t 50), none⟩]
def Z58_16 : IR := .ops l_Z58_16
@[go_sem] theorem w_Z58_16 : wp P Z58_16 Q e H = wpL P l_Z58_16 (Q .normal) e H := idE rfl
def Z58_17 : IR := .cond (.t 51) .skip (.exit 2)
@[go_sem] theorem w_Z58_17 : wp P Z58_17 Q e H = condW P ((.t 51) : X) .skip (.exit 2) Q e H := idE rfl
@[go_sem] def l_Z58_18 : List GOp := [⟨(some 54), .mv (.t 6), none⟩,
    ⟨(some 55), .mv (.t 10), none⟩,
    ⟨(some 56), .iaddr (.t 54) (.t 55) 1, none⟩,
    ⟨(some 57), .load (.t 56) 1 false, none⟩,
    ⟨(some 58), .bin .neq (.t 57) (.c (.int .i64 0)), none⟩]
def Z58_18 : IR := .ops l_Z58_18
@[go_sem] theorem w_Z58_18 : wp P Z58_18 Q e H = wpL P l_Z58_18 (Q .normal) e H := idE rfl
@[go_sem] def l_Z58_19 : List GOp := [⟨(some 59), .mv (.t 9), none⟩,
    ⟨(some 60), .mv (.t 6), none⟩,
    ⟨(some 61), .mv (.t 10), none⟩,
    ⟨(some 62), .iaddr (.t 60) (.t 61) 1, none⟩,
    ⟨(some 63), .load (.t 62) 1 false, none⟩,
    ⟨(some 64), .bslc 1 1 [(.int .i64 0)] [(0, (.t 63))], none⟩,
    ⟨(some 65), .app 1 8 (.t 59) (.t 64), none⟩,
    ⟨(some 9), .mv (.t 65), none⟩]
def Z58_19 : IR := .ops l_Z58_19
@[go_sem] theorem w_Z58_19 : wp P Z58_19 Q e H = wpL P l_Z58_19 (Q .normal) e H := idE rfl
def Z58_20 : IR := .cond (.t 58) Z58_19 .skip
@[go_sem] theorem w_Z58_20 : wp P Z58_20 Q e H = condW P ((.t 58) : X) Z58_19 .skip Q e H := idE rfl
def Z58_21 : IR := .block 3 (.seq Z58_18 Z58_20)
@[go_sem] theorem w_Z58_21 : wp P Z58_21 Q e H = wp P (.seq Z58_18 Z58_20) (blockQ 3 Q) e H := idE rfl
@[go_sem] def l_Z58_22 : List GOp := [⟨(some 52), .mv (.t 10), none⟩,
    ⟨(some 53), .bin .add (.t 52) (.c (.int .i64 1)), none⟩,
    ⟨(some 10), .mv (.t 53), none⟩]
def Z58_22 : IR := .ops l_Z58_22
@[go_sem] theorem w_Z58_22 : wp P Z58_22 Q e H = wpL P l_Z58_22 (Q .normal) e H := idE rfl
def Z58_23 : IR := .loop (.seq (.seq Z58_16 Z58_17) (.seq Z58_21 Z58_22))
def Z58_24 : IR := .block 2 Z58_23
@[go_sem] theorem w_Z58_24 : wp P Z58_24 Q e H = wp P Z58_23 (blockQ 2 Q) e H := idE rfl
@[go_sem] def l_Z58_25 : List GOp := [⟨(some 66), .mv (.t 9), none⟩,
    ⟨(some 4), .mv (.t 66), none⟩,
    ⟨(some 5), .mv (.c (.bool true)), none⟩]
def Z58_25 : IR := .ops l_Z58_25
@[go_sem] theorem w_Z58_25 : wp P Z58_25 Q e H = wpL P l_Z58_25 (Q .normal) e H := idE rfl
def F_Z58 : IFn := ⟨2, 67, [.t 4, .t 5], (.seq Z58_0 (.seq Z58_1 (.seq (.seq Z58_2 Z58_13) (.seq Z58_14 (.seq (.seq Z58_15 Z58_24) (.seq Z58_25 .ret))))))⟩
theorem c_Z58 : compFn Try.prog [(0, [], []), (1, [], []), (2, [], []), (3, [], []), (5, [], []), (6, [(0, []), (1, []), (2, []), (3, []), (4, []), (5, []), (6, []), (7, []), (8, []), (9, []), (10, []), (11, []), (12, []), (13, []), (14, []), (15, [])], []), (7, [], []), (8, [], []), (4, [], []), (9, [], []), (10, [], []), (11, [], []), (13, [], []), (14, [], []), (12, [], []), (15, [], [])] Try.f121 = some F_Z58 := by kernel_rfl
theorem a_Z58 (hl : args.length = 2) (h : wp Try.prog (.seq Z58_0 (.seq Z58_1 (.seq (.seq Z58_2 Z58_13) (.seq Z58_14 (.seq (.seq Z58_15 Z58_24) (.seq Z58_25 .ret)))))) (postQ [.t 4, .t 5] R) (env0 args) H) : ACall Try.prog n_Z58 args H R :=
  acall_of_wp mixed Try.func121 c_Z58 (by kernel_rfl) hl h
@[go_sem] def l_Z64_0 : List GOp := [⟨(some 6), .mv (.c (.sl none 0 0 true 0)), none⟩]
def Z64_0 : IR := .ops l_Z64_0
@[go_sem] theorem w_Z64_0 : wp P Z64_0 Q e H = wpL P l_Z64_0 (Q .normal) e H := idE rfl
@[go_sem] def l_Z64_1 : List GOp := [⟨(some 12), .bslc 1 0 [(.int .i64 0)] [], none⟩,
    ⟨(some 7), .mv (.t 12), none⟩]
def Z64_1 : IR := .ops l_Z64_1
@[go_sem] theorem w_Z64_1 : wp P Z64_1 Q e H = wpL P l_Z64_1 (Q .normal) e H := idE rfl
@[go_sem] def l_Z64_2 : List GOp := [⟨(some 8), .mv (.c (.int .i64 0)), none⟩]
def Z64_2 : IR := .ops l_Z64_2
@[go_sem] theorem w_Z64_2 : wp P Z64_2 Q e H = wpL P l_Z64_2 (Q .normal) e H := idE rfl
@[go_sem] def l_Z64_3 : List GOp := [⟨(some 13), .mv (.t 8), none⟩,
    ⟨(some 14), .mv (.t 2), none⟩,
    ⟨(some 15), .bin .lss (.t 13) (.t 14), none⟩,
    ⟨(some 16), .mv (.t 15), none⟩,
    ⟨(some 17), .mv (.t 1), (some (16, true))⟩,
    ⟨(some 18), .bin .gtr (.t 17) (.c (.int .i64 0)), (some (16, true))⟩,
    ⟨(some 19), .pick (.t 16) (.t 18) (.c (.bool false)), none⟩]
def Z64_3 : IR := .ops l_Z64_3
@[go_sem] theorem w_Z64_3 : wp P Z64_3 Q e H = wpL P l_Z64_3 (Q .normal) e H := idE rfl
def Z64_4 : IR := .cond (.t 19) .skip (.exit 0)
@[go_sem] theorem w_Z64_4 : wp P Z64_4 Q e H = condW P ((.t 19) : X) .skip (.exit 0) Q e H := idE rfl
@[go_sem] def l_Z64_5 : List GOp := [⟨(some 22), .mv (.t 0), none⟩,
    ⟨(some 23), .mv (.t 1), none⟩,
    ⟨(some 24), .call (n_Z77) [(.t 22), (.t 23)], none⟩,
    ⟨(some 25), .bin .add (.c (.int .i64 1)) (.t 24), none⟩,
    ⟨(some 9), .mv (.t 25), none⟩]
def Z64_5 : IR := .ops l_Z64_5
@[go_sem] theorem w_Z64_5 : wp P Z64_5 Q e H = wpL P l_Z64_5 (Q .normal) e H := idE rfl
@[go_sem] def l_Z64_6 : List GOp := [⟨(some 26), .mv (.t 0), none⟩,
    ⟨(some 27), .call (n_Z77) [(.t 26), (.c (.int .i64 2))], none⟩,
    ⟨(some 28), .bin .eql (.t 27) (.c (.int .i64 0)), none⟩]
def Z64_6 : IR := .ops l_Z64_6
@[go_sem] theorem w_Z64_6 : wp P Z64_6 Q e H = wpL P l_Z64_6 (Q .normal) e H := idE rfl
@[go_sem] def l_Z64_7 : List GOp := [⟨(some 29), .mv (.t 9), none⟩,
    ⟨(some 30), .un .neg (.t 29), none⟩,
    ⟨(some 9), .mv (.t 30), none⟩]
def Z64_7 : IR := .ops l_Z64_7
@[go_sem] theorem w_Z64_7 : wp P Z64_7 Q e H = wpL P l_Z64_7 (Q .normal) e H := idE rfl
def Z64_8 : IR := .cond (.t 28) Z64_7 .skip
@[go_sem] theorem w_Z64_8 : wp P Z64_8 Q e H = condW P ((.t 28) : X) Z64_7 .skip Q e H := idE rfl
@[go_sem] def l_Z64_9 : List GOp := [⟨(some 31), .mv (.t 7), none⟩,
    ⟨(some 32), .mv (.t 9), none⟩,
    ⟨(some 33), .un .neg (.t 32), none⟩,
    ⟨(some 34), .call (n_Z73) [(.t 31), (.t 33)], none⟩,
    ⟨(some 35), .un .not (.t 34), none⟩]
def Z64_9 : IR := .ops l_Z64_9
@[go_sem] theorem w_Z64_9 : wp P Z64_9 Q e H = wpL P l_Z64_9 (Q .normal) e H := idE rfl
@[go_sem] def l_Z64_10 : List GOp := [⟨(some 36), .mv (.t 7), none⟩,
    ⟨(some 37), .mv (.t 9), none⟩,
    ⟨(some 38), .bslc 1 1 [(.int .i64 0)] [(0, (.t 37))], none⟩,
    ⟨(some 39), .app 1 8 (.t 36) (.t 38), none⟩,
    ⟨(some 7), .mv (.t 39), none⟩]
def Z64_10 : IR := .ops l_Z64_10
@[go_sem] theorem w_Z64_10 : wp P Z64_10 Q e H = wpL P l_Z64_10 (Q .normal) e H := idE rfl
def Z64_11 : IR := .cond (.t 35) Z64_10 .skip
@[go_sem] theorem w_Z64_11 : wp P Z64_11 Q e H = condW P ((.t 35) : X) Z64_10 .skip Q e H := idE rfl
def Z64_12 : IR := .block 1 (.seq Z64_5 (.seq (.seq Z64_6 Z64_8) (.seq Z64_9 Z64_11)))
@[go_sem] theorem w_Z64_12 : wp P Z64_12 Q e H = wp P (.seq Z64_5 (.seq (.seq Z64_6 Z64_8) (.seq Z64_9 Z64_11))) (blockQ 1 Q) e H := idE rfl
@[go_sem] def l_Z64_13 : List GOp := [⟨(some 20), .mv (.t 8), none⟩,
    ⟨(some 21), .bin .add (.t 20) (.c (.int .i64 1)), none⟩,
    ⟨(some 8), .mv (.t 21), none⟩]
def Z64_13 : IR := .ops l_Z64_13
@[go_sem] theorem w_Z64_13 : wp P Z64_13 Q e H = wpL P l_Z64_13 (Q .normal) e H := idE rfl
def Z64_14 : IR := .loop (.seq (.seq Z64_3 Z64_4) (.seq Z64_12 Z64_13))
def Z64_15 : IR := .block 0 Z64_14
@[go_sem] theorem w_Z64_15 : wp P Z64_15 Q e H = wp P Z64_14 (blockQ 0 Q) e H := idE rfl
@[go_sem] def l_Z64_16 : List GOp := [⟨(some 41), .mv (.t 7), none⟩,
    ⟨(some 42), .mv (.t 1), none⟩,
    ⟨(some 43), .call (n_Z58) [(.t 41), (.t 42)], none⟩,
    ⟨(some 40), .mv (.t 43), none⟩,
    ⟨(some 44), .ext (.t 40) 0, none⟩,
    ⟨(some 45), .ext (.t 40) 1, none⟩,
    ⟨(some 10), .mv (.t 44), none⟩,
    ⟨(some 11), .mv (.t 45), none⟩]
def Z64_16 : IR := .ops l_Z64_16
@[go_sem] theorem w_Z64_16 : wp P Z64_16 Q e H = wpL P l_Z64_16 (Q .normal) e H := idE rfl
@[go_sem] def l_Z64_17 : List GOp := [⟨(some 46), .mv (.t 10), none⟩,
    ⟨(some 6), .mv (.t 46), none⟩]
def Z64_17 : IR := .ops l_Z64_17
@[go_sem] theorem w_Z64_17 : wp P Z64_17 Q e H = wpL P l_Z64_17 (Q .normal) e H := idE rfl
def F_Z64 : IFn := ⟨3, 47, [.t 6], (.seq Z64_0 (.seq Z64_1 (.seq (.seq Z64_2 Z64_15) (.seq Z64_16 (.seq Z64_17 .ret)))))⟩
theorem c_Z64 : compFn Try.prog [(0, [], []), (1, [], []), (2, [], []), (3, [], []), (5, [], []), (6, [], []), (7, [], []), (8, [], []), (9, [], []), (4, [], []), (10, [], []), (11, [], [])] Try.f114 = some F_Z64 := by kernel_rfl
theorem a_Z64 (hl : args.length = 3) (h : wp Try.prog (.seq Z64_0 (.seq Z64_1 (.seq (.seq Z64_2 Z64_15) (.seq Z64_16 (.seq Z64_17 .ret))))) (postQ [.t 6] R) (env0 args) H) : ACall Try.prog n_Z64 args H R :=
  acall_of_wp mixed Try.func114 c_Z64 (by kernel_rfl) hl h
@[go_sem] def l_Z59_0 : List GOp := [⟨(some 6), .alloc [(.int .i64 0), (.sl none 0 0 true 0)], none⟩]
def Z59_0 : IR := .ops l_Z59_0
@[go_sem] theorem w_Z59_0 : wp P Z59_0 Q e H = wpL P l_Z59_0 (Q .normal) e H := idE rfl
@[go_sem] def l_Z59_1 : List GOp := [⟨(some 9), .mv (.t 1), none⟩,
    ⟨(some 10), .bld [(.int .i64 0), (.sl none 0 0 true 0)] [(0, 1, (.t 9))], none⟩,
    ⟨(some 7), .alloc [(.int .i64 0), (.sl none 0 0 true 0)], none⟩,
    ⟨none, .store (.t 7) 2 (.t 10), none⟩]
def Z59_1 : IR := .ops l_Z59_1
@[go_sem] theorem w_Z59_1 : wp P Z59_1 Q e H = wpL P l_Z59_1 (Q .normal) e H := idE rfl
@[go_sem] def l_Z59_2 : List GOp := [⟨(some 8), .mv (.c (.int .i64 0)), none⟩]
def Z59_2 : IR := .ops l_Z59_2
@[go_sem] theorem w_Z59_2 : wp P Z59_2 Q e H = wpL P l_Z59_2 (Q .normal) e H := idE rfl
@[go_sem] def l_Z59_3 : List GOp := [⟨(some 11), .mv (.t 8), none⟩,
    ⟨(some 12), .mv (.t 2), none⟩,
    ⟨(some 13), .bin .lss (.t 11) (.t 12), none⟩]
def Z59_3 : IR := .ops l_Z59_3
@[go_sem] theorem w_Z59_3 : wp P Z59_3 Q e H = wpL P l_Z59_3 (Q .normal) e H := idE rfl
def Z59_4 : IR := .cond (.t 13) .skip (.exit 0)
@[go_sem] theorem w_Z59_4 : wp P Z59_4 Q e H = condW P ((.t 13) : X) .skip (.exit 0) Q e H := idE rfl
def l_Z59_5 : List GOp := [⟨(some 16), .faddr (.t 7) 1, none⟩,
    ⟨(some 17), .load (.t 16) 1 false, none⟩,
    ⟨(some 18), .mv (.t 0), none⟩,
    ⟨(some 19), .mv (.t 1), none⟩,
    ⟨(some 20), .mv (.t 0), none⟩,
    ⟨(some 21), .bslc 1 7 [(.int .i64 0)] [(0, (.c (.int .i64 2))), (1, (.c (.int .i64 3))), (2, (.c (.int .i64 3))), (3, (.c (.int .i64 2))), (4, (.c (.int .i64 1))), (5, (.c (.int .i64 3))), (6, (.c (.int .i64 4)))], none⟩,
    ⟨(some 22), .call (n_Z76) [(.t 20), (.t 21)], none⟩,
    ⟨(some 23), .call (n_Z64) [(.t 18), (.t 19), (.t 22)], none⟩,
    ⟨(some 24), .bslc 1 1 [(.sl none 0 0 true 0)] [(0, (.t 23))], none⟩,
    ⟨(some 25), .app 1 24 (.t 17) (.t 24), none⟩,
    ⟨(some 26), .faddr (.t 7) 1, none⟩,
    ⟨none, .store (.t 26) 1 (.t 25), none⟩]
@[go_sem] theorem g_Z59_5_0 : gAt l_Z59_5 0 = ⟨(some 16), .faddr (.t 7) 1, none⟩ := idE rfl
@[go_sem] theorem g_Z59_5_1 : gAt l_Z59_5 1 = ⟨(some 17), .load (.t 16) 1 false, none⟩ := idE rfl
@[go_sem] theorem g_Z59_5_2 : gAt l_Z59_5 2 = ⟨(some 18), .mv (.t 0), none⟩ := idE rfl
@[go_sem] theorem g_Z59_5_3 : gAt l_Z59_5 3 = ⟨(some 19), .mv (.t 1), none⟩ := idE rfl
@[go_sem] theorem g_Z59_5_4 : gAt l_Z59_5 4 = ⟨(some 20), .mv (.t 0), none⟩ := idE rfl
@[go_sem] theorem g_Z59_5_5 : gAt l_Z59_5 5 = ⟨(some 21), .bslc 1 7 [(.int .i64 0)] [(0, (.c (.int .i64 2))), (1, (.c (.int .i64 3))), (2, (.c (.int .i64 3))), (3, (.c (.int .i64 2))), (4, (.c (.int .i64 1))), (5, (.c (.int .i64 3))), (6, (.c (.int .i64 4)))], none⟩ := idE rfl
@[go_sem] theorem g_Z59_5_6 : gAt l_Z59_5 6 = ⟨(some 22), .call (n_Z76) [(.t 20), (.t 21)], none⟩ := idE rfl
@[go_sem] theorem g_Z59_5_7 : gAt l_Z59_5 7 = ⟨(some 23), .call (n_Z64) [(.t 18), (.t 19), (.t 22)], none⟩ := idE rfl
@[go_sem] theorem g_Z59_5_8 : gAt l_Z59_5 8 = ⟨(some 24), .bslc 1 1 [(.sl none 0 0 true 0)] [(0, (.t 23))], none⟩ := idE rfl
@[go_sem] theorem g_Z59_5_9 : gAt l_Z59_5 9 = ⟨(some 25), .app 1 24 (.t 17) (.t 24), none⟩ := idE rfl
@[go_sem] theorem g_Z59_5_10 : gAt l_Z59_5 10 = ⟨(some 26), .faddr (.t 7) 1, none⟩ := idE rfl
@[go_sem] theorem g_Z59_5_11 : gAt l_Z59_5 11 = ⟨none, .store (.t 26) 1 (.t 25), none⟩ := idE rfl
def Z59_5 : IR := .dops l_Z59_5 [(0, []), (1, []), (2, []), (3, []), (4, []), (5, []), (6, [1]), (7, [1]), (8, []), (9, []), (10, []), (11, [])]
@[go_sem] theorem w_Z59_5 : wp P Z59_5 Q e H = wpD P l_Z59_5 [(0, []), (1, []), (2, []), (3, []), (4, []), (5, []), (6, [1]), (7, [1]), (8, []), (9, []), (10, []), (11, [])] (Q .normal) e H := idE rfl
def Z59_6 : IR := .block 1 Z59_5
@[go_sem] theorem w_Z59_6 : wp P Z59_6 Q e H = wp P Z59_5 (blockQ 1 Q) e H := idE rfl
@[go_sem] def l_Z59_7 : List GOp := [⟨(some 14), .mv (.t 8), none⟩,
    ⟨(some 15), .bin .add (.t 14) (.c (.int .i64 1)), none⟩,
    ⟨(some 8), .mv (.t 15), none⟩]
def Z59_7 : IR := .ops l_Z59_7
@[go_sem] theorem w_Z59_7 : wp P Z59_7 Q e H = wpL P l_Z59_7 (Q .normal) e H := idE rfl
def Z59_8 : IR := .loop (.seq (.seq Z59_3 Z59_4) (.seq Z59_6 Z59_7))
def Z59_9 : IR := .block 0 Z59_8
@[go_sem] theorem w_Z59_9 : wp P Z59_9 Q e H = wp P Z59_8 (blockQ 0 Q) e H := idE rfl
@[go_sem] def l_Z59_10 : List GOp := [⟨(some 27), .load (.t 7) 2 true, none⟩,
    ⟨none, .store (.t 6) 2 (.t 27), none⟩]
def Z59_10 : IR := .ops l_Z59_10
@[go_sem] theorem w_Z59_10 : wp P Z59_10 Q e H = wpL P l_Z59_10 (Q .normal) e H := idE rfl
def F_Z59 : IFn := ⟨3, 28, [.c 6 2 true], (.seq Z59_0 (.seq Z59_1 (.seq (.seq Z59_2 Z59_9) (.seq Z59_10 .ret))))⟩
theorem c_Z59 : compFn Try.prog [(0, [], []), (1, [], []), (2, [], []), (3, [], []), (5, [(0, []), (1, []), (2, []), (3, []), (4, []), (5, []), (6, [1]), (7, [1]), (8, []), (9, []), (10, []), (11, [])], []), (4, [], []), (6, [], [])] Try.f102 = some F_Z59 := by kernel_rfl
theorem a_Z59 (hl : args.length = 3) (h : wp Try.prog (.seq Z59_0 (.seq Z59_1 (.seq (.seq Z59_2 Z59_9) (.seq Z59_10 .ret)))) (postQ [.c 6 2 true] R) (env0 args) H) : ACall Try.prog n_Z59 args H R :=
  acall_of_wp mixed Try.func102 c_Z59 (by kernel_rfl) hl h
@[go_sem] def l_Z65_0 : List GOp := [⟨(some 2), .alloc [(.int .i64 0), (.sl none 0 0 true 0)], none⟩]
def Z65_0 : IR := .ops l_Z65_0
@[go_sem] theorem w_Z65_0 : wp P Z65_0 Q e H = wpL P l_Z65_0 (Q .normal) e H := idE rfl
@[go_sem] def l_Z65_1 : List GOp := [⟨(some 6), .mv (.t 0), none⟩,
    ⟨(some 7), .bslc 1 7 [(.int .i64 0)] [(0, (.c (.int .i64 2))), (1, (.c (.int .i64 3))), (2, (.c (.int .i64 4))), (3, (.c (.int .i64 5))), (4, (.c (.int .i64 6))), (5, (.c (.int .i64 1))), (6, (.c (.int .i64 0)))], none⟩,
    ⟨(some 8), .call (n_Z76) [(.t 6), (.t 7)], none⟩,
    ⟨(some 3), .mv (.t 8), none⟩]
def Z65_1 : IR := .ops l_Z65_1
@[go_sem] theorem w_Z65_1 : wp P Z65_1 Q e H = wpL P l_Z65_1 (Q .normal) e H := idE rfl
@[go_sem] def l_Z65_2 : List GOp := [⟨(some 9), .mv (.t 0), none⟩,
    ⟨(some 10), .mv (.t 3), none⟩,
    ⟨(some 11), .mv (.t 0), none⟩,
    ⟨(some 12), .bslc 1 7 [(.int .i64 0)] [(0, (.c (.int .i64 3))), (1, (.c (.int .i64 6))), (2, (.c (.int .i64 9))), (3, (.c (.int .i64 12))), (4, (.c (.int .i64 2))), (5, (.c (.int .i64 15))), (6, (.c (.int .i64 0)))], none⟩,
    ⟨(some 13), .call (n_Z76) [(.t 11), (.t 12)], none⟩,
    ⟨(some 14), .call (n_Z59) [(.t 9), (.t 10), (.t 13)], none⟩,
    ⟨(some 4), .alloc [(.int .i64 0), (.sl none 0 0 true 0)], none⟩,
    ⟨none, .store (.t 4) 2 (.t 14), none⟩]
def Z65_2 : IR := .ops l_Z65_2
@[go_sem] theorem w_Z65_2 : wp P Z65_2 Q e H = wpL P l_Z65_2 (Q .normal) e H := idE rfl
@[go_sem] def l_Z65_3 : List GOp := [⟨(some 15), .mv (.t 0), none⟩,
    ⟨(some 16), .call (n_Z77) [(.t 15), (.c (.int .i64 14))], none⟩,
    ⟨(some 17), .bin .eql (.t 16) (.c (.int .i64 0)), none⟩]
def Z65_3 : IR := .ops l_Z65_3
@[go_sem] theorem w_Z65_3 : wp P Z65_3 Q e H = wpL P l_Z65_3 (Q .normal) e H := idE rfl
@[go_sem] def l_Z65_4 : List GOp := [⟨(some 18), .mv (.t 0), none⟩,
    ⟨(some 19), .call (n_Z77) [(.t 18), (.c (.int .i64 4))], none⟩,
    ⟨(some 5), .mv (.t 19), none⟩]
def Z65_4 : IR := .ops l_Z65_4
@[go_sem] theorem w_Z65_4 : wp P Z65_4 Q e H = wpL P l_Z65_4 (Q .normal) e H := idE rfl
@[go_sem] def l_Z65_5 : List GOp := [⟨(some 20), .mv (.t 5), none⟩,
    ⟨(some 21), .bin .eql (.t 20) (.c (.int .i64 0)), none⟩]
def Z65_5 : IR := .ops l_Z65_5
@[go_sem] theorem w_Z65_5 : wp P Z65_5 Q e H = wpL P l_Z65_5 (Q .normal) e H := idE rfl
@[go_sem] def l_Z65_6 : List GOp := [⟨(some 22), .mv (.t 0), none⟩,
    ⟨(some 23), .bslc 1 3 [(.int .i64 0)] [(0, (.c (.int .i64 (-1)))), (1, (.c (.int .i64 701))), (2, (.c (.int .i64 0)))], none⟩,
    ⟨(some 24), .call (n_Z76) [(.t 22), (.t 23)], none⟩,
    ⟨(some 25), .faddr (.t 4) 0, none⟩,
    ⟨none, .store (.t 25) 1 (.t 24), none⟩]
def Z65_6 : IR := .ops l_Z65_6
@[go_sem] theorem w_Z65_6 : wp P Z65_6 Q e H = wpL P l_Z65_6 (Q .normal) e H := idE rfl
@[go_sem] def l_Z65_7 : List GOp := [⟨(some 26), .mv (.t 5), none⟩,
    ⟨(some 27), .bin .eql (.t 26) (.c (.int .i64 1)), none⟩]
def Z65_7 : IR := .ops l_Z65_7
@[go_sem] theorem w_Z65_7 : wp P Z65_7 Q e H = wpL P l_Z65_7 (Q .normal) e H := idE rfl
@[go_sem] def l_Z65_8 : List GOp := [⟨(some 28), .faddr (.t 4) 1, none⟩,
    ⟨(some 29), .load (.t 28) 1 false, none⟩,
    ⟨(some 30), .bslc 1 2 [(.int .i64 0)] [(0, (.c (.int .i64 2))), (1, (.c (.int .i64 1)))], none⟩,
    ⟨(some 31), .bslo 1 1 [(.sl none 0 0 true 0)] [(0, (.t 30))], none⟩,
    ⟨(some 32), .app 1 24 (.t 29) (.t 31), none⟩,
    ⟨(some 33), .faddr (.t 4) 1, none⟩,
    ⟨none, .store (.t 33) 1 (.t 32), none⟩]
def Z65_8 : IR := .ops l_Z65_8
@[go_sem] theorem w_Z65_8 : wp P Z65_8 Q e H = wpL P l_Z65_8 (Q .normal) e H := idE rfl
@[go_sem] def l_Z65_9 : List GOp := [⟨(some 34), .mv (.t 5), none⟩,
    ⟨(some 35), .bin .eql (.t 34) (.c (.int .i64 2)), none⟩]
def Z65_9 : IR := .ops l_Z65_9
@[go_sem] theorem w_Z65_9 : wp P Z65_9 Q e H = wpL P l_Z65_9 (Q .normal) e H := idE rfl
def l_Z65_10 : List GOp := [⟨(some 36), .faddr (.t 4) 1, none⟩,
    ⟨(some 37), .load (.t 36) 1 false, none⟩,
    ⟨(some 38), .mv (.t 0), none⟩,
    ⟨(some 39), .mv (.t 3), none⟩,
    ⟨(some 40), .bin .add (.t 39) (.c (.int .i64 1)), none⟩,
    ⟨(some 41), .mv (.t 3), none⟩,
    ⟨(some 42), .un .neg (.t 41), none⟩,
    ⟨(some 43), .bin .sub (.t 42) (.c (.int .i64 1)), none⟩,
    ⟨(some 44), .bslc 1 3 [(.int .i64 0)] [(0, (.c (.int .i64 0))), (1, (.t 40)), (2, (.t 43))], none⟩,
    ⟨(some 45), .call (n_Z76) [(.t 38), (.t 44)], none⟩,
    ⟨(some 46), .bslc 1 1 [(.int .i64 0)] [(0, (.t 45))], none⟩,
    ⟨(some 47), .bslo 1 1 [(.sl none 0 0 true 0)] [(0, (.t 46))], none⟩,
    ⟨(some 48), .app 1 24 (.t 37) (.t 47), none⟩,
    ⟨(some 49), .faddr (.t 4) 1, none⟩,
    ⟨none, .store (.t 49) 1 (.t 48), none⟩]
@[go_sem] theorem g_Z65_10_0 : gAt l_Z65_10 0 = ⟨(some 36), .faddr (.t 4) 1, none⟩ := idE rfl
@[go_sem] theorem g_Z65_10_1 : gAt l_Z65_10 1 = ⟨(some 37), .load (.t 36) 1 false, none⟩ := idE rfl
@[go_sem] theorem g_Z65_10_2 : gAt l_Z65_10 2 = ⟨(some 38), .mv (.t 0), none⟩ := idE rfl
@[go_sem] theorem g_Z65_10_3 : gAt l_Z65_10 3 = ⟨(some 39), .mv (.t 3), none⟩ := idE rfl
@[go_sem] theorem g_Z65_10_4 : gAt l_Z65_10 4 = ⟨(some 40), .bin .add (.t 39) (.c (.int .i64 1)), none⟩ := idE rfl
@[go_sem] theorem g_Z65_10_5 : gAt l_Z65_10 5 = ⟨(some 41), .mv (.t 3), none⟩ := idE rfl
@[go_sem] theorem g_Z65_10_6 : gAt l_Z65_10 6 = ⟨(some 42), .un .neg (.t 41), none⟩ := idE rfl
@[go_sem] theorem g_Z65_10_7 : gAt l_Z65_10 7 = ⟨(some 43), .bin .sub (.t 42) (.c (.int .i64 1)), none⟩ := idE rfl
@[go_sem] theorem g_Z65_10_8 : gAt l_Z65_10 8 = ⟨(some 44), .bslc 1 3 [(.int .i64 0)] [(0, (.c (.int .i64 0))), (1, (.t 40)), (2, (.t 43))], none⟩ := idE rfl
@[go_sem] theorem g_Z65_10_9 : gAt l_Z65_10 9 = ⟨(some 45), .call (n_Z76) [(.t 38), (.t 44)], none⟩ := idE rfl
@[go_sem] theorem g_Z65_10_10 : gAt l_Z65_10 10 = ⟨(some 46), .bslc 1 1 [(.int .i64 0)] [(0, (.t 45))], none⟩ := idE rfl
@[go_sem] theorem g_Z65_10_11 : gAt l_Z65_10 11 = ⟨(some 47), .bslo 1 1 [(.sl none 0 0 true 0)] [(0, (.t 46))], none⟩ := idE rfl
@[go_sem] theorem g_Z65_10_12 : gAt l_Z65_10 12 = ⟨(some 48), .app 1 24 (.t 37) (.t 47), none⟩ := idE rfl
@[go_sem] theorem g_Z65_10_13 : gAt l_Z65_10 13 = ⟨(some 49), .faddr (.t 4) 1, none⟩ := idE rfl
@[go_sem] theorem g_Z65_10_14 : gAt l_Z65_10 14 = ⟨none, .store (.t 49) 1 (.t 48), none⟩ := idE rfl
def Z65_10 : IR := .dops l_Z65_10 [(0, []), (1, []), (2, []), (3, []), (4, []), (5, []), (6, []), (7, []), (8, []), (9, [1]), (10, []), (11, [1]), (12, []), (13, []), (14, [])]
@[go_sem] theorem w_Z65_10 : wp P Z65_10 Q e H = wpD P l_Z65_10 [(0, []), (1, []), (2, []), (3, []), (4, []), (5, []), (6, []), (7, []), (8, []), (9, [1]), (10, []), (11, [1]), (12, []), (13, []), (14, [])] (Q .normal) e H := idE rfl
@[go_sem] def l_Z65_11 : List GOp := [⟨(some 50), .faddr (.t 4) 1, none⟩,
    ⟨(some 51), .load (.t 50) 1 false, none⟩,
    ⟨(some 52), .bslc 1 2 [(.int .i64 0)] [(0, (.c (.int .i64 1))), (1, (.c (.int .i64 (-1))))], none⟩,
    ⟨(some 53), .bslo 1 1 [(.sl none 0 0 true 0)] [(0, (.t 52))], none⟩,
    ⟨(some 54), .app 1 24 (.t 51) (.t 53), none⟩,
    ⟨(some 55), .faddr (.t 4) 1, none⟩,
    ⟨none, .store (.t 55) 1 (.t 54), none⟩]
def Z65_11 : IR := .ops l_Z65_11
@[go_sem] theorem w_Z65_11 : wp P Z65_11 Q e H = wpL P l_Z65_11 (Q .normal) e H := idE rfl
def Z65_12 : IR := .cond (.t 35) Z65_10 Z65_11
@[go_sem] theorem w_Z65_12 : wp P Z65_12 Q e H = condW P ((.t 35) : X) Z65_10 Z65_11 Q e H := idE rfl
def Z65_13 : IR := .cond (.t 27) Z65_8 (.seq Z65_9 Z65_12)
@[go_sem] theorem w_Z65_13 : wp P Z65_13 Q e H = condW P ((.t 27) : X) Z65_8 (.seq Z65_9 Z65_12) Q e H := idE rfl
def Z65_14 : IR := .cond (.t 21) Z65_6 (.seq Z65_7 Z65_13)
@[go_sem] theorem w_Z65_14 : wp P Z65_14 Q e H = condW P ((.t 21) : X) Z65_6 (.seq Z65_7 Z65_13) Q e H := idE rfl
def Z65_15 : IR := .cond (.t 17) (.seq Z65_4 (.seq Z65_5 Z65_14)) .skip
@[go_sem] theorem w_Z65_15 : wp P Z65_15 Q e H = condW P ((.t 17) : X) (.seq Z65_4 (.seq Z65_5 Z65_14)) .skip Q e H := idE rfl
@[go_sem] def l_Z65_16 : List GOp := [⟨(some 56), .load (.t 4) 2 true, none⟩,
    ⟨none, .store (.t 2) 2 (.t 56), none⟩]
def Z65_16 : IR := .ops l_Z65_16
@[go_sem] theorem w_Z65_16 : wp P Z65_16 Q e H = wpL P l_Z65_16 (Q .normal) e H := idE rfl
def F_Z65 : IFn := ⟨1, 57, [.c 2 2 true], (.seq Z65_0 (.seq Z65_1 (.seq Z65_2 (.seq (.seq Z65_3 Z65_15) (.seq Z65_16 .ret)))))⟩
theorem c_Z65 : compFn Try.prog [(0, [], []), (1, [], []), (2, [], []), (3, [], []), (4, [], []), (5, [], []), (6, [], []), (7, [], []), (8, [], []), (9, [], []), (10, [(0, []), (1, []), (2, []), (3, []), (4, []), (5, []), (6, []), (7, []), (8, []), (9, [1]), (10, []), (11, [1]), (12, []), (13, []), (14, [])], []), (11, [], []), (12, [], [])] Try.f100 = some F_Z65 := by kernel_rfl
theorem a_Z65 (hl : args.length = 1) (h : wp Try.prog (.seq Z65_0 (.seq Z65_1 (.seq Z65_2 (.seq (.seq Z65_3 Z65_15) (.seq Z65_16 .ret))))) (postQ [.c 2 2 true] R) (env0 args) H) : ACall Try.prog n_Z65 args H R :=
  acall_of_wp mixed Try.func100 c_Z65 (by kernel_rfl) hl h
@[go_sem] def l_Z69_0 : List GOp := [⟨(some 2), .alloc [(.int .i64 0), (.sl none 0 0 true 0)], none⟩]
def Z69_0 : IR := .ops l_Z69_0
@[go_sem] theorem w_Z69_0 : wp P Z69_0 Q e H = wpL P l_Z69_0 (Q .normal) e H := idE rfl
@[go_sem] def l_Z69_1 : List GOp := [⟨(some 5), .mv (.t 0), none⟩,
    ⟨(some 6), .call (n_Z77) [(.t 5), (.c (.int .i64 4))], none⟩,
    ⟨(some 7), .bin .eql (.t 6) (.c (.int .i64 0)), none⟩]
def Z69_1 : IR := .ops l_Z69_1
@[go_sem] theorem w_Z69_1 : wp P Z69_1 Q e H = wpL P l_Z69_1 (Q .normal) e H := idE rfl
@[go_sem] def l_Z69_2 : List GOp := [⟨(some 8), .mv (.t 0), none⟩,
    ⟨(some 9), .call (n_Z65) [(.t 8)], none⟩,
    ⟨none, .store (.t 2) 2 (.t 9), none⟩]
def Z69_2 : IR := .ops l_Z69_2
@[go_sem] theorem w_Z69_2 : wp P Z69_2 Q e H = wpL P l_Z69_2 (Q .normal) e H := idE rfl
def Z69_3 : IR := .cond (.t 7) (.seq Z69_2 .ret) .skip
@[go_sem] theorem w_Z69_3 : wp P Z69_3 Q e H = condW P ((.t 7) : X) (.seq Z69_2 .ret) .skip Q e H := idE rfl
@[go_sem] def l_Z69_4 : List GOp := [⟨(some 10), .mv (.t 0), none⟩,
    ⟨(some 11), .bslc 1 5 [(.int .i64 0)] [(0, (.c (.int .i64 3))), (1, (.c (.int .i64 4))), (2, (.c (.int .i64 5))), (3, (.c (.int .i64 6))), (4, (.c (.int .i64 2)))], none⟩,
    ⟨(some 12), .call (n_Z76) [(.t 10), (.t 11)], none⟩,
    ⟨(some 3), .mv (.t 12), none⟩]
def Z69_4 : IR := .ops l_Z69_4
@[go_sem] theorem w_Z69_4 : wp P Z69_4 Q e H = wpL P l_Z69_4 (Q .normal) e H := idE rfl
@[go_sem] def l_Z69_5 : List GOp := [⟨(some 13), .mv (.t 0), none⟩,
    ⟨(some 14), .mv (.t 3), none⟩,
    ⟨(some 15), .mv (.t 0), none⟩,
    ⟨(some 16), .bslc 1 5 [(.int .i64 0)] [(0, (.c (.int .i64 8))), (1, (.c (.int .i64 12))), (2, (.c (.int .i64 16))), (3, (.c (.int .i64 20))), (4, (.c (.int .i64 4)))], none⟩,
    ⟨(some 17), .call (n_Z76) [(.t 15), (.t 16)], none⟩,
    ⟨(some 18), .call (n_Z59) [(.t 13), (.t 14), (.t 17)], none⟩,
    ⟨(some 4), .alloc [(.int .i64 0), (.sl none 0 0 true 0)], none⟩,
    ⟨none, .store (.t 4) 2 (.t 18), none⟩]
def Z69_5 : IR := .ops l_Z69_5
@[go_sem] theorem w_Z69_5 : wp P Z69_5 Q e H = wpL P l_Z69_5 (Q .normal) e H := idE rfl
@[go_sem] def l_Z69_6 : List GOp := [⟨(some 19), .mv (.t 0), none⟩,
    ⟨(some 20), .call (n_Z77) [(.t 19), (.c (.int .i64 6))], none⟩,
    ⟨(some 21), .bin .eql (.t 20) (.c (.int .i64 0)), none⟩]
def Z69_6 : IR := .ops l_Z69_6
@[go_sem] theorem w_Z69_6 : wp P Z69_6 Q e H = wpL P l_Z69_6 (Q .normal) e H := idE rfl
@[go_sem] def l_Z69_7 : List GOp := [⟨(some 22), .faddr (.t 4) 1, none⟩,
    ⟨(some 23), .load (.t 22) 1 false, none⟩,
    ⟨(some 24), .bslc 1 0 [(.int .i64 0)] [], none⟩,
    ⟨(some 25), .bslo 1 1 [(.sl none 0 0 true 0)] [(0, (.t 24))], none⟩,
    ⟨(some 26), .app 1 24 (.t 23) (.t 25), none⟩,
    ⟨(some 27), .faddr (.t 4) 1, none⟩,
    ⟨none, .store (.t 27) 1 (.t 26), none⟩]
def Z69_7 : IR := .ops l_Z69_7
@[go_sem] theorem w_Z69_7 : wp P Z69_7 Q e H = wpL P l_Z69_7 (Q .normal) e H := idE rfl
def Z69_8 : IR := .cond (.t 21) Z69_7 .skip
@[go_sem] theorem w_Z69_8 : wp P Z69_8 Q e H = condW P ((.t 21) : X) Z69_7 .skip Q e H := idE rfl
@[go_sem] def l_Z69_9 : List GOp := [⟨(some 28), .load (.t 4) 2 true, none⟩,
    ⟨none, .store (.t 2) 2 (.t 28), none⟩]
def Z69_9 : IR := .ops l_Z69_9
@[go_sem] theorem w_Z69_9 : wp P Z69_9 Q e H = wpL P l_Z69_9 (Q .normal) e H := idE rfl
def F_Z69 : IFn := ⟨1, 29, [.c 2 2 true], (.seq Z69_0 (.seq (.seq Z69_1 Z69_3) (.seq Z69_4 (.seq Z69_5 (.seq (.seq Z69_6 Z69_8) (.seq Z69_9 .ret))))))⟩
theorem c_Z69 : compFn Try.prog [(0, [], []), (1, [], []), (2, [], []), (3, [], []), (4, [], []), (5, [], []), (6, [], []), (7, [], [])] Try.f65 = some F_Z69 := by kernel_rfl
theorem a_Z69 (hl : args.length = 1) (h : wp Try.prog (.seq Z69_0 (.seq (.seq Z69_1 Z69_3) (.seq Z69_4 (.seq Z69_5 (.seq (.seq Z69_6 Z69_8) (.seq Z69_9 .ret)))))) (postQ [.c 2 2 true] R) (env0 args) H) : ACall Try.prog n_Z69 args H R :=
  acall_of_wp mixed Try.func65 c_Z69 (by kernel_rfl) hl h
@[go_sem] def l_Z54_0 : List GOp := [⟨(some 2), .alloc [(.int .i64 0), (.sl none 0 0 true 0)], none⟩]
def Z54_0 : IR := .ops l_Z54_0
@[go_sem] theorem w_Z54_0 : wp P Z54_0 Q e H = wpL P l_Z54_0 (Q .normal) e H := idE rfl
@[go_sem] def l_Z54_1 : List GOp := [⟨(some 3), .mv (.t 0), none⟩,
    ⟨(some 4), .call (n_Z75) [(.t 3)], none⟩,
    ⟨(some 5), .call (n_Z69) [(.t 4)], none⟩,
    ⟨none, .store (.t 2) 2 (.t 5), none⟩]
def Z54_1 : IR := .ops l_Z54_1
@[go_sem] theorem w_Z54_1 : wp P Z54_1 Q e H = wpL P l_Z54_1 (Q .normal) e H := idE rfl
def F_Z54 : IFn := ⟨1, 6, [.c 2 2 true], (.seq Z54_0 (.seq Z54_1 .ret))⟩
theorem c_Z54 : compFn Try.prog [(0, [], []), (1, [], [])] Try.f39 = some F_Z54 := by kernel_rfl
theorem a_Z54 (hl : args.length = 1) (h : wp Try.prog (.seq Z54_0 (.seq Z54_1 .ret)) (postQ [.c 2 2 true] R) (env0 args) H) : ACall Try.prog n_Z54 args H R :=
  acall_of_wp mixed Try.func39 c_Z54 (by kernel_rfl) hl h
@[go_sem] def l_Z19_0 : List GOp := [⟨(some 6), .mv (.c (.bool false)), none⟩]
def Z19_0 : IR := .ops l_Z19_0
@[go_sem] theorem w_Z19_0 : wp P Z19_0 Q e H = wpL P l_Z19_0 (Q .normal) e H := idE rfl
@[go_sem] def l_Z19_1 : List GOp := [⟨(some 7), .mv (.t 0), none⟩,
    ⟨(some 8), .mv (.t 1), none⟩,
    ⟨(some 9), .bin .geq (.t 7) (.t 8), none⟩,
    ⟨(some 10), .mv (.t 9), none⟩,
    ⟨(some 11), .mv (.t 0), (some (10, true))⟩,
    ⟨(some 12), .mv (.t 2), (some (10, true))⟩,
    ⟨(some 13), .bin .leq (.t 11) (.t 12), (some (10, true))⟩,
    ⟨(some 14), .pick (.t 10) (.t 13) (.c (.bool false)), none⟩,
    ⟨(some 6), .mv (.t 14), none⟩]
def Z19_1 : IR := .ops l_Z19_1
@[go_sem] theorem w_Z19_1 : wp P Z19_1 Q e H = wpL P l_Z19_1 (Q .normal) e H := idE rfl
def F_Z19 : IFn := ⟨3, 15, [.t 6], (.seq Z19_0 (.seq Z19_1 .ret))⟩
theorem c_Z19 : compFn Try.prog [(0, [], []), (1, [], [])] Try.f59 = some F_Z19 := by kernel_rfl
theorem a_Z19 (hl : args.length = 3) (h : wp Try.prog (.seq Z19_0 (.seq Z19_1 .ret)) (postQ [.t 6] R) (env0 args) H) : ACall Try.prog n_Z19 args H R :=
  acall_of_wp mixed Try.func59 c_Z19 (by kernel_rfl) hl h
@[go_sem] def l_Z9_0 : List GOp := [⟨(some 2), .mv (.c (.int .i64 0)), none⟩]
def Z9_0 : IR := .ops l_Z9_0
@[go_sem] theorem w_Z9_0 : wp P Z9_0 Q e H = wpL P l_Z9_0 (Q .normal) e H := idE rfl
@[go_sem] def l_Z9_1 : List GOp := [⟨(some 3), .mv (.t 0), none⟩,
    ⟨(some 4), .mv (.t 0), none⟩,
    ⟨(some 5), .un .neg (.t 4), none⟩,
    ⟨(some 6), .mnx true (.t 3) (.t 5), none⟩,
    ⟨(some 2), .mv (.t 6), none⟩]
def Z9_1 : IR := .ops l_Z9_1
@[go_sem] theorem w_Z9_1 : wp P Z9_1 Q e H = wpL P l_Z9_1 (Q .normal) e H := idE rfl
def F_Z9 : IFn := ⟨1, 7, [.t 2], (.seq Z9_0 (.seq Z9_1 .ret))⟩
theorem c_Z9 : compFn Try.prog [(0, [], []), (1, [], [])] Try.f104 = some F_Z9 := by kernel_rfl
theorem a_Z9 (hl : args.length = 1) (h : wp Try.prog (.seq Z9_0 (.seq Z9_1 .ret)) (postQ [.t 2] R) (env0 args) H) : ACall Try.prog n_Z9 args H R :=
  acall_of_wp mixed Try.func104 c_Z9 (by kernel_rfl) hl h
@[go_sem] def l_Z3_0 : List GOp := [⟨(some 4), .mv (.c (.bool false)), none⟩]
def Z3_0 : IR := .ops l_Z3_0
@[go_sem] theorem w_Z3_0 : wp P Z3_0 Q e H = wpL P l_Z3_0 (Q .normal) e H := idE rfl
@[go_sem] def l_Z3_1 : List GOp := [⟨(some 7), .mv (.t 1), none⟩,
    ⟨(some 8), .call (n_Z19) [(.t 7), (.c (.int .i64 0)), (.c (.int .i64 700))], none⟩,
    ⟨(some 9), .un .not (.t 8), none⟩]
def Z3_1 : IR := .ops l_Z3_1
@[go_sem] theorem w_Z3_1 : wp P Z3_1 Q e H = wpL P l_Z3_1 (Q .normal) e H := idE rfl
@[go_sem] def l_Z3_2 : List GOp := [⟨(some 4), .mv (.c (.bool false)), none⟩]
def Z3_2 : IR := .ops l_Z3_2
@[go_sem] theorem w_Z3_2 : wp P Z3_2 Q e H = wpL P l_Z3_2 (Q .normal) e H := idE rfl
def Z3_3 : IR := .cond (.t 9) (.seq Z3_2 .ret) .skip
@[go_sem] theorem w_Z3_3 : wp P Z3_3 Q e H = condW P ((.t 9) : X) (.seq Z3_2 .ret) .skip Q e H := idE rfl
@[go_sem] def l_Z3_4 : List GOp := [⟨(some 10), .mv (.t 0), none⟩,
    ⟨(some 11), .len (.t 10), none⟩,
    ⟨(some 12), .mv (.c (.int .i64 0)), none⟩]
def Z3_4 : IR := .ops l_Z3_4
@[go_sem] theorem w_Z3_4 : wp P Z3_4 Q e H = wpL P l_Z3_4 (Q .normal) e H := idE rfl
@[go_sem] def l_Z3_5 : List GOp := [⟨(some 13), .bin .lss (.t 12) (.t 11), none⟩]
def Z3_5 : IR := .ops l_Z3_5
@[go_sem] theorem w_Z3_5 : wp P Z3_5 Q e H = wpL P l_Z3_5 (Q .normal) e H := idE rfl
def Z3_6 : IR := .cond (.t 13) .skip (.exit 0)
@[go_sem] theorem w_Z3_6 : wp P Z3_6 Q e H = condW P ((.t 13) : X) .skip (.exit 0) Q e H := idE rfl
@[go_sem] def l_Z3_7 : List GOp := [⟨(some 14), .mv (.t 12), none⟩,
    ⟨(some 15), .iaddr (.t 10) (.t 12) 1, none⟩,
    ⟨(some 16), .load (.t 15) 1 false, none⟩,
    ⟨(some 5), .mv (.t 14), none⟩,
    ⟨(some 6), .mv (.t 16), none⟩]
def Z3_7 : IR := .ops l_Z3_7
@[go_sem] theorem w_Z3_7 : wp P Z3_7 Q e H = wpL P l_Z3_7 (Q .normal) e H := idE rfl
@[go_sem] def l_Z3_8 : List GOp := [⟨(some 17), .mv (.t 6), none⟩,
    ⟨(some 18), .mv (.t 1), none⟩,
    ⟨(some 19), .un .neg (.t 18), none⟩,
    ⟨(some 20), .mv (.t 1), none⟩,
    ⟨(some 21), .call (n_Z19) [(.t 17), (.t 19), (.t 20)], none⟩,
    ⟨(some 22), .un .not (.t 21), none⟩,
    ⟨(some 23), .mv (.t 22), none⟩,
    ⟨(some 24), .mv (.t 6), (some (23, false))⟩,
    ⟨(some 25), .bin .eql (.t 24) (.c (.int .i64 0)), (some (23, false))⟩,
    ⟨(some 26), .pick (.t 23) (.c (.bool true)) (.t 25), none⟩,
    ⟨(some 27), .mv (.t 26), none⟩,
    ⟨(some 28), .mv (.t 5), (some (27, false))⟩,
    ⟨(some 29), .bin .gtr (.t 28) (.c (.int .i64 0)), (some (27, false))⟩,
    ⟨(some 30), .mv (.t 29), (some (27, false))⟩,
    ⟨(some 31), .mv (.t 0), (some (30, true))⟩,
    ⟨(some 32), .mv (.t 5), (some (30, true))⟩,
    ⟨(some 33), .bin .sub (.t 32) (.c (.int .i64 1)), (some (30, true))⟩,
    ⟨(some 34), .iaddr (.t 31) (.t 33) 1, (some (30, true))⟩,
    ⟨(some 35), .load (.t 34) 1 false, (some (30, true))⟩,
    ⟨(some 36), .call (n_Z9) [(.t 35)], (some (30, true))⟩,
    ⟨(some 37), .mv (.t 6), (some (30, true))⟩,
    ⟨(some 38), .call (n_Z9) [(.t 37)], (some (30, true))⟩,
    ⟨(some 39), .bin .geq (.t 36) (.t 38), (some (30, true))⟩,
    ⟨(some 40), .pick (.t 30) (.t 39) (.c (.bool false)), (some (27, false))⟩,
    ⟨(some 41), .pick (.t 27) (.c (.bool true)) (.t 40), none⟩]
def Z3_8 : IR := .ops l_Z3_8
@[go_sem] theorem w_Z3_8 : wp P Z3_8 Q e H = wpL P l_Z3_8 (Q .normal) e H := idE rfl
@[go_sem] def l_Z3_9 : List GOp := [⟨(some 4), .mv (.c (.bool false)), none⟩]
def Z3_9 : IR := .ops l_Z3_9
@[go_sem] theorem w_Z3_9 : wp P Z3_9 Q e H = wpL P l_Z3_9 (Q .normal) e H := idE rfl
def Z3_10 : IR := .cond (.t 41) (.seq Z3_9 .ret) .skip
@[go_sem] theorem w_Z3_10 : wp P Z3_10 Q e H = condW P ((.t 41) : X) (.seq Z3_9 .ret) .skip Q e H := idE rfl
def Z3_11 : IR := .block 1 (.seq Z3_7 (.seq Z3_8 Z3_10))
@[go_sem] theorem w_Z3_11 : wp P Z3_11 Q e H = wp P (.seq Z3_7 (.seq Z3_8 Z3_10)) (blockQ 1 Q) e H := idE rfl
@[go_sem] def l_Z3_12 : List GOp := [⟨(some 42), .bin .add (.t 12) (.c (.int .i64 1)), none⟩,
    ⟨(some 12), .mv (.t 42), none⟩]
def Z3_12 : IR := .ops l_Z3_12
@[go_sem] theorem w_Z3_12 : wp P Z3_12 Q e H = wpL P l_Z3_12 (Q .normal) e H := idE rfl
def Z3_13 : IR := .loop (.seq Z3_5 (.seq Z3_6 (.seq Z3_11 Z3_12)))
def Z3_14 : IR := .block 0 Z3_13
@[go_sem] theorem w_Z3_14 : wp P Z3_14 Q e H = wp P Z3_13 (blockQ 0 Q) e H := idE rfl
@[go_sem] def l_Z3_15 : List GOp := [⟨(some 4), .mv (.c (.bool true)), none⟩]
def Z3_15 : IR := .ops l_Z3_15
@[go_sem] theorem w_Z3_15 : wp P Z3_15 Q e H = wpL P l_Z3_15 (Q .normal) e H := idE rfl
def F_Z3 : IFn := ⟨2, 43, [.t 4], (.seq Z3_0 (.seq (.seq Z3_1 Z3_3) (.seq (.seq Z3_4 Z3_14) (.seq Z3_15 .ret))))⟩
theorem c_Z3 : compFn Try.prog [(0, [], []), (1, [], []), (2, [], []), (3, [], []), (4, [], []), (5, [], []), (6, [], []), (7, [], []), (8, [], []), (9, [], [])] Try.f70 = some F_Z3 := by kernel_rfl
theorem a_Z3 (hl : args.length = 2) (h : wp Try.prog (.seq Z3_0 (.seq (.seq Z3_1 Z3_3) (.seq (.seq Z3_4 Z3_14) (.seq Z3_15 .ret)))) (postQ [.t 4] R) (env0 args) H) : ACall Try.prog n_Z3 args H R :=
  acall_of_wp mixed Try.func70 c_Z3 (by kernel_rfl) hl h
@[go_sem] def l_Z4_1_0 : List GOp := [⟨(some 3), .mv (.c (.bool false)), none⟩]
def Z4_1_0 : IR := .ops l_Z4_1_0
@[go_sem] theorem w_Z4_1_0 : wp P Z4_1_0 Q e H = wpL P l_Z4_1_0 (Q .normal) e H := idE rfl
@[go_sem] def l_Z4_1_1 : List GOp := [⟨(some 4), .mv (.t 0), none⟩,
    ⟨(some 5), .faddr (.t 1) 0, none⟩,
    ⟨(some 6), .load (.t 5) 1 false, none⟩,
    ⟨(some 7), .call (n_Z3) [(.t 4), (.t 6)], none⟩,
    ⟨(some 8), .un .not (.t 7), none⟩,
    ⟨(some 3), .mv (.t 8), none⟩]
def Z4_1_1 : IR := .ops l_Z4_1_1
@[go_sem] theorem w_Z4_1_1 : wp P Z4_1_1 Q e H = wpL P l_Z4_1_1 (Q .normal) e H := idE rfl
def F_Z4_1 : IFn := ⟨2, 9, [.t 3], (.seq Z4_1_0 (.seq Z4_1_1 .ret))⟩
theorem c_Z4_1 : compFn Try.prog [(0, [], []), (1, [], [])] Try.f69 = some F_Z4_1 := by kernel_rfl
theorem a_Z4_1 (hl : args.length = 2) (h : wp Try.prog (.seq Z4_1_0 (.seq Z4_1_1 .ret)) (postQ [.t 3] R) (env0 args) H) : ACall Try.prog n_Z4_1 args H R :=
  acall_of_wp mixed Try.func69 c_Z4_1 (by kernel_rfl) hl h
@[go_sem] def l_Z34_0 : List GOp := [⟨(some 4), .mv (.c (.int .i64 0)), none⟩]
def Z34_0 : IR := .ops l_Z34_0
@[go_sem] theorem w_Z34_0 : wp P Z34_0 Q e H = wpL P l_Z34_0 (Q .normal) e H := idE rfl
@[go_sem] def l_Z34_1 : List GOp := [⟨(some 6), .mv (.t 0), none⟩,
    ⟨(some 7), .len (.t 6), none⟩,
    ⟨(some 8), .mv (.c (.int .i64 0)), none⟩]
def Z34_1 : IR := .ops l_Z34_1
@[go_sem] theorem w_Z34_1 : wp P Z34_1 Q e H = wpL P l_Z34_1 (Q .normal) e H := idE rfl
@[go_sem] def l_Z34_2 : List GOp := [⟨(some 9), .bin .lss (.t 8) (.t 7), none⟩]
def Z34_2 : IR := .ops l_Z34_2
@[go_sem] theorem w_Z34_2 : wp P Z34_2 Q e H = wpL P l_Z34_2 (Q .normal) e H := idE rfl
def Z34_3 : IR := .cond (.t 9) .skip (.exit 0)
@[go_sem] theorem w_Z34_3 : wp P Z34_3 Q e H = condW P ((.t 9) : X) .skip (.exit 0) Q e H := idE rfl
@[go_sem] def l_Z34_4 : List GOp := [⟨(some 10), .mv (.t 8), none⟩,
    ⟨(some 5), .mv (.t 10), none⟩]
def Z34_4 : IR := .ops l_Z34_4
@[go_sem] theorem w_Z34_4 : wp P Z34_4 Q e H = wpL P l_Z34_4 (Q .normal) e H := idE rfl
@[go_sem] def l_Z34_5 : List GOp := [⟨(some 11), .mv (.t 1), none⟩,
    ⟨(some 12), .mv (.t 0), none⟩,
    ⟨(some 13), .mv (.t 5), none⟩,
    ⟨(some 14), .iaddr (.t 12) (.t 13) 1, none⟩,
    ⟨(some 15), .load (.t 14) 1 false, none⟩,
    ⟨(some 16), .callv (.t 11) [(.t 15)], none⟩]
def Z34_5 : IR := .ops l_Z34_5
@[go_sem] theorem w_Z34_5 : wp P Z34_5 Q e H = wpL P l_Z34_5 (Q .normal) e H := idE rfl
@[go_sem] def l_Z34_6 : List GOp := [⟨(some 17), .mv (.t 5), none⟩,
    ⟨(some 4), .mv (.t 17), none⟩]
def Z34_6 : IR := .ops l_Z34_6
@[go_sem] theorem w_Z34_6 : wp P Z34_6 Q e H = wpL P l_Z34_6 (Q .normal) e H := idE rfl
def Z34_7 : IR := .cond (.t 16) (.seq Z34_6 .ret) .skip
@[go_sem] theorem w_Z34_7 : wp P Z34_7 Q e H = condW P ((.t 16) : X) (.seq Z34_6 .ret) .skip Q e H := idE rfl
def Z34_8 : IR := .block 1 (.seq Z34_4 (.seq Z34_5 Z34_7))
@[go_sem] theorem w_Z34_8 : wp P Z34_8 Q e H = wp P (.seq Z34_4 (.seq Z34_5 Z34_7)) (blockQ 1 Q) e H := idE rfl
@[go_sem] def l_Z34_9 : List GOp := [⟨(some 18), .bin .add (.t 8) (.c (.int .i64 1)), none⟩,
    ⟨(some 8), .mv (.t 18), none⟩]
def Z34_9 : IR := .ops l_Z34_9
@[go_sem] theorem w_Z34_9 : wp P Z34_9 Q e H = wpL P l_Z34_9 (Q .normal) e H := idE rfl
def Z34_10 : IR := .loop (.seq Z34_2 (.seq Z34_3 (.seq Z34_8 Z34_9)))
def Z34_11 : IR := .block 0 Z34_10
@[go_sem] theorem w_Z34_11 : wp P Z34_11 Q e H = wp P Z34_10 (blockQ 0 Q) e H := idE rfl
@[go_sem] def l_Z34_12 : List GOp := [⟨(some 4), .mv (.c (.int .i64 (-1))), none⟩]
def Z34_12 : IR := .ops l_Z34_12
@[go_sem] theorem w_Z34_12 : wp P Z34_12 Q e H = wpL P l_Z34_12 (Q .normal) e H := idE rfl
def F_Z34 : IFn := ⟨2, 19, [.t 4], (.seq Z34_0 (.seq (.seq Z34_1 Z34_11) (.seq Z34_12 .ret)))⟩
theorem c_Z34 : compFn Try.prog [(0, [], []), (1, [], []), (2, [], []), (3, [], []), (4, [], []), (5, [], []), (6, [], []), (7, [], [])] Try.f103 = some F_Z34 := by kernel_rfl
theorem a_Z34 (hl : args.length = 2) (h : wp Try.prog (.seq Z34_0 (.seq (.seq Z34_1 Z34_11) (.seq Z34_12 .ret))) (postQ [.t 4] R) (env0 args) H) : ACall Try.prog n_Z34 args H R :=
  acall_of_wp mixed Try.func103 c_Z34 (by kernel_rfl) hl h
@[go_sem] def l_Z32_0 : List GOp := [⟨(some 4), .mv (.c (.bool false)), none⟩]
def Z32_0 : IR := .ops l_Z32_0
@[go_sem] theorem w_Z32_0 : wp P Z32_0 Q e H = wpL P l_Z32_0 (Q .normal) e H := idE rfl
@[go_sem] def l_Z32_1 : List GOp := [⟨(some 5), .mv (.t 0), none⟩,
    ⟨(some 6), .mv (.t 1), none⟩,
    ⟨(some 7), .call (n_Z34) [(.t 5), (.t 6)], none⟩,
    ⟨(some 8), .bin .geq (.t 7) (.c (.int .i64 0)), none⟩,
    ⟨(some 4), .mv (.t 8), none⟩]
def Z32_1 : IR := .ops l_Z32_1
@[go_sem] theorem w_Z32_1 : wp P Z32_1 Q e H = wpL P l_Z32_1 (Q .normal) e H := idE rfl
def F_Z32 : IFn := ⟨2, 9, [.t 4], (.seq Z32_0 (.seq Z32_1 .ret))⟩
theorem c_Z32 : compFn Try.prog [(0, [], []), (1, [], [])] Try.f68 = some F_Z32 := by kernel_rfl
theorem a_Z32 (hl : args.length = 2) (h : wp Try.prog (.seq Z32_0 (.seq Z32_1 .ret)) (postQ [.t 4] R) (env0 args) H) : ACall Try.prog n_Z32 args H R :=
  acall_of_wp mixed Try.func68 c_Z32 (by kernel_rfl) hl h
@[go_sem] def l_Z4_0 : List GOp := [⟨(some 1), .box (.t 0), none⟩,
    ⟨(some 2), .mv (.c (.bool false)), none⟩]
def Z4_0 : IR := .ops l_Z4_0
@[go_sem] theorem w_Z4_0 : wp P Z4_0 Q e H = wpL P l_Z4_0 (Q .normal) e H := idE rfl
@[go_sem] def l_Z4_1 : List GOp := [⟨(some 3), .faddr (.t 1) 0, none⟩,
    ⟨(some 4), .load (.t 3) 1 false, none⟩,
    ⟨(some 5), .call (n_Z19) [(.t 4), (.c (.int .i64 0)), (.c (.int .i64 700))], none⟩,
    ⟨(some 6), .mv (.t 5), none⟩,
    ⟨(some 7), .faddr (.t 1) 1, (some (6, true))⟩,
    ⟨(some 8), .load (.t 7) 1 false, (some (6, true))⟩,
    ⟨(some 9), .len (.t 8), (some (6, true))⟩,
    ⟨(some 10), .bin .leq (.t 9) (.c (.int .i64 2500)), (some (6, true))⟩,
    ⟨(some 11), .pick (.t 6) (.t 10) (.c (.bool false)), none⟩,
    ⟨(some 12), .mv (.t 11), none⟩,
    ⟨(some 13), .faddr (.t 1) 1, (some (12, true))⟩,
    ⟨(some 14), .load (.t 13) 1 false, (some (12, true))⟩,
    ⟨(some 15), .mkfn (n_Z4_1) [(.t 1)], (some (12, true))⟩,
    ⟨(some 16), .call (n_Z32) [(.t 14), (.t 15)], (some (12, true))⟩,
    ⟨(some 17), .un .not (.t 16), (some (12, true))⟩,
    ⟨(some 18), .pick (.t 12) (.t 17) (.c (.bool false)), none⟩,
    ⟨(some 2), .mv (.t 18), none⟩]
def Z4_1 : IR := .ops l_Z4_1
@[go_sem] theorem w_Z4_1 : wp P Z4_1 Q e H = wpL P l_Z4_1 (Q .normal) e H := idE rfl
def F_Z4 : IFn := ⟨1, 19, [.t 2], (.seq Z4_0 (.seq Z4_1 .ret))⟩
theorem c_Z4 : compFn Try.prog [(0, [], []), (1, [], [])] Try.f27 = some F_Z4 := by kernel_rfl
theorem a_Z4 (hl : args.length = 1) (h : wp Try.prog (.seq Z4_0 (.seq Z4_1 .ret)) (postQ [.t 2] R) (env0 args) H) : ACall Try.prog n_Z4 args H R :=
  acall_of_wp mixed Try.func27 c_Z4 (by kernel_rfl) hl h
@[go_sem] def l_Z10_0 : List GOp := [⟨(some 2), .mv (.c (.int .i64 0)), none⟩]
def Z10_0 : IR := .ops l_Z10_0
@[go_sem] theorem w_Z10_0 : wp P Z10_0 Q e H = wpL P l_Z10_0 (Q .normal) e H := idE rfl
@[go_sem] def l_Z10_1 : List GOp := [⟨(some 3), .mv (.t 0), none⟩]
def Z10_1 : IR := .ops l_Z10_1
@[go_sem] theorem w_Z10_1 : wp P Z10_1 Q e H = wpL P l_Z10_1 (Q .normal) e H := idE rfl
@[go_sem] def l_Z10_2 : List GOp := [⟨(some 2), .mv (.c (.int .i64 1)), none⟩]
def Z10_2 : IR := .ops l_Z10_2
@[go_sem] theorem w_Z10_2 : wp P Z10_2 Q e H = wpL P l_Z10_2 (Q .normal) e H := idE rfl
def Z10_3 : IR := .cond (.t 3) (.seq Z10_2 .ret) .skip
@[go_sem] theorem w_Z10_3 : wp P Z10_3 Q e H = condW P ((.t 3) : X) (.seq Z10_2 .ret) .skip Q e H := idE rfl
@[go_sem] def l_Z10_4 : List GOp := [⟨(some 2), .mv (.c (.int .i64 0)), none⟩]
def Z10_4 : IR := .ops l_Z10_4
@[go_sem] theorem w_Z10_4 : wp P Z10_4 Q e H = wpL P l_Z10_4 (Q .normal) e H := idE rfl
def F_Z10 : IFn := ⟨1, 4, [.t 2], (.seq Z10_0 (.seq (.seq Z10_1 Z10_3) (.seq Z10_4 .ret)))⟩
theorem c_Z10 : compFn Try.prog [(0, [], []), (1, [], []), (2, [], []), (3, [], [])] Try.f107 = some F_Z10 := by kernel_rfl
theorem a_Z10 (hl : args.length = 1) (h : wp Try.prog (.seq Z10_0 (.seq (.seq Z10_1 Z10_3) (.seq Z10_4 .ret))) (postQ [.t 2] R) (env0 args) H) : ACall Try.prog n_Z10 args H R :=
  acall_of_wp mixed Try.func107 c_Z10 (by kernel_rfl) hl h
@[go_sem] def l_Z22_0 : List GOp := [⟨(some 4), .mv (.c (.sl none 0 0 true 0)), none⟩]
def Z22_0 : IR := .ops l_Z22_0
@[go_sem] theorem w_Z22_0 : wp P Z22_0 Q e H = wpL P l_Z22_0 (Q .normal) e H := idE rfl
@[go_sem] def l_Z22_1 : List GOp := [⟨(some 8), .mv (.t 0), none⟩,
    ⟨(some 9), .bin .add (.t 8) (.c (.int .i64 1)), none⟩,
    ⟨(some 10), .mks [(.int .i64 0)] 8 (.t 9), none⟩,
    ⟨(some 5), .mv (.t 10), none⟩]
def Z22_1 : IR := .ops l_Z22_1
@[go_sem] theorem w_Z22_1 : wp P Z22_1 Q e H = wpL P l_Z22_1 (Q .normal) e H := idE rfl
@[go_sem] def l_Z22_2 : List GOp := [⟨(some 11), .mv (.t 1), none⟩,
    ⟨(some 12), .len (.t 11), none⟩,
    ⟨(some 13), .mv (.c (.int .i64 0)), none⟩]
def Z22_2 : IR := .ops l_Z22_2
@[go_sem] theorem w_Z22_2 : wp P Z22_2 Q e H = wpL P l_Z22_2 (Q .normal) e H := idE rfl
@[go_sem] def l_Z22_3 : List GOp := [⟨(some 14), .bin .lss (.t 13) (.t 12), none⟩]
def Z22_3 : IR := .ops l_Z22_3
@[go_sem] theorem w_Z22_3 : wp P Z22_3 Q e H = wpL P l_Z22_3 (Q .normal) e H := idE rfl
def Z22_4 : IR := .cond (.t 14) .skip (.exit 0)
@[go_sem] theorem w_Z22_4 : wp P Z22_4 Q e H = condW P ((.t 14) : X) .skip (.exit 0) Q e H := idE rfl
@[go_sem] def l_Z22_5 : List GOp := [⟨(some 15), .iaddr (.t 11) (.t 13) 1, none⟩,
    ⟨(some 16), .load (.t 15) 1 false, none⟩,
    ⟨(some 7), .mv (.t 16), none⟩]
def Z22_5 : IR := .ops l_Z22_5
@[go_sem] theorem w_Z22_5 : wp P Z22_5 Q e H = wpL P l_Z22_5 (Q .normal) e H := idE rfl
@[go_sem] def l_Z22_6 : List GOp := [⟨(some 17), .mv (.t 5), none⟩,
    ⟨(some 18), .mv (.t 7), none⟩,
    ⟨(some 19), .call (n_Z9) [(.t 18)], none⟩,
    ⟨(some 20), .mv (.t 7), none⟩,
    ⟨(some 21), .bin .lss (.t 20) (.c (.int .i64 0)), none⟩,
    ⟨(some 22), .call (n_Z10) [(.t 21)], none⟩,
    ⟨(some 23), .bin .mul (.c (.int .i64 2)) (.t 22), none⟩,
    ⟨(some 24), .bin .sub (.c (.int .i64 1)) (.t 23), none⟩,
    ⟨(some 25), .iaddr (.t 17) (.t 19) 1, none⟩,
    ⟨none, .store (.t 25) 1 (.t 24), none⟩]
def Z22_6 : IR := .ops l_Z22_6
@[go_sem] theorem w_Z22_6 : wp P Z22_6 Q e H = wpL P l_Z22_6 (Q .normal) e H := idE rfl
def Z22_7 : IR := .block 1 (.seq Z22_5 Z22_6)
@[go_sem] theorem w_Z22_7 : wp P Z22_7 Q e H = wp P (.seq Z22_5 Z22_6) (blockQ 1 Q) e H := idE rfl
@[go_sem] def l_Z22_8 : List GOp := [⟨(some 26), .bin .add (.t 13) (.c (.int .i64 1)), none⟩,
    ⟨(some 13), .mv (.t 26), none⟩]
def Z22_8 : IR := .ops l_Z22_8
@[go_sem] theorem w_Z22_8 : wp P Z22_8 Q e H = wpL P l_Z22_8 (Q .normal) e H := idE rfl
def Z22_9 : IR := .loop (.seq Z22_3 (.seq Z22_4 (.seq Z22_7 Z22_8)))
def Z22_10 : IR := .block 0 Z22_9
@[go_sem] theorem w_Z22_10 : wp P Z22_10 Q e H = wp P Z22_9 (blockQ 0 Q) e H := idE rfl
@[go_sem] def l_Z22_11 : List GOp := [⟨(some 27), .mv (.t 5), none⟩,
    ⟨(some 4), .mv (.t 27), none⟩]
def Z22_11 : IR := .ops l_Z22_11
@[go_sem] theorem w_Z22_11 : wp P Z22_11 Q e H = wpL P l_Z22_11 (Q .normal) e H := idE rfl
def F_Z22 : IFn := ⟨2, 28, [.t 4], (.seq Z22_0 (.seq Z22_1 (.seq (.seq Z22_2 Z22_10) (.seq Z22_11 .ret))))⟩
theorem c_Z22 : compFn Try.prog [(0, [], []), (1, [], []), (2, [], []), (3, [], []), (4, [], []), (5, [], []), (6, [], []), (7, [], [])] Try.f72 = some F_Z22 := by kernel_rfl
theorem a_Z22 (hl : args.length = 2) (h : wp Try.prog (.seq Z22_0 (.seq Z22_1 (.seq (.seq Z22_2 Z22_10) (.seq Z22_11 .ret)))) (postQ [.t 4] R) (env0 args) H) : ACall Try.prog n_Z22 args H R :=
  acall_of_wp mixed Try.func72 c_Z22 (by kernel_rfl) hl h
@[go_sem] def l_Z15_0 : List GOp := [⟨(some 4), .mv (.c (.bool false)), none⟩]
def Z15_0 : IR := .ops l_Z15_0
@[go_sem] theorem w_Z15_0 : wp P Z15_0 Q e H = wpL P l_Z15_0 (Q .normal) e H := idE rfl
@[go_sem] def l_Z15_1 : List GOp := [⟨(some 5), .mv (.c (.bool true)), none⟩]
def Z15_1 : IR := .ops l_Z15_1
@[go_sem] theorem w_Z15_1 : wp P Z15_1 Q e H = wpL P l_Z15_1 (Q .normal) e H := idE rfl
@[go_sem] def l_Z15_2 : List GOp := [⟨(some 14), .mv (.t 5), none⟩]
def Z15_2 : IR := .ops l_Z15_2
@[go_sem] theorem w_Z15_2 : wp P Z15_2 Q e H = wpL P l_Z15_2 (Q .normal) e H := idE rfl
def Z15_3 : IR := .cond (.t 14) .skip (.exit 0)
@[go_sem] theorem w_Z15_3 : wp P Z15_3 Q e H = condW P ((.t 14) : X) .skip (.exit 0) Q e H := idE rfl
@[go_sem] def l_Z15_4 : List GOp := [⟨(some 5), .mv (.c (.bool false)), none⟩]
def Z15_4 : IR := .ops l_Z15_4
@[go_sem] theorem w_Z15_4 : wp P Z15_4 Q e H = wpL P l_Z15_4 (Q .normal) e H := idE rfl
@[go_sem] def l_Z15_5 : List GOp := [⟨(some 15), .mv (.t 0), none⟩,
    ⟨(some 16), .len (.t 15), none⟩,
    ⟨(some 17), .mv (.c (.int .i64 0)), none⟩]
def Z15_5 : IR := .ops l_Z15_5
@[go_sem] theorem w_Z15_5 : wp P Z15_5 Q e H = wpL P l_Z15_5 (Q .normal) e H := idE rfl
@[go_sem] def l_Z15_6 : List GOp := [⟨(some 18), .bin .lss (.t 17) (.t 16), none⟩]
def Z15_6 : IR := .ops l_Z15_6
@[go_sem] theorem w_Z15_6 : wp P Z15_6 Q e H = wpL P l_Z15_6 (Q .normal) e H := idE rfl
def Z15_7 : IR := .cond (.t 18) .skip (.exit 2)
@[go_sem] theorem w_Z15_7 : wp P Z15_7 Q e H = condW P ((.t 18) : X) .skip (.exit 2) Q e H := idE rfl
@[go_sem] def l_Z15_8 : List GOp := [⟨(some 19), .iaddr (.t 15) (.t 17) 1, none⟩,
    ⟨(some 20), .load (.t 19) 1 false, none⟩,
    ⟨(some 7), .mv (.t 20), none⟩]
def Z15_8 : IR := .ops l_Z15_8
@[go_sem] theorem w_Z15_8 : wp P Z15_8 Q e H = wpL P l_Z15_8 (Q .normal) e H := idE rfl
@[go_sem] def l_Z15_9 : List GOp := [⟨(some 8), .mv (.c (.int .i64 0)), none⟩,
    ⟨(some 9), .mv (.c (.int .i64 0)), none⟩,
    ⟨(some 10), .mv (.c (.bool false)), none⟩]
def Z15_9 : IR := .ops l_Z15_9
@[go_sem] theorem w_Z15_9 : wp P Z15_9 Q e H = wpL P l_Z15_9 (Q .normal) e H := idE rfl
@[go_sem] def l_Z15_10 : List GOp := [⟨(some 21), .mv (.t 7), none⟩,
    ⟨(some 22), .len (.t 21), none⟩,
    ⟨(some 23), .mv (.c (.int .i64 0)), none⟩]
def Z15_10 : IR := .ops l_Z15_10
@[go_sem] theorem w_Z15_10 : wp P Z15_10 Q e H = wpL P l_Z15_10 (Q .normal) e H := idE rfl
@[go_sem] def l_Z15_11 : List GOp := [⟨(some 24), .bin .lss (.t 23) (.t 22), none⟩]
def Z15_11 : IR := .ops l_Z15_11
@[go_sem] theorem w_Z15_11 : wp P Z15_11 Q e H = wpL P l_Z15_11 (Q .normal) e H := idE rfl
def Z15_12 : IR := .cond (.t 24) .skip (.exit 4)
@[go_sem] theorem w_Z15_12 : wp P Z15_12 Q e H = condW P ((.t 24) : X) .skip (.exit 4) Q e H := idE rfl
@[go_sem] def l_Z15_13 : List GOp := [⟨(some 25), .iaddr (.t 21) (.t 23) 1, none⟩,
    ⟨(some 26), .load (.t 25) 1 false, none⟩,
    ⟨(some 12), .mv (.t 26), none⟩]
def Z15_13 : IR := .ops l_Z15_13
@[go_sem] theorem w_Z15_13 : wp P Z15_13 Q e H = wpL P l_Z15_13 (Q .normal) e H := idE rfl
@[go_sem] def l_Z15_14 : List GOp := [⟨(some 27), .mv (.t 1), none⟩,
    ⟨(some 28), .mv (.t 12), none⟩,
    ⟨(some 29), .call (n_Z9) [(.t 28)], none⟩,
    ⟨(some 30), .iaddr (.t 27) (.t 29) 1, none⟩,
    ⟨(some 31), .load (.t 30) 1 false, none⟩,
    ⟨(some 13), .mv (.t 31), none⟩]
def Z15_14 : IR := .ops l_Z15_14
@[go_sem] theorem w_Z15_14 : wp P Z15_14 Q e H = wpL P l_Z15_14 (Q .normal) e H := idE rfl
@[go_sem] def l_Z15_15 : List GOp := [⟨(some 33), .mv (.t 13), none⟩,
    ⟨(some 34), .bin .eql (.t 33) (.c (.int .i64 0)), none⟩,
    ⟨(some 32), .mv (.t 34), none⟩]
def Z15_15 : IR := .ops l_Z15_15
@[go_sem] theorem w_Z15_15 : wp P Z15_15 Q e H = wpL P l_Z15_15 (Q .normal) e H := idE rfl
@[go_sem] def l_Z15_16 : List GOp := [⟨(some 35), .mv (.t 12), none⟩,
    ⟨(some 8), .mv (.t 35), none⟩]
def Z15_16 : IR := .ops l_Z15_16
@[go_sem] theorem w_Z15_16 : wp P Z15_16 Q e H = wpL P l_Z15_16 (Q .normal) e H := idE rfl
@[go_sem] def l_Z15_17 : List GOp := [⟨(some 36), .mv (.t 9), none⟩,
    ⟨(some 37), .bin .add (.t 36) (.c (.int .i64 1)), none⟩,
    ⟨(some 9), .mv (.t 37), none⟩]
def Z15_17 : IR := .ops l_Z15_17
@[go_sem] theorem w_Z15_17 : wp P Z15_17 Q e H = wpL P l_Z15_17 (Q .normal) e H := idE rfl
@[go_sem] def l_Z15_18 : List GOp := [⟨(some 39), .mv (.t 13), none⟩,
    ⟨(some 40), .bin .gtr (.t 39) (.c (.int .i64 0)), none⟩,
    ⟨(some 41), .mv (.t 12), none⟩,
    ⟨(some 42), .bin .gtr (.t 41) (.c (.int .i64 0)), none⟩,
    ⟨(some 43), .beq false (.t 40) (.t 42), none⟩,
    ⟨(some 38), .mv (.t 43), none⟩]
def Z15_18 : IR := .ops l_Z15_18
@[go_sem] theorem w_Z15_18 : wp P Z15_18 Q e H = wpL P l_Z15_18 (Q .normal) e H := idE rfl
@[go_sem] def l_Z15_19 : List GOp := [⟨(some 10), .mv (.c (.bool true)), none⟩]
def Z15_19 : IR := .ops l_Z15_19
@[go_sem] theorem w_Z15_19 : wp P Z15_19 Q e H = wpL P l_Z15_19 (Q .normal) e H := idE rfl
def Z15_20 : IR := .cond (.t 38) Z15_19 .skip
@[go_sem] theorem w_Z15_20 : wp P Z15_20 Q e H = condW P ((.t 38) : X) Z15_19 .skip Q e H := idE rfl
def Z15_21 : IR := .cond (.t 32) (.seq Z15_16 Z15_17) (.seq Z15_18 Z15_20)
@[go_sem] theorem w_Z15_21 : wp P Z15_21 Q e H = condW P ((.t 32) : X) (.seq Z15_16 Z15_17) (.seq Z15_18 Z15_20) Q e H := idE rfl
def Z15_22 : IR := .block 6 (.seq Z15_15 Z15_21)
@[go_sem] theorem w_Z15_22 : wp P Z15_22 Q e H = wp P (.seq Z15_15 Z15_21) (blockQ 6 Q) e H := idE rfl
def Z15_23 : IR := .block 5 (.seq Z15_13 (.seq Z15_14 Z15_22))
@[go_sem] theorem w_Z15_23 : wp P Z15_23 Q e H = wp P (.seq Z15_13 (.seq Z15_14 Z15_22)) (blockQ 5 Q) e H := idE rfl
@[go_sem] def l_Z15_24 : List GOp := [⟨(some 44), .bin .add (.t 23) (.c (.int .i64 1)), none⟩,
    ⟨(some 23), .mv (.t 44), none⟩]
def Z15_24 : IR := .ops l_Z15_24
@[go_sem] theorem w_Z15_24 : wp P Z15_24 Q e H = wpL P l_Z15_24 (Q .normal) e H := idE rfl
def Z15_25 : IR := .loop (.seq Z15_11 (.seq Z15_12 (.seq Z15_23 Z15_24)))
def Z15_26 : IR := .block 4 Z15_25
@[go_sem] theorem w_Z15_26 : wp P Z15_26 Q e H = wp P Z15_25 (blockQ 4 Q) e H := idE rfl
@[go_sem] def l_Z15_27 : List GOp := [⟨(some 46), .mv (.t 10), none⟩,
    ⟨(some 45), .mv (.t 46), none⟩]
def Z15_27 : IR := .ops l_Z15_27
@[go_sem] theorem w_Z15_27 : wp P Z15_27 Q e H = wpL P l_Z15_27 (Q .normal) e H := idE rfl
@[go_sem] def l_Z15_28 : List GOp := [⟨(some 48), .mv (.t 9), none⟩,
    ⟨(some 49), .bin .eql (.t 48) (.c (.int .i64 0)), none⟩,
    ⟨(some 47), .mv (.t 49), none⟩]
def Z15_28 : IR := .ops l_Z15_28
@[go_sem] theorem w_Z15_28 : wp P Z15_28 Q e H = wpL P l_Z15_28 (Q .normal) e H := idE rfl
@[go_sem] def l_Z15_29 : List GOp := [⟨(some 4), .mv (.c (.bool false)), none⟩]
def Z15_29 : IR := .ops l_Z15_29
@[go_sem] theorem w_Z15_29 : wp P Z15_29 Q e H = wpL P l_Z15_29 (Q .normal) e H := idE rfl
@[go_sem] def l_Z15_30 : List GOp := [⟨(some 51), .mv (.t 9), none⟩,
    ⟨(some 52), .bin .eql (.t 51) (.c (.int .i64 1)), none⟩,
    ⟨(some 50), .mv (.t 52), none⟩]
def Z15_30 : IR := .ops l_Z15_30
@[go_sem] theorem w_Z15_30 : wp P Z15_30 Q e H = wpL P l_Z15_30 (Q .normal) e H := idE rfl
@[go_sem] def l_Z15_31 : List GOp := [⟨(some 53), .mv (.t 1), none⟩,
    ⟨(some 54), .mv (.t 8), none⟩,
    ⟨(some 55), .call (n_Z9) [(.t 54)], none⟩,
    ⟨(some 56), .mv (.t 8), none⟩,
    ⟨(some 57), .bin .lss (.t 56) (.c (.int .i64 0)), none⟩,
    ⟨(some 58), .call (n_Z10) [(.t 57)], none⟩,
    ⟨(some 59), .bin .mul (.c (.int .i64 2)) (.t 58), none⟩,
    ⟨(some 60), .bin .sub (.c (.int .i64 1)) (.t 59), none⟩,
    ⟨(some 61), .iaddr (.t 53) (.t 55) 1, none⟩,
    ⟨none, .store (.t 61) 1 (.t 60), none⟩]
def Z15_31 : IR := .ops l_Z15_31
@[go_sem] theorem w_Z15_31 : wp P Z15_31 Q e H = wpL P l_Z15_31 (Q .normal) e H := idE rfl
@[go_sem] def l_Z15_32 : List GOp := [⟨(some 5), .mv (.c (.bool true)), none⟩]
def Z15_32 : IR := .ops l_Z15_32
@[go_sem] theorem w_Z15_32 : wp P Z15_32 Q e H = wpL P l_Z15_32 (Q .normal) e H := idE rfl
def Z15_33 : IR := .cond (.t 50) (.seq Z15_31 Z15_32) .skip
@[go_sem] theorem w_Z15_33 : wp P Z15_33 Q e H = condW P ((.t 50) : X) (.seq Z15_31 Z15_32) .skip Q e H := idE rfl
def Z15_34 : IR := .cond (.t 47) (.seq Z15_29 .ret) (.seq Z15_30 Z15_33)
@[go_sem] theorem w_Z15_34 : wp P Z15_34 Q e H = condW P ((.t 47) : X) (.seq Z15_29 .ret) (.seq Z15_30 Z15_33) Q e H := idE rfl
def Z15_35 : IR := .cond (.t 45) .skip (.seq Z15_28 Z15_34)
@[go_sem] theorem w_Z15_35 : wp P Z15_35 Q e H = condW P ((.t 45) : X) .skip (.seq Z15_28 Z15_34) Q e H := idE rfl
def Z15_36 : IR := .block 7 (.seq Z15_27 Z15_35)
@[go_sem] theorem w_Z15_36 : wp P Z15_36 Q e H = wp P (.seq Z15_27 Z15_35) (blockQ 7 Q) e H := idE rfl
def Z15_37 : IR := .block 3 (.seq Z15_8 (.seq Z15_9 (.seq (.seq Z15_10 Z15_26) Z15_36)))
@[go_sem] theorem w_Z15_37 : wp P Z15_37 Q e H = wp P (.seq Z15_8 (.seq Z15_9 (.seq (.seq Z15_10 Z15_26) Z15_36))) (blockQ 3 Q) e H := idE rfl
@[go_sem] def l_Z15_38 : List GOp := [⟨(some 62), .bin .add (.t 17) (.c (.int .i64 1)), none⟩,
    ⟨(some 17), .mv (.t 62), none⟩]
def Z15_38 : IR := .ops l_Z15_38
@[go_sem] theorem w_Z15_38 : wp P Z15_38 Q e H = wpL P l_Z15_38 (Q .normal) e H := idE rfl
def Z15_39 : IR := .loop (.seq Z15_6 (.seq Z15_7 (.seq Z15_37 Z15_38)))
def Z15_40 : IR := .block 2 Z15_39
@[go_sem] theorem w_Z15_40 : wp P Z15_40 Q e H = wp P Z15_39 (blockQ 2 Q) e H := idE rfl
def Z15_41 : IR := .block 1 (.seq Z15_4 (.seq Z15_5 Z15_40))
@[go_sem] theorem w_Z15_41 : wp P Z15_41 Q e H = wp P (.seq Z15_4 (.seq Z15_5 Z15_40)) (blockQ 1 Q) e H := idE rfl
def Z15_42 : IR := .loop (.seq (.seq Z15_2 Z15_3) Z15_41)
def Z15_43 : IR := .block 0 Z15_42
@[go_sem] theorem w_Z15_43 : wp P Z15_43 Q e H = wp P Z15_42 (blockQ 0 Q) e H := idE rfl
@[go_sem] def l_Z15_44 : List GOp := [⟨(some 4), .mv (.c (.bool true)), none⟩]
def Z15_44 : IR := .ops l_Z15_44
@[go_sem] theorem w_Z15_44 : wp P Z15_44 Q e H = wpL P l_Z15_44 (Q .normal) e H := idE rfl
def F_Z15 : IFn := ⟨2, 63, [.t 4], (.seq Z15_0 (.seq (.seq Z15_1 Z15_43) (.seq Z15_44 .ret)))⟩
theorem c_Z15 : compFn Try.prog [(0, [], []), (1, [], []), (2, [], []), (3, [], []), (4, [], []), (5, [], []), (6, [], []), (7, [], []), (8, [], []), (9, [], []), (10, [], []), (11, [], []), (12, [], []), (13, [], []), (14, [], []), (15, [], []), (16, [], []), (17, [], []), (18, [], []), (19, [], []), (20, [], []), (21, [], []), (22, [], []), (23, [], []), (24, [], []), (25, [], [])] Try.f73 = some F_Z15 := by kernel_rfl
theorem a_Z15 (hl : args.length = 2) (h : wp Try.prog (.seq Z15_0 (.seq (.seq Z15_1 Z15_43) (.seq Z15_44 .ret))) (postQ [.t 4] R) (env0 args) H) : ACall Try.prog n_Z15 args H R :=
  acall_of_wp mixed Try.func73 c_Z15 (by kernel_rfl) hl h
@[go_sem] def l_Z29_0 : List GOp := [⟨(some 2), .mv (.c (.sl none 0 0 true 0)), none⟩]
def Z29_0 : IR := .ops l_Z29_0
@[go_sem] theorem w_Z29_0 : wp P Z29_0 Q e H = wpL P l_Z29_0 (Q .normal) e H := idE rfl
@[go_sem] def l_Z29_1 : List GOp := [⟨(some 3), .mv (.t 0), none⟩,
    ⟨(some 4), .mv (.t 0), none⟩,
    ⟨(some 5), .len (.t 4), none⟩,
    ⟨(some 6), .mv (.t 0), none⟩,
    ⟨(some 7), .len (.t 6), none⟩,
    ⟨(some 8), .slc 1 (.t 3) none (some (.t 5)) (some (.t 7)), none⟩,
    ⟨(some 2), .mv (.t 8), none⟩]
def Z29_1 : IR := .ops l_Z29_1
@[go_sem] theorem w_Z29_1 : wp P Z29_1 Q e H = wpL P l_Z29_1 (Q .normal) e H := idE rfl
def F_Z29 : IFn := ⟨1, 9, [.t 2], (.seq Z29_0 (.seq Z29_1 .ret))⟩
theorem c_Z29 : compFn Try.prog [(0, [], []), (1, [], [])] Try.f136 = some F_Z29 := by kernel_rfl
theorem a_Z29 (hl : args.length = 1) (h : wp Try.prog (.seq Z29_0 (.seq Z29_1 .ret)) (postQ [.t 2] R) (env0 args) H) : ACall Try.prog n_Z29 args H R :=
  acall_of_wp mixed Try.func136 c_Z29 (by kernel_rfl) hl h
@[go_sem] def l_Z30_0 : List GOp := [⟨(some 2), .mv (.c (.sl none 0 0 true 0)), none⟩]
def Z30_0 : IR := .ops l_Z30_0
@[go_sem] theorem w_Z30_0 : wp P Z30_0 Q e H = wpL P l_Z30_0 (Q .normal) e H := idE rfl
@[go_sem] def l_Z30_1 : List GOp := [⟨(some 3), .mv (.t 0), none⟩,
    ⟨(some 4), .eqn false .sl (.t 3), none⟩]
def Z30_1 : IR := .ops l_Z30_1
@[go_sem] theorem w_Z30_1 : wp P Z30_1 Q e H = wpL P l_Z30_1 (Q .normal) e H := idE rfl
@[go_sem] def l_Z30_2 : List GOp := [⟨(some 2), .mv (.c (.sl none 0 0 true 0)), none⟩]
def Z30_2 : IR := .ops l_Z30_2
@[go_sem] theorem w_Z30_2 : wp P Z30_2 Q e H = wpL P l_Z30_2 (Q .normal) e H := idE rfl
def Z30_3 : IR := .cond (.t 4) (.seq Z30_2 .ret) .skip
@[go_sem] theorem w_Z30_3 : wp P Z30_3 Q e H = condW P ((.t 4) : X) (.seq Z30_2 .ret) .skip Q e H := idE rfl
@[go_sem] def l_Z30_4 : List GOp := [⟨(some 5), .bslc 1 0 [(.int .i64 0)] [], none⟩,
    ⟨(some 6), .mv (.t 0), none⟩,
    ⟨(some 7), .app 1 8 (.t 5) (.t 6), none⟩,
    ⟨(some 2), .mv (.t 7), none⟩]
def Z30_4 : IR := .ops l_Z30_4
@[go_sem] theorem w_Z30_4 : wp P Z30_4 Q e H = wpL P l_Z30_4 (Q .normal) e H := idE rfl
def F_Z30 : IFn := ⟨1, 8, [.t 2], (.seq Z30_0 (.seq (.seq Z30_1 Z30_3) (.seq Z30_4 .ret)))⟩
theorem c_Z30 : compFn Try.prog [(0, [], []), (1, [], []), (2, [], []), (3, [], [])] Try.f125 = some F_Z30 := by kernel_rfl
theorem a_Z30 (hl : args.length = 1) (h : wp Try.prog (.seq Z30_0 (.seq (.seq Z30_1 Z30_3) (.seq Z30_4 .ret))) (postQ [.t 2] R) (env0 args) H) : ACall Try.prog n_Z30 args H R :=
  acall_of_wp mixed Try.func125 c_Z30 (by kernel_rfl) hl h
@[go_sem] def l_Z27_0 : List GOp := [⟨(some 2), .mv (.c (.int .i64 0)), none⟩]
def Z27_0 : IR := .ops l_Z27_0
@[go_sem] theorem w_Z27_0 : wp P Z27_0 Q e H = wpL P l_Z27_0 (Q .normal) e H := idE rfl
@[go_sem] def l_Z27_1 : List GOp := [⟨(some 3), .mv (.t 0), none⟩,
    ⟨(some 4), .bin .geq (.t 3) (.c (.int .u32 65536)), none⟩]
def Z27_1 : IR := .ops l_Z27_1
@[go_sem] theorem w_Z27_1 : wp P Z27_1 Q e H = wpL P l_Z27_1 (Q .normal) e H := idE rfl
@[go_sem] def l_Z27_2 : List GOp := [⟨(some 5), .mv (.t 0), none⟩,
    ⟨(some 6), .bin .shr (.t 5) (.c (.int .u64 16)), none⟩,
    ⟨(some 0), .mv (.t 6), none⟩]
def Z27_2 : IR := .ops l_Z27_2
@[go_sem] theorem w_Z27_2 : wp P Z27_2 Q e H = wpL P l_Z27_2 (Q .normal) e H := idE rfl
@[go_sem] def l_Z27_3 : List GOp := [⟨(some 2), .mv (.c (.int .i64 16)), none⟩]
def Z27_3 : IR := .ops l_Z27_3
@[go_sem] theorem w_Z27_3 : wp P Z27_3 Q e H = wpL P l_Z27_3 (Q .normal) e H := idE rfl
def Z27_4 : IR := .cond (.t 4) (.seq Z27_2 Z27_3) .skip
@[go_sem] theorem w_Z27_4 : wp P Z27_4 Q e H = condW P ((.t 4) : X) (.seq Z27_2 Z27_3) .skip Q e H := idE rfl
@[go_sem] def l_Z27_5 : List GOp := [⟨(some 7), .mv (.t 0), none⟩,
    ⟨(some 8), .bin .geq (.t 7) (.c (.int .u32 256)), none⟩]
def Z27_5 : IR := .ops l_Z27_5
@[go_sem] theorem w_Z27_5 : wp P Z27_5 Q e H = wpL P l_Z27_5 (Q .normal) e H := idE rfl
@[go_sem] def l_Z27_6 : List GOp := [⟨(some 9), .mv (.t 0), none⟩,
    ⟨(some 10), .bin .shr (.t 9) (.c (.int .u64 8)), none⟩,
    ⟨(some 0), .mv (.t 10), none⟩]
def Z27_6 : IR := .ops l_Z27_6
@[go_sem] theorem w_Z27_6 : wp P Z27_6 Q e H = wpL P l_Z27_6 (Q .normal) e H := idE rfl
@[go_sem] def l_Z27_7 : List GOp := [⟨(some 11), .mv (.t 2), none⟩,
    ⟨(some 12), .bin .add (.t 11) (.c (.int .i64 8)), none⟩,
    ⟨(some 2), .mv (.t 12), none⟩]
def Z27_7 : IR := .ops l_Z27_7
@[go_sem] theorem w_Z27_7 : wp P Z27_7 Q e H = wpL P l_Z27_7 (Q .normal) e H := idE rfl
def Z27_8 : IR := .cond (.t 8) (.seq Z27_6 Z27_7) .skip
@[go_sem] theorem w_Z27_8 : wp P Z27_8 Q e H = condW P ((.t 8) : X) (.seq Z27_6 Z27_7) .skip Q e H := idE rfl
@[go_sem] def l_Z27_9 : List GOp := [⟨(some 13), .mv (.t 2), none⟩,
    ⟨(some 14), .mv (.t 0), none⟩,
    ⟨(some 15), .cvi .u8 (.t 14), none⟩,
    ⟨(some 16), .sidx (.c (.str ⟨#[0, 1, 2, 2, 3, 3, 3, 3, 4, 4, 4, 4, 4, 4, 4, 4, 5, 5, 5, 5, 5, 5, 5, 5, 5, 5, 5, 5, 5, 5, 5, 5, 6, 6, 6, 6, 6, 6, 6, 6, 6, 6, 6, 6, 6, 6, 6, 6, 6, 6, 6, 6, 6, 6, 6, 6, 6, 6, 6, 6, 6, 6, 6, 6, 7, 7, 7, 7, 7, 7, 7, 7, 7, 7, 7, 7, 7, 7, 7, 7, 7, 7, 7, 7, 7, 7, 7, 7, 7, 7, 7, 7, 7, 7, 7, 7, 7, 7, 7, 7, 7, 7, 7, 7, 7, 7, 7, 7, 7, 7, 7, 7, 7, 7, 7, 7, 7, 7, 7, 7, 7, 7, 7, 7, 7, 7, 7, 7, 8, 8, 8, 8, 8, 8, 8, 8, 8, 8, 8, 8, 8, 8, 8, 8, 8, 8, 8, 8, 8, 8, 8, 8, 8, 8, 8, 8, 8, 8, 8, 8, 8, 8, 8, 8, 8, 8, 8, 8, 8, 8, 8, 8, 8, 8, 8, 8, 8, 8, 8, 8, 8, 8, 8, 8, 8, 8, 8, 8, 8, 8, 8, 8, 8, 8, 8, 8, 8, 8, 8, 8, 8, 8, 8, 8, 8, 8, 8, 8, 8, 8, 8, 8, 8, 8, 8, 8, 8, 8, 8, 8, 8, 8, 8, 8, 8, 8, 8, 8, 8, 8, 8, 8, 8, 8, 8, 8, 8, 8, 8, 8, 8, 8, 8, 8, 8, 8, 8, 8, 8, 8, 8, 8, 8, 8, 8, 8]⟩)) (.t 15), none⟩,
    ⟨(some 17), .cvi .i64 (.t 16), none⟩,
    ⟨(some 18), .bin .add (.t 13) (.t 17), none⟩,
    ⟨(some 2), .mv (.t 18), none⟩]
def Z27_9 : IR := .ops l_Z27_9
@[go_sem] theorem w_Z27_9 : wp P Z27_9 Q e H = wpL P l_Z27_9 (Q .normal) e H := idE rfl
@[go_sem] def l_Z28_0 : List GOp := [⟨(some 2), .mv (.c (.int .i64 0)), none⟩]
def Z28_0 : IR := .ops l_Z28_0
@[go_sem] theorem w_Z28_0 : wp P Z28_0 Q e H = wpL P l_Z28_0 (Q .normal) e H := idE rfl
@[go_sem] def l_Z28_1 : List GOp := [⟨(some 3), .mv (.t 0), none⟩,
    ⟨(some 4), .bin .geq (.t 3) (.c (.int .u64 4294967296)), none⟩]
def Z28_1 : IR := .ops l_Z28_1
@[go_sem] theorem w_Z28_1 : wp P Z28_1 Q e H = wpL P l_Z28_1 (Q .normal) e H := idE rfl
@[go_sem] def l_Z28_2 : List GOp := [⟨(some 5), .mv (.t 0), none⟩,
    ⟨(some 6), .bin .shr (.t 5) (.c (.int .u64 32)), none⟩,
    ⟨(some 0), .mv (.t 6), none⟩]
def Z28_2 : IR := .ops l_Z28_2
@[go_sem] theorem w_Z28_2 : wp P Z28_2 Q e H = wpL P l_Z28_2 (Q .normal) e H := idE rfl
@[go_sem] def l_Z28_3 : List GOp := [⟨(some 2), .mv (.c (.int .i64 32)), none⟩]
def Z28_3 : IR := .ops l_Z28_3
@[go_sem] theorem w_Z28_3 : wp P Z28_3 Q e H = wpL P l_Z28_3 (Q .normal) e H := idE rfl
def Z28_4 : IR := .cond (.t 4) (.seq Z28_2 Z28_3) .skip
@[go_sem] theorem w_Z28_4 : wp P Z28_4 Q e H = condW P ((.t 4) : X) (.seq Z28_2 Z28_3) .skip Q e H := idE rfl
@[go_sem] def l_Z28_5 : List GOp := [⟨(some 7), .mv (.t 0), none⟩,
    ⟨(some 8), .bin .geq (.t 7) (.c (.int .u64 65536)), none⟩]
def Z28_5 : IR := .ops l_Z28_5
@[go_sem] theorem w_Z28_5 : wp P Z28_5 Q e H = wpL P l_Z28_5 (Q .normal) e H := idE rfl
@[go_sem] def l_Z28_6 : List GOp := [⟨(some 9), .mv (.t 0), none⟩,
    ⟨(some 10), .bin .shr (.t 9) (.c (.int .u64 16)), none⟩,
    ⟨(some 0), .mv (.t 10), none⟩]
def Z28_6 : IR := .ops l_Z28_6
@[go_sem] theorem w_Z28_6 : wp P Z28_6 Q e H = wpL P l_Z28_6 (Q .normal) e H := idE rfl
@[go_sem] def l_Z28_7 : List GOp := [⟨(some 11), .mv (.t 2), none⟩,
    ⟨(some 12), .bin .add (.t 11) (.c (.int .i64 16)), none⟩,
    ⟨(some 2), .mv (.t 12), none⟩]
def Z28_7 : IR := .ops l_Z28_7
@[go_sem] theorem w_Z28_7 : wp P Z28_7 Q e H = wpL P l_Z28_7 (Q .normal) e H := idE rfl
def Z28_8 : IR := .cond (.t 8) (.seq Z28_6 Z28_7) .skip
@[go_sem] theorem w_Z28_8 : wp P Z28_8 Q e H = condW P ((.t 8) : X) (.seq Z28_6 Z28_7) .skip Q e H := idE rfl
@[go_sem] def l_Z28_9 : List GOp := [⟨(some 13), .mv (.t 0), none⟩,
    ⟨(some 14), .bin .geq (.t 13) (.c (.int .u64 256)), none⟩]
def Z28_9 : IR := .ops l_Z28_9
@[go_sem] theorem w_Z28_9 : wp P Z28_9 Q e H = wpL P l_Z28_9 (Q .normal) e H := idE rfl
@[go_sem] def l_Z28_10 : List GOp := [⟨(some 15), .mv (.t 0), none⟩,
    ⟨(some 16), .bin .shr (.t 15) (.c (.int .u64 8)), none⟩,
    ⟨(some 0), .mv (.t 16), none⟩]
def Z28_10 : IR := .ops l_Z28_10
@[go_sem] theorem w_Z28_10 : wp P Z28_10 Q e H = wpL P l_Z28_10 (Q .normal) e H := idE rfl
@[go_sem] def l_Z28_11 : List GOp := [⟨(some 17), .mv (.t 2), none⟩,
    ⟨(some 18), .bin .add (.t 17) (.c (.int .i64 8)), none⟩,
    ⟨(some 2), .mv (.t 18), none⟩]
def Z28_11 : IR := .ops l_Z28_11
@[go_sem] theorem w_Z28_11 : wp P Z28_11 Q e H = wpL P l_Z28_11 (Q .normal) e H := idE rfl
def Z28_12 : IR := .cond (.t 14) (.seq Z28_10 Z28_11) .skip
@[go_sem] theorem w_Z28_12 : wp P Z28_12 Q e H = condW P ((.t 14) : X) (.seq Z28_10 Z28_11) .skip Q e H := idE rfl
@[go_sem] def l_Z28_13 : List GOp := [⟨(some 19), .mv (.t 2), none⟩,
    ⟨(some 20), .mv (.t 0), none⟩,
    ⟨(some 21), .cvi .u8 (.t 20), none⟩,
    ⟨(some 22), .sidx (.c (.str ⟨#[0, 1, 2, 2, 3, 3, 3, 3, 4, 4, 4, 4, 4, 4, 4, 4, 5, 5, 5, 5, 5, 5, 5, 5, 5, 5, 5, 5, 5, 5, 5, 5, 6, 6, 6, 6, 6, 6, 6, 6, 6, 6, 6, 6, 6, 6, 6, 6, 6, 6, 6, 6, 6, 6, 6, 6, 6, 6, 6, 6, 6, 6, 6, 6, 7, 7, 7, 7, 7, 7, 7, 7, 7, 7, 7, 7, 7, 7, 7, 7, 7, 7, 7, 7, 7, 7, 7, 7, 7, 7, 7, 7, 7, 7, 7, 7, 7, 7, 7, 7, 7, 7, 7, 7, 7, 7, 7, 7, 7, 7, 7, 7, 7, 7, 7, 7, 7, 7, 7, 7, 7, 7, 7, 7, 7, 7, 7, 7, 8, 8, 8, 8, 8, 8, 8, 8, 8, 8, 8, 8, 8, 8, 8, 8, 8, 8, 8, 8, 8, 8, 8, 8, 8, 8, 8, 8, 8, 8, 8, 8, 8, 8, 8, 8, 8, 8, 8, 8, 8, 8, 8, 8, 8, 8, 8, 8, 8, 8, 8, 8, 8, 8, 8, 8, 8, 8, 8, 8, 8, 8, 8, 8, 8, 8, 8, 8, 8, 8, 8, 8, 8, 8, 8, 8, 8, 8, 8, 8, 8, 8, 8, 8, 8, 8, 8, 8, 8, 8, 8, 8, 8, 8, 8, 8, 8, 8, 8, 8, 8, 8, 8, 8, 8, 8, 8, 8, 8, 8, 8, 8, 8, 8, 8, 8, 8, 8, 8, 8, 8, 8, 8, 8, 8, 8, 8, 8]⟩)) (.t 21), none⟩,
    ⟨(some 23), .cvi .i64 (.t 22), none⟩,
    ⟨(some 24), .bin .add (.t 19) (.t 23), none⟩,
    ⟨(some 2), .mv (.t 24), none⟩]
def Z28_13 : IR := .ops l_Z28_13
@[go_sem] theorem w_Z28_13 : wp P Z28_13 Q e H = wpL P l_Z28_13 (Q .normal) e H := idE rfl
@[go_sem] def l_Z26_0 : List GOp := [⟨(some 2), .mv (.c (.int .i64 0)), none⟩]
def Z26_0 : IR := .ops l_Z26_0
@[go_sem] theorem w_Z26_0 : wp P Z26_0 Q e H = wpL P l_Z26_0 (Q .normal) e H := idE rfl
@[go_sem] def l_Z26_1 : List GOp := [⟨(some 3), .mv (.t 0), none⟩,
    ⟨(some 4), .cvi .u32 (.t 3), none⟩,
    ⟨(some 5), .call (n_Z27) [(.t 4)], none⟩,
    ⟨(some 2), .mv (.t 5), none⟩]
def Z26_1 : IR := .ops l_Z26_1
@[go_sem] theorem w_Z26_1 : wp P Z26_1 Q e H = wpL P l_Z26_1 (Q .normal) e H := idE rfl
def Z26_2 : IR := .cond (.c (.bool false)) (.seq Z26_1 .ret) .skip
@[go_sem] theorem w_Z26_2 : wp P Z26_2 Q e H = condW P ((.c (.bool false)) : X) (.seq Z26_1 .ret) .skip Q e H := idE rfl
@[go_sem] def l_Z26_3 : List GOp := [⟨(some 6), .mv (.t 0), none⟩,
    ⟨(some 7), .call (n_Z28) [(.t 6)], none⟩,
    ⟨(some 2), .mv (.t 7), none⟩]
def Z26_3 : IR := .ops l_Z26_3
@[go_sem] theorem w_Z26_3 : wp P Z26_3 Q e H = wpL P l_Z26_3 (Q .normal) e H := idE rfl
@[go_sem] def l_Z40_0 : List GOp := [⟨(some 10), .mv (.t 1), none⟩,
    ⟨(some 11), .bin .add (.t 10) (.c (.int .i64 1)), none⟩,
    ⟨(some 8), .mv (.t 11), none⟩]
def Z40_0 : IR := .ops l_Z40_0
@[go_sem] theorem w_Z40_0 : wp P Z40_0 Q e H = wpL P l_Z40_0 (Q .normal) e H := idE rfl
@[go_sem] def l_Z40_1 : List GOp := [⟨(some 12), .mv (.t 8), none⟩,
    ⟨(some 13), .mv (.t 2), none⟩,
    ⟨(some 14), .bin .lss (.t 12) (.t 13), none⟩]
def Z40_1 : IR := .ops l_Z40_1
@[go_sem] theorem w_Z40_1 : wp P Z40_1 Q e H = wpL P l_Z40_1 (Q .normal) e H := idE rfl
def Z40_2 : IR := .cond (.t 14) .skip (.exit 0)
@[go_sem] theorem w_Z40_2 : wp P Z40_2 Q e H = condW P ((.t 14) : X) .skip (.exit 0) Q e H := idE rfl
@[go_sem] def l_Z40_3 : List GOp := [⟨(some 17), .mv (.t 8), none⟩,
    ⟨(some 9), .mv (.t 17), none⟩]
def Z40_3 : IR := .ops l_Z40_3
@[go_sem] theorem w_Z40_3 : wp P Z40_3 Q e H = wpL P l_Z40_3 (Q .normal) e H := idE rfl
def l_Z40_4 : List GOp := [⟨(some 18), .mv (.t 9), none⟩,
    ⟨(some 19), .mv (.t 1), none⟩,
    ⟨(some 20), .bin .gtr (.t 18) (.t 19), none⟩,
    ⟨(some 21), .mv (.t 20), none⟩,
    ⟨(some 22), .mv (.t 3), (some (21, true))⟩,
    ⟨(some 23), .mv (.t 0), (some (21, true))⟩,
    ⟨(some 24), .mv (.t 9), (some (21, true))⟩,
    ⟨(some 25), .iaddr (.t 23) (.t 24) 1, (some (21, true))⟩,
    ⟨(some 26), .load (.t 25) 1 false, (some (21, true))⟩,
    ⟨(some 27), .mv (.t 0), (some (21, true))⟩,
    ⟨(some 28), .mv (.t 9), (some (21, true))⟩,
    ⟨(some 29), .bin .sub (.t 28) (.c (.int .i64 1)), (some (21, true))⟩,
    ⟨(some 30), .iaddr (.t 27) (.t 29) 1, (some (21, true))⟩,
    ⟨(some 31), .load (.t 30) 1 false, (some (21, true))⟩,
    ⟨(some 32), .callv (.t 22) [(.t 26), (.t 31)], (some (21, true))⟩,
    ⟨(some 33), .bin .lss (.t 32) (.c (.int .i64 0)), (some (21, true))⟩,
    ⟨(some 34), .pick (.t 21) (.t 33) (.c (.bool false)), none⟩]
@[go_sem] theorem g_Z40_4_0 : gAt l_Z40_4 0 = ⟨(some 18), .mv (.t 9), none⟩ := idE rfl
@[go_sem] theorem g_Z40_4_1 : gAt l_Z40_4 1 = ⟨(some 19), .mv (.t 1), none⟩ := idE rfl
@[go_sem] theorem g_Z40_4_2 : gAt l_Z40_4 2 = ⟨(some 20), .bin .gtr (.t 18) (.t 19), none⟩ := idE rfl
@[go_sem] theorem g_Z40_4_3 : gAt l_Z40_4 3 = ⟨(some 21), .mv (.t 20), none⟩ := idE rfl
@[go_sem] theorem g_Z40_4_4 : gAt l_Z40_4 4 = ⟨(some 22), .mv (.t 3), (some (21, true))⟩ := idE rfl
@[go_sem] theorem g_Z40_4_5 : gAt l_Z40_4 5 = ⟨(some 23), .mv (.t 0), (some (21, true))⟩ := idE rfl
@[go_sem] theorem g_Z40_4_6 : gAt l_Z40_4 6 = ⟨(some 24), .mv (.t 9), (some (21, true))⟩ := idE rfl
@[go_sem] theorem g_Z40_4_7 : gAt l_Z40_4 7 = ⟨(some 25), .iaddr (.t 23) (.t 24) 1, (some (21, true))⟩ := idE rfl
@[go_sem] theorem g_Z40_4_8 : gAt l_Z40_4 8 = ⟨(some 26), .load (.t 25) 1 false, (some (21, true))⟩ := idE rfl
@[go_sem] theorem g_Z40_4_9 : gAt l_Z40_4 9 = ⟨(some 27), .mv (.t 0), (some (21, true))⟩ := idE rfl
@[go_sem] theorem g_Z40_4_10 : gAt l_Z40_4 10 = ⟨(some 28), .mv (.t 9), (some (21, true))⟩ := idE rfl
@[go_sem] theorem g_Z40_4_11 : gAt l_Z40_4 11 = ⟨(some 29), .bin .sub (.t 28) (.c (.int .i64 1)), (some (21, true))⟩ := idE rfl
@[go_sem] theorem g_Z40_4_12 : gAt l_Z40_4 12 = ⟨(some 30), .iaddr (.t 27) (.t 29) 1, (some (21, true))⟩ := idE rfl
@[go_sem] theorem g_Z40_4_13 : gAt l_Z40_4 13 = ⟨(some 31), .load (.t 30) 1 false, (some (21, true))⟩ := idE rfl
@[go_sem] theorem g_Z40_4_14 : gAt l_Z40_4 14 = ⟨(some 32), .callv (.t 22) [(.t 26), (.t 31)], (some (21, true))⟩ := idE rfl
@[go_sem] theorem g_Z40_4_15 : gAt l_Z40_4 15 = ⟨(some 33), .bin .lss (.t 32) (.c (.int .i64 0)), (some (21, true))⟩ := idE rfl
@[go_sem] theorem g_Z40_4_16 : gAt l_Z40_4 16 = ⟨(some 34), .pick (.t 21) (.t 33) (.c (.bool false)), none⟩ := idE rfl
def Z40_4 : IR := .dops l_Z40_4 [(0, []), (1, []), (2, []), (3, []), (4, []), (5, []), (6, []), (7, []), (8, []), (9, []), (10, []), (11, []), (12, []), (13, []), (14, []), (15, []), (16, [])]
@[go_sem] theorem w_Z40_4 : wp P Z40_4 Q e H = wpD P l_Z40_4 [(0, []), (1, []), (2, []), (3, []), (4, []), (5, []), (6, []), (7, []), (8, []), (9, []), (10, []), (11, []), (12, []), (13, []), (14, []), (15, []), (16, [])] (Q .normal) e H := idE rfl
def Z40_5 : IR := .cond (.t 34) .skip (.exit 2)
@[go_sem] theorem w_Z40_5 : wp P Z40_5 Q e H = condW P ((.t 34) : X) .skip (.exit 2) Q e H := idE rfl
def l_Z40_6 : List GOp := [⟨(some 37), .mv (.t 0), none⟩,
    ⟨(some 38), .mv (.t 9), none⟩,
    ⟨(some 39), .mv (.t 0), none⟩,
    ⟨(some 40), .mv (.t 9), none⟩,
    ⟨(some 41), .bin .sub (.t 40) (.c (.int .i64 1)), none⟩,
    ⟨(some 42), .mv (.t 0), none⟩,
    ⟨(some 43), .mv (.t 9), none⟩,
    ⟨(some 44), .bin .sub (.t 43) (.c (.int .i64 1)), none⟩,
    ⟨(some 45), .iaddr (.t 42) (.t 44) 1, none⟩,
    ⟨(some 46), .load (.t 45) 1 false, none⟩,
    ⟨(some 47), .mv (.t 0), none⟩,
    ⟨(some 48), .mv (.t 9), none⟩,
    ⟨(some 49), .iaddr (.t 47) (.t 48) 1, none⟩,
    ⟨(some 50), .load (.t 49) 1 false, none⟩,
    ⟨(some 51), .iaddr (.t 37) (.t 38) 1, none⟩,
    ⟨none, .store (.t 51) 1 (.t 46), none⟩,
    ⟨(some 52), .iaddr (.t 39) (.t 41) 1, none⟩,
    ⟨none, .store (.t 52) 1 (.t 50), none⟩]
@[go_sem] theorem g_Z40_6_0 : gAt l_Z40_6 0 = ⟨(some 37), .mv (.t 0), none⟩ := idE rfl
@[go_sem] theorem g_Z40_6_1 : gAt l_Z40_6 1 = ⟨(some 38), .mv (.t 9), none⟩ := idE rfl
@[go_sem] theorem g_Z40_6_2 : gAt l_Z40_6 2 = ⟨(some 39), .mv (.t 0), none⟩ := idE rfl
@[go_sem] theorem g_Z40_6_3 : gAt l_Z40_6 3 = ⟨(some 40), .mv (.t 9), none⟩ := idE rfl
@[go_sem] theorem g_Z40_6_4 : gAt l_Z40_6 4 = ⟨(some 41), .bin .sub (.t 40) (.c (.int .i64 1)), none⟩ := idE rfl
@[go_sem] theorem g_Z40_6_5 : gAt l_Z40_6 5 = ⟨(some 42), .mv (.t 0), none⟩ := idE rfl
@[go_sem] theorem g_Z40_6_6 : gAt l_Z40_6 6 = ⟨(some 43), .mv (.t 9), none⟩ := idE rfl
@[go_sem] theorem g_Z40_6_7 : gAt l_Z40_6 7 = ⟨(some 44), .bin .sub (.t 43) (.c (.int .i64 1)), none⟩ := idE rfl
@[go_sem] theorem g_Z40_6_8 : gAt l_Z40_6 8 = ⟨(some 45), .iaddr (.t 42) (.t 44) 1, none⟩ := idE rfl
@[go_sem] theorem g_Z40_6_9 : gAt l_Z40_6 9 = ⟨(some 46), .load (.t 45) 1 false, none⟩ := idE rfl
@[go_sem] theorem g_Z40_6_10 : gAt l_Z40_6 10 = ⟨(some 47), .mv (.t 0), none⟩ := idE rfl
@[go_sem] theorem g_Z40_6_11 : gAt l_Z40_6 11 = ⟨(some 48), .mv (.t 9), none⟩ := idE rfl
@[go_sem] theorem g_Z40_6_12 : gAt l_Z40_6 12 = ⟨(some 49), .iaddr (.t 47) (.t 48) 1, none⟩ := idE rfl
@[go_sem] theorem g_Z40_6_13 : gAt l_Z40_6 13 = ⟨(some 50), .load (.t 49) 1 false, none⟩ := idE rfl
@[go_sem] theorem g_Z40_6_14 : gAt l_Z40_6 14 = ⟨(some 51), .iaddr (.t 37) (.t 38) 1, none⟩ := idE rfl
@[go_sem] theorem g_Z40_6_15 : gAt l_Z40_6 15 = ⟨none, .store (.t 51) 1 (.t 46), none⟩ := idE rfl
@[go_sem] theorem g_Z40_6_16 : gAt l_Z40_6 16 = ⟨(some 52), .iaddr (.t 39) (.t 41) 1, none⟩ := idE rfl
@[go_sem] theorem g_Z40_6_17 : gAt l_Z40_6 17 = ⟨none, .store (.t 52) 1 (.t 50), none⟩ := idE rfl
def Z40_6 : IR := .dops l_Z40_6 [(0, []), (1, []), (2, []), (3, []), (4, []), (5, []), (6, []), (7, []), (8, []), (9, []), (10, []), (11, []), (12, []), (13, []), (14, []), (15, []), (16, []), (17, [])]
@[go_sem] theorem w_Z40_6 : wp P Z40_6 Q e H = wpD P l_Z40_6 [(0, []), (1, []), (2, []), (3, []), (4, []), (5, []), (6, []), (7, []), (8, []), (9, []), (10, []), (11, []), (12, []), (13, []), (14, []), (15, []), (16, []), (17, [])] (Q .normal) e H := idE rfl
def Z40_7 : IR := .block 3 Z40_6
@[go_sem] theorem w_Z40_7 : wp P Z40_7 Q e H = wp P Z40_6 (blockQ 3 Q) e H := idE rfl
@[go_sem] def l_Z40_8 : List GOp := [⟨(some 35), .mv (.t 9), none⟩,
    ⟨(some 36), .bin .sub (.t 35) (.c (.int .i64 1)), none⟩,
    ⟨(some 9), .mv (.t 36), none⟩]
def Z40_8 : IR := .ops l_Z40_8
@[go_sem] theorem w_Z40_8 : wp P Z40_8 Q e H = wpL P l_Z40_8 (Q .normal) e H := idE rfl
def Z40_9 : IR := .loop (.seq (.seq Z40_4 Z40_5) (.seq Z40_7 Z40_8))
def Z40_10 : IR := .block 2 Z40_9
@[go_sem] theorem w_Z40_10 : wp P Z40_10 Q e H = wp P Z40_9 (blockQ 2 Q) e H := idE rfl
def Z40_11 : IR := .block 1 (.seq Z40_3 Z40_10)
@[go_sem] theorem w_Z40_11 : wp P Z40_11 Q e H = wp P (.seq Z40_3 Z40_10) (blockQ 1 Q) e H := idE rfl
@[go_sem] def l_Z40_12 : List GOp := [⟨(some 15), .mv (.t 8), none⟩,
    ⟨(some 16), .bin .add (.t 15) (.c (.int .i64 1)), none⟩,
    ⟨(some 8), .mv (.t 16), none⟩]
def Z40_12 : IR := .ops l_Z40_12
@[go_sem] theorem w_Z40_12 : wp P Z40_12 Q e H = wpL P l_Z40_12 (Q .normal) e H := idE rfl
def Z40_13 : IR := .loop (.seq (.seq Z40_1 Z40_2) (.seq Z40_11 Z40_12))
def Z40_14 : IR := .block 0 Z40_13
@[go_sem] theorem w_Z40_14 : wp P Z40_14 Q e H = wp P Z40_13 (blockQ 0 Q) e H := idE rfl
@[go_sem] def l_Z50_0 : List GOp := [⟨(some 12), .mv (.t 1), none⟩,
    ⟨(some 10), .mv (.t 12), none⟩]
def Z50_0 : IR := .ops l_Z50_0
@[go_sem] theorem w_Z50_0 : wp P Z50_0 Q e H = wpL P l_Z50_0 (Q .normal) e H := idE rfl
@[go_sem] def l_Z50_1 : List GOp := [⟨(some 13), .mv (.t 10), none⟩,
    ⟨(some 14), .bin .mul (.c (.int .i64 2)) (.t 13), none⟩,
    ⟨(some 15), .bin .add (.t 14) (.c (.int .i64 1)), none⟩,
    ⟨(some 11), .mv (.t 15), none⟩]
def Z50_1 : IR := .ops l_Z50_1
@[go_sem] theorem w_Z50_1 : wp P Z50_1 Q e H = wpL P l_Z50_1 (Q .normal) e H := idE rfl
@[go_sem] def l_Z50_2 : List GOp := [⟨(some 16), .mv (.t 11), none⟩,
    ⟨(some 17), .mv (.t 2), none⟩,
    ⟨(some 18), .bin .geq (.t 16) (.t 17), none⟩]
def Z50_2 : IR := .ops l_Z50_2
@[go_sem] theorem w_Z50_2 : wp P Z50_2 Q e H = wpL P l_Z50_2 (Q .normal) e H := idE rfl
def Z50_3 : IR := .cond (.t 18) (.exit 0) .skip
@[go_sem] theorem w_Z50_3 : wp P Z50_3 Q e H = condW P ((.t 18) : X) (.exit 0) .skip Q e H := idE rfl
def l_Z50_4 : List GOp := [⟨(some 19), .mv (.t 11), none⟩,
    ⟨(some 20), .bin .add (.t 19) (.c (.int .i64 1)), none⟩,
    ⟨(some 21), .mv (.t 2), none⟩,
    ⟨(some 22), .bin .lss (.t 20) (.t 21), none⟩,
    ⟨(some 23), .mv (.t 22), none⟩,
    ⟨(some 24), .mv (.t 4), (some (23, true))⟩,
    ⟨(some 25), .mv (.t 0), (some (23, true))⟩,
    ⟨(some 26), .mv (.t 3), (some (23, true))⟩,
    ⟨(some 27), .mv (.t 11), (some (23, true))⟩,
    ⟨(some 28), .bin .add (.t 26) (.t 27), (some (23, true))⟩,
    ⟨(some 29), .iaddr (.t 25) (.t 28) 1, (some (23, true))⟩,
    ⟨(some 30), .load (.t 29) 1 false, (some (23, true))⟩,
    ⟨(some 31), .mv (.t 0), (some (23, true))⟩,
    ⟨(some 32), .mv (.t 3), (some (23, true))⟩,
    ⟨(some 33), .mv (.t 11), (some (23, true))⟩,
    ⟨(some 34), .bin .add (.t 32) (.t 33), (some (23, true))⟩,
    ⟨(some 35), .bin .add (.t 34) (.c (.int .i64 1)), (some (23, true))⟩,
    ⟨(some 36), .iaddr (.t 31) (.t 35) 1, (some (23, true))⟩,
    ⟨(some 37), .load (.t 36) 1 false, (some (23, true))⟩,
    ⟨(some 38), .callv (.t 24) [(.t 30), (.t 37)], (some (23, true))⟩,
    ⟨(some 39), .bin .lss (.t 38) (.c (.int .i64 0)), (some (23, true))⟩,
    ⟨(some 40), .pick (.t 23) (.t 39) (.c (.bool false)), none⟩]
@[go_sem] theorem g_Z50_4_0 : gAt l_Z50_4 0 = ⟨(some 19), .mv (.t 11), none⟩ := idE rfl
@[go_sem] theorem g_Z50_4_1 : gAt l_Z50_4 1 = ⟨(some 20), .bin .add (.t 19) (.c (.int .i64 1)), none⟩ := idE rfl
@[go_sem] theorem g_Z50_4_2 : gAt l_Z50_4 2 = ⟨(some 21), .mv (.t 2), none⟩ := idE rfl
@[go_sem] theorem g_Z50_4_3 : gAt l_Z50_4 3 = ⟨(some 22), .bin .lss (.t 20) (.t 21), none⟩ := idE rfl
@[go_sem] theorem g_Z50_4_4 : gAt l_Z50_4 4 = ⟨(some 23), .mv (.t 22), none⟩ := idE rfl
@[go_sem] theorem g_Z50_4_5 : gAt l_Z50_4 5 = ⟨(some 24), .mv (.t 4), (some (23, true))⟩ := idE rfl
@[go_sem] theorem g_Z50_4_6 : gAt l_Z50_4 6 = ⟨(some 25), .mv (.t 0), (some (23, true))⟩ := idE rfl
@[go_sem] theorem g_Z50_4_7 : gAt l_Z50_4 7 = ⟨(some 26), .mv (.t 3), (some (23, true))⟩ := idE rfl
@[go_sem] theorem g_Z50_4_8 : gAt l_Z50_4 8 = ⟨(some 27), .mv (.t 11), (some (23, true))⟩ := idE rfl
@[go_sem] theorem g_Z50_4_9 : gAt l_Z50_4 9 = ⟨(some 28), .bin .add (.t 26) (.t 27), (some (23, true))⟩ := idE rfl
@[go_sem] theorem g_Z50_4_10 : gAt l_Z50_4 10 = ⟨(some 29), .iaddr (.t 25) (.t 28) 1, (some (23, true))⟩ := idE rfl
@[go_sem] theorem g_Z50_4_11 : gAt l_Z50_4 11 = ⟨(some 30), .load (.t 29) 1 false, (some (23, true))⟩ := idE rfl
@[go_sem] theorem g_Z50_4_12 : gAt l_Z50_4 12 = ⟨(some 31), .mv (.t 0), (some (23, true))⟩ := idE rfl
@[go_sem] theorem g_Z50_4_13 : gAt l_Z50_4 13 = ⟨(some 32), .mv (.t 3), (some (23, true))⟩ := idE rfl
@[go_sem] theorem g_Z50_4_14 : gAt l_Z50_4 14 = ⟨(some 33), .mv (.t 11), (some (23, true))⟩ := idE rfl
@[go_sem] theorem g_Z50_4_15 : gAt l_Z50_4 15 = ⟨(some 34), .bin .add (.t 32) (.t 33), (some (23, true))⟩ := idE rfl
@[go_sem] theorem g_Z50_4_16 : gAt l_Z50_4 16 = ⟨(some 35), .bin .add (.t 34) (.c (.int .i64 1)), (some (23, true))⟩ := idE rfl
@[go_sem] theorem g_Z50_4_17 : gAt l_Z50_4 17 = ⟨(some 36), .iaddr (.t 31) (.t 35) 1, (some (23, true))⟩ := idE rfl
@[go_sem] theorem g_Z50_4_18 : gAt l_Z50_4 18 = ⟨(some 37), .load (.t 36) 1 false, (some (23, true))⟩ := idE rfl
@[go_sem] theorem g_Z50_4_19 : gAt l_Z50_4 19 = ⟨(some 38), .callv (.t 24) [(.t 30), (.t 37)], (some (23, true))⟩ := idE rfl
@[go_sem] theorem g_Z50_4_20 : gAt l_Z50_4 20 = ⟨(some 39), .bin .lss (.t 38) (.c (.int .i64 0)), (some (23, true))⟩ := idE rfl
@[go_sem] theorem g_Z50_4_21 : gAt l_Z50_4 21 = ⟨(some 40), .pick (.t 23) (.t 39) (.c (.bool false)), none⟩ := idE rfl
def Z50_4 : IR := .dops l_Z50_4 [(0, []), (1, []), (2, []), (3, []), (4, []), (5, []), (6, []), (7, []), (8, []), (9, []), (10, []), (11, []), (12, []), (13, []), (14, []), (15, []), (16, []), (17, []), (18, []), (19, []), (20, []), (21, [])]
@[go_sem] theorem w_Z50_4 : wp P Z50_4 Q e H = wpD P l_Z50_4 [(0, []), (1, []), (2, []), (3, []), (4, []), (5, []), (6, []), (7, []), (8, []), (9, []), (10, []), (11, []), (12, []), (13, []), (14, []), (15, []), (16, []), (17, []), (18, []), (19, []), (20, []), (21, [])] (Q .normal) e H := idE rfl
@[go_sem] def l_Z50_5 : List GOp := [⟨(some 41), .mv (.t 11), none⟩,
    ⟨(some 42), .bin .add (.t 41) (.c (.int .i64 1)), none⟩,
    ⟨(some 11), .mv (.t 42), none⟩]
def Z50_5 : IR := .ops l_Z50_5
@[go_sem] theorem w_Z50_5 : wp P Z50_5 Q e H = wpL P l_Z50_5 (Q .normal) e H := idE rfl
def Z50_6 : IR := .cond (.t 40) Z50_5 .skip
@[go_sem] theorem w_Z50_6 : wp P Z50_6 Q e H = condW P ((.t 40) : X) Z50_5 .skip Q e H := idE rfl
def l_Z50_7 : List GOp := [⟨(some 43), .mv (.t 4), none⟩,
    ⟨(some 44), .mv (.t 0), none⟩,
    ⟨(some 45), .mv (.t 3), none⟩,
    ⟨(some 46), .mv (.t 10), none⟩,
    ⟨(some 47), .bin .add (.t 45) (.t 46), none⟩,
    ⟨(some 48), .iaddr (.t 44) (.t 47) 1, none⟩,
    ⟨(some 49), .load (.t 48) 1 false, none⟩,
    ⟨(some 50), .mv (.t 0), none⟩,
    ⟨(some 51), .mv (.t 3), none⟩,
    ⟨(some 52), .mv (.t 11), none⟩,
    ⟨(some 53), .bin .add (.t 51) (.t 52), none⟩,
    ⟨(some 54), .iaddr (.t 50) (.t 53) 1, none⟩,
    ⟨(some 55), .load (.t 54) 1 false, none⟩,
    ⟨(some 56), .callv (.t 43) [(.t 49), (.t 55)], none⟩,
    ⟨(some 57), .bin .lss (.t 56) (.c (.int .i64 0)), none⟩,
    ⟨(some 58), .un .not (.t 57), none⟩]
@[go_sem] theorem g_Z50_7_0 : gAt l_Z50_7 0 = ⟨(some 43), .mv (.t 4), none⟩ := idE rfl
@[go_sem] theorem g_Z50_7_1 : gAt l_Z50_7 1 = ⟨(some 44), .mv (.t 0), none⟩ := idE rfl
@[go_sem] theorem g_Z50_7_2 : gAt l_Z50_7 2 = ⟨(some 45), .mv (.t 3), none⟩ := idE rfl
@[go_sem] theorem g_Z50_7_3 : gAt l_Z50_7 3 = ⟨(some 46), .mv (.t 10), none⟩ := idE rfl
@[go_sem] theorem g_Z50_7_4 : gAt l_Z50_7 4 = ⟨(some 47), .bin .add (.t 45) (.t 46), none⟩ := idE rfl
@[go_sem] theorem g_Z50_7_5 : gAt l_Z50_7 5 = ⟨(some 48), .iaddr (.t 44) (.t 47) 1, none⟩ := idE rfl
@[go_sem] theorem g_Z50_7_6 : gAt l_Z50_7 6 = ⟨(some 49), .load (.t 48) 1 false, none⟩ := idE rfl
@[go_sem] theorem g_Z50_7_7 : gAt l_Z50_7 7 = ⟨(some 50), .mv (.t 0), none⟩ := idE rfl
@[go_sem] theorem g_Z50_7_8 : gAt l_Z50_7 8 = ⟨(some 51), .mv (.t 3), none⟩ := idE rfl
@[go_sem] theorem g_Z50_7_9 : gAt l_Z50_7 9 = ⟨(some 52), .mv (.t 11), none⟩ := idE rfl
@[go_sem] theorem g_Z50_7_10 : gAt l_Z50_7 10 = ⟨(some 53), .bin .add (.t 51) (.t 52), none⟩ := idE rfl
@[go_sem] theorem g_Z50_7_11 : gAt l_Z50_7 11 = ⟨(some 54), .iaddr (.t 50) (.t 53) 1, none⟩ := idE rfl
@[go_sem] theorem g_Z50_7_12 : gAt l_Z50_7 12 = ⟨(some 55), .load (.t 54) 1 false, none⟩ := idE rfl
@[go_sem] theorem g_Z50_7_13 : gAt l_Z50_7 13 = ⟨(some 56), .callv (.t 43) [(.t 49), (.t 55)], none⟩ := idE rfl
@[go_sem] theorem g_Z50_7_14 : gAt l_Z50_7 14 = ⟨(some 57), .bin .lss (.t 56) (.c (.int .i64 0)), none⟩ := idE rfl
@[go_sem] theorem g_Z50_7_15 : gAt l_Z50_7 15 = ⟨(some 58), .un .not (.t 57), none⟩ := idE rfl
def Z50_7 : IR := .dops l_Z50_7 [(0, []), (1, []), (2, []), (3, []), (4, []), (5, []), (6, []), (7, []), (8, []), (9, []), (10, []), (11, []), (12, []), (13, []), (14, []), (15, [])]
@[go_sem] theorem w_Z50_7 : wp P Z50_7 Q e H = wpD P l_Z50_7 [(0, []), (1, []), (2, []), (3, []), (4, []), (5, []), (6, []), (7, []), (8, []), (9, []), (10, []), (11, []), (12, []), (13, []), (14, []), (15, [])] (Q .normal) e H := idE rfl
def Z50_8 : IR := .cond (.t 58) .ret .skip
@[go_sem] theorem w_Z50_8 : wp P Z50_8 Q e H = condW P ((.t 58) : X) .ret .skip Q e H := idE rfl
def l_Z50_9 : List GOp := [⟨(some 59), .mv (.t 0), none⟩,
    ⟨(some 60), .mv (.t 3), none⟩,
    ⟨(some 61), .mv (.t 10), none⟩,
    ⟨(some 62), .bin .add (.t 60) (.t 61), none⟩,
    ⟨(some 63), .mv (.t 0), none⟩,
    ⟨(some 64), .mv (.t 3), none⟩,
    ⟨(some 65), .mv (.t 11), none⟩,
    ⟨(some 66), .bin .add (.t 64) (.t 65), none⟩,
    ⟨(some 67), .mv (.t 0), none⟩,
    ⟨(some 68), .mv (.t 3), none⟩,
    ⟨(some 69), .mv (.t 11), none⟩,
    ⟨(some 70), .bin .add (.t 68) (.t 69), none⟩,
    ⟨(some 71), .iaddr (.t 67) (.t 70) 1, none⟩,
    ⟨(some 72), .load (.t 71) 1 false, none⟩,
    ⟨(some 73), .mv (.t 0), none⟩,
    ⟨(some 74), .mv (.t 3), none⟩,
    ⟨(some 75), .mv (.t 10), none⟩,
    ⟨(some 76), .bin .add (.t 74) (.t 75), none⟩,
    ⟨(some 77), .iaddr (.t 73) (.t 76) 1, none⟩,
    ⟨(some 78), .load (.t 77) 1 false, none⟩,
    ⟨(some 79), .iaddr (.t 59) (.t 62) 1, none⟩,
    ⟨none, .store (.t 79) 1 (.t 72), none⟩,
    ⟨(some 80), .iaddr (.t 63) (.t 66) 1, none⟩,
    ⟨none, .store (.t 80) 1 (.t 78), none⟩]
@[go_sem] theorem g_Z50_9_0 : gAt l_Z50_9 0 = ⟨(some 59), .mv (.t 0), none⟩ := idE rfl
@[go_sem] theorem g_Z50_9_1 : gAt l_Z50_9 1 = ⟨(some 60), .mv (.t 3), none⟩ := idE rfl
@[go_sem] theorem g_Z50_9_2 : gAt l_Z50_9 2 = ⟨(some 61), .mv (.t 10), none⟩ := idE rfl
@[go_sem] theorem g_Z50_9_3 : gAt l_Z50_9 3 = ⟨(some 62), .bin .add (.t 60) (.t 61), none⟩ := idE rfl
@[go_sem] theorem g_Z50_9_4 : gAt l_Z50_9 4 = ⟨(some 63), .mv (.t 0), none⟩ := idE rfl
@[go_sem] theorem g_Z50_9_5 : gAt l_Z50_9 5 = ⟨(some 64), .mv (.t 3), none⟩ := idE rfl
@[go_sem] theorem g_Z50_9_6 : gAt l_Z50_9 6 = ⟨(some 65), .mv (.t 11), none⟩ := idE rfl
@[go_sem] theorem g_Z50_9_7 : gAt l_Z50_9 7 = ⟨(some 66), .bin .add (.t 64) (.t 65), none⟩ := idE rfl
@[go_sem] theorem g_Z50_9_8 : gAt l_Z50_9 8 = ⟨(some 67), .mv (.t 0), none⟩ := idE rfl
@[go_sem] theorem g_Z50_9_9 : gAt l_Z50_9 9 = ⟨(some 68), .mv (.t 3), none⟩ := idE rfl
@[go_sem] theorem g_Z50_9_10 : gAt l_Z50_9 10 = ⟨(some 69), .mv (.t 11), none⟩ := idE rfl
@[go_sem] theorem g_Z50_9_11 : gAt l_Z50_9 11 = ⟨(some 70), .bin .add (.t 68) (.t 69), none⟩ := idE rfl
@[go_sem] theorem g_Z50_9_12 : gAt l_Z50_9 12 = ⟨(some 71), .iaddr (.t 67) (.t 70) 1, none⟩ := idE rfl
@[go_sem] theorem g_Z50_9_13 : gAt l_Z50_9 13 = ⟨(some 72), .load (.t 71) 1 false, none⟩ := idE rfl
@[go_sem] theorem g_Z50_9_14 : gAt l_Z50_9 14 = ⟨(some 73), .mv (.t 0), none⟩ := idE rfl
@[go_sem] theorem g_Z50_9_15 : gAt l_Z50_9 15 = ⟨(some 74), .mv (.t 3), none⟩ := idE rfl
@[go_sem] theorem g_Z50_9_16 : gAt l_Z50_9 16 = ⟨(some 75), .mv (.t 10), none⟩ := idE rfl
@[go_sem] theorem g_Z50_9_17 : gAt l_Z50_9 17 = ⟨(some 76), .bin .add (.t 74) (.t 75), none⟩ := idE rfl
@[go_sem] theorem g_Z50_9_18 : gAt l_Z50_9 18 = ⟨(some 77), .iaddr (.t 73) (.t 76) 1, none⟩ := idE rfl
@[go_sem] theorem g_Z50_9_19 : gAt l_Z50_9 19 = ⟨(some 78), .load (.t 77) 1 false, none⟩ := idE rfl
@[go_sem] theorem g_Z50_9_20 : gAt l_Z50_9 20 = ⟨(some 79), .iaddr (.t 59) (.t 62) 1, none⟩ := idE rfl
@[go_sem] theorem g_Z50_9_21 : gAt l_Z50_9 21 = ⟨none, .store (.t 79) 1 (.t 72), none⟩ := idE rfl
@[go_sem] theorem g_Z50_9_22 : gAt l_Z50_9 22 = ⟨(some 80), .iaddr (.t 63) (.t 66) 1, none⟩ := idE rfl
@[go_sem] theorem g_Z50_9_23 : gAt l_Z50_9 23 = ⟨none, .store (.t 80) 1 (.t 78), none⟩ := idE rfl
def Z50_9 : IR := .dops l_Z50_9 [(0, []), (1, []), (2, []), (3, []), (4, []), (5, []), (6, []), (7, []), (8, []), (9, []), (10, []), (11, []), (12, []), (13, []), (14, []), (15, []), (16, []), (17, []), (18, []), (19, []), (20, []), (21, []), (22, []), (23, [])]
@[go_sem] theorem w_Z50_9 : wp P Z50_9 Q e H = wpD P l_Z50_9 [(0, []), (1, []), (2, []), (3, []), (4, []), (5, []), (6, []), (7, []), (8, []), (9, []), (10, []), (11, []), (12, []), (13, []), (14, []), (15, []), (16, []), (17, []), (18, []), (19, []), (20, []), (21, []), (22, []), (23, [])] (Q .normal) e H := idE rfl
@[go_sem] def l_Z50_10 : List GOp := [⟨(some 81), .mv (.t 11), none⟩,
    ⟨(some 10), .mv (.t 81), none⟩]
def Z50_10 : IR := .ops l_Z50_10
@[go_sem] theorem w_Z50_10 : wp P Z50_10 Q e H = wpL P l_Z50_10 (Q .normal) e H := idE rfl
def Z50_11 : IR := .block 1 (.seq Z50_1 (.seq (.seq Z50_2 Z50_3) (.seq (.seq Z50_4 Z50_6) (.seq (.seq Z50_7 Z50_8) (.seq Z50_9 Z50_10)))))
@[go_sem] theorem w_Z50_11 : wp P Z50_11 Q e H = wp P (.seq Z50_1 (.seq (.seq Z50_2 Z50_3) (.seq (.seq Z50_4 Z50_6) (.seq (.seq Z50_7 Z50_8) (.seq Z50_9 Z50_10))))) (blockQ 1 Q) e H := idE rfl
def Z50_12 : IR := .loop Z50_11
def Z50_13 : IR := .block 0 Z50_12
@[go_sem] theorem w_Z50_13 : wp P Z50_13 Q e H = wp P Z50_12 (blockQ 0 Q) e H := idE rfl
@[go_sem] def l_Z39_0 : List GOp := [⟨(some 13), .mv (.t 1), none⟩,
    ⟨(some 8), .mv (.t 13), none⟩]
def Z39_0 : IR := .ops l_Z39_0
@[go_sem] theorem w_Z39_0 : wp P Z39_0 Q e H = wpL P l_Z39_0 (Q .normal) e H := idE rfl
@[go_sem] def l_Z39_1 : List GOp := [⟨(some 9), .mv (.c (.int .i64 0)), none⟩]
def Z39_1 : IR := .ops l_Z39_1
@[go_sem] theorem w_Z39_1 : wp P Z39_1 Q e H = wpL P l_Z39_1 (Q .normal) e H := idE rfl
@[go_sem] def l_Z39_2 : List GOp := [⟨(some 14), .mv (.t 2), none⟩,
    ⟨(some 15), .mv (.t 1), none⟩,
    ⟨(some 16), .bin .sub (.t 14) (.t 15), none⟩,
    ⟨(some 10), .mv (.t 16), none⟩]
def Z39_2 : IR := .ops l_Z39_2
@[go_sem] theorem w_Z39_2 : wp P Z39_2 Q e H = wpL P l_Z39_2 (Q .normal) e H := idE rfl
@[go_sem] def l_Z39_3 : List GOp := [⟨(some 17), .mv (.t 10), none⟩,
    ⟨(some 18), .bin .sub (.t 17) (.c (.int .i64 1)), none⟩,
    ⟨(some 19), .bin .quo (.t 18) (.c (.int .i64 2)), none⟩,
    ⟨(some 11), .mv (.t 19), none⟩]
def Z39_3 : IR := .ops l_Z39_3
@[go_sem] theorem w_Z39_3 : wp P Z39_3 Q e H = wpL P l_Z39_3 (Q .normal) e H := idE rfl
@[go_sem] def l_Z39_4 : List GOp := [⟨(some 20), .mv (.t 11), none⟩,
    ⟨(some 21), .bin .geq (.t 20) (.c (.int .i64 0)), none⟩]
def Z39_4 : IR := .ops l_Z39_4
@[go_sem] theorem w_Z39_4 : wp P Z39_4 Q e H = wpL P l_Z39_4 (Q .normal) e H := idE rfl
def Z39_5 : IR := .cond (.t 21) .skip (.exit 0)
@[go_sem] theorem w_Z39_5 : wp P Z39_5 Q e H = condW P ((.t 21) : X) .skip (.exit 0) Q e H := idE rfl
@[go_sem] def l_Z39_6 : List GOp := [⟨(some 24), .mv (.t 0), none⟩,
    ⟨(some 25), .mv (.t 11), none⟩,
    ⟨(some 26), .mv (.t 10), none⟩,
    ⟨(some 27), .mv (.t 8), none⟩,
    ⟨(some 28), .mv (.t 3), none⟩,
    ⟨(some 29), .call (n_Z50) [(.t 24), (.t 25), (.t 26), (.t 27), (.t 28)], none⟩]
def Z39_6 : IR := .ops l_Z39_6
@[go_sem] theorem w_Z39_6 : wp P Z39_6 Q e H = wpL P l_Z39_6 (Q .normal) e H := idE rfl
def Z39_7 : IR := .block 1 Z39_6
@[go_sem] theorem w_Z39_7 : wp P Z39_7 Q e H = wp P Z39_6 (blockQ 1 Q) e H := idE rfl
@[go_sem] def l_Z39_8 : List GOp := [⟨(some 22), .mv (.t 11), none⟩,
    ⟨(some 23), .bin .sub (.t 22) (.c (.int .i64 1)), none⟩,
    ⟨(some 11), .mv (.t 23), none⟩]
def Z39_8 : IR := .ops l_Z39_8
@[go_sem] theorem w_Z39_8 : wp P Z39_8 Q e H = wpL P l_Z39_8 (Q .normal) e H := idE rfl
def Z39_9 : IR := .loop (.seq (.seq Z39_4 Z39_5) (.seq Z39_7 Z39_8))
def Z39_10 : IR := .block 0 Z39_9
@[go_sem] theorem w_Z39_10 : wp P Z39_10 Q e H = wp P Z39_9 (blockQ 0 Q) e H := idE rfl
@[go_sem] def l_Z39_11 : List GOp := [⟨(some 30), .mv (.t 10), none⟩,
    ⟨(some 31), .bin .sub (.t 30) (.c (.int .i64 1)), none⟩,
    ⟨(some 12), .mv (.t 31), none⟩]
def Z39_11 : IR := .ops l_Z39_11
@[go_sem] theorem w_Z39_11 : wp P Z39_11 Q e H = wpL P l_Z39_11 (Q .normal) e H := idE rfl
@[go_sem] def l_Z39_12 : List GOp := [⟨(some 32), .mv (.t 12), none⟩,
    ⟨(some 33), .bin .geq (.t 32) (.c (.int .i64 0)), none⟩]
def Z39_12 : IR := .ops l_Z39_12
@[go_sem] theorem w_Z39_12 : wp P Z39_12 Q e H = wpL P l_Z39_12 (Q .normal) e H := idE rfl
def Z39_13 : IR := .cond (.t 33) .skip (.exit 2)
@[go_sem] theorem w_Z39_13 : wp P Z39_13 Q e H = condW P ((.t 33) : X) .skip (.exit 2) Q e H := idE rfl
def l_Z39_14 : List GOp := [⟨(some 36), .mv (.t 0), none⟩,
    ⟨(some 37), .mv (.t 8), none⟩,
    ⟨(some 38), .mv (.t 0), none⟩,
    ⟨(some 39), .mv (.t 8), none⟩,
    ⟨(some 40), .mv (.t 12), none⟩,
    ⟨(some 41), .bin .add (.t 39) (.t 40), none⟩,
    ⟨(some 42), .mv (.t 0), none⟩,
    ⟨(some 43), .mv (.t 8), none⟩,
    ⟨(some 44), .mv (.t 12), none⟩,
    ⟨(some 45), .bin .add (.t 43) (.t 44), none⟩,
    ⟨(some 46), .iaddr (.t 42) (.t 45) 1, none⟩,
    ⟨(some 47), .load (.t 46) 1 false, none⟩,
    ⟨(some 48), .mv (.t 0), none⟩,
    ⟨(some 49), .mv (.t 8), none⟩,
    ⟨(some 50), .iaddr (.t 48) (.t 49) 1, none⟩,
    ⟨(some 51), .load (.t 50) 1 false, none⟩,
    ⟨(some 52), .iaddr (.t 36) (.t 37) 1, none⟩,
    ⟨none, .store (.t 52) 1 (.t 47), none⟩,
    ⟨(some 53), .iaddr (.t 38) (.t 41) 1, none⟩,
    ⟨none, .store (.t 53) 1 (.t 51), none⟩]
@[go_sem] theorem g_Z39_14_0 : gAt l_Z39_14 0 = ⟨(some 36), .mv (.t 0), none⟩ := idE rfl
@[go_sem] theorem g_Z39_14_1 : gAt l_Z39_14 1 = ⟨(some 37), .mv (.t 8), none⟩ := idE rfl
@[go_sem] theorem g_Z39_14_2 : gAt l_Z39_14 2 = ⟨(some 38), .mv (.t 0), none⟩ := idE rfl
@[go_sem] theorem g_Z39_14_3 : gAt l_Z39_14 3 = ⟨(some 39), .mv (.t 8), none⟩ := idE rfl
@[go_sem] theorem g_Z39_14_4 : gAt l_Z39_14 4 = ⟨(some 40), .mv (.t 12), none⟩ := idE rfl
@[go_sem] theorem g_Z39_14_5 : gAt l_Z39_14 5 = ⟨(some 41), .bin .add (.t 39) (.t 40), none⟩ := idE rfl
@[go_sem] theorem g_Z39_14_6 : gAt l_Z39_14 6 = ⟨(some 42), .mv (.t 0), none⟩ := idE rfl
@[go_sem] theorem g_Z39_14_7 : gAt l_Z39_14 7 = ⟨(some 43), .mv (.t 8), none⟩ := idE rfl
@[go_sem] theorem g_Z39_14_8 : gAt l_Z39_14 8 = ⟨(some 44), .mv (.t 12), none⟩ := idE rfl
@[go_sem] theorem g_Z39_14_9 : gAt l_Z39_14 9 = ⟨(some 45), .bin .add (.t 43) (.t 44), none⟩ := idE rfl
@[go_sem] theorem g_Z39_14_10 : gAt l_Z39_14 10 = ⟨(some 46), .iaddr (.t 42) (.t 45) 1, none⟩ := idE rfl
@[go_sem] theorem g_Z39_14_11 : gAt l_Z39_14 11 = ⟨(some 47), .load (.t 46) 1 false, none⟩ := idE rfl
@[go_sem] theorem g_Z39_14_12 : gAt l_Z39_14 12 = ⟨(some 48), .mv (.t 0), none⟩ := idE rfl
@[go_sem] theorem g_Z39_14_13 : gAt l_Z39_14 13 = ⟨(some 49), .mv (.t 8), none⟩ := idE rfl
@[go_sem] theorem g_Z39_14_14 : gAt l_Z39_14 14 = ⟨(some 50), .iaddr (.t 48) (.t 49) 1, none⟩ := idE rfl
@[go_sem] theorem g_Z39_14_15 : gAt l_Z39_14 15 = ⟨(some 51), .load (.t 50) 1 false, none⟩ := idE rfl
@[go_sem] theorem g_Z39_14_16 : gAt l_Z39_14 16 = ⟨(some 52), .iaddr (.t 36) (.t 37) 1, none⟩ := idE rfl
@[go_sem] theorem g_Z39_14_17 : gAt l_Z39_14 17 = ⟨none, .store (.t 52) 1 (.t 47), none⟩ := idE rfl
@[go_sem] theorem g_Z39_14_18 : gAt l_Z39_14 18 = ⟨(some 53), .iaddr (.t 38) (.t 41) 1, none⟩ := idE rfl
@[go_sem] theorem g_Z39_14_19 : gAt l_Z39_14 19 = ⟨none, .store (.t 53) 1 (.t 51), none⟩ := idE rfl
def Z39_14 : IR := .dops l_Z39_14 [(0, []), (1, []), (2, []), (3, []), (4, []), (5, []), (6, []), (7, []), (8, []), (9, []), (10, []), (11, []), (12, []), (13, []), (14, []), (15, []), (16, []), (17, []), (18, []), (19, [])]
@[go_sem] theorem w_Z39_14 : wp P Z39_14 Q e H = wpD P l_Z39_14 [(0, []), (1, []), (2, []), (3, []), (4, []), (5, []), (6, []), (7, []), (8, []), (9, []), (10, []), (11, []), (12, []), (13, []), (14, []), (15, []), (16, []), (17, []), (18, []), (19, [])] (Q .normal) e H := idE rfl
@[go_sem] def l_Z39_15 : List GOp := [⟨(some 54), .mv (.t 0), none⟩,
    ⟨(some 55), .mv (.t 9), none⟩,
    ⟨(some 56), .mv (.t 12), none⟩,
    ⟨(some 57), .mv (.t 8), none⟩,
    ⟨(some 58), .mv (.t 3), none⟩,
    ⟨(some 59), .call (n_Z50) [(.t 54), (.t 55), (.t 56), (.t 57), (.t 58)], none⟩]
def Z39_15 : IR := .ops l_Z39_15
@[go_sem] theorem w_Z39_15 : wp P Z39_15 Q e H = wpL P l_Z39_15 (Q .normal) e H := idE rfl
def Z39_16 : IR := .block 3 (.seq Z39_14 Z39_15)
@[go_sem] theorem w_Z39_16 : wp P Z39_16 Q e H = wp P (.seq Z39_14 Z39_15) (blockQ 3 Q) e H := idE rfl
@[go_sem] def l_Z39_17 : List GOp := [⟨(some 34), .mv (.t 12), none⟩,
    ⟨(some 35), .bin .sub (.t 34) (.c (.int .i64 1)), none⟩,
    ⟨(some 12), .mv (.t 35), none⟩]
def Z39_17 : IR := .ops l_Z39_17
@[go_sem] theorem w_Z39_17 : wp P Z39_17 Q e H = wpL P l_Z39_17 (Q .normal) e H := idE rfl
def Z39_18 : IR := .loop (.seq (.seq Z39_12 Z39_13) (.seq Z39_16 Z39_17))
def Z39_19 : IR := .block 2 Z39_18
@[go_sem] theorem w_Z39_19 : wp P Z39_19 Q e H = wp P Z39_18 (blockQ 2 Q) e H := idE rfl
@[go_sem] def l_Z43_0 : List GOp := [⟨(some 2), .mv (.c (.int .u64 0)), none⟩]
def Z43_0 : IR := .ops l_Z43_0
@[go_sem] theorem w_Z43_0 : wp P Z43_0 Q e H = wpL P l_Z43_0 (Q .normal) e H := idE rfl
@[go_sem] def l_Z43_1 : List GOp := [⟨(some 3), .mv (.t 0), none⟩,
    ⟨(some 4), .cvi .u64 (.t 3), none⟩,
    ⟨(some 5), .call (n_Z26) [(.t 4)], none⟩,
    ⟨(some 6), .bin .shl (.c (.int .u64 1)) (.t 5), none⟩,
    ⟨(some 2), .mv (.t 6), none⟩]
def Z43_1 : IR := .ops l_Z43_1
@[go_sem] theorem w_Z43_1 : wp P Z43_1 Q e H = wpL P l_Z43_1 (Q .normal) e H := idE rfl
@[go_sem] def l_Z51_0 : List GOp := [⟨(some 2), .mv (.c (.int .u64 0)), none⟩]
def Z51_0 : IR := .ops l_Z51_0
@[go_sem] theorem w_Z51_0 : wp P Z51_0 Q e H = wpL P l_Z51_0 (Q .normal) e H := idE rfl
def l_Z51_1 : List GOp := [⟨(some 3), .mv (.t 0), none⟩,
    ⟨(some 4), .nilck (.t 3), none⟩,
    ⟨(some 5), .load (.t 4) 1 false, none⟩,
    ⟨(some 6), .mv (.t 0), none⟩,
    ⟨(some 7), .nilck (.t 6), none⟩,
    ⟨(some 8), .load (.t 7) 1 false, none⟩,
    ⟨(some 9), .bin .shl (.t 8) (.c (.int .u64 13)), none⟩,
    ⟨(some 10), .bin .xor (.t 5) (.t 9), none⟩,
    ⟨(some 11), .nilck (.t 3), none⟩,
    ⟨none, .store (.t 11) 1 (.t 10), none⟩]
@[go_sem] theorem g_Z51_1_0 : gAt l_Z51_1 0 = ⟨(some 3), .mv (.t 0), none⟩ := idE rfl
@[go_sem] theorem g_Z51_1_1 : gAt l_Z51_1 1 = ⟨(some 4), .nilck (.t 3), none⟩ := idE rfl
@[go_sem] theorem g_Z51_1_2 : gAt l_Z51_1 2 = ⟨(some 5), .load (.t 4) 1 false, none⟩ := idE rfl
@[go_sem] theorem g_Z51_1_3 : gAt l_Z51_1 3 = ⟨(some 6), .mv (.t 0), none⟩ := idE rfl
@[go_sem] theorem g_Z51_1_4 : gAt l_Z51_1 4 = ⟨(some 7), .nilck (.t 6), none⟩ := idE rfl
@[go_sem] theorem g_Z51_1_5 : gAt l_Z51_1 5 = ⟨(some 8), .load (.t 7) 1 false, none⟩ := idE rfl
@[go_sem] theorem g_Z51_1_6 : gAt l_Z51_1 6 = ⟨(some 9), .bin .shl (.t 8) (.c (.int .u64 13)), none⟩ := idE rfl
@[go_sem] theorem g_Z51_1_7 : gAt l_Z51_1 7 = ⟨(some 10), .bin .xor (.t 5) (.t 9), none⟩ := idE rfl
@[go_sem] theorem g_Z51_1_8 : gAt l_Z51_1 8 = ⟨(some 11), .nilck (.t 3), none⟩ := idE rfl
@[go_sem] theorem g_Z51_1_9 : gAt l_Z51_1 9 = ⟨none, .store (.t 11) 1 (.t 10), none⟩ := idE rfl
def Z51_1 : IR := .dops l_Z51_1 [(0, []), (1, []), (2, []), (3, []), (4, []), (5, []), (6, []), (7, []), (8, []), (9, [])]
@[go_sem] theorem w_Z51_1 : wp P Z51_1 Q e H = wpD P l_Z51_1 [(0, []), (1, []), (2, []), (3, []), (4, []), (5, []), (6, []), (7, []), (8, []), (9, [])] (Q .normal) e H := idE rfl
def l_Z51_2 : List GOp := [⟨(some 12), .mv (.t 0), none⟩,
    ⟨(some 13), .nilck (.t 12), none⟩,
    ⟨(some 14), .load (.t 13) 1 false, none⟩,
    ⟨(some 15), .mv (.t 0), none⟩,
    ⟨(some 16), .nilck (.t 15), none⟩,
    ⟨(some 17), .load (.t 16) 1 false, none⟩,
    ⟨(some 18), .bin .shr (.t 17) (.c (.int .u64 7)), none⟩,
    ⟨(some 19), .bin .xor (.t 14) (.t 18), none⟩,
    ⟨(some 20), .nilck (.t 12), none⟩,
    ⟨none, .store (.t 20) 1 (.t 19), none⟩]
@[go_sem] theorem g_Z51_2_0 : gAt l_Z51_2 0 = ⟨(some 12), .mv (.t 0), none⟩ := idE rfl
@[go_sem] theorem g_Z51_2_1 : gAt l_Z51_2 1 = ⟨(some 13), .nilck (.t 12), none⟩ := idE rfl
@[go_sem] theorem g_Z51_2_2 : gAt l_Z51_2 2 = ⟨(some 14), .load (.t 13) 1 false, none⟩ := idE rfl
@[go_sem] theorem g_Z51_2_3 : gAt l_Z51_2 3 = ⟨(some 15), .mv (.t 0), none⟩ := idE rfl
@[go_sem] theorem g_Z51_2_4 : gAt l_Z51_2 4 = ⟨(some 16), .nilck (.t 15), none⟩ := idE rfl
@[go_sem] theorem g_Z51_2_5 : gAt l_Z51_2 5 = ⟨(some 17), .load (.t 16) 1 false, none⟩ := idE rfl
@[go_sem] theorem g_Z51_2_6 : gAt l_Z51_2 6 = ⟨(some 18), .bin .shr (.t 17) (.c (.int .u64 7)), none⟩ := idE rfl
@[go_sem] theorem g_Z51_2_7 : gAt l_Z51_2 7 = ⟨(some 19), .bin .xor (.t 14) (.t 18), none⟩ := idE rfl
@[go_sem] theorem g_Z51_2_8 : gAt l_Z51_2 8 = ⟨(some 20), .nilck (.t 12), none⟩ := idE rfl
@[go_sem] theorem g_Z51_2_9 : gAt l_Z51_2 9 = ⟨none, .store (.t 20) 1 (.t 19), none⟩ := idE rfl
def Z51_2 : IR := .dops l_Z51_2 [(0, []), (1, []), (2, []), (3, []), (4, []), (5, []), (6, []), (7, []), (8, []), (9, [])]
@[go_sem] theorem w_Z51_2 : wp P Z51_2 Q e H = wpD P l_Z51_2 [(0, []), (1, []), (2, []), (3, []), (4, []), (5, []), (6, []), (7, []), (8, []), (9, [])] (Q .normal) e H := idE rfl
def l_Z51_3 : List GOp := [⟨(some 21), .mv (.t 0), none⟩,
    ⟨(some 22), .nilck (.t 21), none⟩,
    ⟨(some 23), .load (.t 22) 1 false, none⟩,
    ⟨(some 24), .mv (.t 0), none⟩,
    ⟨(some 25), .nilck (.t 24), none⟩,
    ⟨(some 26), .load (.t 25) 1 false, none⟩,
    ⟨(some 27), .bin .shl (.t 26) (.c (.int .u64 17)), none⟩,
    ⟨(some 28), .bin .xor (.t 23) (.t 27), none⟩,
    ⟨(some 29), .nilck (.t 21), none⟩,
    ⟨none, .store (.t 29) 1 (.t 28), none⟩]
@[go_sem] theorem g_Z51_3_0 : gAt l_Z51_3 0 = ⟨(some 21), .mv (.t 0), none⟩ := idE rfl
@[go_sem] theorem g_Z51_3_1 : gAt l_Z51_3 1 = ⟨(some 22), .nilck (.t 21), none⟩ := idE rfl
@[go_sem] theorem g_Z51_3_2 : gAt l_Z51_3 2 = ⟨(some 23), .load (.t 22) 1 false, none⟩ := idE rfl
@[go_sem] theorem g_Z51_3_3 : gAt l_Z51_3 3 = ⟨(some 24), .mv (.t 0), none⟩ := idE rfl
@[go_sem] theorem g_Z51_3_4 : gAt l_Z51_3 4 = ⟨(some 25), .nilck (.t 24), none⟩ := idE rfl
@[go_sem] theorem g_Z51_3_5 : gAt l_Z51_3 5 = ⟨(some 26), .load (.t 25) 1 false, none⟩ := idE rfl
@[go_sem] theorem g_Z51_3_6 : gAt l_Z51_3 6 = ⟨(some 27), .bin .shl (.t 26) (.c (.int .u64 17)), none⟩ := idE rfl
@[go_sem] theorem g_Z51_3_7 : gAt l_Z51_3 7 = ⟨(some 28), .bin .xor (.t 23) (.t 27), none⟩ := idE rfl
@[go_sem] theorem g_Z51_3_8 : gAt l_Z51_3 8 = ⟨(some 29), .nilck (.t 21), none⟩ := idE rfl
@[go_sem] theorem g_Z51_3_9 : gAt l_Z51_3 9 = ⟨none, .store (.t 29) 1 (.t 28), none⟩ := idE rfl
def Z51_3 : IR := .dops l_Z51_3 [(0, []), (1, []), (2, []), (3, []), (4, []), (5, []), (6, []), (7, []), (8, []), (9, [])]
@[go_sem] theorem w_Z51_3 : wp P Z51_3 Q e H = wpD P l_Z51_3 [(0, []), (1, []), (2, []), (3, []), (4, []), (5, []), (6, []), (7, []), (8, []), (9, [])] (Q .normal) e H := idE rfl
@[go_sem] def l_Z51_4 : List GOp := [⟨(some 30), .mv (.t 0), none⟩,
    ⟨(some 31), .nilck (.t 30), none⟩,
    ⟨(some 32), .load (.t 31) 1 false, none⟩,
    ⟨(some 2), .mv (.t 32), none⟩]
def Z51_4 : IR := .ops l_Z51_4
@[go_sem] theorem w_Z51_4 : wp P Z51_4 Q e H = wpL P l_Z51_4 (Q .normal) e H := idE rfl
@[go_sem] def l_Z37_0 : List GOp := [⟨(some 13), .mv (.t 2), none⟩,
    ⟨(some 14), .mv (.t 1), none⟩,
    ⟨(some 15), .bin .sub (.t 13) (.t 14), none⟩,
    ⟨(some 8), .mv (.t 15), none⟩]
def Z37_0 : IR := .ops l_Z37_0
@[go_sem] theorem w_Z37_0 : wp P Z37_0 Q e H = wpL P l_Z37_0 (Q .normal) e H := idE rfl
@[go_sem] def l_Z37_1 : List GOp := [⟨(some 16), .mv (.t 8), none⟩,
    ⟨(some 17), .bin .geq (.t 16) (.c (.int .i64 8)), none⟩]
def Z37_1 : IR := .ops l_Z37_1
@[go_sem] theorem w_Z37_1 : wp P Z37_1 Q e H = wpL P l_Z37_1 (Q .normal) e H := idE rfl
@[go_sem] def l_Z37_2 : List GOp := [⟨(some 18), .mv (.t 8), none⟩,
    ⟨(some 19), .cvi .u64 (.t 18), none⟩,
    ⟨(some 9), .alloc [(.int .u64 0)], none⟩,
    ⟨none, .store (.t 9) 1 (.t 19), none⟩]
def Z37_2 : IR := .ops l_Z37_2
@[go_sem] theorem w_Z37_2 : wp P Z37_2 Q e H = wpL P l_Z37_2 (Q .normal) e H := idE rfl
@[go_sem] def l_Z37_3 : List GOp := [⟨(some 20), .mv (.t 8), none⟩,
    ⟨(some 21), .call (n_Z43) [(.t 20)], none⟩,
    ⟨(some 10), .mv (.t 21), none⟩]
def Z37_3 : IR := .ops l_Z37_3
@[go_sem] theorem w_Z37_3 : wp P Z37_3 Q e H = wpL P l_Z37_3 (Q .normal) e H := idE rfl
@[go_sem] def l_Z37_4 : List GOp := [⟨(some 22), .mv (.t 1), none⟩,
    ⟨(some 23), .mv (.t 8), none⟩,
    ⟨(some 24), .bin .quo (.t 23) (.c (.int .i64 4)), none⟩,
    ⟨(some 25), .bin .mul (.t 24) (.c (.int .i64 2)), none⟩,
    ⟨(some 26), .bin .add (.t 22) (.t 25), none⟩,
    ⟨(some 27), .bin .sub (.t 26) (.c (.int .i64 1)), none⟩,
    ⟨(some 11), .mv (.t 27), none⟩]
def Z37_4 : IR := .ops l_Z37_4
@[go_sem] theorem w_Z37_4 : wp P Z37_4 Q e H = wpL P l_Z37_4 (Q .normal) e H := idE rfl
@[go_sem] def l_Z37_5 : List GOp := [⟨(some 28), .mv (.t 11), none⟩,
    ⟨(some 29), .mv (.t 1), none⟩,
    ⟨(some 30), .mv (.t 8), none⟩,
    ⟨(some 31), .bin .quo (.t 30) (.c (.int .i64 4)), none⟩,
    ⟨(some 32), .bin .mul (.t 31) (.c (.int .i64 2)), none⟩,
    ⟨(some 33), .bin .add (.t 29) (.t 32), none⟩,
    ⟨(some 34), .bin .add (.t 33) (.c (.int .i64 1)), none⟩,
    ⟨(some 35), .bin .leq (.t 28) (.t 34), none⟩]
def Z37_5 : IR := .ops l_Z37_5
@[go_sem] theorem w_Z37_5 : wp P Z37_5 Q e H = wpL P l_Z37_5 (Q .normal) e H := idE rfl
def Z37_6 : IR := .cond (.t 35) .skip (.exit 0)
@[go_sem] theorem w_Z37_6 : wp P Z37_6 Q e H = condW P ((.t 35) : X) .skip (.exit 0) Q e H := idE rfl
@[go_sem] def l_Z37_7 : List GOp := [⟨(some 38), .call (n_Z51) [(.t 9)], none⟩,
    ⟨(some 39), .mv (.t 10), none⟩,
    ⟨(some 40), .bin .sub (.t 39) (.c (.int .u64 1)), none⟩,
    ⟨(some 41), .bin .and (.t 38) (.t 40), none⟩,
    ⟨(some 42), .cvi .i64 (.t 41), none⟩,
    ⟨(some 12), .mv (.t 42), none⟩]
def Z37_7 : IR := .ops l_Z37_7
@[go_sem] theorem w_Z37_7 : wp P Z37_7 Q e H = wpL P l_Z37_7 (Q .normal) e H := idE rfl
@[go_sem] def l_Z37_8 : List GOp := [⟨(some 43), .mv (.t 12), none⟩,
    ⟨(some 44), .mv (.t 8), none⟩,
    ⟨(some 45), .bin .geq (.t 43) (.t 44), none⟩]
def Z37_8 : IR := .ops l_Z37_8
@[go_sem] theorem w_Z37_8 : wp P Z37_8 Q e H = wpL P l_Z37_8 (Q .normal) e H := idE rfl
@[go_sem] def l_Z37_9 : List GOp := [⟨(some 46), .mv (.t 12), none⟩,
    ⟨(some 47), .mv (.t 8), none⟩,
    ⟨(some 48), .bin .sub (.t 46) (.t 47), none⟩,
    ⟨(some 12), .mv (.t 48), none⟩]
def Z37_9 : IR := .ops l_Z37_9
@[go_sem] theorem w_Z37_9 : wp P Z37_9 Q e H = wpL P l_Z37_9 (Q .normal) e H := idE rfl
def Z37_10 : IR := .cond (.t 45) Z37_9 .skip
@[go_sem] theorem w_Z37_10 : wp P Z37_10 Q e H = condW P ((.t 45) : X) Z37_9 .skip Q e H := idE rfl
def l_Z37_11 : List GOp := [⟨(some 49), .mv (.t 0), none⟩,
    ⟨(some 50), .mv (.t 11), none⟩,
    ⟨(some 51), .mv (.t 0), none⟩,
    ⟨(some 52), .mv (.t 1), none⟩,
    ⟨(some 53), .mv (.t 12), none⟩,
    ⟨(some 54), .bin .add (.t 52) (.t 53), none⟩,
    ⟨(some 55), .mv (.t 0), none⟩,
    ⟨(some 56), .mv (.t 1), none⟩,
    ⟨(some 57), .mv (.t 12), none⟩,
    ⟨(some 58), .bin .add (.t 56) (.t 57), none⟩,
    ⟨(some 59), .iaddr (.t 55) (.t 58) 1, none⟩,
    ⟨(some 60), .load (.t 59) 1 false, none⟩,
    ⟨(some 61), .mv (.t 0), none⟩,
    ⟨(some 62), .mv (.t 11), none⟩,
    ⟨(some 63), .iaddr (.t 61) (.t 62) 1, none⟩,
    ⟨(some 64), .load (.t 63) 1 false, none⟩,
    ⟨(some 65), .iaddr (.t 49) (.t 50) 1, none⟩,
    ⟨none, .store (.t 65) 1 (.t 60), none⟩,
    ⟨(some 66), .iaddr (.t 51) (.t 54) 1, none⟩,
    ⟨none, .store (.t 66) 1 (.t 64), none⟩]
@[go_sem] theorem g_Z37_11_0 : gAt l_Z37_11 0 = ⟨(some 49), .mv (.t 0), none⟩ := idE rfl
@[go_sem] theorem g_Z37_11_1 : gAt l_Z37_11 1 = ⟨(some 50), .mv (.t 11), none⟩ := idE rfl
@[go_sem] theorem g_Z37_11_2 : gAt l_Z37_11 2 = ⟨(some 51), .mv (.t 0), none⟩ := idE rfl
@[go_sem] theorem g_Z37_11_3 : gAt l_Z37_11 3 = ⟨(some 52), .mv (.t 1), none⟩ := idE rfl
@[go_sem] theorem g_Z37_11_4 : gAt l_Z37_11 4 = ⟨(some 53), .mv (.t 12), none⟩ := idE rfl
@[go_sem] theorem g_Z37_11_5 : gAt l_Z37_11 5 = ⟨(some 54), .bin .add (.t 52) (.t 53), none⟩ := idE rfl
@[go_sem] theorem g_Z37_11_6 : gAt l_Z37_11 6 = ⟨(some 55), .mv (.t 0), none⟩ := idE rfl
@[go_sem] theorem g_Z37_11_7 : gAt l_Z37_11 7 = ⟨(some 56), .mv (.t 1), none⟩ := idE rfl
@[go_sem] theorem g_Z37_11_8 : gAt l_Z37_11 8 = ⟨(some 57), .mv (.t 12), none⟩ := idE rfl
@[go_sem] theorem g_Z37_11_9 : gAt l_Z37_11 9 = ⟨(some 58), .bin .add (.t 56) (.t 57), none⟩ := idE rfl
@[go_sem] theorem g_Z37_11_10 : gAt l_Z37_11 10 = ⟨(some 59), .iaddr (.t 55) (.t 58) 1, none⟩ := idE rfl
@[go_sem] theorem g_Z37_11_11 : gAt l_Z37_11 11 = ⟨(some 60), .load (.t 59) 1 false, none⟩ := idE rfl
@[go_sem] theorem g_Z37_11_12 : gAt l_Z37_11 12 = ⟨(some 61), .mv (.t 0), none⟩ := idE rfl
@[go_sem] theorem g_Z37_11_13 : gAt l_Z37_11 13 = ⟨(some 62), .mv (.t 11), none⟩ := idE rfl
@[go_sem] theorem g_Z37_11_14 : gAt l_Z37_11 14 = ⟨(some 63), .iaddr (.t 61) (.t 62) 1, none⟩ := idE rfl
@[go_sem] theorem g_Z37_11_15 : gAt l_Z37_11 15 = ⟨(some 64), .load (.t 63) 1 false, none⟩ := idE rfl
@[go_sem] theorem g_Z37_11_16 : gAt l_Z37_11 16 = ⟨(some 65), .iaddr (.t 49) (.t 50) 1, none⟩ := idE rfl
@[go_sem] theorem g_Z37_11_17 : gAt l_Z37_11 17 = ⟨none, .store (.t 65) 1 (.t 60), none⟩ := idE rfl
@[go_sem] theorem g_Z37_11_18 : gAt l_Z37_11 18 = ⟨(some 66), .iaddr (.t 51) (.t 54) 1, none⟩ := idE rfl
@[go_sem] theorem g_Z37_11_19 : gAt l_Z37_11 19 = ⟨none, .store (.t 66) 1 (.t 64), none⟩ := idE rfl
def Z37_11 : IR := .dops l_Z37_11 [(0, []), (1, []), (2, []), (3, []), (4, []), (5, []), (6, []), (7, []), (8, []), (9, []), (10, []), (11, []), (12, []), (13, []), (14, []), (15, []), (16, []), (17, []), (18, []), (19, [])]
@[go_sem] theorem w_Z37_11 : wp P Z37_11 Q e H = wpD P l_Z37_11 [(0, []), (1, []), (2, []), (3, []), (4, []), (5, []), (6, []), (7, []), (8, []), (9, []), (10, []), (11, []), (12, []), (13, []), (14, []), (15, []), (16, []), (17, []), (18, []), (19, [])] (Q .normal) e H := idE rfl
def Z37_12 : IR := .block 1 (.seq Z37_7 (.seq (.seq Z37_8 Z37_10) Z37_11))
@[go_sem] theorem w_Z37_12 : wp P Z37_12 Q e H = wp P (.seq Z37_7 (.seq (.seq Z37_8 Z37_10) Z37_11)) (blockQ 1 Q) e H := idE rfl
@[go_sem] def l_Z37_13 : List GOp := [⟨(some 36), .mv (.t 11), none⟩,
    ⟨(some 37), .bin .add (.t 36) (.c (.int .i64 1)), none⟩,
    ⟨(some 11), .mv (.t 37), none⟩]
def Z37_13 : IR := .ops l_Z37_13
@[go_sem] theorem w_Z37_13 : wp P Z37_13 Q e H = wpL P l_Z37_13 (Q .normal) e H := idE rfl
def Z37_14 : IR := .loop (.seq (.seq Z37_5 Z37_6) (.seq Z37_12 Z37_13))
def Z37_15 : IR := .block 0 Z37_14
@[go_sem] theorem w_Z37_15 : wp P Z37_15 Q e H = wp P Z37_14 (blockQ 0 Q) e H := idE rfl
def Z37_16 : IR := .cond (.t 17) (.seq Z37_2 (.seq Z37_3 (.seq Z37_4 Z37_15))) .skip
@[go_sem] theorem w_Z37_16 : wp P Z37_16 Q e H = condW P ((.t 17) : X) (.seq Z37_2 (.seq Z37_3 (.seq Z37_4 Z37_15))) .skip Q e H := idE rfl
@[go_sem] def l_Z44_0 : List GOp := [⟨(some 10), .mv (.c (.int .i64 0)), none⟩,
    ⟨(some 11), .mv (.c (.int .i64 0)), none⟩]
def Z44_0 : IR := .ops l_Z44_0
@[go_sem] theorem w_Z44_0 : wp P Z44_0 Q e H = wpL P l_Z44_0 (Q .normal) e H := idE rfl
def l_Z44_1 : List GOp := [⟨(some 12), .mv (.t 4), none⟩,
    ⟨(some 13), .mv (.t 0), none⟩,
    ⟨(some 14), .mv (.t 2), none⟩,
    ⟨(some 15), .iaddr (.t 13) (.t 14) 1, none⟩,
    ⟨(some 16), .load (.t 15) 1 false, none⟩,
    ⟨(some 17), .mv (.t 0), none⟩,
    ⟨(some 18), .mv (.t 1), none⟩,
    ⟨(some 19), .iaddr (.t 17) (.t 18) 1, none⟩,
    ⟨(some 20), .load (.t 19) 1 false, none⟩,
    ⟨(some 21), .callv (.t 12) [(.t 16), (.t 20)], none⟩,
    ⟨(some 22), .bin .lss (.t 21) (.c (.int .i64 0)), none⟩]
@[go_sem] theorem g_Z44_1_0 : gAt l_Z44_1 0 = ⟨(some 12), .mv (.t 4), none⟩ := idE rfl
@[go_sem] theorem g_Z44_1_1 : gAt l_Z44_1 1 = ⟨(some 13), .mv (.t 0), none⟩ := idE rfl
@[go_sem] theorem g_Z44_1_2 : gAt l_Z44_1 2 = ⟨(some 14), .mv (.t 2), none⟩ := idE rfl
@[go_sem] theorem g_Z44_1_3 : gAt l_Z44_1 3 = ⟨(some 15), .iaddr (.t 13) (.t 14) 1, none⟩ := idE rfl
@[go_sem] theorem g_Z44_1_4 : gAt l_Z44_1 4 = ⟨(some 16), .load (.t 15) 1 false, none⟩ := idE rfl
@[go_sem] theorem g_Z44_1_5 : gAt l_Z44_1 5 = ⟨(some 17), .mv (.t 0), none⟩ := idE rfl
@[go_sem] theorem g_Z44_1_6 : gAt l_Z44_1 6 = ⟨(some 18), .mv (.t 1), none⟩ := idE rfl
@[go_sem] theorem g_Z44_1_7 : gAt l_Z44_1 7 = ⟨(some 19), .iaddr (.t 17) (.t 18) 1, none⟩ := idE rfl
@[go_sem] theorem g_Z44_1_8 : gAt l_Z44_1 8 = ⟨(some 20), .load (.t 19) 1 false, none⟩ := idE rfl
@[go_sem] theorem g_Z44_1_9 : gAt l_Z44_1 9 = ⟨(some 21), .callv (.t 12) [(.t 16), (.t 20)], none⟩ := idE rfl
@[go_sem] theorem g_Z44_1_10 : gAt l_Z44_1 10 = ⟨(some 22), .bin .lss (.t 21) (.c (.int .i64 0)), none⟩ := idE rfl
def Z44_1 : IR := .dops l_Z44_1 [(0, []), (1, []), (2, []), (3, []), (4, []), (5, []), (6, []), (7, []), (8, []), (9, []), (10, [])]
@[go_sem] theorem w_Z44_1 : wp P Z44_1 Q e H = wpD P l_Z44_1 [(0, []), (1, []), (2, []), (3, []), (4, []), (5, []), (6, []), (7, []), (8, []), (9, []), (10, [])] (Q .normal) e H := idE rfl
@[go_sem] def l_Z44_2 : List GOp := [⟨(some 23), .mv (.t 3), none⟩,
    ⟨(some 24), .nilck (.t 23), none⟩,
    ⟨(some 25), .load (.t 24) 1 false, none⟩,
    ⟨(some 26), .bin .add (.t 25) (.c (.int .i64 1)), none⟩,
    ⟨(some 27), .nilck (.t 23), none⟩,
    ⟨none, .store (.t 27) 1 (.t 26), none⟩]
def Z44_2 : IR := .ops l_Z44_2
@[go_sem] theorem w_Z44_2 : wp P Z44_2 Q e H = wpL P l_Z44_2 (Q .normal) e H := idE rfl
@[go_sem] def l_Z44_3 : List GOp := [⟨(some 28), .mv (.t 2), none⟩,
    ⟨(some 29), .mv (.t 1), none⟩,
    ⟨(some 10), .mv (.t 28), none⟩,
    ⟨(some 11), .mv (.t 29), none⟩]
def Z44_3 : IR := .ops l_Z44_3
@[go_sem] theorem w_Z44_3 : wp P Z44_3 Q e H = wpL P l_Z44_3 (Q .normal) e H := idE rfl
def Z44_4 : IR := .cond (.t 22) (.seq Z44_2 (.seq Z44_3 .ret)) .skip
@[go_sem] theorem w_Z44_4 : wp P Z44_4 Q e H = condW P ((.t 22) : X) (.seq Z44_2 (.seq Z44_3 .ret)) .skip Q e H := idE rfl
@[go_sem] def l_Z44_5 : List GOp := [⟨(some 30), .mv (.t 1), none⟩,
    ⟨(some 31), .mv (.t 2), none⟩,
    ⟨(some 10), .mv (.t 30), none⟩,
    ⟨(some 11), .mv (.t 31), none⟩]
def Z44_5 : IR := .ops l_Z44_5
@[go_sem] theorem w_Z44_5 : wp P Z44_5 Q e H = wpL P l_Z44_5 (Q .normal) e H := idE rfl
@[go_sem] def l_Z42_0 : List GOp := [⟨(some 12), .mv (.c (.int .i64 0)), none⟩]
def Z42_0 : IR := .ops l_Z42_0
@[go_sem] theorem w_Z42_0 : wp P Z42_0 Q e H = wpL P l_Z42_0 (Q .normal) e H := idE rfl
@[go_sem] def l_Z42_1 : List GOp := [⟨(some 14), .mv (.t 0), none⟩,
    ⟨(some 15), .mv (.t 1), none⟩,
    ⟨(some 16), .mv (.t 2), none⟩,
    ⟨(some 17), .mv (.t 4), none⟩,
    ⟨(some 18), .mv (.t 5), none⟩,
    ⟨(some 19), .call (n_Z44) [(.t 14), (.t 15), (.t 16), (.t 17), (.t 18)], none⟩,
    ⟨(some 13), .mv (.t 19), none⟩,
    ⟨(some 20), .ext (.t 13) 0, none⟩,
    ⟨(some 21), .ext (.t 13) 1, none⟩,
    ⟨(some 1), .mv (.t 20), none⟩,
    ⟨(some 2), .mv (.t 21), none⟩]
def Z42_1 : IR := .ops l_Z42_1
@[go_sem] theorem w_Z42_1 : wp P Z42_1 Q e H = wpL P l_Z42_1 (Q .normal) e H := idE rfl
@[go_sem] def l_Z42_2 : List GOp := [⟨(some 23), .mv (.t 0), none⟩,
    ⟨(some 24), .mv (.t 2), none⟩,
    ⟨(some 25), .mv (.t 3), none⟩,
    ⟨(some 26), .mv (.t 4), none⟩,
    ⟨(some 27), .mv (.t 5), none⟩,
    ⟨(some 28), .call (n_Z44) [(.t 23), (.t 24), (.t 25), (.t 26), (.t 27)], none⟩,
    ⟨(some 22), .mv (.t 28), none⟩,
    ⟨(some 29), .ext (.t 22) 0, none⟩,
    ⟨(some 30), .ext (.t 22) 1, none⟩,
    ⟨(some 2), .mv (.t 29), none⟩,
    ⟨(some 3), .mv (.t 30), none⟩]
def Z42_2 : IR := .ops l_Z42_2
@[go_sem] theorem w_Z42_2 : wp P Z42_2 Q e H = wpL P l_Z42_2 (Q .normal) e H := idE rfl
@[go_sem] def l_Z42_3 : List GOp := [⟨(some 32), .mv (.t 0), none⟩,
    ⟨(some 33), .mv (.t 1), none⟩,
    ⟨(some 34), .mv (.t 2), none⟩,
    ⟨(some 35), .mv (.t 4), none⟩,
    ⟨(some 36), .mv (.t 5), none⟩,
    ⟨(some 37), .call (n_Z44) [(.t 32), (.t 33), (.t 34), (.t 35), (.t 36)], none⟩,
    ⟨(some 31), .mv (.t 37), none⟩,
    ⟨(some 38), .ext (.t 31) 0, none⟩,
    ⟨(some 39), .ext (.t 31) 1, none⟩,
    ⟨(some 1), .mv (.t 38), none⟩,
    ⟨(some 2), .mv (.t 39), none⟩]
def Z42_3 : IR := .ops l_Z42_3
@[go_sem] theorem w_Z42_3 : wp P Z42_3 Q e H = wpL P l_Z42_3 (Q .normal) e H := idE rfl
@[go_sem] def l_Z42_4 : List GOp := [⟨(some 40), .mv (.t 2), none⟩,
    ⟨(some 12), .mv (.t 40), none⟩]
def Z42_4 : IR := .ops l_Z42_4
@[go_sem] theorem w_Z42_4 : wp P Z42_4 Q e H = wpL P l_Z42_4 (Q .normal) e H := idE rfl
@[go_sem] def l_Z41_0 : List GOp := [⟨(some 8), .mv (.c (.int .i64 0)), none⟩]
def Z41_0 : IR := .ops l_Z41_0
@[go_sem] theorem w_Z41_0 : wp P Z41_0 Q e H = wpL P l_Z41_0 (Q .normal) e H := idE rfl
@[go_sem] def l_Z41_1 : List GOp := [⟨(some 9), .mv (.t 0), none⟩,
    ⟨(some 10), .mv (.t 1), none⟩,
    ⟨(some 11), .bin .sub (.t 10) (.c (.int .i64 1)), none⟩,
    ⟨(some 12), .mv (.t 1), none⟩,
    ⟨(some 13), .mv (.t 1), none⟩,
    ⟨(some 14), .bin .add (.t 13) (.c (.int .i64 1)), none⟩,
    ⟨(some 15), .mv (.t 2), none⟩,
    ⟨(some 16), .mv (.t 3), none⟩,
    ⟨(some 17), .call (n_Z42) [(.t 9), (.t 11), (.t 12), (.t 14), (.t 15), (.t 16)], none⟩,
    ⟨(some 8), .mv (.t 17), none⟩]
def Z41_1 : IR := .ops l_Z41_1
@[go_sem] theorem w_Z41_1 : wp P Z41_1 Q e H = wpL P l_Z41_1 (Q .normal) e H := idE rfl
@[go_sem] def l_Z38_0 : List GOp := [⟨(some 8), .mv (.c (.int .i64 0)), none⟩,
    ⟨(some 9), .mv (.c (.int .i64 0)), none⟩]
def Z38_0 : IR := .ops l_Z38_0
@[go_sem] theorem w_Z38_0 : wp P Z38_0 Q e H = wpL P l_Z38_0 (Q .normal) e H := idE rfl
@[go_sem] def l_Z38_1 : List GOp := [⟨(some 15), .mv (.t 2), none⟩,
    ⟨(some 16), .mv (.t 1), none⟩,
    ⟨(some 17), .bin .sub (.t 15) (.t 16), none⟩,
    ⟨(some 10), .mv (.t 17), none⟩]
def Z38_1 : IR := .ops l_Z38_1
@[go_sem] theorem w_Z38_1 : wp P Z38_1 Q e H = wpL P l_Z38_1 (Q .normal) e H := idE rfl
@[go_sem] def l_Z38_2 : List GOp := [⟨(some 11), .alloc [(.int .i64 0)], none⟩]
def Z38_2 : IR := .ops l_Z38_2
@[go_sem] theorem w_Z38_2 : wp P Z38_2 Q e H = wpL P l_Z38_2 (Q .normal) e H := idE rfl
@[go_sem] def l_Z38_3 : List GOp := [⟨(some 18), .mv (.t 1), none⟩,
    ⟨(some 19), .mv (.t 10), none⟩,
    ⟨(some 20), .bin .quo (.t 19) (.c (.int .i64 4)), none⟩,
    ⟨(some 21), .bin .mul (.t 20) (.c (.int .i64 1)), none⟩,
    ⟨(some 22), .bin .add (.t 18) (.t 21), none⟩,
    ⟨(some 12), .mv (.t 22), none⟩]
def Z38_3 : IR := .ops l_Z38_3
@[go_sem] theorem w_Z38_3 : wp P Z38_3 Q e H = wpL P l_Z38_3 (Q .normal) e H := idE rfl
@[go_sem] def l_Z38_4 : List GOp := [⟨(some 23), .mv (.t 1), none⟩,
    ⟨(some 24), .mv (.t 10), none⟩,
    ⟨(some 25), .bin .quo (.t 24) (.c (.int .i64 4)), none⟩,
    ⟨(some 26), .bin .mul (.t 25) (.c (.int .i64 2)), none⟩,
    ⟨(some 27), .bin .add (.t 23) (.t 26), none⟩,
    ⟨(some 13), .mv (.t 27), none⟩]
def Z38_4 : IR := .ops l_Z38_4
@[go_sem] theorem w_Z38_4 : wp P Z38_4 Q e H = wpL P l_Z38_4 (Q .normal) e H := idE rfl
@[go_sem] def l_Z38_5 : List GOp := [⟨(some 28), .mv (.t 1), none⟩,
    ⟨(some 29), .mv (.t 10), none⟩,
    ⟨(some 30), .bin .quo (.t 29) (.c (.int .i64 4)), none⟩,
    ⟨(some 31), .bin .mul (.t 30) (.c (.int .i64 3)), none⟩,
    ⟨(some 32), .bin .add (.t 28) (.t 31), none⟩,
    ⟨(some 14), .mv (.t 32), none⟩]
def Z38_5 : IR := .ops l_Z38_5
@[go_sem] theorem w_Z38_5 : wp P Z38_5 Q e H = wpL P l_Z38_5 (Q .normal) e H := idE rfl
@[go_sem] def l_Z38_6 : List GOp := [⟨(some 33), .mv (.t 10), none⟩,
    ⟨(some 34), .bin .geq (.t 33) (.c (.int .i64 8)), none⟩]
def Z38_6 : IR := .ops l_Z38_6
@[go_sem] theorem w_Z38_6 : wp P Z38_6 Q e H = wpL P l_Z38_6 (Q .normal) e H := idE rfl
@[go_sem] def l_Z38_7 : List GOp := [⟨(some 35), .mv (.t 10), none⟩,
    ⟨(some 36), .bin .geq (.t 35) (.c (.int .i64 50)), none⟩]
def Z38_7 : IR := .ops l_Z38_7
@[go_sem] theorem w_Z38_7 : wp P Z38_7 Q e H = wpL P l_Z38_7 (Q .normal) e H := idE rfl
@[go_sem] def l_Z38_8 : List GOp := [⟨(some 37), .mv (.t 0), none⟩,
    ⟨(some 38), .mv (.t 12), none⟩,
    ⟨(some 39), .mv (.t 3), none⟩,
    ⟨(some 40), .call (n_Z41) [(.t 37), (.t 38), (.t 11), (.t 39)], none⟩,
    ⟨(some 12), .mv (.t 40), none⟩]
def Z38_8 : IR := .ops l_Z38_8
@[go_sem] theorem w_Z38_8 : wp P Z38_8 Q e H = wpL P l_Z38_8 (Q .normal) e H := idE rfl
@[go_sem] def l_Z38_9 : List GOp := [⟨(some 41), .mv (.t 0), none⟩,
    ⟨(some 42), .mv (.t 13), none⟩,
    ⟨(some 43), .mv (.t 3), none⟩,
    ⟨(some 44), .call (n_Z41) [(.t 41), (.t 42), (.t 11), (.t 43)], none⟩,
    ⟨(some 13), .mv (.t 44), none⟩]
def Z38_9 : IR := .ops l_Z38_9
@[go_sem] theorem w_Z38_9 : wp P Z38_9 Q e H = wpL P l_Z38_9 (Q .normal) e H := idE rfl
@[go_sem] def l_Z38_10 : List GOp := [⟨(some 45), .mv (.t 0), none⟩,
    ⟨(some 46), .mv (.t 14), none⟩,
    ⟨(some 47), .mv (.t 3), none⟩,
    ⟨(some 48), .call (n_Z41) [(.t 45), (.t 46), (.t 11), (.t 47)], none⟩,
    ⟨(some 14), .mv (.t 48), none⟩]
def Z38_10 : IR := .ops l_Z38_10
@[go_sem] theorem w_Z38_10 : wp P Z38_10 Q e H = wpL P l_Z38_10 (Q .normal) e H := idE rfl
def Z38_11 : IR := .cond (.t 36) (.seq Z38_8 (.seq Z38_9 Z38_10)) .skip
@[go_sem] theorem w_Z38_11 : wp P Z38_11 Q e H = condW P ((.t 36) : X) (.seq Z38_8 (.seq Z38_9 Z38_10)) .skip Q e H := idE rfl
@[go_sem] def l_Z38_12 : List GOp := [⟨(some 49), .mv (.t 0), none⟩,
    ⟨(some 50), .mv (.t 12), none⟩,
    ⟨(some 51), .mv (.t 13), none⟩,
    ⟨(some 52), .mv (.t 14), none⟩,
    ⟨(some 53), .mv (.t 3), none⟩,
    ⟨(some 54), .call (n_Z42) [(.t 49), (.t 50), (.t 51), (.t 52), (.t 11), (.t 53)], none⟩,
    ⟨(some 13), .mv (.t 54), none⟩]
def Z38_12 : IR := .ops l_Z38_12
@[go_sem] theorem w_Z38_12 : wp P Z38_12 Q e H = wpL P l_Z38_12 (Q .normal) e H := idE rfl
def Z38_13 : IR := .cond (.t 34) (.seq (.seq Z38_7 Z38_11) Z38_12) .skip
@[go_sem] theorem w_Z38_13 : wp P Z38_13 Q e H = condW P ((.t 34) : X) (.seq (.seq Z38_7 Z38_11) Z38_12) .skip Q e H := idE rfl
@[go_sem] def l_Z38_14 : List GOp := [⟨(some 55), .load (.t 11) 1 false, none⟩]
def Z38_14 : IR := .ops l_Z38_14
@[go_sem] theorem w_Z38_14 : wp P Z38_14 Q e H = wpL P l_Z38_14 (Q .normal) e H := idE rfl
@[go_sem] def l_Z38_15 : List GOp := [⟨(some 58), .bin .eql (.t 55) (.c (.int .i64 0)), none⟩,
    ⟨(some 57), .mv (.t 58), none⟩]
def Z38_15 : IR := .ops l_Z38_15
@[go_sem] theorem w_Z38_15 : wp P Z38_15 Q e H = wpL P l_Z38_15 (Q .normal) e H := idE rfl
@[go_sem] def l_Z38_16 : List GOp := [⟨(some 59), .mv (.t 13), none⟩,
    ⟨(some 8), .mv (.t 59), none⟩,
    ⟨(some 9), .mv (.c (.int .i64 1)), none⟩]
def Z38_16 : IR := .ops l_Z38_16
@[go_sem] theorem w_Z38_16 : wp P Z38_16 Q e H = wpL P l_Z38_16 (Q .normal) e H := idE rfl
@[go_sem] def l_Z38_17 : List GOp := [⟨(some 61), .bin .eql (.t 55) (.c (.int .i64 12)), none⟩,
    ⟨(some 60), .mv (.t 61), none⟩]
def Z38_17 : IR := .ops l_Z38_17
@[go_sem] theorem w_Z38_17 : wp P Z38_17 Q e H = wpL P l_Z38_17 (Q .normal) e H := idE rfl
@[go_sem] def l_Z38_18 : List GOp := [⟨(some 62), .mv (.t 13), none⟩,
    ⟨(some 8), .mv (.t 62), none⟩,
    ⟨(some 9), .mv (.c (.int .i64 2)), none⟩]
def Z38_18 : IR := .ops l_Z38_18
@[go_sem] theorem w_Z38_18 : wp P Z38_18 Q e H = wpL P l_Z38_18 (Q .normal) e H := idE rfl
@[go_sem] def l_Z38_19 : List GOp := [⟨(some 56), .mv (.t 13), none⟩,
    ⟨(some 8), .mv (.t 56), none⟩,
    ⟨(some 9), .mv (.c (.int .i64 0)), none⟩]
def Z38_19 : IR := .ops l_Z38_19
@[go_sem] theorem w_Z38_19 : wp P Z38_19 Q e H = wpL P l_Z38_19 (Q .normal) e H := idE rfl
def Z38_20 : IR := .cond (.t 60) (.seq Z38_18 .ret) (.seq Z38_19 .ret)
@[go_sem] theorem w_Z38_20 : wp P Z38_20 Q e H = condW P ((.t 60) : X) (.seq Z38_18 .ret) (.seq Z38_19 .ret) Q e H := idE rfl
def Z38_21 : IR := .cond (.t 57) (.seq Z38_16 .ret) (.seq Z38_17 Z38_20)
@[go_sem] theorem w_Z38_21 : wp P Z38_21 Q e H = condW P ((.t 57) : X) (.seq Z38_16 .ret) (.seq Z38_17 Z38_20) Q e H := idE rfl
def Z38_22 : IR := .block 0 (.seq Z38_15 Z38_21)
@[go_sem] theorem w_Z38_22 : wp P Z38_22 Q e H = wp P (.seq Z38_15 Z38_21) (blockQ 0 Q) e H := idE rfl
@[go_sem] def l_Z49_0 : List GOp := [⟨(some 10), .mv (.t 1), none⟩,
    ⟨(some 8), .mv (.t 10), none⟩]
def Z49_0 : IR := .ops l_Z49_0
@[go_sem] theorem w_Z49_0 : wp P Z49_0 Q e H = wpL P l_Z49_0 (Q .normal) e H := idE rfl
@[go_sem] def l_Z49_1 : List GOp := [⟨(some 11), .mv (.t 2), none⟩,
    ⟨(some 12), .bin .sub (.t 11) (.c (.int .i64 1)), none⟩,
    ⟨(some 9), .mv (.t 12), none⟩]
def Z49_1 : IR := .ops l_Z49_1
@[go_sem] theorem w_Z49_1 : wp P Z49_1 Q e H = wpL P l_Z49_1 (Q .normal) e H := idE rfl
@[go_sem] def l_Z49_2 : List GOp := [⟨(some 13), .mv (.t 8), none⟩,
    ⟨(some 14), .mv (.t 9), none⟩,
    ⟨(some 15), .bin .lss (.t 13) (.t 14), none⟩]
def Z49_2 : IR := .ops l_Z49_2
@[go_sem] theorem w_Z49_2 : wp P Z49_2 Q e H = wpL P l_Z49_2 (Q .normal) e H := idE rfl
def Z49_3 : IR := .cond (.t 15) .skip (.exit 0)
@[go_sem] theorem w_Z49_3 : wp P Z49_3 Q e H = condW P ((.t 15) : X) .skip (.exit 0) Q e H := idE rfl
def l_Z49_4 : List GOp := [⟨(some 16), .mv (.t 0), none⟩,
    ⟨(some 17), .mv (.t 8), none⟩,
    ⟨(some 18), .mv (.t 0), none⟩,
    ⟨(some 19), .mv (.t 9), none⟩,
    ⟨(some 20), .mv (.t 0), none⟩,
    ⟨(some 21), .mv (.t 9), none⟩,
    ⟨(some 22), .iaddr (.t 20) (.t 21) 1, none⟩,
    ⟨(some 23), .load (.t 22) 1 false, none⟩,
    ⟨(some 24), .mv (.t 0), none⟩,
    ⟨(some 25), .mv (.t 8), none⟩,
    ⟨(some 26), .iaddr (.t 24) (.t 25) 1, none⟩,
    ⟨(some 27), .load (.t 26) 1 false, none⟩,
    ⟨(some 28), .iaddr (.t 16) (.t 17) 1, none⟩,
    ⟨none, .store (.t 28) 1 (.t 23), none⟩,
    ⟨(some 29), .iaddr (.t 18) (.t 19) 1, none⟩,
    ⟨none, .store (.t 29) 1 (.t 27), none⟩]
@[go_sem] theorem g_Z49_4_0 : gAt l_Z49_4 0 = ⟨(some 16), .mv (.t 0), none⟩ := idE rfl
@[go_sem] theorem g_Z49_4_1 : gAt l_Z49_4 1 = ⟨(some 17), .mv (.t 8), none⟩ := idE rfl
@[go_sem] theorem g_Z49_4_2 : gAt l_Z49_4 2 = ⟨(some 18), .mv (.t 0), none⟩ := idE rfl
@[go_sem] theorem g_Z49_4_3 : gAt l_Z49_4 3 = ⟨(some 19), .mv (.t 9), none⟩ := idE rfl
@[go_sem] theorem g_Z49_4_4 : gAt l_Z49_4 4 = ⟨(some 20), .mv (.t 0), none⟩ := idE rfl
@[go_sem] theorem g_Z49_4_5 : gAt l_Z49_4 5 = ⟨(some 21), .mv (.t 9), none⟩ := idE rfl
@[go_sem] theorem g_Z49_4_6 : gAt l_Z49_4 6 = ⟨(some 22), .iaddr (.t 20) (.t 21) 1, none⟩ := idE rfl
@[go_sem] theorem g_Z49_4_7 : gAt l_Z49_4 7 = ⟨(some 23), .load (.t 22) 1 false, none⟩ := idE rfl
@[go_sem] theorem g_Z49_4_8 : gAt l_Z49_4 8 = ⟨(some 24), .mv (.t 0), none⟩ := idE rfl
@[go_sem] theorem g_Z49_4_9 : gAt l_Z49_4 9 = ⟨(some 25), .mv (.t 8), none⟩ := idE rfl
@[go_sem] theorem g_Z49_4_10 : gAt l_Z49_4 10 = ⟨(some 26), .iaddr (.t 24) (.t 25) 1, none⟩ := idE rfl
@[go_sem] theorem g_Z49_4_11 : gAt l_Z49_4 11 = ⟨(some 27), .load (.t 26) 1 false, none⟩ := idE rfl
@[go_sem] theorem g_Z49_4_12 : gAt l_Z49_4 12 = ⟨(some 28), .iaddr (.t 16) (.t 17) 1, none⟩ := idE rfl
@[go_sem] theorem g_Z49_4_13 : gAt l_Z49_4 13 = ⟨none, .store (.t 28) 1 (.t 23), none⟩ := idE rfl
@[go_sem] theorem g_Z49_4_14 : gAt l_Z49_4 14 = ⟨(some 29), .iaddr (.t 18) (.t 19) 1, none⟩ := idE rfl
@[go_sem] theorem g_Z49_4_15 : gAt l_Z49_4 15 = ⟨none, .store (.t 29) 1 (.t 27), none⟩ := idE rfl
def Z49_4 : IR := .dops l_Z49_4 [(0, []), (1, []), (2, []), (3, []), (4, []), (5, []), (6, []), (7, []), (8, []), (9, []), (10, []), (11, []), (12, []), (13, []), (14, []), (15, [])]
@[go_sem] theorem w_Z49_4 : wp P Z49_4 Q e H = wpD P l_Z49_4 [(0, []), (1, []), (2, []), (3, []), (4, []), (5, []), (6, []), (7, []), (8, []), (9, []), (10, []), (11, []), (12, []), (13, []), (14, []), (15, [])] (Q .normal) e H := idE rfl
@[go_sem] def l_Z49_5 : List GOp := [⟨(some 30), .mv (.t 8), none⟩,
    ⟨(some 31), .bin .add (.t 30) (.c (.int .i64 1)), none⟩,
    ⟨(some 8), .mv (.t 31), none⟩]
def Z49_5 : IR := .ops l_Z49_5
@[go_sem] theorem w_Z49_5 : wp P Z49_5 Q e H = wpL P l_Z49_5 (Q .normal) e H := idE rfl
@[go_sem] def l_Z49_6 : List GOp := [⟨(some 32), .mv (.t 9), none⟩,
    ⟨(some 33), .bin .sub (.t 32) (.c (.int .i64 1)), none⟩,
    ⟨(some 9), .mv (.t 33), none⟩]
def Z49_6 : IR := .ops l_Z49_6
@[go_sem] theorem w_Z49_6 : wp P Z49_6 Q e H = wpL P l_Z49_6 (Q .normal) e H := idE rfl
def Z49_7 : IR := .block 1 (.seq Z49_4 (.seq Z49_5 Z49_6))
@[go_sem] theorem w_Z49_7 : wp P Z49_7 Q e H = wp P (.seq Z49_4 (.seq Z49_5 Z49_6)) (blockQ 1 Q) e H := idE rfl
def Z49_8 : IR := .loop (.seq (.seq Z49_2 Z49_3) Z49_7)
def Z49_9 : IR := .block 0 Z49_8
@[go_sem] theorem w_Z49_9 : wp P Z49_9 Q e H = wp P Z49_8 (blockQ 0 Q) e H := idE rfl
end Go.M2
