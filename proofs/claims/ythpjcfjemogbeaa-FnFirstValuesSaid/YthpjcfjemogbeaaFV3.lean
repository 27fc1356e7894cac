/- The functions, turned for the memory: printed by program. -/
import Derived.Test.YthpjcfjemogbeaaFV2
import Derived.Test.YthpjcfjemogbeaaProg
import Derived.KernelRfl
set_option linter.unusedVariables false
set_option linter.unusedSimpArgs false
set_option maxRecDepth 10000
set_option maxHeartbeats 4000000
namespace Go.M2
open Go.Proofs
variable {P : Program} {Q : Post} {e : Env} {H : Heap} {args : List AV} {R : AV → Heap → Prop}
theorem mixed : Try.prog.follows .mixedOrders = true := by kernel_rfl
def n_Z66 : Nat := 66
def n_Z68 : Nat := 99
def n_Z67 : Nat := 101
def n_Z64 : Nat := 120
def n_Z48 : Nat := 106
def n_Z49 : Nat := 121
def n_Z55 : Nat := 114
def n_Z50 : Nat := 102
def n_Z56 : Nat := 100
def n_Z60 : Nat := 65
def n_Z46 : Nat := 39
def n_Z15 : Nat := 59
def n_Z7 : Nat := 104
def n_Z3 : Nat := 70
def n_Z4_1 : Nat := 69
def n_Z27 : Nat := 103
def n_Z26 : Nat := 68
def n_Z4 : Nat := 27
def n_Z8 : Nat := 107
def n_Z17 : Nat := 72
def n_Z11 : Nat := 73
def n_Z23 : Nat := 136
def n_Z24 : Nat := 125
def n_Z21 : Nat := 155
def n_Z22 : Nat := 156
def n_Z20 : Nat := 140
def n_Z32 : Nat := 147
def n_Z42 : Nat := 158
def n_Z31 : Nat := 148
def n_Z35 : Nat := 159
def n_Z43 : Nat := 160
def n_Z29 : Nat := 149
def n_Z36 : Nat := 163
def n_Z34 : Nat := 162
def n_Z33 : Nat := 161
def n_Z30 : Nat := 150
def n_Z41 : Nat := 151
def n_Z37 : Nat := 152
def n_Z39 : Nat := 153
def n_Z38 : Nat := 154
def n_Z40 : Nat := 139
def n_Z28 : Nat := 126
def n_Z2 : Nat := 141
def n_Z0 : Nat := 129
def n_Z1 : Nat := 128
def n_Z9_1 : Nat := 127
def n_Z25 : Nat := 130
def n_Z10 : Nat := 74
def n_Z9 : Nat := 96
def n_Z13 : Nat := 98
def n_Z14 : Nat := 64
def n_Z6 : Nat := 31
def n_Z63 : Nat := 55
def n_Z54 : Nat := 105
def n_Z44 : Nat := 71
def n_Z45 : Nat := 28
def n_Z52 : Nat := 131
def n_Z53 : Nat := 142
def n_Z51 : Nat := 132
def n_Z57 : Nat := 133
def n_Z62 : Nat := 134
def n_Z65 : Nat := 88
def n_Z58 : Nat := 135
def n_Z61 : Nat := 97
def n_Z59 : Nat := 63
def n_Z47 : Nat := 30
def n_Z19 : Nat := 40
def n_Z12 : Nat := 75
def n_Z5_1 : Nat := 77
def n_Z16 : Nat := 76
def n_Z5 : Nat := 41
def n_Z18 : Nat := 8
@[go_sem] def l_Z66_0 : List GOp := [⟨(some 2), .mv (.c (.ptr none)), none⟩]
def Z66_0 : IR := .ops l_Z66_0
@[go_sem] theorem w_Z66_0 : wp P Z66_0 Q e H = wpL P l_Z66_0 (Q .normal) e H := idE rfl
@[go_sem] def l_Z66_1 : List GOp := [⟨(some 3), .mv (.t 0), none⟩,
    ⟨(some 4), .len (.t 3), none⟩,
    ⟨(some 5), .bin .gtr (.t 4) (.c (.int .i64 2000)), none⟩]
def Z66_1 : IR := .ops l_Z66_1
@[go_sem] theorem w_Z66_1 : wp P Z66_1 Q e H = wpL P l_Z66_1 (Q .normal) e H := idE rfl
@[go_sem] def l_Z66_2 : List GOp := [⟨(some 6), .mv (.t 0), none⟩,
    ⟨(some 7), .slc 1 (.t 6) none (some (.c (.int .i64 2000))) none, none⟩,
    ⟨(some 0), .mv (.t 7), none⟩]
def Z66_2 : IR := .ops l_Z66_2
@[go_sem] theorem w_Z66_2 : wp P Z66_2 Q e H = wpL P l_Z66_2 (Q .normal) e H := idE rfl
def Z66_3 : IR := .cond (.t 5) Z66_2 .skip
@[go_sem] theorem w_Z66_3 : wp P Z66_3 Q e H = condW P ((.t 5) : X) Z66_2 .skip Q e H := idE rfl
@[go_sem] def l_Z66_4 : List GOp := [⟨(some 8), .mv (.t 0), none⟩,
    ⟨(some 9), .bld [(.sl none 0 0 true 0), (.int .i64 0)] [(0, 1, (.t 8))], none⟩,
    ⟨(some 10), .box (.t 9), none⟩,
    ⟨(some 2), .mv (.t 10), none⟩]
def Z66_4 : IR := .ops l_Z66_4
@[go_sem] theorem w_Z66_4 : wp P Z66_4 Q e H = wpL P l_Z66_4 (Q .normal) e H := idE rfl
def F_Z66 : IFn := ⟨1, 11, [.t 2], (.seq Z66_0 (.seq (.seq Z66_1 Z66_3) (.seq Z66_4 .ret)))⟩
theorem c_Z66 : compFn Try.prog [(0, [], []), (1, [], []), (2, [], []), (3, [], [])] Try.f66 = some F_Z66 := by kernel_rfl
theorem a_Z66 (hl : args.length = 1) (h : wp Try.prog (.seq Z66_0 (.seq (.seq Z66_1 Z66_3) (.seq Z66_4 .ret))) (postQ [.t 2] R) (env0 args) H) : ACall Try.prog n_Z66 args H R :=
  acall_of_wp mixed Try.func66 c_Z66 (by kernel_rfl) hl h
@[go_sem] def l_Z68_0 : List GOp := [⟨(some 4), .mv (.c (.int .i64 0)), none⟩]
def Z68_0 : IR := .ops l_Z68_0
@[go_sem] theorem w_Z68_0 : wp P Z68_0 Q e H = wpL P l_Z68_0 (Q .normal) e H := idE rfl
@[go_sem] def l_Z68_1 : List GOp := [⟨(some 7), .mv (.t 0), none⟩,
    ⟨(some 8), .mv (.t 0), none⟩,
    ⟨(some 9), .nilck (.t 8), none⟩,
    ⟨(some 10), .faddr (.t 9) 1, none⟩,
    ⟨(some 11), .load (.t 10) 1 false, none⟩,
    ⟨(some 12), .bin .add (.t 11) (.c (.int .i64 1)), none⟩,
    ⟨(some 13), .nilck (.t 7), none⟩,
    ⟨(some 14), .faddr (.t 13) 1, none⟩,
    ⟨none, .store (.t 14) 1 (.t 12), none⟩]
def Z68_1 : IR := .ops l_Z68_1
@[go_sem] theorem w_Z68_1 : wp P Z68_1 Q e H = wpL P l_Z68_1 (Q .normal) e H := idE rfl
@[go_sem] def l_Z68_2 : List GOp := [⟨(some 15), .mv (.t 1), none⟩,
    ⟨(some 16), .bin .lss (.t 15) (.c (.int .i64 1)), none⟩,
    ⟨(some 17), .mv (.t 16), none⟩,
    ⟨(some 18), .mv (.t 0), (some (17, false))⟩,
    ⟨(some 19), .nilck (.t 18), (some (17, false))⟩,
    ⟨(some 20), .faddr (.t 19) 0, (some (17, false))⟩,
    ⟨(some 21), .load (.t 20) 1 false, (some (17, false))⟩,
    ⟨(some 22), .len (.t 21), (some (17, false))⟩,
    ⟨(some 23), .bin .eql (.t 22) (.c (.int .i64 0)), (some (17, false))⟩,
    ⟨(some 24), .pick (.t 17) (.c (.bool true)) (.t 23), none⟩]
def Z68_2 : IR := .ops l_Z68_2
@[go_sem] theorem w_Z68_2 : wp P Z68_2 Q e H = wpL P l_Z68_2 (Q .normal) e H := idE rfl
@[go_sem] def l_Z68_3 : List GOp := [⟨(some 4), .mv (.c (.int .i64 0)), none⟩]
def Z68_3 : IR := .ops l_Z68_3
@[go_sem] theorem w_Z68_3 : wp P Z68_3 Q e H = wpL P l_Z68_3 (Q .normal) e H := idE rfl
def Z68_4 : IR := .cond (.t 24) (.seq Z68_3 .ret) .skip
@[go_sem] theorem w_Z68_4 : wp P Z68_4 Q e H = condW P ((.t 24) : X) (.seq Z68_3 .ret) .skip Q e H := idE rfl
@[go_sem] def l_Z68_5 : List GOp := [⟨(some 25), .mv (.t 0), none⟩,
    ⟨(some 26), .nilck (.t 25), none⟩,
    ⟨(some 27), .faddr (.t 26) 1, none⟩,
    ⟨(some 28), .load (.t 27) 1 false, none⟩,
    ⟨(some 29), .bin .sub (.t 28) (.c (.int .i64 1)), none⟩,
    ⟨(some 5), .mv (.t 29), none⟩]
def Z68_5 : IR := .ops l_Z68_5
@[go_sem] theorem w_Z68_5 : wp P Z68_5 Q e H = wpL P l_Z68_5 (Q .normal) e H := idE rfl
@[go_sem] def l_Z68_6 : List GOp := [⟨(some 30), .mv (.t 5), none⟩,
    ⟨(some 31), .mv (.t 0), none⟩,
    ⟨(some 32), .nilck (.t 31), none⟩,
    ⟨(some 33), .faddr (.t 32) 0, none⟩,
    ⟨(some 34), .load (.t 33) 1 false, none⟩,
    ⟨(some 35), .len (.t 34), none⟩,
    ⟨(some 36), .bin .lss (.t 30) (.t 35), none⟩]
def Z68_6 : IR := .ops l_Z68_6
@[go_sem] theorem w_Z68_6 : wp P Z68_6 Q e H = wpL P l_Z68_6 (Q .normal) e H := idE rfl
@[go_sem] def l_Z68_7 : List GOp := [⟨(some 37), .mv (.t 0), none⟩,
    ⟨(some 38), .nilck (.t 37), none⟩,
    ⟨(some 39), .faddr (.t 38) 0, none⟩,
    ⟨(some 40), .load (.t 39) 1 false, none⟩,
    ⟨(some 41), .mv (.t 5), none⟩,
    ⟨(some 42), .iaddr (.t 40) (.t 41) 1, none⟩,
    ⟨(some 43), .load (.t 42) 1 false, none⟩,
    ⟨(some 44), .cvi .i64 (.t 43), none⟩,
    ⟨(some 45), .mv (.t 1), none⟩,
    ⟨(some 46), .bin .rem (.t 44) (.t 45), none⟩,
    ⟨(some 4), .mv (.t 46), none⟩]
def Z68_7 : IR := .ops l_Z68_7
@[go_sem] theorem w_Z68_7 : wp P Z68_7 Q e H = wpL P l_Z68_7 (Q .normal) e H := idE rfl
def Z68_8 : IR := .cond (.t 36) (.seq Z68_7 .ret) .skip
@[go_sem] theorem w_Z68_8 : wp P Z68_8 Q e H = condW P ((.t 36) : X) (.seq Z68_7 .ret) .skip Q e H := idE rfl
def l_Z68_9 : List GOp := [⟨(some 47), .mv (.t 0), none⟩,
    ⟨(some 48), .nilck (.t 47), none⟩,
    ⟨(some 49), .faddr (.t 48) 0, none⟩,
    ⟨(some 50), .load (.t 49) 1 false, none⟩,
    ⟨(some 51), .mv (.t 5), none⟩,
    ⟨(some 52), .mv (.t 0), none⟩,
    ⟨(some 53), .nilck (.t 52), none⟩,
    ⟨(some 54), .faddr (.t 53) 0, none⟩,
    ⟨(some 55), .load (.t 54) 1 false, none⟩,
    ⟨(some 56), .len (.t 55), none⟩,
    ⟨(some 57), .bin .rem (.t 51) (.t 56), none⟩,
    ⟨(some 58), .iaddr (.t 50) (.t 57) 1, none⟩,
    ⟨(some 59), .load (.t 58) 1 false, none⟩,
    ⟨(some 60), .cvi .i64 (.t 59), none⟩,
    ⟨(some 61), .bin .mul (.t 60) (.c (.int .i64 131)), none⟩,
    ⟨(some 62), .mv (.t 0), none⟩,
    ⟨(some 63), .nilck (.t 62), none⟩,
    ⟨(some 64), .faddr (.t 63) 0, none⟩,
    ⟨(some 65), .load (.t 64) 1 false, none⟩,
    ⟨(some 66), .mv (.t 5), none⟩,
    ⟨(some 67), .bin .mul (.t 66) (.c (.int .i64 7)), none⟩,
    ⟨(some 68), .bin .add (.t 67) (.c (.int .i64 3)), none⟩,
    ⟨(some 69), .mv (.t 0), none⟩,
    ⟨(some 70), .nilck (.t 69), none⟩,
    ⟨(some 71), .faddr (.t 70) 0, none⟩,
    ⟨(some 72), .load (.t 71) 1 false, none⟩,
    ⟨(some 73), .len (.t 72), none⟩,
    ⟨(some 74), .bin .rem (.t 68) (.t 73), none⟩,
    ⟨(some 75), .iaddr (.t 65) (.t 74) 1, none⟩,
    ⟨(some 76), .load (.t 75) 1 false, none⟩,
    ⟨(some 77), .cvi .i64 (.t 76), none⟩,
    ⟨(some 78), .bin .mul (.t 77) (.c (.int .i64 1117)), none⟩,
    ⟨(some 79), .bin .add (.t 61) (.t 78), none⟩,
    ⟨(some 80), .mv (.t 5), none⟩,
    ⟨(some 81), .bin .mul (.t 80) (.c (.int .i64 29)), none⟩,
    ⟨(some 82), .bin .add (.t 79) (.t 81), none⟩,
    ⟨(some 83), .mv (.t 5), none⟩,
    ⟨(some 84), .mv (.t 0), none⟩,
    ⟨(some 85), .nilck (.t 84), none⟩,
    ⟨(some 86), .faddr (.t 85) 0, none⟩,
    ⟨(some 87), .load (.t 86) 1 false, none⟩,
    ⟨(some 88), .len (.t 87), none⟩,
    ⟨(some 89), .bin .quo (.t 83) (.t 88), none⟩,
    ⟨(some 90), .bin .mul (.t 89) (.c (.int .i64 53)), none⟩,
    ⟨(some 91), .bin .add (.t 82) (.t 90), none⟩,
    ⟨(some 6), .mv (.t 91), none⟩]
@[go_sem] theorem g_Z68_9_0 : gAt l_Z68_9 0 = ⟨(some 47), .mv (.t 0), none⟩ := idE rfl
@[go_sem] theorem g_Z68_9_1 : gAt l_Z68_9 1 = ⟨(some 48), .nilck (.t 47), none⟩ := idE rfl
@[go_sem] theorem g_Z68_9_2 : gAt l_Z68_9 2 = ⟨(some 49), .faddr (.t 48) 0, none⟩ := idE rfl
@[go_sem] theorem g_Z68_9_3 : gAt l_Z68_9 3 = ⟨(some 50), .load (.t 49) 1 false, none⟩ := idE rfl
@[go_sem] theorem g_Z68_9_4 : gAt l_Z68_9 4 = ⟨(some 51), .mv (.t 5), none⟩ := idE rfl
@[go_sem] theorem g_Z68_9_5 : gAt l_Z68_9 5 = ⟨(some 52), .mv (.t 0), none⟩ := idE rfl
@[go_sem] theorem g_Z68_9_6 : gAt l_Z68_9 6 = ⟨(some 53), .nilck (.t 52), none⟩ := idE rfl
@[go_sem] theorem g_Z68_9_7 : gAt l_Z68_9 7 = ⟨(some 54), .faddr (.t 53) 0, none⟩ := idE rfl
@[go_sem] theorem g_Z68_9_8 : gAt l_Z68_9 8 = ⟨(some 55), .load (.t 54) 1 false, none⟩ := idE rfl
@[go_sem] theorem g_Z68_9_9 : gAt l_Z68_9 9 = ⟨(some 56), .len (.t 55), none⟩ := idE rfl
@[go_sem] theorem g_Z68_9_10 : gAt l_Z68_9 10 = ⟨(some 57), .bin .rem (.t 51) (.t 56), none⟩ := idE rfl
@[go_sem] theorem g_Z68_9_11 : gAt l_Z68_9 11 = ⟨(some 58), .iaddr (.t 50) (.t 57) 1, none⟩ := idE rfl
@[go_sem] theorem g_Z68_9_12 : gAt l_Z68_9 12 = ⟨(some 59), .load (.t 58) 1 false, none⟩ := idE rfl
@[go_sem] theorem g_Z68_9_13 : gAt l_Z68_9 13 = ⟨(some 60), .cvi .i64 (.t 59), none⟩ := idE rfl
@[go_sem] theorem g_Z68_9_14 : gAt l_Z68_9 14 = ⟨(some 61), .bin .mul (.t 60) (.c (.int .i64 131)), none⟩ := idE rfl
@[go_sem] theorem g_Z68_9_15 : gAt l_Z68_9 15 = ⟨(some 62), .mv (.t 0), none⟩ := idE rfl
@[go_sem] theorem g_Z68_9_16 : gAt l_Z68_9 16 = ⟨(some 63), .nilck (.t 62), none⟩ := idE rfl
@[go_sem] theorem g_Z68_9_17 : gAt l_Z68_9 17 = ⟨(some 64), .faddr (.t 63) 0, none⟩ := idE rfl
@[go_sem] theorem g_Z68_9_18 : gAt l_Z68_9 18 = ⟨(some 65), .load (.t 64) 1 false, none⟩ := idE rfl
@[go_sem] theorem g_Z68_9_19 : gAt l_Z68_9 19 = ⟨(some 66), .mv (.t 5), none⟩ := idE rfl
@[go_sem] theorem g_Z68_9_20 : gAt l_Z68_9 20 = ⟨(some 67), .bin .mul (.t 66) (.c (.int .i64 7)), none⟩ := idE rfl
@[go_sem] theorem g_Z68_9_21 : gAt l_Z68_9 21 = ⟨(some 68), .bin .add (.t 67) (.c (.int .i64 3)), none⟩ := idE rfl
@[go_sem] theorem g_Z68_9_22 : gAt l_Z68_9 22 = ⟨(some 69), .mv (.t 0), none⟩ := idE rfl
@[go_sem] theorem g_Z68_9_23 : gAt l_Z68_9 23 = ⟨(some 70), .nilck (.t 69), none⟩ := idE rfl
@[go_sem] theorem g_Z68_9_24 : gAt l_Z68_9 24 = ⟨(some 71), .faddr (.t 70) 0, none⟩ := idE rfl
@[go_sem] theorem g_Z68_9_25 : gAt l_Z68_9 25 = ⟨(some 72), .load (.t 71) 1 false, none⟩ := idE rfl
@[go_sem] theorem g_Z68_9_26 : gAt l_Z68_9 26 = ⟨(some 73), .len (.t 72), none⟩ := idE rfl
@[go_sem] theorem g_Z68_9_27 : gAt l_Z68_9 27 = ⟨(some 74), .bin .rem (.t 68) (.t 73), none⟩ := idE rfl
@[go_sem] theorem g_Z68_9_28 : gAt l_Z68_9 28 = ⟨(some 75), .iaddr (.t 65) (.t 74) 1, none⟩ := idE rfl
@[go_sem] theorem g_Z68_9_29 : gAt l_Z68_9 29 = ⟨(some 76), .load (.t 75) 1 false, none⟩ := idE rfl
@[go_sem] theorem g_Z68_9_30 : gAt l_Z68_9 30 = ⟨(some 77), .cvi .i64 (.t 76), none⟩ := idE rfl
@[go_sem] theorem g_Z68_9_31 : gAt l_Z68_9 31 = ⟨(some 78), .bin .mul (.t 77) (.c (.int .i64 1117)), none⟩ := idE rfl
@[go_sem] theorem g_Z68_9_32 : gAt l_Z68_9 32 = ⟨(some 79), .bin .add (.t 61) (.t 78), none⟩ := idE rfl
@[go_sem] theorem g_Z68_9_33 : gAt l_Z68_9 33 = ⟨(some 80), .mv (.t 5), none⟩ := idE rfl
@[go_sem] theorem g_Z68_9_34 : gAt l_Z68_9 34 = ⟨(some 81), .bin .mul (.t 80) (.c (.int .i64 29)), none⟩ := idE rfl
@[go_sem] theorem g_Z68_9_35 : gAt l_Z68_9 35 = ⟨(some 82), .bin .add (.t 79) (.t 81), none⟩ := idE rfl
@[go_sem] theorem g_Z68_9_36 : gAt l_Z68_9 36 = ⟨(some 83), .mv (.t 5), none⟩ := idE rfl
@[go_sem] theorem g_Z68_9_37 : gAt l_Z68_9 37 = ⟨(some 84), .mv (.t 0), none⟩ := idE rfl
@[go_sem] theorem g_Z68_9_38 : gAt l_Z68_9 38 = ⟨(some 85), .nilck (.t 84), none⟩ := idE rfl
@[go_sem] theorem g_Z68_9_39 : gAt l_Z68_9 39 = ⟨(some 86), .faddr (.t 85) 0, none⟩ := idE rfl
@[go_sem] theorem g_Z68_9_40 : gAt l_Z68_9 40 = ⟨(some 87), .load (.t 86) 1 false, none⟩ := idE rfl
@[go_sem] theorem g_Z68_9_41 : gAt l_Z68_9 41 = ⟨(some 88), .len (.t 87), none⟩ := idE rfl
@[go_sem] theorem g_Z68_9_42 : gAt l_Z68_9 42 = ⟨(some 89), .bin .quo (.t 83) (.t 88), none⟩ := idE rfl
@[go_sem] theorem g_Z68_9_43 : gAt l_Z68_9 43 = ⟨(some 90), .bin .mul (.t 89) (.c (.int .i64 53)), none⟩ := idE rfl
@[go_sem] theorem g_Z68_9_44 : gAt l_Z68_9 44 = ⟨(some 91), .bin .add (.t 82) (.t 90), none⟩ := idE rfl
@[go_sem] theorem g_Z68_9_45 : gAt l_Z68_9 45 = ⟨(some 6), .mv (.t 91), none⟩ := idE rfl
def Z68_9 : IR := .dops l_Z68_9 [(0, []), (1, []), (2, []), (3, []), (4, []), (5, []), (6, []), (7, []), (8, []), (9, []), (10, []), (11, []), (12, []), (13, []), (14, []), (15, []), (16, []), (17, []), (18, []), (19, []), (20, []), (21, []), (22, []), (23, []), (24, []), (25, []), (26, []), (27, []), (28, []), (29, []), (30, []), (31, []), (32, []), (33, []), (34, []), (35, []), (36, []), (37, []), (38, []), (39, []), (40, []), (41, []), (42, []), (43, []), (44, []), (45, [])]
@[go_sem] theorem w_Z68_9 : wp P Z68_9 Q e H = wpD P l_Z68_9 [(0, []), (1, []), (2, []), (3, []), (4, []), (5, []), (6, []), (7, []), (8, []), (9, []), (10, []), (11, []), (12, []), (13, []), (14, []), (15, []), (16, []), (17, []), (18, []), (19, []), (20, []), (21, []), (22, []), (23, []), (24, []), (25, []), (26, []), (27, []), (28, []), (29, []), (30, []), (31, []), (32, []), (33, []), (34, []), (35, []), (36, []), (37, []), (38, []), (39, []), (40, []), (41, []), (42, []), (43, []), (44, []), (45, [])] (Q .normal) e H := idE rfl
@[go_sem] def l_Z68_10 : List GOp := [⟨(some 92), .mv (.t 6), none⟩,
    ⟨(some 93), .mv (.t 6), none⟩,
    ⟨(some 94), .bin .quo (.t 93) (.c (.int .i64 64)), none⟩,
    ⟨(some 95), .bin .xor (.t 92) (.t 94), none⟩,
    ⟨(some 6), .mv (.t 95), none⟩]
def Z68_10 : IR := .ops l_Z68_10
@[go_sem] theorem w_Z68_10 : wp P Z68_10 Q e H = wpL P l_Z68_10 (Q .normal) e H := idE rfl
@[go_sem] def l_Z68_11 : List GOp := [⟨(some 96), .mv (.t 6), none⟩,
    ⟨(some 97), .mv (.t 1), none⟩,
    ⟨(some 98), .bin .rem (.t 96) (.t 97), none⟩,
    ⟨(some 4), .mv (.t 98), none⟩]
def Z68_11 : IR := .ops l_Z68_11
@[go_sem] theorem w_Z68_11 : wp P Z68_11 Q e H = wpL P l_Z68_11 (Q .normal) e H := idE rfl
def F_Z68 : IFn := ⟨2, 99, [.t 4], (.seq Z68_0 (.seq Z68_1 (.seq (.seq Z68_2 Z68_4) (.seq Z68_5 (.seq (.seq Z68_6 Z68_8) (.seq Z68_9 (.seq Z68_10 (.seq Z68_11 .ret))))))))⟩
theorem c_Z68 : compFn Try.prog [(0, [], []), (1, [], []), (2, [], []), (3, [], []), (4, [], []), (5, [], []), (6, [], []), (7, [(0, []), (1, []), (2, []), (3, []), (4, []), (5, []), (6, []), (7, []), (8, []), (9, []), (10, []), (11, []), (12, []), (13, []), (14, []), (15, []), (16, []), (17, []), (18, []), (19, []), (20, []), (21, []), (22, []), (23, []), (24, []), (25, []), (26, []), (27, []), (28, []), (29, []), (30, []), (31, []), (32, []), (33, []), (34, []), (35, []), (36, []), (37, []), (38, []), (39, []), (40, []), (41, []), (42, []), (43, []), (44, []), (45, [])], []), (8, [], []), (9, [], [])] Try.f99 = some F_Z68 := by kernel_rfl
theorem a_Z68 (hl : args.length = 2) (h : wp Try.prog (.seq Z68_0 (.seq Z68_1 (.seq (.seq Z68_2 Z68_4) (.seq Z68_5 (.seq (.seq Z68_6 Z68_8) (.seq Z68_9 (.seq Z68_10 (.seq Z68_11 .ret)))))))) (postQ [.t 4] R) (env0 args) H) : ACall Try.prog n_Z68 args H R :=
  acall_of_wp mixed Try.func99 c_Z68 (by kernel_rfl) hl h
@[go_sem] def l_Z67_0 : List GOp := [⟨(some 4), .mv (.c (.int .i64 0)), none⟩]
def Z67_0 : IR := .ops l_Z67_0
@[go_sem] theorem w_Z67_0 : wp P Z67_0 Q e H = wpL P l_Z67_0 (Q .normal) e H := idE rfl
@[go_sem] def l_Z67_1 : List GOp := [⟨(some 5), .mv (.t 1), none⟩,
    ⟨(some 6), .mv (.t 0), none⟩,
    ⟨(some 7), .mv (.t 1), none⟩,
    ⟨(some 8), .len (.t 7), none⟩,
    ⟨(some 9), .call (n_Z68) [(.t 6), (.t 8)], none⟩,
    ⟨(some 10), .iaddr (.t 5) (.t 9) 1, none⟩,
    ⟨(some 11), .load (.t 10) 1 false, none⟩,
    ⟨(some 4), .mv (.t 11), none⟩]
def Z67_1 : IR := .ops l_Z67_1
@[go_sem] theorem w_Z67_1 : wp P Z67_1 Q e H = wpL P l_Z67_1 (Q .normal) e H := idE rfl
def F_Z67 : IFn := ⟨2, 12, [.t 4], (.seq Z67_0 (.seq Z67_1 .ret))⟩
theorem c_Z67 : compFn Try.prog [(0, [], []), (1, [], [])] Try.f101 = some F_Z67 := by kernel_rfl
theorem a_Z67 (hl : args.length = 2) (h : wp Try.prog (.seq Z67_0 (.seq Z67_1 .ret)) (postQ [.t 4] R) (env0 args) H) : ACall Try.prog n_Z67 args H R :=
  acall_of_wp mixed Try.func101 c_Z67 (by kernel_rfl) hl h
@[go_sem] def l_Z64_0 : List GOp := [⟨(some 4), .mv (.c (.bool false)), none⟩]
def Z64_0 : IR := .ops l_Z64_0
@[go_sem] theorem w_Z64_0 : wp P Z64_0 Q e H = wpL P l_Z64_0 (Q .normal) e H := idE rfl
@[go_sem] def l_Z64_1 : List GOp := [⟨(some 5), .mv (.c (.int .i64 0)), none⟩]
def Z64_1 : IR := .ops l_Z64_1
@[go_sem] theorem w_Z64_1 : wp P Z64_1 Q e H = wpL P l_Z64_1 (Q .normal) e H := idE rfl
@[go_sem] def l_Z64_2 : List GOp := [⟨(some 6), .mv (.t 5), none⟩,
    ⟨(some 7), .mv (.t 0), none⟩,
    ⟨(some 8), .len (.t 7), none⟩,
    ⟨(some 9), .bin .lss (.t 6) (.t 8), none⟩]
def Z64_2 : IR := .ops l_Z64_2
@[go_sem] theorem w_Z64_2 : wp P Z64_2 Q e H = wpL P l_Z64_2 (Q .normal) e H := idE rfl
def Z64_3 : IR := .cond (.t 9) .skip (.exit 0)
@[go_sem] theorem w_Z64_3 : wp P Z64_3 Q e H = condW P ((.t 9) : X) .skip (.exit 0) Q e H := idE rfl
@[go_sem] def l_Z64_4 : List GOp := [⟨(some 12), .mv (.t 0), none⟩,
    ⟨(some 13), .mv (.t 5), none⟩,
    ⟨(some 14), .iaddr (.t 12) (.t 13) 1, none⟩,
    ⟨(some 15), .load (.t 14) 1 false, none⟩,
    ⟨(some 16), .mv (.t 1), none⟩,
    ⟨(some 17), .bin .eql (.t 15) (.t 16), none⟩]
def Z64_4 : IR := .ops l_Z64_4
@[go_sem] theorem w_Z64_4 : wp P Z64_4 Q e H = wpL P l_Z64_4 (Q .normal) e H := idE rfl
@[go_sem] def l_Z64_5 : List GOp := [⟨(some 4), .mv (.c (.bool true)), none⟩]
def Z64_5 : IR := .ops l_Z64_5
@[go_sem] theorem w_Z64_5 : wp P Z64_5 Q e H = wpL P l_Z64_5 (Q .normal) e H := idE rfl
def Z64_6 : IR := .cond (.t 17) (.seq Z64_5 .ret) .skip
@[go_sem] theorem w_Z64_6 : wp P Z64_6 Q e H = condW P ((.t 17) : X) (.seq Z64_5 .ret) .skip Q e H := idE rfl
def Z64_7 : IR := .block 1 (.seq Z64_4 Z64_6)
@[go_sem] theorem w_Z64_7 : wp P Z64_7 Q e H = wp P (.seq Z64_4 Z64_6) (blockQ 1 Q) e H := idE rfl
@[go_sem] def l_Z64_8 : List GOp := [⟨(some 10), .mv (.t 5), none⟩,
    ⟨(some 11), .bin .add (.t 10) (.c (.int .i64 1)), none⟩,
    ⟨(some 5), .mv (.t 11), none⟩]
def Z64_8 : IR := .ops l_Z64_8
@[go_sem] theorem w_Z64_8 : wp P Z64_8 Q e H = wpL P l_Z64_8 (Q .normal) e H := idE rfl
def Z64_9 : IR := .loop (.seq (.seq Z64_2 Z64_3) (.seq Z64_7 Z64_8))
def Z64_10 : IR := .block 0 Z64_9
@[go_sem] theorem w_Z64_10 : wp P Z64_10 Q e H = wp P Z64_9 (blockQ 0 Q) e H := idE rfl
@[go_sem] def l_Z64_11 : List GOp := [⟨(some 4), .mv (.c (.bool false)), none⟩]
def Z64_11 : IR := .ops l_Z64_11
@[go_sem] theorem w_Z64_11 : wp P Z64_11 Q e H = wpL P l_Z64_11 (Q .normal) e H := idE rfl
def F_Z64 : IFn := ⟨2, 18, [.t 4], (.seq Z64_0 (.seq (.seq Z64_1 Z64_10) (.seq Z64_11 .ret)))⟩
theorem c_Z64 : compFn Try.prog [(0, [], []), (1, [], []), (2, [], []), (4, [], []), (5, [], []), (3, [], []), (6, [], [])] Try.f120 = some F_Z64 := by kernel_rfl
theorem a_Z64 (hl : args.length = 2) (h : wp Try.prog (.seq Z64_0 (.seq (.seq Z64_1 Z64_10) (.seq Z64_11 .ret))) (postQ [.t 4] R) (env0 args) H) : ACall Try.prog n_Z64 args H R :=
  acall_of_wp mixed Try.func120 c_Z64 (by kernel_rfl) hl h
@[go_sem] def l_Z48_0 : List GOp := [⟨(some 2), .mv (.c (.int .i64 0)), none⟩]
def Z48_0 : IR := .ops l_Z48_0
@[go_sem] theorem w_Z48_0 : wp P Z48_0 Q e H = wpL P l_Z48_0 (Q .normal) e H := idE rfl
@[go_sem] def l_Z48_1 : List GOp := [⟨(some 3), .mv (.t 0), none⟩,
    ⟨(some 4), .bin .lss (.t 3) (.c (.int .i64 0)), none⟩]
def Z48_1 : IR := .ops l_Z48_1
@[go_sem] theorem w_Z48_1 : wp P Z48_1 Q e H = wpL P l_Z48_1 (Q .normal) e H := idE rfl
@[go_sem] def l_Z48_2 : List GOp := [⟨(some 5), .mv (.t 0), none⟩,
    ⟨(some 6), .un .neg (.t 5), none⟩,
    ⟨(some 2), .mv (.t 6), none⟩]
def Z48_2 : IR := .ops l_Z48_2
@[go_sem] theorem w_Z48_2 : wp P Z48_2 Q e H = wpL P l_Z48_2 (Q .normal) e H := idE rfl
def Z48_3 : IR := .cond (.t 4) (.seq Z48_2 .ret) .skip
@[go_sem] theorem w_Z48_3 : wp P Z48_3 Q e H = condW P ((.t 4) : X) (.seq Z48_2 .ret) .skip Q e H := idE rfl
@[go_sem] def l_Z48_4 : List GOp := [⟨(some 7), .mv (.t 0), none⟩,
    ⟨(some 2), .mv (.t 7), none⟩]
def Z48_4 : IR := .ops l_Z48_4
@[go_sem] theorem w_Z48_4 : wp P Z48_4 Q e H = wpL P l_Z48_4 (Q .normal) e H := idE rfl
def F_Z48 : IFn := ⟨1, 8, [.t 2], (.seq Z48_0 (.seq (.seq Z48_1 Z48_3) (.seq Z48_4 .ret)))⟩
theorem c_Z48 : compFn Try.prog [(0, [], []), (1, [], []), (2, [], []), (3, [], [])] Try.f106 = some F_Z48 := by kernel_rfl
theorem a_Z48 (hl : args.length = 1) (h : wp Try.prog (.seq Z48_0 (.seq (.seq Z48_1 Z48_3) (.seq Z48_4 .ret))) (postQ [.t 2] R) (env0 args) H) : ACall Try.prog n_Z48 args H R :=
  acall_of_wp mixed Try.func106 c_Z48 (by kernel_rfl) hl h
@[go_sem] def l_Z49_0 : List GOp := [⟨(some 4), .mv (.c (.sl none 0 0 true 0)), none⟩,
    ⟨(some 5), .mv (.c (.bool false)), none⟩]
def Z49_0 : IR := .ops l_Z49_0
@[go_sem] theorem w_Z49_0 : wp P Z49_0 Q e H = wpL P l_Z49_0 (Q .normal) e H := idE rfl
@[go_sem] def l_Z49_1 : List GOp := [⟨(some 11), .mv (.t 1), none⟩,
    ⟨(some 12), .bin .add (.t 11) (.c (.int .i64 1)), none⟩,
    ⟨(some 13), .mks [(.int .i64 0)] 8 (.t 12), none⟩,
    ⟨(some 6), .mv (.t 13), none⟩]
def Z49_1 : IR := .ops l_Z49_1
@[go_sem] theorem w_Z49_1 : wp P Z49_1 Q e H = wpL P l_Z49_1 (Q .normal) e H := idE rfl
@[go_sem] def l_Z49_2 : List GOp := [⟨(some 7), .mv (.c (.int .i64 0)), none⟩]
def Z49_2 : IR := .ops l_Z49_2
@[go_sem] theorem w_Z49_2 : wp P Z49_2 Q e H = wpL P l_Z49_2 (Q .normal) e H := idE rfl
@[go_sem] def l_Z49_3 : List GOp := [⟨(some 14), .mv (.t 7), none⟩,
    ⟨(some 15), .mv (.t 0), none⟩,
    ⟨(some 16), .len (.t 15), none⟩,
    ⟨(some 17), .bin .lss (.t 14) (.t 16), none⟩]
def Z49_3 : IR := .ops l_Z49_3
@[go_sem] theorem w_Z49_3 : wp P Z49_3 Q e H = wpL P l_Z49_3 (Q .normal) e H := idE rfl
def Z49_4 : IR := .cond (.t 17) .skip (.exit 0)
@[go_sem] theorem w_Z49_4 : wp P Z49_4 Q e H = condW P ((.t 17) : X) .skip (.exit 0) Q e H := idE rfl
@[go_sem] def l_Z49_5 : List GOp := [⟨(some 20), .mv (.t 0), none⟩,
    ⟨(some 21), .mv (.t 7), none⟩,
    ⟨(some 22), .iaddr (.t 20) (.t 21) 1, none⟩,
    ⟨(some 23), .load (.t 22) 1 false, none⟩,
    ⟨(some 24), .call (n_Z48) [(.t 23)], none⟩,
    ⟨(some 8), .mv (.t 24), none⟩]
def Z49_5 : IR := .ops l_Z49_5
@[go_sem] theorem w_Z49_5 : wp P Z49_5 Q e H = wpL P l_Z49_5 (Q .normal) e H := idE rfl
def l_Z49_6 : List GOp := [⟨(some 25), .mv (.t 6), none⟩,
    ⟨(some 26), .mv (.t 8), none⟩,
    ⟨(some 27), .iaddr (.t 25) (.t 26) 1, none⟩,
    ⟨(some 28), .load (.t 27) 1 false, none⟩,
    ⟨(some 29), .bin .neq (.t 28) (.c (.int .i64 0)), none⟩,
    ⟨(some 30), .mv (.t 29), none⟩,
    ⟨(some 31), .mv (.t 6), (some (30, true))⟩,
    ⟨(some 32), .mv (.t 8), (some (30, true))⟩,
    ⟨(some 33), .iaddr (.t 31) (.t 32) 1, (some (30, true))⟩,
    ⟨(some 34), .load (.t 33) 1 false, (some (30, true))⟩,
    ⟨(some 35), .mv (.t 0), (some (30, true))⟩,
    ⟨(some 36), .mv (.t 7), (some (30, true))⟩,
    ⟨(some 37), .iaddr (.t 35) (.t 36) 1, (some (30, true))⟩,
    ⟨(some 38), .load (.t 37) 1 false, (some (30, true))⟩,
    ⟨(some 39), .bin .neq (.t 34) (.t 38), (some (30, true))⟩,
    ⟨(some 40), .pick (.t 30) (.t 39) (.c (.bool false)), none⟩]
@[go_sem] theorem g_Z49_6_0 : gAt l_Z49_6 0 = ⟨(some 25), .mv (.t 6), none⟩ := idE rfl
@[go_sem] theorem g_Z49_6_1 : gAt l_Z49_6 1 = ⟨(some 26), .mv (.t 8), none⟩ := idE rfl
@[go_sem] theorem g_Z49_6_2 : gAt l_Z49_6 2 = ⟨(some 27), .iaddr (.t 25) (.t 26) 1, none⟩ := idE rfl
@[go_sem] theorem g_Z49_6_3 : gAt l_Z49_6 3 = ⟨(some 28), .load (.t 27) 1 false, none⟩ := idE rfl
@[go_sem] theorem g_Z49_6_4 : gAt l_Z49_6 4 = ⟨(some 29), .bin .neq (.t 28) (.c (.int .i64 0)), none⟩ := idE rfl
@[go_sem] theorem g_Z49_6_5 : gAt l_Z49_6 5 = ⟨(some 30), .mv (.t 29), none⟩ := idE rfl
@[go_sem] theorem g_Z49_6_6 : gAt l_Z49_6 6 = ⟨(some 31), .mv (.t 6), (some (30, true))⟩ := idE rfl
@[go_sem] theorem g_Z49_6_7 : gAt l_Z49_6 7 = ⟨(some 32), .mv (.t 8), (some (30, true))⟩ := idE rfl
@[go_sem] theorem g_Z49_6_8 : gAt l_Z49_6 8 = ⟨(some 33), .iaddr (.t 31) (.t 32) 1, (some (30, true))⟩ := idE rfl
@[go_sem] theorem g_Z49_6_9 : gAt l_Z49_6 9 = ⟨(some 34), .load (.t 33) 1 false, (some (30, true))⟩ := idE rfl
@[go_sem] theorem g_Z49_6_10 : gAt l_Z49_6 10 = ⟨(some 35), .mv (.t 0), (some (30, true))⟩ := idE rfl
@[go_sem] theorem g_Z49_6_11 : gAt l_Z49_6 11 = ⟨(some 36), .mv (.t 7), (some (30, true))⟩ := idE rfl
@[go_sem] theorem g_Z49_6_12 : gAt l_Z49_6 12 = ⟨(some 37), .iaddr (.t 35) (.t 36) 1, (some (30, true))⟩ := idE rfl
@[go_sem] theorem g_Z49_6_13 : gAt l_Z49_6 13 = ⟨(some 38), .load (.t 37) 1 false, (some (30, true))⟩ := idE rfl
@[go_sem] theorem g_Z49_6_14 : gAt l_Z49_6 14 = ⟨(some 39), .bin .neq (.t 34) (.t 38), (some (30, true))⟩ := idE rfl
@[go_sem] theorem g_Z49_6_15 : gAt l_Z49_6 15 = ⟨(some 40), .pick (.t 30) (.t 39) (.c (.bool false)), none⟩ := idE rfl
def Z49_6 : IR := .dops l_Z49_6 [(0, []), (1, []), (2, []), (3, []), (4, []), (5, []), (6, []), (7, []), (8, []), (9, []), (10, []), (11, []), (12, []), (13, []), (14, []), (15, [])]
@[go_sem] theorem w_Z49_6 : wp P Z49_6 Q e H = wpD P l_Z49_6 [(0, []), (1, []), (2, []), (3, []), (4, []), (5, []), (6, []), (7, []), (8, []), (9, []), (10, []), (11, []), (12, []), (13, []), (14, []), (15, [])] (Q .normal) e H := idE rfl
@[go_sem] def l_Z49_7 : List GOp := [⟨(some 4), .mv (.c (.sl none 0 0 true 0)), none⟩,
    ⟨(some 5), .mv (.c (.bool false)), none⟩]
def Z49_7 : IR := .ops l_Z49_7
@[go_sem] theorem w_Z49_7 : wp P Z49_7 Q e H = wpL P l_Z49_7 (Q .normal) e H := idE rfl
def Z49_8 : IR := .cond (.t 40) (.seq Z49_7 .ret) .skip
@[go_sem] theorem w_Z49_8 : wp P Z49_8 Q e H = condW P ((.t 40) : X) (.seq Z49_7 .ret) .skip Q e H := idE rfl
@[go_sem] def l_Z49_9 : List GOp := [⟨(some 41), .mv (.t 6), none⟩,
    ⟨(some 42), .mv (.t 8), none⟩,
    ⟨(some 43), .mv (.t 0), none⟩,
    ⟨(some 44), .mv (.t 7), none⟩,
    ⟨(some 45), .iaddr (.t 43) (.t 44) 1, none⟩,
    ⟨(some 46), .load (.t 45) 1 false, none⟩,
    ⟨(some 47), .iaddr (.t 41) (.t 42) 1, none⟩,
    ⟨none, .store (.t 47) 1 (.t 46), none⟩]
def Z49_9 : IR := .ops l_Z49_9
@[go_sem] theorem w_Z49_9 : wp P Z49_9 Q e H = wpL P l_Z49_9 (Q .normal) e H := idE rfl
def Z49_10 : IR := .block 1 (.seq Z49_5 (.seq (.seq Z49_6 Z49_8) Z49_9))
@[go_sem] theorem w_Z49_10 : wp P Z49_10 Q e H = wp P (.seq Z49_5 (.seq (.seq Z49_6 Z49_8) Z49_9)) (blockQ 1 Q) e H := idE rfl
@[go_sem] def l_Z49_11 : List GOp := [⟨(some 18), .mv (.t 7), none⟩,
    ⟨(some 19), .bin .add (.t 18) (.c (.int .i64 1)), none⟩,
    ⟨(some 7), .mv (.t 19), none⟩]
def Z49_11 : IR := .ops l_Z49_11
@[go_sem] theorem w_Z49_11 : wp P Z49_11 Q e H = wpL P l_Z49_11 (Q .normal) e H := idE rfl
def Z49_12 : IR := .loop (.seq (.seq Z49_3 Z49_4) (.seq Z49_10 Z49_11))
def Z49_13 : IR := .block 0 Z49_12
@[go_sem] theorem w_Z49_13 : wp P Z49_13 Q e H = wp P Z49_12 (blockQ 0 Q) e H := idE rfl
@[go_sem] def l_Z49_14 : List GOp := [⟨(some 48), .bslc 1 0 [(.int .i64 0)] [], none⟩,
    ⟨(some 9), .mv (.t 48), none⟩]
def Z49_14 : IR := .ops l_Z49_14
@[go_sem] theorem w_Z49_14 : wp P Z49_14 Q e H = wpL P l_Z49_14 (Q .normal) e H := idE rfl
@[go_sem] def l_Z49_15 : List GOp := [⟨(some 10), .mv (.c (.int .i64 1)), none⟩]
def Z49_15 : IR := .ops l_Z49_15
@[go_sem] theorem w_Z49_15 : wp P Z49_15 Q e H = wpL P l_Z49_15 (Q .normal) e H := idE rfl
@[go_sem] def l_Z49_16 : List GOp := [⟨(some 49), .mv (.t 10), none⟩,
    ⟨(some 50), .mv (.t 1), none⟩,
    ⟨(some 51), .bin .leq (.t 49) (.t 50), none⟩]
def Z49_16 : IR := .ops l_Z49_16
@[go_sem] theorem w_Z49_16 : wp P Z49_16 Q e H = wpL P l_Z49_16 (Q .normal) e H := idE rfl
def Z49_17 : IR := .cond (.t 51) .skip (.exit 2)
@[go_sem] theorem w_Z49_17 : wp P Z49_17 Q e H = condW P ((.t 51) : X) .skip (.exit 2) Q e H := idE rfl
@[go_sem] def l_Z49_18 : List GOp := [⟨(some 54), .mv (.t 6), none⟩,
    ⟨(some 55), .mv (.t 10), none⟩,
    ⟨(some 56), .iaddr (.t 54) (.t 55) 1, none⟩,
    ⟨(some 57), .load (.t 56) 1 false, none⟩,
    ⟨(some 58), .bin .neq (.t 57) (.c (.int .i64 0)), none⟩]
def Z49_18 : IR := .ops l_Z49_18
@[go_sem] theorem w_Z49_18 : wp P Z49_18 Q e H = wpL P l_Z49_18 (Q .normal) e H := idE rfl
@[go_sem] def l_Z49_19 : List GOp := [⟨(some 59), .mv (.t 9), none⟩,
    ⟨(some 60), .mv (.t 6), none⟩,
    ⟨(some 61), .mv (.t 10), none⟩,
    ⟨(some 62), .iaddr (.t 60) (.t 61) 1, none⟩,
    ⟨(some 63), .load (.t 62) 1 false, none⟩,
    ⟨(some 64), .bslc 1 1 [(.int .i64 0)] [(0, (.t 63))], none⟩,
    ⟨(some 65), .app 1 8 (.t 59) (.t 64), none⟩,
    ⟨(some 9), .mv (.t 65), none⟩]
def Z49_19 : IR := .ops l_Z49_19
@[go_sem] theorem w_Z49_19 : wp P Z49_19 Q e H = wpL P l_Z49_19 (Q .normal) e H := idE rfl
def Z49_20 : IR := .cond (.t 58) Z49_19 .skip
@[go_sem] theorem w_Z49_20 : wp P Z49_20 Q e H = condW P ((.t 58) : X) Z49_19 .skip Q e H := idE rfl
def Z49_21 : IR := .block 3 (.seq Z49_18 Z49_20)
@[go_sem] theorem w_Z49_21 : wp P Z49_21 Q e H = wp P (.seq Z49_18 Z49_20) (blockQ 3 Q) e H := idE rfl
@[go_sem] def l_Z49_22 : List GOp := [⟨(some 52), .mv (.t 10), none⟩,
    ⟨(some 53), .bin .add (.t 52) (.c (.int .i64 1)), none⟩,
    ⟨(some 10), .mv (.t 53), none⟩]
def Z49_22 : IR := .ops l_Z49_22
@[go_sem] theorem w_Z49_22 : wp P Z49_22 Q e H = wpL P l_Z49_22 (Q .normal) e H := idE rfl
def Z49_23 : IR := .loop (.seq (.seq Z49_16 Z49_17) (.seq Z49_21 Z49_22))
def Z49_24 : IR := .block 2 Z49_23
@[go_sem] theorem w_Z49_24 : wp P Z49_24 Q e H = wp P Z49_23 (blockQ 2 Q) e H := idE rfl
@[go_sem] def l_Z49_25 : List GOp := [⟨(some 66), .mv (.t 9), none⟩,
    ⟨(some 4), .mv (.t 66), none⟩,
    ⟨(some 5), .mv (.c (.bool true)), none⟩]
def Z49_25 : IR := .ops l_Z49_25
@[go_sem] theorem w_Z49_25 : wp P Z49_25 Q e H = wpL P l_Z49_25 (Q .normal) e H := idE rfl
def F_Z49 : IFn := ⟨2, 67, [.t 4, .t 5], (.seq Z49_0 (.seq Z49_1 (.seq (.seq Z49_2 Z49_13) (.seq Z49_14 (.seq (.seq Z49_15 Z49_24) (.seq Z49_25 .ret))))))⟩
theorem c_Z49 : compFn Try.prog [(0, [], []), (1, [], []), (2, [], []), (3, [], []), (5, [], []), (6, [(0, []), (1, []), (2, []), (3, []), (4, []), (5, []), (6, []), (7, []), (8, []), (9, []), (10, []), (11, []), (12, []), (13, []), (14, []), (15, [])], []), (7, [], []), (8, [], []), (4, [], []), (9, [], []), (10, [], []), (11, [], []), (13, [], []), (14, [], []), (12, [], []), (15, [], [])] Try.f121 = some F_Z49 := by kernel_rfl
theorem a_Z49 (hl : args.length = 2) (h : wp Try.prog (.seq Z49_0 (.seq Z49_1 (.seq (.seq Z49_2 Z49_13) (.seq Z49_14 (.seq (.seq Z49_15 Z49_24) (.seq Z49_25 .ret)))))) (postQ [.t 4, .t 5] R) (env0 args) H) : ACall Try.prog n_Z49 args H R :=
  acall_of_wp mixed Try.func121 c_Z49 (by kernel_rfl) hl h
@[go_sem] def l_Z55_0 : List GOp := [⟨(some 6), .mv (.c (.sl none 0 0 true 0)), none⟩]
def Z55_0 : IR := .ops l_Z55_0
@[go_sem] theorem w_Z55_0 : wp P Z55_0 Q e H = wpL P l_Z55_0 (Q .normal) e H := idE rfl
@[go_sem] def l_Z55_1 : List GOp := [⟨(some 12), .bslc 1 0 [(.int .i64 0)] [], none⟩,
    ⟨(some 7), .mv (.t 12), none⟩]
def Z55_1 : IR := .ops l_Z55_1
@[go_sem] theorem w_Z55_1 : wp P Z55_1 Q e H = wpL P l_Z55_1 (Q .normal) e H := idE rfl
@[go_sem] def l_Z55_2 : List GOp := [⟨(some 8), .mv (.c (.int .i64 0)), none⟩]
def Z55_2 : IR := .ops l_Z55_2
@[go_sem] theorem w_Z55_2 : wp P Z55_2 Q e H = wpL P l_Z55_2 (Q .normal) e H := idE rfl
@[go_sem] def l_Z55_3 : List GOp := [⟨(some 13), .mv (.t 8), none⟩,
    ⟨(some 14), .mv (.t 2), none⟩,
    ⟨(some 15), .bin .lss (.t 13) (.t 14), none⟩,
    ⟨(some 16), .mv (.t 15), none⟩,
    ⟨(some 17), .mv (.t 1), (some (16, true))⟩,
    ⟨(some 18), .bin .gtr (.t 17) (.c (.int .i64 0)), (some (16, true))⟩,
    ⟨(some 19), .pick (.t 16) (.t 18) (.c (.bool false)), none⟩]
def Z55_3 : IR := .ops l_Z55_3
@[go_sem] theorem w_Z55_3 : wp P Z55_3 Q e H = wpL P l_Z55_3 (Q .normal) e H := idE rfl
def Z55_4 : IR := .cond (.t 19) .skip (.exit 0)
@[go_sem] theorem w_Z55_4 : wp P Z55_4 Q e H = condW P ((.t 19) : X) .skip (.exit 0) Q e H := idE rfl
@[go_sem] def l_Z55_5 : List GOp := [⟨(some 22), .mv (.t 0), none⟩,
    ⟨(some 23), .mv (.t 1), none⟩,
    ⟨(some 24), .call (n_Z68) [(.t 22), (.t 23)], none⟩,
    ⟨(some 25), .bin .add (.c (.int .i64 1)) (.t 24), none⟩,
    ⟨(some 9), .mv (.t 25), none⟩]
def Z55_5 : IR := .ops l_Z55_5
@[go_sem] theorem w_Z55_5 : wp P Z55_5 Q e H = wpL P l_Z55_5 (Q .normal) e H := idE rfl
@[go_sem] def l_Z55_6 : List GOp := [⟨(some 26), .mv (.t 0), none⟩,
    ⟨(some 27), .call (n_Z68) [(.t 26), (.c (.int .i64 2))], none⟩,
    ⟨(some 28), .bin .eql (.t 27) (.c (.int .i64 0)), none⟩]
def Z55_6 : IR := .ops l_Z55_6
@[go_sem] theorem w_Z55_6 : wp P Z55_6 Q e H = wpL P l_Z55_6 (Q .normal) e H := idE rfl
@[go_sem] def l_Z55_7 : List GOp := [⟨(some 29), .mv (.t 9), none⟩,
    ⟨(some 30), .un .neg (.t 29), none⟩,
    ⟨(some 9), .mv (.t 30), none⟩]
def Z55_7 : IR := .ops l_Z55_7
@[go_sem] theorem w_Z55_7 : wp P Z55_7 Q e H = wpL P l_Z55_7 (Q .normal) e H := idE rfl
def Z55_8 : IR := .cond (.t 28) Z55_7 .skip
@[go_sem] theorem w_Z55_8 : wp P Z55_8 Q e H = condW P ((.t 28) : X) Z55_7 .skip Q e H := idE rfl
@[go_sem] def l_Z55_9 : List GOp := [⟨(some 31), .mv (.t 7), none⟩,
    ⟨(some 32), .mv (.t 9), none⟩,
    ⟨(some 33), .un .neg (.t 32), none⟩,
    ⟨(some 34), .call (n_Z64) [(.t 31), (.t 33)], none⟩,
    ⟨(some 35), .un .not (.t 34), none⟩]
def Z55_9 : IR := .ops l_Z55_9
@[go_sem] theorem w_Z55_9 : wp P Z55_9 Q e H = wpL P l_Z55_9 (Q .normal) e H := idE rfl
@[go_sem] def l_Z55_10 : List GOp := [⟨(some 36), .mv (.t 7), none⟩,
    ⟨(some 37), .mv (.t 9), none⟩,
    ⟨(some 38), .bslc 1 1 [(.int .i64 0)] [(0, (.t 37))], none⟩,
    ⟨(some 39), .app 1 8 (.t 36) (.t 38), none⟩,
    ⟨(some 7), .mv (.t 39), none⟩]
def Z55_10 : IR := .ops l_Z55_10
@[go_sem] theorem w_Z55_10 : wp P Z55_10 Q e H = wpL P l_Z55_10 (Q .normal) e H := idE rfl
def Z55_11 : IR := .cond (.t 35) Z55_10 .skip
@[go_sem] theorem w_Z55_11 : wp P Z55_11 Q e H = condW P ((.t 35) : X) Z55_10 .skip Q e H := idE rfl
def Z55_12 : IR := .block 1 (.seq Z55_5 (.seq (.seq Z55_6 Z55_8) (.seq Z55_9 Z55_11)))
@[go_sem] theorem w_Z55_12 : wp P Z55_12 Q e H = wp P (.seq Z55_5 (.seq (.seq Z55_6 Z55_8) (.seq Z55_9 Z55_11))) (blockQ 1 Q) e H := idE rfl
@[go_sem] def l_Z55_13 : List GOp := [⟨(some 20), .mv (.t 8), none⟩,
    ⟨(some 21), .bin .add (.t 20) (.c (.int .i64 1)), none⟩,
    ⟨(some 8), .mv (.t 21), none⟩]
def Z55_13 : IR := .ops l_Z55_13
@[go_sem] theorem w_Z55_13 : wp P Z55_13 Q e H = wpL P l_Z55_13 (Q .normal) e H := idE rfl
def Z55_14 : IR := .loop (.seq (.seq Z55_3 Z55_4) (.seq Z55_12 Z55_13))
def Z55_15 : IR := .block 0 Z55_14
@[go_sem] theorem w_Z55_15 : wp P Z55_15 Q e H = wp P Z55_14 (blockQ 0 Q) e H := idE rfl
@[go_sem] def l_Z55_16 : List GOp := [⟨(some 41), .mv (.t 7), none⟩,
    ⟨(some 42), .mv (.t 1), none⟩,
    ⟨(some 43), .call (n_Z49) [(.t 41), (.t 42)], none⟩,
    ⟨(some 40), .mv (.t 43), none⟩,
    ⟨(some 44), .ext (.t 40) 0, none⟩,
    ⟨(some 45), .ext (.t 40) 1, none⟩,
    ⟨(some 10), .mv (.t 44), none⟩,
    ⟨(some 11), .mv (.t 45), none⟩]
def Z55_16 : IR := .ops l_Z55_16
@[go_sem] theorem w_Z55_16 : wp P Z55_16 Q e H = wpL P l_Z55_16 (Q .normal) e H := idE rfl
@[go_sem] def l_Z55_17 : List GOp := [⟨(some 46), .mv (.t 10), none⟩,
    ⟨(some 6), .mv (.t 46), none⟩]
def Z55_17 : IR := .ops l_Z55_17
@[go_sem] theorem w_Z55_17 : wp P Z55_17 Q e H = wpL P l_Z55_17 (Q .normal) e H := idE rfl
def F_Z55 : IFn := ⟨3, 47, [.t 6], (.seq Z55_0 (.seq Z55_1 (.seq (.seq Z55_2 Z55_15) (.seq Z55_16 (.seq Z55_17 .ret)))))⟩
theorem c_Z55 : compFn Try.prog [(0, [], []), (1, [], []), (2, [], []), (3, [], []), (5, [], []), (6, [], []), (7, [], []), (8, [], []), (9, [], []), (4, [], []), (10, [], []), (11, [], [])] Try.f114 = some F_Z55 := by kernel_rfl
theorem a_Z55 (hl : args.length = 3) (h : wp Try.prog (.seq Z55_0 (.seq Z55_1 (.seq (.seq Z55_2 Z55_15) (.seq Z55_16 (.seq Z55_17 .ret))))) (postQ [.t 6] R) (env0 args) H) : ACall Try.prog n_Z55 args H R :=
  acall_of_wp mixed Try.func114 c_Z55 (by kernel_rfl) hl h
@[go_sem] def l_Z50_0 : List GOp := [⟨(some 6), .alloc [(.int .i64 0), (.sl none 0 0 true 0)], none⟩]
def Z50_0 : IR := .ops l_Z50_0
@[go_sem] theorem w_Z50_0 : wp P Z50_0 Q e H = wpL P l_Z50_0 (Q .normal) e H := idE rfl
@[go_sem] def l_Z50_1 : List GOp := [⟨(some 9), .mv (.t 1), none⟩,
    ⟨(some 10), .bld [(.int .i64 0), (.sl none 0 0 true 0)] [(0, 1, (.t 9))], none⟩,
    ⟨(some 7), .alloc [(.int .i64 0), (.sl none 0 0 true 0)], none⟩,
    ⟨none, .store (.t 7) 2 (.t 10), none⟩]
def Z50_1 : IR := .ops l_Z50_1
@[go_sem] theorem w_Z50_1 : wp P Z50_1 Q e H = wpL P l_Z50_1 (Q .normal) e H := idE rfl
@[go_sem] def l_Z50_2 : List GOp := [⟨(some 8), .mv (.c (.int .i64 0)), none⟩]
def Z50_2 : IR := .ops l_Z50_2
@[go_sem] theorem w_Z50_2 : wp P Z50_2 Q e H = wpL P l_Z50_2 (Q .normal) e H := idE rfl
@[go_sem] def l_Z50_3 : List GOp := [⟨(some 11), .mv (.t 8), none⟩,
    ⟨(some 12), .mv (.t 2), none⟩,
    ⟨(some 13), .bin .lss (.t 11) (.t 12), none⟩]
def Z50_3 : IR := .ops l_Z50_3
@[go_sem] theorem w_Z50_3 : wp P Z50_3 Q e H = wpL P l_Z50_3 (Q .normal) e H := idE rfl
def Z50_4 : IR := .cond (.t 13) .skip (.exit 0)
@[go_sem] theorem w_Z50_4 : wp P Z50_4 Q e H = condW P ((.t 13) : X) .skip (.exit 0) Q e H := idE rfl
def l_Z50_5 : List GOp := [⟨(some 16), .faddr (.t 7) 1, none⟩,
    ⟨(some 17), .load (.t 16) 1 false, none⟩,
    ⟨(some 18), .mv (.t 0), none⟩,
    ⟨(some 19), .mv (.t 1), none⟩,
    ⟨(some 20), .mv (.t 0), none⟩,
    ⟨(some 21), .bslc 1 7 [(.int .i64 0)] [(0, (.c (.int .i64 2))), (1, (.c (.int .i64 3))), (2, (.c (.int .i64 3))), (3, (.c (.int .i64 2))), (4, (.c (.int .i64 1))), (5, (.c (.int .i64 3))), (6, (.c (.int .i64 4)))], none⟩,
    ⟨(some 22), .call (n_Z67) [(.t 20), (.t 21)], none⟩,
    ⟨(some 23), .call (n_Z55) [(.t 18), (.t 19), (.t 22)], none⟩,
    ⟨(some 24), .bslc 1 1 [(.sl none 0 0 true 0)] [(0, (.t 23))], none⟩,
    ⟨(some 25), .app 1 24 (.t 17) (.t 24), none⟩,
    ⟨(some 26), .faddr (.t 7) 1, none⟩,
    ⟨none, .store (.t 26) 1 (.t 25), none⟩]
@[go_sem] theorem g_Z50_5_0 : gAt l_Z50_5 0 = ⟨(some 16), .faddr (.t 7) 1, none⟩ := idE rfl
@[go_sem] theorem g_Z50_5_1 : gAt l_Z50_5 1 = ⟨(some 17), .load (.t 16) 1 false, none⟩ := idE rfl
@[go_sem] theorem g_Z50_5_2 : gAt l_Z50_5 2 = ⟨(some 18), .mv (.t 0), none⟩ := idE rfl
@[go_sem] theorem g_Z50_5_3 : gAt l_Z50_5 3 = ⟨(some 19), .mv (.t 1), none⟩ := idE rfl
@[go_sem] theorem g_Z50_5_4 : gAt l_Z50_5 4 = ⟨(some 20), .mv (.t 0), none⟩ := idE rfl
@[go_sem] theorem g_Z50_5_5 : gAt l_Z50_5 5 = ⟨(some 21), .bslc 1 7 [(.int .i64 0)] [(0, (.c (.int .i64 2))), (1, (.c (.int .i64 3))), (2, (.c (.int .i64 3))), (3, (.c (.int .i64 2))), (4, (.c (.int .i64 1))), (5, (.c (.int .i64 3))), (6, (.c (.int .i64 4)))], none⟩ := idE rfl
@[go_sem] theorem g_Z50_5_6 : gAt l_Z50_5 6 = ⟨(some 22), .call (n_Z67) [(.t 20), (.t 21)], none⟩ := idE rfl
@[go_sem] theorem g_Z50_5_7 : gAt l_Z50_5 7 = ⟨(some 23), .call (n_Z55) [(.t 18), (.t 19), (.t 22)], none⟩ := idE rfl
@[go_sem] theorem g_Z50_5_8 : gAt l_Z50_5 8 = ⟨(some 24), .bslc 1 1 [(.sl none 0 0 true 0)] [(0, (.t 23))], none⟩ := idE rfl
@[go_sem] theorem g_Z50_5_9 : gAt l_Z50_5 9 = ⟨(some 25), .app 1 24 (.t 17) (.t 24), none⟩ := idE rfl
@[go_sem] theorem g_Z50_5_10 : gAt l_Z50_5 10 = ⟨(some 26), .faddr (.t 7) 1, none⟩ := idE rfl
@[go_sem] theorem g_Z50_5_11 : gAt l_Z50_5 11 = ⟨none, .store (.t 26) 1 (.t 25), none⟩ := idE rfl
def Z50_5 : IR := .dops l_Z50_5 [(0, []), (1, []), (2, []), (3, []), (4, []), (5, []), (6, [1]), (7, [1]), (8, []), (9, []), (10, []), (11, [])]
@[go_sem] theorem w_Z50_5 : wp P Z50_5 Q e H = wpD P l_Z50_5 [(0, []), (1, []), (2, []), (3, []), (4, []), (5, []), (6, [1]), (7, [1]), (8, []), (9, []), (10, []), (11, [])] (Q .normal) e H := idE rfl
def Z50_6 : IR := .block 1 Z50_5
@[go_sem] theorem w_Z50_6 : wp P Z50_6 Q e H = wp P Z50_5 (blockQ 1 Q) e H := idE rfl
@[go_sem] def l_Z50_7 : List GOp := [⟨(some 14), .mv (.t 8), none⟩,
    ⟨(some 15), .bin .add (.t 14) (.c (.int .i64 1)), none⟩,
    ⟨(some 8), .mv (.t 15), none⟩]
def Z50_7 : IR := .ops l_Z50_7
@[go_sem] theorem w_Z50_7 : wp P Z50_7 Q e H = wpL P l_Z50_7 (Q .normal) e H := idE rfl
def Z50_8 : IR := .loop (.seq (.seq Z50_3 Z50_4) (.seq Z50_6 Z50_7))
def Z50_9 : IR := .block 0 Z50_8
@[go_sem] theorem w_Z50_9 : wp P Z50_9 Q e H = wp P Z50_8 (blockQ 0 Q) e H := idE rfl
@[go_sem] def l_Z50_10 : List GOp := [⟨(some 27), .load (.t 7) 2 true, none⟩,
    ⟨none, .store (.t 6) 2 (.t 27), none⟩]
def Z50_10 : IR := .ops l_Z50_10
@[go_sem] theorem w_Z50_10 : wp P Z50_10 Q e H = wpL P l_Z50_10 (Q .normal) e H := idE rfl
def F_Z50 : IFn := ⟨3, 28, [.c 6 2 true], (.seq Z50_0 (.seq Z50_1 (.seq (.seq Z50_2 Z50_9) (.seq Z50_10 .ret))))⟩
theorem c_Z50 : compFn Try.prog [(0, [], []), (1, [], []), (2, [], []), (3, [], []), (5, [(0, []), (1, []), (2, []), (3, []), (4, []), (5, []), (6, [1]), (7, [1]), (8, []), (9, []), (10, []), (11, [])], []), (4, [], []), (6, [], [])] Try.f102 = some F_Z50 := by kernel_rfl
theorem a_Z50 (hl : args.length = 3) (h : wp Try.prog (.seq Z50_0 (.seq Z50_1 (.seq (.seq Z50_2 Z50_9) (.seq Z50_10 .ret)))) (postQ [.c 6 2 true] R) (env0 args) H) : ACall Try.prog n_Z50 args H R :=
  acall_of_wp mixed Try.func102 c_Z50 (by kernel_rfl) hl h
@[go_sem] def l_Z56_0 : List GOp := [⟨(some 2), .alloc [(.int .i64 0), (.sl none 0 0 true 0)], none⟩]
def Z56_0 : IR := .ops l_Z56_0
@[go_sem] theorem w_Z56_0 : wp P Z56_0 Q e H = wpL P l_Z56_0 (Q .normal) e H := idE rfl
@[go_sem] def l_Z56_1 : List GOp := [⟨(some 6), .mv (.t 0), none⟩,
    ⟨(some 7), .bslc 1 7 [(.int .i64 0)] [(0, (.c (.int .i64 2))), (1, (.c (.int .i64 3))), (2, (.c (.int .i64 4))), (3, (.c (.int .i64 5))), (4, (.c (.int .i64 6))), (5, (.c (.int .i64 1))), (6, (.c (.int .i64 0)))], none⟩,
    ⟨(some 8), .call (n_Z67) [(.t 6), (.t 7)], none⟩,
    ⟨(some 3), .mv (.t 8), none⟩]
def Z56_1 : IR := .ops l_Z56_1
@[go_sem] theorem w_Z56_1 : wp P Z56_1 Q e H = wpL P l_Z56_1 (Q .normal) e H := idE rfl
@[go_sem] def l_Z56_2 : List GOp := [⟨(some 9), .mv (.t 0), none⟩,
    ⟨(some 10), .mv (.t 3), none⟩,
    ⟨(some 11), .mv (.t 0), none⟩,
    ⟨(some 12), .bslc 1 7 [(.int .i64 0)] [(0, (.c (.int .i64 3))), (1, (.c (.int .i64 6))), (2, (.c (.int .i64 9))), (3, (.c (.int .i64 12))), (4, (.c (.int .i64 2))), (5, (.c (.int .i64 15))), (6, (.c (.int .i64 0)))], none⟩,
    ⟨(some 13), .call (n_Z67) [(.t 11), (.t 12)], none⟩,
    ⟨(some 14), .call (n_Z50) [(.t 9), (.t 10), (.t 13)], none⟩,
    ⟨(some 4), .alloc [(.int .i64 0), (.sl none 0 0 true 0)], none⟩,
    ⟨none, .store (.t 4) 2 (.t 14), none⟩]
def Z56_2 : IR := .ops l_Z56_2
@[go_sem] theorem w_Z56_2 : wp P Z56_2 Q e H = wpL P l_Z56_2 (Q .normal) e H := idE rfl
@[go_sem] def l_Z56_3 : List GOp := [⟨(some 15), .mv (.t 0), none⟩,
    ⟨(some 16), .call (n_Z68) [(.t 15), (.c (.int .i64 14))], none⟩,
    ⟨(some 17), .bin .eql (.t 16) (.c (.int .i64 0)), none⟩]
def Z56_3 : IR := .ops l_Z56_3
@[go_sem] theorem w_Z56_3 : wp P Z56_3 Q e H = wpL P l_Z56_3 (Q .normal) e H := idE rfl
@[go_sem] def l_Z56_4 : List GOp := [⟨(some 18), .mv (.t 0), none⟩,
    ⟨(some 19), .call (n_Z68) [(.t 18), (.c (.int .i64 4))], none⟩,
    ⟨(some 5), .mv (.t 19), none⟩]
def Z56_4 : IR := .ops l_Z56_4
@[go_sem] theorem w_Z56_4 : wp P Z56_4 Q e H = wpL P l_Z56_4 (Q .normal) e H := idE rfl
@[go_sem] def l_Z56_5 : List GOp := [⟨(some 20), .mv (.t 5), none⟩,
    ⟨(some 21), .bin .eql (.t 20) (.c (.int .i64 0)), none⟩]
def Z56_5 : IR := .ops l_Z56_5
@[go_sem] theorem w_Z56_5 : wp P Z56_5 Q e H = wpL P l_Z56_5 (Q .normal) e H := idE rfl
@[go_sem] def l_Z56_6 : List GOp := [⟨(some 22), .mv (.t 0), none⟩,
    ⟨(some 23), .bslc 1 3 [(.int .i64 0)] [(0, (.c (.int .i64 (-1)))), (1, (.c (.int .i64 701))), (2, (.c (.int .i64 0)))], none⟩,
    ⟨(some 24), .call (n_Z67) [(.t 22), (.t 23)], none⟩,
    ⟨(some 25), .faddr (.t 4) 0, none⟩,
    ⟨none, .store (.t 25) 1 (.t 24), none⟩]
def Z56_6 : IR := .ops l_Z56_6
@[go_sem] theorem w_Z56_6 : wp P Z56_6 Q e H = wpL P l_Z56_6 (Q .normal) e H := idE rfl
@[go_sem] def l_Z56_7 : List GOp := [⟨(some 26), .mv (.t 5), none⟩,
    ⟨(some 27), .bin .eql (.t 26) (.c (.int .i64 1)), none⟩]
def Z56_7 : IR := .ops l_Z56_7
@[go_sem] theorem w_Z56_7 : wp P Z56_7 Q e H = wpL P l_Z56_7 (Q .normal) e H := idE rfl
@[go_sem] def l_Z56_8 : List GOp := [⟨(some 28), .faddr (.t 4) 1, none⟩,
    ⟨(some 29), .load (.t 28) 1 false, none⟩,
    ⟨(some 30), .bslc 1 2 [(.int .i64 0)] [(0, (.c (.int .i64 2))), (1, (.c (.int .i64 1)))], none⟩,
    ⟨(some 31), .bslo 1 1 [(.sl none 0 0 true 0)] [(0, (.t 30))], none⟩,
    ⟨(some 32), .app 1 24 (.t 29) (.t 31), none⟩,
    ⟨(some 33), .faddr (.t 4) 1, none⟩,
    ⟨none, .store (.t 33) 1 (.t 32), none⟩]
def Z56_8 : IR := .ops l_Z56_8
@[go_sem] theorem w_Z56_8 : wp P Z56_8 Q e H = wpL P l_Z56_8 (Q .normal) e H := idE rfl
@[go_sem] def l_Z56_9 : List GOp := [⟨(some 34), .mv (.t 5), none⟩,
    ⟨(some 35), .bin .eql (.t 34) (.c (.int .i64 2)), none⟩]
def Z56_9 : IR := .ops l_Z56_9
@[go_sem] theorem w_Z56_9 : wp P Z56_9 Q e H = wpL P l_Z56_9 (Q .normal) e H := idE rfl
def l_Z56_10 : List GOp := [⟨(some 36), .faddr (.t 4) 1, none⟩,
    ⟨(some 37), .load (.t 36) 1 false, none⟩,
    ⟨(some 38), .mv (.t 0), none⟩,
    ⟨(some 39), .mv (.t 3), none⟩,
    ⟨(some 40), .bin .add (.t 39) (.c (.int .i64 1)), none⟩,
    ⟨(some 41), .mv (.t 3), none⟩,
    ⟨(some 42), .un .neg (.t 41), none⟩,
    ⟨(some 43), .bin .sub (.t 42) (.c (.int .i64 1)), none⟩,
    ⟨(some 44), .bslc 1 3 [(.int .i64 0)] [(0, (.c (.int .i64 0))), (1, (.t 40)), (2, (.t 43))], none⟩,
    ⟨(some 45), .call (n_Z67) [(.t 38), (.t 44)], none⟩,
    ⟨(some 46), .bslc 1 1 [(.int .i64 0)] [(0, (.t 45))], none⟩,
    ⟨(some 47), .bslo 1 1 [(.sl none 0 0 true 0)] [(0, (.t 46))], none⟩,
    ⟨(some 48), .app 1 24 (.t 37) (.t 47), none⟩,
    ⟨(some 49), .faddr (.t 4) 1, none⟩,
    ⟨none, .store (.t 49) 1 (.t 48), none⟩]
@[go_sem] theorem g_Z56_10_0 : gAt l_Z56_10 0 = ⟨(some 36), .faddr (.t 4) 1, none⟩ := idE rfl
@[go_sem] theorem g_Z56_10_1 : gAt l_Z56_10 1 = ⟨(some 37), .load (.t 36) 1 false, none⟩ := idE rfl
@[go_sem] theorem g_Z56_10_2 : gAt l_Z56_10 2 = ⟨(some 38), .mv (.t 0), none⟩ := idE rfl
@[go_sem] theorem g_Z56_10_3 : gAt l_Z56_10 3 = ⟨(some 39), .mv (.t 3), none⟩ := idE rfl
@[go_sem] theorem g_Z56_10_4 : gAt l_Z56_10 4 = ⟨(some 40), .bin .add (.t 39) (.c (.int .i64 1)), none⟩ := idE rfl
@[go_sem] theorem g_Z56_10_5 : gAt l_Z56_10 5 = ⟨(some 41), .mv (.t 3), none⟩ := idE rfl
@[go_sem] theorem g_Z56_10_6 : gAt l_Z56_10 6 = ⟨(some 42), .un .neg (.t 41), none⟩ := idE rfl
@[go_sem] theorem g_Z56_10_7 : gAt l_Z56_10 7 = ⟨(some 43), .bin .sub (.t 42) (.c (.int .i64 1)), none⟩ := idE rfl
@[go_sem] theorem g_Z56_10_8 : gAt l_Z56_10 8 = ⟨(some 44), .bslc 1 3 [(.int .i64 0)] [(0, (.c (.int .i64 0))), (1, (.t 40)), (2, (.t 43))], none⟩ := idE rfl
@[go_sem] theorem g_Z56_10_9 : gAt l_Z56_10 9 = ⟨(some 45), .call (n_Z67) [(.t 38), (.t 44)], none⟩ := idE rfl
@[go_sem] theorem g_Z56_10_10 : gAt l_Z56_10 10 = ⟨(some 46), .bslc 1 1 [(.int .i64 0)] [(0, (.t 45))], none⟩ := idE rfl
@[go_sem] theorem g_Z56_10_11 : gAt l_Z56_10 11 = ⟨(some 47), .bslo 1 1 [(.sl none 0 0 true 0)] [(0, (.t 46))], none⟩ := idE rfl
@[go_sem] theorem g_Z56_10_12 : gAt l_Z56_10 12 = ⟨(some 48), .app 1 24 (.t 37) (.t 47), none⟩ := idE rfl
@[go_sem] theorem g_Z56_10_13 : gAt l_Z56_10 13 = ⟨(some 49), .faddr (.t 4) 1, none⟩ := idE rfl
@[go_sem] theorem g_Z56_10_14 : gAt l_Z56_10 14 = ⟨none, .store (.t 49) 1 (.t 48), none⟩ := idE rfl
def Z56_10 : IR := .dops l_Z56_10 [(0, []), (1, []), (2, []), (3, []), (4, []), (5, []), (6, []), (7, []), (8, []), (9, [1]), (10, []), (11, [1]), (12, []), (13, []), (14, [])]
@[go_sem] theorem w_Z56_10 : wp P Z56_10 Q e H = wpD P l_Z56_10 [(0, []), (1, []), (2, []), (3, []), (4, []), (5, []), (6, []), (7, []), (8, []), (9, [1]), (10, []), (11, [1]), (12, []), (13, []), (14, [])] (Q .normal) e H := idE rfl
@[go_sem] def l_Z56_11 : List GOp := [⟨(some 50), .faddr (.t 4) 1, none⟩,
    ⟨(some 51), .load (.t 50) 1 false, none⟩,
    ⟨(some 52), .bslc 1 2 [(.int .i64 0)] [(0, (.c (.int .i64 1))), (1, (.c (.int .i64 (-1))))], none⟩,
    ⟨(some 53), .bslo 1 1 [(.sl none 0 0 true 0)] [(0, (.t 52))], none⟩,
    ⟨(some 54), .app 1 24 (.t 51) (.t 53), none⟩,
    ⟨(some 55), .faddr (.t 4) 1, none⟩,
    ⟨none, .store (.t 55) 1 (.t 54), none⟩]
def Z56_11 : IR := .ops l_Z56_11
@[go_sem] theorem w_Z56_11 : wp P Z56_11 Q e H = wpL P l_Z56_11 (Q .normal) e H := idE rfl
def Z56_12 : IR := .cond (.t 35) Z56_10 Z56_11
@[go_sem] theorem w_Z56_12 : wp P Z56_12 Q e H = condW P ((.t 35) : X) Z56_10 Z56_11 Q e H := idE rfl
def Z56_13 : IR := .cond (.t 27) Z56_8 (.seq Z56_9 Z56_12)
@[go_sem] theorem w_Z56_13 : wp P Z56_13 Q e H = condW P ((.t 27) : X) Z56_8 (.seq Z56_9 Z56_12) Q e H := idE rfl
def Z56_14 : IR := .cond (.t 21) Z56_6 (.seq Z56_7 Z56_13)
@[go_sem] theorem w_Z56_14 : wp P Z56_14 Q e H = condW P ((.t 21) : X) Z56_6 (.seq Z56_7 Z56_13) Q e H := idE rfl
def Z56_15 : IR := .cond (.t 17) (.seq Z56_4 (.seq Z56_5 Z56_14)) .skip
@[go_sem] theorem w_Z56_15 : wp P Z56_15 Q e H = condW P ((.t 17) : X) (.seq Z56_4 (.seq Z56_5 Z56_14)) .skip Q e H := idE rfl
@[go_sem] def l_Z56_16 : List GOp := [⟨(some 56), .load (.t 4) 2 true, none⟩,
    ⟨none, .store (.t 2) 2 (.t 56), none⟩]
def Z56_16 : IR := .ops l_Z56_16
@[go_sem] theorem w_Z56_16 : wp P Z56_16 Q e H = wpL P l_Z56_16 (Q .normal) e H := idE rfl
def F_Z56 : IFn := ⟨1, 57, [.c 2 2 true], (.seq Z56_0 (.seq Z56_1 (.seq Z56_2 (.seq (.seq Z56_3 Z56_15) (.seq Z56_16 .ret)))))⟩
theorem c_Z56 : compFn Try.prog [(0, [], []), (1, [], []), (2, [], []), (3, [], []), (4, [], []), (5, [], []), (6, [], []), (7, [], []), (8, [], []), (9, [], []), (10, [(0, []), (1, []), (2, []), (3, []), (4, []), (5, []), (6, []), (7, []), (8, []), (9, [1]), (10, []), (11, [1]), (12, []), (13, []), (14, [])], []), (11, [], []), (12, [], [])] Try.f100 = some F_Z56 := by kernel_rfl
theorem a_Z56 (hl : args.length = 1) (h : wp Try.prog (.seq Z56_0 (.seq Z56_1 (.seq Z56_2 (.seq (.seq Z56_3 Z56_15) (.seq Z56_16 .ret))))) (postQ [.c 2 2 true] R) (env0 args) H) : ACall Try.prog n_Z56 args H R :=
  acall_of_wp mixed Try.func100 c_Z56 (by kernel_rfl) hl h
@[go_sem] def l_Z60_0 : List GOp := [⟨(some 2), .alloc [(.int .i64 0), (.sl none 0 0 true 0)], none⟩]
def Z60_0 : IR := .ops l_Z60_0
@[go_sem] theorem w_Z60_0 : wp P Z60_0 Q e H = wpL P l_Z60_0 (Q .normal) e H := idE rfl
@[go_sem] def l_Z60_1 : List GOp := [⟨(some 5), .mv (.t 0), none⟩,
    ⟨(some 6), .call (n_Z68) [(.t 5), (.c (.int .i64 4))], none⟩,
    ⟨(some 7), .bin .eql (.t 6) (.c (.int .i64 0)), none⟩]
def Z60_1 : IR := .ops l_Z60_1
@[go_sem] theorem w_Z60_1 : wp P Z60_1 Q e H = wpL P l_Z60_1 (Q .normal) e H := idE rfl
@[go_sem] def l_Z60_2 : List GOp := [⟨(some 8), .mv (.t 0), none⟩,
    ⟨(some 9), .call (n_Z56) [(.t 8)], none⟩,
    ⟨none, .store (.t 2) 2 (.t 9), none⟩]
def Z60_2 : IR := .ops l_Z60_2
@[go_sem] theorem w_Z60_2 : wp P Z60_2 Q e H = wpL P l_Z60_2 (Q .normal) e H := idE rfl
def Z60_3 : IR := .cond (.t 7) (.seq Z60_2 .ret) .skip
@[go_sem] theorem w_Z60_3 : wp P Z60_3 Q e H = condW P ((.t 7) : X) (.seq Z60_2 .ret) .skip Q e H := idE rfl
@[go_sem] def l_Z60_4 : List GOp := [⟨(some 10), .mv (.t 0), none⟩,
    ⟨(some 11), .bslc 1 5 [(.int .i64 0)] [(0, (.c (.int .i64 3))), (1, (.c (.int .i64 4))), (2, (.c (.int .i64 5))), (3, (.c (.int .i64 6))), (4, (.c (.int .i64 2)))], none⟩,
    ⟨(some 12), .call (n_Z67) [(.t 10), (.t 11)], none⟩,
    ⟨(some 3), .mv (.t 12), none⟩]
def Z60_4 : IR := .ops l_Z60_4
@[go_sem] theorem w_Z60_4 : wp P Z60_4 Q e H = wpL P l_Z60_4 (Q .normal) e H := idE rfl
@[go_sem] def l_Z60_5 : List GOp := [⟨(some 13), .mv (.t 0), none⟩,
    ⟨(some 14), .mv (.t 3), none⟩,
    ⟨(some 15), .mv (.t 0), none⟩,
    ⟨(some 16), .bslc 1 5 [(.int .i64 0)] [(0, (.c (.int .i64 8))), (1, (.c (.int .i64 12))), (2, (.c (.int .i64 16))), (3, (.c (.int .i64 20))), (4, (.c (.int .i64 4)))], none⟩,
    ⟨(some 17), .call (n_Z67) [(.t 15), (.t 16)], none⟩,
    ⟨(some 18), .call (n_Z50) [(.t 13), (.t 14), (.t 17)], none⟩,
    ⟨(some 4), .alloc [(.int .i64 0), (.sl none 0 0 true 0)], none⟩,
    ⟨none, .store (.t 4) 2 (.t 18), none⟩]
def Z60_5 : IR := .ops l_Z60_5
@[go_sem] theorem w_Z60_5 : wp P Z60_5 Q e H = wpL P l_Z60_5 (Q .normal) e H := idE rfl
@[go_sem] def l_Z60_6 : List GOp := [⟨(some 19), .mv (.t 0), none⟩,
    ⟨(some 20), .call (n_Z68) [(.t 19), (.c (.int .i64 6))], none⟩,
    ⟨(some 21), .bin .eql (.t 20) (.c (.int .i64 0)), none⟩]
def Z60_6 : IR := .ops l_Z60_6
@[go_sem] theorem w_Z60_6 : wp P Z60_6 Q e H = wpL P l_Z60_6 (Q .normal) e H := idE rfl
@[go_sem] def l_Z60_7 : List GOp := [⟨(some 22), .faddr (.t 4) 1, none⟩,
    ⟨(some 23), .load (.t 22) 1 false, none⟩,
    ⟨(some 24), .bslc 1 0 [(.int .i64 0)] [], none⟩,
    ⟨(some 25), .bslo 1 1 [(.sl none 0 0 true 0)] [(0, (.t 24))], none⟩,
    ⟨(some 26), .app 1 24 (.t 23) (.t 25), none⟩,
    ⟨(some 27), .faddr (.t 4) 1, none⟩,
    ⟨none, .store (.t 27) 1 (.t 26), none⟩]
def Z60_7 : IR := .ops l_Z60_7
@[go_sem] theorem w_Z60_7 : wp P Z60_7 Q e H = wpL P l_Z60_7 (Q .normal) e H := idE rfl
def Z60_8 : IR := .cond (.t 21) Z60_7 .skip
@[go_sem] theorem w_Z60_8 : wp P Z60_8 Q e H = condW P ((.t 21) : X) Z60_7 .skip Q e H := idE rfl
@[go_sem] def l_Z60_9 : List GOp := [⟨(some 28), .load (.t 4) 2 true, none⟩,
    ⟨none, .store (.t 2) 2 (.t 28), none⟩]
def Z60_9 : IR := .ops l_Z60_9
@[go_sem] theorem w_Z60_9 : wp P Z60_9 Q e H = wpL P l_Z60_9 (Q .normal) e H := idE rfl
def F_Z60 : IFn := ⟨1, 29, [.c 2 2 true], (.seq Z60_0 (.seq (.seq Z60_1 Z60_3) (.seq Z60_4 (.seq Z60_5 (.seq (.seq Z60_6 Z60_8) (.seq Z60_9 .ret))))))⟩
theorem c_Z60 : compFn Try.prog [(0, [], []), (1, [], []), (2, [], []), (3, [], []), (4, [], []), (5, [], []), (6, [], []), (7, [], [])] Try.f65 = some F_Z60 := by kernel_rfl
theorem a_Z60 (hl : args.length = 1) (h : wp Try.prog (.seq Z60_0 (.seq (.seq Z60_1 Z60_3) (.seq Z60_4 (.seq Z60_5 (.seq (.seq Z60_6 Z60_8) (.seq Z60_9 .ret)))))) (postQ [.c 2 2 true] R) (env0 args) H) : ACall Try.prog n_Z60 args H R :=
  acall_of_wp mixed Try.func65 c_Z60 (by kernel_rfl) hl h
@[go_sem] def l_Z46_0 : List GOp := [⟨(some 2), .alloc [(.int .i64 0), (.sl none 0 0 true 0)], none⟩]
def Z46_0 : IR := .ops l_Z46_0
@[go_sem] theorem w_Z46_0 : wp P Z46_0 Q e H = wpL P l_Z46_0 (Q .normal) e H := idE rfl
@[go_sem] def l_Z46_1 : List GOp := [⟨(some 3), .mv (.t 0), none⟩,
    ⟨(some 4), .call (n_Z66) [(.t 3)], none⟩,
    ⟨(some 5), .call (n_Z60) [(.t 4)], none⟩,
    ⟨none, .store (.t 2) 2 (.t 5), none⟩]
def Z46_1 : IR := .ops l_Z46_1
@[go_sem] theorem w_Z46_1 : wp P Z46_1 Q e H = wpL P l_Z46_1 (Q .normal) e H := idE rfl
def F_Z46 : IFn := ⟨1, 6, [.c 2 2 true], (.seq Z46_0 (.seq Z46_1 .ret))⟩
theorem c_Z46 : compFn Try.prog [(0, [], []), (1, [], [])] Try.f39 = some F_Z46 := by kernel_rfl
theorem a_Z46 (hl : args.length = 1) (h : wp Try.prog (.seq Z46_0 (.seq Z46_1 .ret)) (postQ [.c 2 2 true] R) (env0 args) H) : ACall Try.prog n_Z46 args H R :=
  acall_of_wp mixed Try.func39 c_Z46 (by kernel_rfl) hl h
@[go_sem] def l_Z15_0 : List GOp := [⟨(some 6), .mv (.c (.bool false)), none⟩]
def Z15_0 : IR := .ops l_Z15_0
@[go_sem] theorem w_Z15_0 : wp P Z15_0 Q e H = wpL P l_Z15_0 (Q .normal) e H := idE rfl
@[go_sem] def l_Z15_1 : List GOp := [⟨(some 7), .mv (.t 0), none⟩,
    ⟨(some 8), .mv (.t 1), none⟩,
    ⟨(some 9), .bin .geq (.t 7) (.t 8), none⟩,
    ⟨(some 10), .mv (.t 9), none⟩,
    ⟨(some 11), .mv (.t 0), (some (10, true))⟩,
    ⟨(some 12), .mv (.t 2), (some (10, true))⟩,
    ⟨(some 13), .bin .leq (.t 11) (.t 12), (some (10, true))⟩,
    ⟨(some 14), .pick (.t 10) (.t 13) (.c (.bool false)), none⟩,
    ⟨(some 6), .mv (.t 14), none⟩]
def Z15_1 : IR := .ops l_Z15_1
@[go_sem] theorem w_Z15_1 : wp P Z15_1 Q e H = wpL P l_Z15_1 (Q .normal) e H := idE rfl
def F_Z15 : IFn := ⟨3, 15, [.t 6], (.seq Z15_0 (.seq Z15_1 .ret))⟩
theorem c_Z15 : compFn Try.prog [(0, [], []), (1, [], [])] Try.f59 = some F_Z15 := by kernel_rfl
theorem a_Z15 (hl : args.length = 3) (h : wp Try.prog (.seq Z15_0 (.seq Z15_1 .ret)) (postQ [.t 6] R) (env0 args) H) : ACall Try.prog n_Z15 args H R :=
  acall_of_wp mixed Try.func59 c_Z15 (by kernel_rfl) hl h
@[go_sem] def l_Z7_0 : List GOp := [⟨(some 2), .mv (.c (.int .i64 0)), none⟩]
def Z7_0 : IR := .ops l_Z7_0
@[go_sem] theorem w_Z7_0 : wp P Z7_0 Q e H = wpL P l_Z7_0 (Q .normal) e H := idE rfl
@[go_sem] def l_Z7_1 : List GOp := [⟨(some 3), .mv (.t 0), none⟩,
    ⟨(some 4), .mv (.t 0), none⟩,
    ⟨(some 5), .un .neg (.t 4), none⟩,
    ⟨(some 6), .mnx true (.t 3) (.t 5), none⟩,
    ⟨(some 2), .mv (.t 6), none⟩]
def Z7_1 : IR := .ops l_Z7_1
@[go_sem] theorem w_Z7_1 : wp P Z7_1 Q e H = wpL P l_Z7_1 (Q .normal) e H := idE rfl
def F_Z7 : IFn := ⟨1, 7, [.t 2], (.seq Z7_0 (.seq Z7_1 .ret))⟩
theorem c_Z7 : compFn Try.prog [(0, [], []), (1, [], [])] Try.f104 = some F_Z7 := by kernel_rfl
theorem a_Z7 (hl : args.length = 1) (h : wp Try.prog (.seq Z7_0 (.seq Z7_1 .ret)) (postQ [.t 2] R) (env0 args) H) : ACall Try.prog n_Z7 args H R :=
  acall_of_wp mixed Try.func104 c_Z7 (by kernel_rfl) hl h
@[go_sem] def l_Z3_0 : List GOp := [⟨(some 4), .mv (.c (.bool false)), none⟩]
def Z3_0 : IR := .ops l_Z3_0
@[go_sem] theorem w_Z3_0 : wp P Z3_0 Q e H = wpL P l_Z3_0 (Q .normal) e H := idE rfl
@[go_sem] def l_Z3_1 : List GOp := [⟨(some 7), .mv (.t 1), none⟩,
    ⟨(some 8), .call (n_Z15) [(.t 7), (.c (.int .i64 0)), (.c (.int .i64 700))], none⟩,
    ⟨(some 9), .un .not (.t 8), none⟩]
def Z3_1 : IR := .ops l_Z3_1
@[go_sem] theorem w_Z3_1 : wp P Z3_1 Q e H = wpL P l_Z3_1 (Q .normal) e H := idE rfl
@[go_sem] def l_Z3_2 : List GOp := [⟨(some 4), .mv (.c (.bool false)), none⟩]
def Z3_2 : IR := .ops l_Z3_2
@[go_sem] theorem w_Z3_2 : wp P Z3_2 Q e H = wpL P l_Z3_2 (Q .normal) e H := idE rfl
def Z3_3 : IR := .cond (.t 9) (.seq Z3_2 .ret) .skip
@[go_sem] theorem w_Z3_3 : wp P Z3_3 Q e H = condW P ((.t 9) : X) (.seq Z3_2 .ret) .skip Q e H := idE rfl
@[go_sem] def l_Z3_4 : List GOp := [⟨(some 10), .mv (.t 0), none⟩,
    ⟨(some 11), .len (.t 10), none⟩,
    ⟨(some 12), .mv (.c (.int .i64 0)), none⟩]
def Z3_4 : IR := .ops l_Z3_4
@[go_sem] theorem w_Z3_4 : wp P Z3_4 Q e H = wpL P l_Z3_4 (Q .normal) e H := idE rfl
@[go_sem] def l_Z3_5 : List GOp := [⟨(some 13), .bin .lss (.t 12) (.t 11), none⟩]
def Z3_5 : IR := .ops l_Z3_5
@[go_sem] theorem w_Z3_5 : wp P Z3_5 Q e H = wpL P l_Z3_5 (Q .normal) e H := idE rfl
def Z3_6 : IR := .cond (.t 13) .skip (.exit 0)
@[go_sem] theorem w_Z3_6 : wp P Z3_6 Q e H = condW P ((.t 13) : X) .skip (.exit 0) Q e H := idE rfl
@[go_sem] def l_Z3_7 : List GOp := [⟨(some 14), .mv (.t 12), none⟩,
    ⟨(some 15), .iaddr (.t 10) (.t 12) 1, none⟩,
    ⟨(some 16), .load (.t 15) 1 false, none⟩,
    ⟨(some 5), .mv (.t 14), none⟩,
    ⟨(some 6), .mv (.t 16), none⟩]
def Z3_7 : IR := .ops l_Z3_7
@[go_sem] theorem w_Z3_7 : wp P Z3_7 Q e H = wpL P l_Z3_7 (Q .normal) e H := idE rfl
@[go_sem] def l_Z3_8 : List GOp := [⟨(some 17), .mv (.t 6), none⟩,
    ⟨(some 18), .mv (.t 1), none⟩,
    ⟨(some 19), .un .neg (.t 18), none⟩,
    ⟨(some 20), .mv (.t 1), none⟩,
    ⟨(some 21), .call (n_Z15) [(.t 17), (.t 19), (.t 20)], none⟩,
    ⟨(some 22), .un .not (.t 21), none⟩,
    ⟨(some 23), .mv (.t 22), none⟩,
    ⟨(some 24), .mv (.t 6), (some (23, false))⟩,
    ⟨(some 25), .bin .eql (.t 24) (.c (.int .i64 0)), (some (23, false))⟩,
    ⟨(some 26), .pick (.t 23) (.c (.bool true)) (.t 25), none⟩,
    ⟨(some 27), .mv (.t 26), none⟩,
    ⟨(some 28), .mv (.t 5), (some (27, false))⟩,
    ⟨(some 29), .bin .gtr (.t 28) (.c (.int .i64 0)), (some (27, false))⟩,
    ⟨(some 30), .mv (.t 29), (some (27, false))⟩,
    ⟨(some 31), .mv (.t 0), (some (30, true))⟩,
    ⟨(some 32), .mv (.t 5), (some (30, true))⟩,
    ⟨(some 33), .bin .sub (.t 32) (.c (.int .i64 1)), (some (30, true))⟩,
    ⟨(some 34), .iaddr (.t 31) (.t 33) 1, (some (30, true))⟩,
    ⟨(some 35), .load (.t 34) 1 false, (some (30, true))⟩,
    ⟨(some 36), .call (n_Z7) [(.t 35)], (some (30, true))⟩,
    ⟨(some 37), .mv (.t 6), (some (30, true))⟩,
    ⟨(some 38), .call (n_Z7) [(.t 37)], (some (30, true))⟩,
    ⟨(some 39), .bin .geq (.t 36) (.t 38), (some (30, true))⟩,
    ⟨(some 40), .pick (.t 30) (.t 39) (.c (.bool false)), (some (27, false))⟩,
    ⟨(some 41), .pick (.t 27) (.c (.bool true)) (.t 40), none⟩]
def Z3_8 : IR := .ops l_Z3_8
@[go_sem] theorem w_Z3_8 : wp P Z3_8 Q e H = wpL P l_Z3_8 (Q .normal) e H := idE rfl
@[go_sem] def l_Z3_9 : List GOp := [⟨(some 4), .mv (.c (.bool false)), none⟩]
def Z3_9 : IR := .ops l_Z3_9
@[go_sem] theorem w_Z3_9 : wp P Z3_9 Q e H = wpL P l_Z3_9 (Q .normal) e H := idE rfl
def Z3_10 : IR := .cond (.t 41) (.seq Z3_9 .ret) .skip
@[go_sem] theorem w_Z3_10 : wp P Z3_10 Q e H = condW P ((.t 41) : X) (.seq Z3_9 .ret) .skip Q e H := idE rfl
def Z3_11 : IR := .block 1 (.seq Z3_7 (.seq Z3_8 Z3_10))
@[go_sem] theorem w_Z3_11 : wp P Z3_11 Q e H = wp P (.seq Z3_7 (.seq Z3_8 Z3_10)) (blockQ 1 Q) e H := idE rfl
@[go_sem] def l_Z3_12 : List GOp := [⟨(some 42), .bin .add (.t 12) (.c (.int .i64 1)), none⟩,
    ⟨(some 12), .mv (.t 42), none⟩]
def Z3_12 : IR := .ops l_Z3_12
@[go_sem] theorem w_Z3_12 : wp P Z3_12 Q e H = wpL P l_Z3_12 (Q .normal) e H := idE rfl
def Z3_13 : IR := .loop (.seq Z3_5 (.seq Z3_6 (.seq Z3_11 Z3_12)))
def Z3_14 : IR := .block 0 Z3_13
@[go_sem] theorem w_Z3_14 : wp P Z3_14 Q e H = wp P Z3_13 (blockQ 0 Q) e H := idE rfl
@[go_sem] def l_Z3_15 : List GOp := [⟨(some 4), .mv (.c (.bool true)), none⟩]
def Z3_15 : IR := .ops l_Z3_15
@[go_sem] theorem w_Z3_15 : wp P Z3_15 Q e H = wpL P l_Z3_15 (Q .normal) e H := idE rfl
def F_Z3 : IFn := ⟨2, 43, [.t 4], (.seq Z3_0 (.seq (.seq Z3_1 Z3_3) (.seq (.seq Z3_4 Z3_14) (.seq Z3_15 .ret))))⟩
theorem c_Z3 : compFn Try.prog [(0, [], []), (1, [], []), (2, [], []), (3, [], []), (4, [], []), (5, [], []), (6, [], []), (7, [], []), (8, [], []), (9, [], [])] Try.f70 = some F_Z3 := by kernel_rfl
theorem a_Z3 (hl : args.length = 2) (h : wp Try.prog (.seq Z3_0 (.seq (.seq Z3_1 Z3_3) (.seq (.seq Z3_4 Z3_14) (.seq Z3_15 .ret)))) (postQ [.t 4] R) (env0 args) H) : ACall Try.prog n_Z3 args H R :=
  acall_of_wp mixed Try.func70 c_Z3 (by kernel_rfl) hl h
@[go_sem] def l_Z4_1_0 : List GOp := [⟨(some 3), .mv (.c (.bool false)), none⟩]
def Z4_1_0 : IR := .ops l_Z4_1_0
@[go_sem] theorem w_Z4_1_0 : wp P Z4_1_0 Q e H = wpL P l_Z4_1_0 (Q .normal) e H := idE rfl
@[go_sem] def l_Z4_1_1 : List GOp := [⟨(some 4), .mv (.t 0), none⟩,
    ⟨(some 5), .faddr (.t 1) 0, none⟩,
    ⟨(some 6), .load (.t 5) 1 false, none⟩,
    ⟨(some 7), .call (n_Z3) [(.t 4), (.t 6)], none⟩,
    ⟨(some 8), .un .not (.t 7), none⟩,
    ⟨(some 3), .mv (.t 8), none⟩]
def Z4_1_1 : IR := .ops l_Z4_1_1
@[go_sem] theorem w_Z4_1_1 : wp P Z4_1_1 Q e H = wpL P l_Z4_1_1 (Q .normal) e H := idE rfl
def F_Z4_1 : IFn := ⟨2, 9, [.t 3], (.seq Z4_1_0 (.seq Z4_1_1 .ret))⟩
theorem c_Z4_1 : compFn Try.prog [(0, [], []), (1, [], [])] Try.f69 = some F_Z4_1 := by kernel_rfl
theorem a_Z4_1 (hl : args.length = 2) (h : wp Try.prog (.seq Z4_1_0 (.seq Z4_1_1 .ret)) (postQ [.t 3] R) (env0 args) H) : ACall Try.prog n_Z4_1 args H R :=
  acall_of_wp mixed Try.func69 c_Z4_1 (by kernel_rfl) hl h
@[go_sem] def l_Z27_0 : List GOp := [⟨(some 4), .mv (.c (.int .i64 0)), none⟩]
def Z27_0 : IR := .ops l_Z27_0
@[go_sem] theorem w_Z27_0 : wp P Z27_0 Q e H = wpL P l_Z27_0 (Q .normal) e H := idE rfl
@[go_sem] def l_Z27_1 : List GOp := [⟨(some 6), .mv (.t 0), none⟩,
    ⟨(some 7), .len (.t 6), none⟩,
    ⟨(some 8), .mv (.c (.int .i64 0)), none⟩]
def Z27_1 : IR := .ops l_Z27_1
@[go_sem] theorem w_Z27_1 : wp P Z27_1 Q e H = wpL P l_Z27_1 (Q .normal) e H := idE rfl
@[go_sem] def l_Z27_2 : List GOp := [⟨(some 9), .bin .lss (.t 8) (.t 7), none⟩]
def Z27_2 : IR := .ops l_Z27_2
@[go_sem] theorem w_Z27_2 : wp P Z27_2 Q e H = wpL P l_Z27_2 (Q .normal) e H := idE rfl
def Z27_3 : IR := .cond (.t 9) .skip (.exit 0)
@[go_sem] theorem w_Z27_3 : wp P Z27_3 Q e H = condW P ((.t 9) : X) .skip (.exit 0) Q e H := idE rfl
@[go_sem] def l_Z27_4 : List GOp := [⟨(some 10), .mv (.t 8), none⟩,
    ⟨(some 5), .mv (.t 10), none⟩]
def Z27_4 : IR := .ops l_Z27_4
@[go_sem] theorem w_Z27_4 : wp P Z27_4 Q e H = wpL P l_Z27_4 (Q .normal) e H := idE rfl
@[go_sem] def l_Z27_5 : List GOp := [⟨(some 11), .mv (.t 1), none⟩,
    ⟨(some 12), .mv (.t 0), none⟩,
    ⟨(some 13), .mv (.t 5), none⟩,
    ⟨(some 14), .iaddr (.t 12) (.t 13) 1, none⟩,
    ⟨(some 15), .load (.t 14) 1 false, none⟩,
    ⟨(some 16), .callv (.t 11) [(.t 15)], none⟩]
def Z27_5 : IR := .ops l_Z27_5
@[go_sem] theorem w_Z27_5 : wp P Z27_5 Q e H = wpL P l_Z27_5 (Q .normal) e H := idE rfl
@[go_sem] def l_Z27_6 : List GOp := [⟨(some 17), .mv (.t 5), none⟩,
    ⟨(some 4), .mv (.t 17), none⟩]
def Z27_6 : IR := .ops l_Z27_6
@[go_sem] theorem w_Z27_6 : wp P Z27_6 Q e H = wpL P l_Z27_6 (Q .normal) e H := idE rfl
def Z27_7 : IR := .cond (.t 16) (.seq Z27_6 .ret) .skip
@[go_sem] theorem w_Z27_7 : wp P Z27_7 Q e H = condW P ((.t 16) : X) (.seq Z27_6 .ret) .skip Q e H := idE rfl
def Z27_8 : IR := .block 1 (.seq Z27_4 (.seq Z27_5 Z27_7))
@[go_sem] theorem w_Z27_8 : wp P Z27_8 Q e H = wp P (.seq Z27_4 (.seq Z27_5 Z27_7)) (blockQ 1 Q) e H := idE rfl
@[go_sem] def l_Z27_9 : List GOp := [⟨(some 18), .bin .add (.t 8) (.c (.int .i64 1)), none⟩,
    ⟨(some 8), .mv (.t 18), none⟩]
def Z27_9 : IR := .ops l_Z27_9
@[go_sem] theorem w_Z27_9 : wp P Z27_9 Q e H = wpL P l_Z27_9 (Q .normal) e H := idE rfl
def Z27_10 : IR := .loop (.seq Z27_2 (.seq Z27_3 (.seq Z27_8 Z27_9)))
def Z27_11 : IR := .block 0 Z27_10
@[go_sem] theorem w_Z27_11 : wp P Z27_11 Q e H = wp P Z27_10 (blockQ 0 Q) e H := idE rfl
@[go_sem] def l_Z27_12 : List GOp := [⟨(some 4), .mv (.c (.int .i64 (-1))), none⟩]
def Z27_12 : IR := .ops l_Z27_12
@[go_sem] theorem w_Z27_12 : wp P Z27_12 Q e H = wpL P l_Z27_12 (Q .normal) e H := idE rfl
def F_Z27 : IFn := ⟨2, 19, [.t 4], (.seq Z27_0 (.seq (.seq Z27_1 Z27_11) (.seq Z27_12 .ret)))⟩
theorem c_Z27 : compFn Try.prog [(0, [], []), (1, [], []), (2, [], []), (3, [], []), (4, [], []), (5, [], []), (6, [], []), (7, [], [])] Try.f103 = some F_Z27 := by kernel_rfl
theorem a_Z27 (hl : args.length = 2) (h : wp Try.prog (.seq Z27_0 (.seq (.seq Z27_1 Z27_11) (.seq Z27_12 .ret))) (postQ [.t 4] R) (env0 args) H) : ACall Try.prog n_Z27 args H R :=
  acall_of_wp mixed Try.func103 c_Z27 (by kernel_rfl) hl h
@[go_sem] def l_Z26_0 : List GOp := [⟨(some 4), .mv (.c (.bool false)), none⟩]
def Z26_0 : IR := .ops l_Z26_0
@[go_sem] theorem w_Z26_0 : wp P Z26_0 Q e H = wpL P l_Z26_0 (Q .normal) e H := idE rfl
@[go_sem] def l_Z26_1 : List GOp := [⟨(some 5), .mv (.t 0), none⟩,
    ⟨(some 6), .mv (.t 1), none⟩,
    ⟨(some 7), .call (n_Z27) [(.t 5), (.t 6)], none⟩,
    ⟨(some 8), .bin .geq (.t 7) (.c (.int .i64 0)), none⟩,
    ⟨(some 4), .mv (.t 8), none⟩]
def Z26_1 : IR := .ops l_Z26_1
@[go_sem] theorem w_Z26_1 : wp P Z26_1 Q e H = wpL P l_Z26_1 (Q .normal) e H := idE rfl
def F_Z26 : IFn := ⟨2, 9, [.t 4], (.seq Z26_0 (.seq Z26_1 .ret))⟩
theorem c_Z26 : compFn Try.prog [(0, [], []), (1, [], [])] Try.f68 = some F_Z26 := by kernel_rfl
theorem a_Z26 (hl : args.length = 2) (h : wp Try.prog (.seq Z26_0 (.seq Z26_1 .ret)) (postQ [.t 4] R) (env0 args) H) : ACall Try.prog n_Z26 args H R :=
  acall_of_wp mixed Try.func68 c_Z26 (by kernel_rfl) hl h
@[go_sem] def l_Z4_0 : List GOp := [⟨(some 1), .box (.t 0), none⟩,
    ⟨(some 2), .mv (.c (.bool false)), none⟩]
def Z4_0 : IR := .ops l_Z4_0
@[go_sem] theorem w_Z4_0 : wp P Z4_0 Q e H = wpL P l_Z4_0 (Q .normal) e H := idE rfl
@[go_sem] def l_Z4_1 : List GOp := [⟨(some 3), .faddr (.t 1) 0, none⟩,
    ⟨(some 4), .load (.t 3) 1 false, none⟩,
    ⟨(some 5), .call (n_Z15) [(.t 4), (.c (.int .i64 0)), (.c (.int .i64 700))], none⟩,
    ⟨(some 6), .mv (.t 5), none⟩,
    ⟨(some 7), .faddr (.t 1) 1, (some (6, true))⟩,
    ⟨(some 8), .load (.t 7) 1 false, (some (6, true))⟩,
    ⟨(some 9), .len (.t 8), (some (6, true))⟩,
    ⟨(some 10), .bin .leq (.t 9) (.c (.int .i64 2500)), (some (6, true))⟩,
    ⟨(some 11), .pick (.t 6) (.t 10) (.c (.bool false)), none⟩,
    ⟨(some 12), .mv (.t 11), none⟩,
    ⟨(some 13), .faddr (.t 1) 1, (some (12, true))⟩,
    ⟨(some 14), .load (.t 13) 1 false, (some (12, true))⟩,
    ⟨(some 15), .mkfn (n_Z4_1) [(.t 1)], (some (12, true))⟩,
    ⟨(some 16), .call (n_Z26) [(.t 14), (.t 15)], (some (12, true))⟩,
    ⟨(some 17), .un .not (.t 16), (some (12, true))⟩,
    ⟨(some 18), .pick (.t 12) (.t 17) (.c (.bool false)), none⟩,
    ⟨(some 2), .mv (.t 18), none⟩]
def Z4_1 : IR := .ops l_Z4_1
@[go_sem] theorem w_Z4_1 : wp P Z4_1 Q e H = wpL P l_Z4_1 (Q .normal) e H := idE rfl
def F_Z4 : IFn := ⟨1, 19, [.t 2], (.seq Z4_0 (.seq Z4_1 .ret))⟩
theorem c_Z4 : compFn Try.prog [(0, [], []), (1, [], [])] Try.f27 = some F_Z4 := by kernel_rfl
theorem a_Z4 (hl : args.length = 1) (h : wp Try.prog (.seq Z4_0 (.seq Z4_1 .ret)) (postQ [.t 2] R) (env0 args) H) : ACall Try.prog n_Z4 args H R :=
  acall_of_wp mixed Try.func27 c_Z4 (by kernel_rfl) hl h
@[go_sem] def l_Z8_0 : List GOp := [⟨(some 2), .mv (.c (.int .i64 0)), none⟩]
def Z8_0 : IR := .ops l_Z8_0
@[go_sem] theorem w_Z8_0 : wp P Z8_0 Q e H = wpL P l_Z8_0 (Q .normal) e H := idE rfl
@[go_sem] def l_Z8_1 : List GOp := [⟨(some 3), .mv (.t 0), none⟩]
def Z8_1 : IR := .ops l_Z8_1
@[go_sem] theorem w_Z8_1 : wp P Z8_1 Q e H = wpL P l_Z8_1 (Q .normal) e H := idE rfl
@[go_sem] def l_Z8_2 : List GOp := [⟨(some 2), .mv (.c (.int .i64 1)), none⟩]
def Z8_2 : IR := .ops l_Z8_2
@[go_sem] theorem w_Z8_2 : wp P Z8_2 Q e H = wpL P l_Z8_2 (Q .normal) e H := idE rfl
def Z8_3 : IR := .cond (.t 3) (.seq Z8_2 .ret) .skip
@[go_sem] theorem w_Z8_3 : wp P Z8_3 Q e H = condW P ((.t 3) : X) (.seq Z8_2 .ret) .skip Q e H := idE rfl
@[go_sem] def l_Z8_4 : List GOp := [⟨(some 2), .mv (.c (.int .i64 0)), none⟩]
def Z8_4 : IR := .ops l_Z8_4
@[go_sem] theorem w_Z8_4 : wp P Z8_4 Q e H = wpL P l_Z8_4 (Q .normal) e H := idE rfl
def F_Z8 : IFn := ⟨1, 4, [.t 2], (.seq Z8_0 (.seq (.seq Z8_1 Z8_3) (.seq Z8_4 .ret)))⟩
theorem c_Z8 : compFn Try.prog [(0, [], []), (1, [], []), (2, [], []), (3, [], [])] Try.f107 = some F_Z8 := by kernel_rfl
theorem a_Z8 (hl : args.length = 1) (h : wp Try.prog (.seq Z8_0 (.seq (.seq Z8_1 Z8_3) (.seq Z8_4 .ret))) (postQ [.t 2] R) (env0 args) H) : ACall Try.prog n_Z8 args H R :=
  acall_of_wp mixed Try.func107 c_Z8 (by kernel_rfl) hl h
@[go_sem] def l_Z17_0 : List GOp := [⟨(some 4), .mv (.c (.sl none 0 0 true 0)), none⟩]
def Z17_0 : IR := .ops l_Z17_0
@[go_sem] theorem w_Z17_0 : wp P Z17_0 Q e H = wpL P l_Z17_0 (Q .normal) e H := idE rfl
@[go_sem] def l_Z17_1 : List GOp := [⟨(some 8), .mv (.t 0), none⟩,
    ⟨(some 9), .bin .add (.t 8) (.c (.int .i64 1)), none⟩,
    ⟨(some 10), .mks [(.int .i64 0)] 8 (.t 9), none⟩,
    ⟨(some 5), .mv (.t 10), none⟩]
def Z17_1 : IR := .ops l_Z17_1
@[go_sem] theorem w_Z17_1 : wp P Z17_1 Q e H = wpL P l_Z17_1 (Q .normal) e H := idE rfl
@[go_sem] def l_Z17_2 : List GOp := [⟨(some 11), .mv (.t 1), none⟩,
    ⟨(some 12), .len (.t 11), none⟩,
    ⟨(some 13), .mv (.c (.int .i64 0)), none⟩]
def Z17_2 : IR := .ops l_Z17_2
@[go_sem] theorem w_Z17_2 : wp P Z17_2 Q e H = wpL P l_Z17_2 (Q .normal) e H := idE rfl
@[go_sem] def l_Z17_3 : List GOp := [⟨(some 14), .bin .lss (.t 13) (.t 12), none⟩]
def Z17_3 : IR := .ops l_Z17_3
@[go_sem] theorem w_Z17_3 : wp P Z17_3 Q e H = wpL P l_Z17_3 (Q .normal) e H := idE rfl
def Z17_4 : IR := .cond (.t 14) .skip (.exit 0)
@[go_sem] theorem w_Z17_4 : wp P Z17_4 Q e H = condW P ((.t 14) : X) .skip (.exit 0) Q e H := idE rfl
@[go_sem] def l_Z17_5 : List GOp := [⟨(some 15), .iaddr (.t 11) (.t 13) 1, none⟩,
    ⟨(some 16), .load (.t 15) 1 false, none⟩,
    ⟨(some 7), .mv (.t 16), none⟩]
def Z17_5 : IR := .ops l_Z17_5
@[go_sem] theorem w_Z17_5 : wp P Z17_5 Q e H = wpL P l_Z17_5 (Q .normal) e H := idE rfl
@[go_sem] def l_Z17_6 : List GOp := [⟨(some 17), .mv (.t 5), none⟩,
    ⟨(some 18), .mv (.t 7), none⟩,
    ⟨(some 19), .call (n_Z7) [(.t 18)], none⟩,
    ⟨(some 20), .mv (.t 7), none⟩,
    ⟨(some 21), .bin .lss (.t 20) (.c (.int .i64 0)), none⟩,
    ⟨(some 22), .call (n_Z8) [(.t 21)], none⟩,
    ⟨(some 23), .bin .mul (.c (.int .i64 2)) (.t 22), none⟩,
    ⟨(some 24), .bin .sub (.c (.int .i64 1)) (.t 23), none⟩,
    ⟨(some 25), .iaddr (.t 17) (.t 19) 1, none⟩,
    ⟨none, .store (.t 25) 1 (.t 24), none⟩]
def Z17_6 : IR := .ops l_Z17_6
@[go_sem] theorem w_Z17_6 : wp P Z17_6 Q e H = wpL P l_Z17_6 (Q .normal) e H := idE rfl
def Z17_7 : IR := .block 1 (.seq Z17_5 Z17_6)
@[go_sem] theorem w_Z17_7 : wp P Z17_7 Q e H = wp P (.seq Z17_5 Z17_6) (blockQ 1 Q) e H := idE rfl
@[go_sem] def l_Z17_8 : List GOp := [⟨(some 26), .bin .add (.t 13) (.c (.int .i64 1)), none⟩,
    ⟨(some 13), .mv (.t 26), none⟩]
def Z17_8 : IR := .ops l_Z17_8
@[go_sem] theorem w_Z17_8 : wp P Z17_8 Q e H = wpL P l_Z17_8 (Q .normal) e H := idE rfl
def Z17_9 : IR := .loop (.seq Z17_3 (.seq Z17_4 (.seq Z17_7 Z17_8)))
def Z17_10 : IR := .block 0 Z17_9
@[go_sem] theorem w_Z17_10 : wp P Z17_10 Q e H = wp P Z17_9 (blockQ 0 Q) e H := idE rfl
@[go_sem] def l_Z17_11 : List GOp := [⟨(some 27), .mv (.t 5), none⟩,
    ⟨(some 4), .mv (.t 27), none⟩]
def Z17_11 : IR := .ops l_Z17_11
@[go_sem] theorem w_Z17_11 : wp P Z17_11 Q e H = wpL P l_Z17_11 (Q .normal) e H := idE rfl
def F_Z17 : IFn := ⟨2, 28, [.t 4], (.seq Z17_0 (.seq Z17_1 (.seq (.seq Z17_2 Z17_10) (.seq Z17_11 .ret))))⟩
theorem c_Z17 : compFn Try.prog [(0, [], []), (1, [], []), (2, [], []), (3, [], []), (4, [], []), (5, [], []), (6, [], []), (7, [], [])] Try.f72 = some F_Z17 := by kernel_rfl
theorem a_Z17 (hl : args.length = 2) (h : wp Try.prog (.seq Z17_0 (.seq Z17_1 (.seq (.seq Z17_2 Z17_10) (.seq Z17_11 .ret)))) (postQ [.t 4] R) (env0 args) H) : ACall Try.prog n_Z17 args H R :=
  acall_of_wp mixed Try.func72 c_Z17 (by kernel_rfl) hl h
@[go_sem] def l_Z11_0 : List GOp := [⟨(some 4), .mv (.c (.bool false)), none⟩]
def Z11_0 : IR := .ops l_Z11_0
@[go_sem] theorem w_Z11_0 : wp P Z11_0 Q e H = wpL P l_Z11_0 (Q .normal) e H := idE rfl
@[go_sem] def l_Z11_1 : List GOp := [⟨(some 5), .mv (.c (.bool true)), none⟩]
def Z11_1 : IR := .ops l_Z11_1
@[go_sem] theorem w_Z11_1 : wp P Z11_1 Q e H = wpL P l_Z11_1 (Q .normal) e H := idE rfl
@[go_sem] def l_Z11_2 : List GOp := [⟨(some 14), .mv (.t 5), none⟩]
def Z11_2 : IR := .ops l_Z11_2
@[go_sem] theorem w_Z11_2 : wp P Z11_2 Q e H = wpL P l_Z11_2 (Q .normal) e H := idE rfl
def Z11_3 : IR := .cond (.t 14) .skip (.exit 0)
@[go_sem] theorem w_Z11_3 : wp P Z11_3 Q e H = condW P ((.t 14) : X) .skip (.exit 0) Q e H := idE rfl
@[go_sem] def l_Z11_4 : List GOp := [⟨(some 5), .mv (.c (.bool false)), none⟩]
def Z11_4 : IR := .ops l_Z11_4
@[go_sem] theorem w_Z11_4 : wp P Z11_4 Q e H = wpL P l_Z11_4 (Q .normal) e H := idE rfl
@[go_sem] def l_Z11_5 : List GOp := [⟨(some 15), .mv (.t 0), none⟩,
    ⟨(some 16), .len (.t 15), none⟩,
    ⟨(some 17), .mv (.c (.int .i64 0)), none⟩]
def Z11_5 : IR := .ops l_Z11_5
@[go_sem] theorem w_Z11_5 : wp P Z11_5 Q e H = wpL P l_Z11_5 (Q .normal) e H := idE rfl
@[go_sem] def l_Z11_6 : List GOp := [⟨(some 18), .bin .lss (.t 17) (.t 16), none⟩]
def Z11_6 : IR := .ops l_Z11_6
@[go_sem] theorem w_Z11_6 : wp P Z11_6 Q e H = wpL P l_Z11_6 (Q .normal) e H := idE rfl
def Z11_7 : IR := .cond (.t 18) .skip (.exit 2)
@[go_sem] theorem w_Z11_7 : wp P Z11_7 Q e H = condW P ((.t 18) : X) .skip (.exit 2) Q e H := idE rfl
@[go_sem] def l_Z11_8 : List GOp := [⟨(some 19), .iaddr (.t 15) (.t 17) 1, none⟩,
    ⟨(some 20), .load (.t 19) 1 false, none⟩,
    ⟨(some 7), .mv (.t 20), none⟩]
def Z11_8 : IR := .ops l_Z11_8
@[go_sem] theorem w_Z11_8 : wp P Z11_8 Q e H = wpL P l_Z11_8 (Q .normal) e H := idE rfl
@[go_sem] def l_Z11_9 : List GOp := [⟨(some 8), .mv (.c (.int .i64 0)), none⟩,
    ⟨(some 9), .mv (.c (.int .i64 0)), none⟩,
    ⟨(some 10), .mv (.c (.bool false)), none⟩]
def Z11_9 : IR := .ops l_Z11_9
@[go_sem] theorem w_Z11_9 : wp P Z11_9 Q e H = wpL P l_Z11_9 (Q .normal) e H := idE rfl
@[go_sem] def l_Z11_10 : List GOp := [⟨(some 21), .mv (.t 7), none⟩,
    ⟨(some 22), .len (.t 21), none⟩,
    ⟨(some 23), .mv (.c (.int .i64 0)), none⟩]
def Z11_10 : IR := .ops l_Z11_10
@[go_sem] theorem w_Z11_10 : wp P Z11_10 Q e H = wpL P l_Z11_10 (Q .normal) e H := idE rfl
@[go_sem] def l_Z11_11 : List GOp := [⟨(some 24), .bin .lss (.t 23) (.t 22), none⟩]
def Z11_11 : IR := .ops l_Z11_11
@[go_sem] theorem w_Z11_11 : wp P Z11_11 Q e H = wpL P l_Z11_11 (Q .normal) e H := idE rfl
def Z11_12 : IR := .cond (.t 24) .skip (.exit 4)
@[go_sem] theorem w_Z11_12 : wp P Z11_12 Q e H = condW P ((.t 24) : X) .skip (.exit 4) Q e H := idE rfl
@[go_sem] def l_Z11_13 : List GOp := [⟨(some 25), .iaddr (.t 21) (.t 23) 1, none⟩,
    ⟨(some 26), .load (.t 25) 1 false, none⟩,
    ⟨(some 12), .mv (.t 26), none⟩]
def Z11_13 : IR := .ops l_Z11_13
@[go_sem] theorem w_Z11_13 : wp P Z11_13 Q e H = wpL P l_Z11_13 (Q .normal) e H := idE rfl
@[go_sem] def l_Z11_14 : List GOp := [⟨(some 27), .mv (.t 1), none⟩,
    ⟨(some 28), .mv (.t 12), none⟩,
    ⟨(some 29), .call (n_Z7) [(.t 28)], none⟩,
    ⟨(some 30), .iaddr (.t 27) (.t 29) 1, none⟩,
    ⟨(some 31), .load (.t 30) 1 false, none⟩,
    ⟨(some 13), .mv (.t 31), none⟩]
def Z11_14 : IR := .ops l_Z11_14
@[go_sem] theorem w_Z11_14 : wp P Z11_14 Q e H = wpL P l_Z11_14 (Q .normal) e H := idE rfl
@[go_sem] def l_Z11_15 : List GOp := [⟨(some 33), .mv (.t 13), none⟩,
    ⟨(some 34), .bin .eql (.t 33) (.c (.int .i64 0)), none⟩,
    ⟨(some 32), .mv (.t 34), none⟩]
def Z11_15 : IR := .ops l_Z11_15
@[go_sem] theorem w_Z11_15 : wp P Z11_15 Q e H = wpL P l_Z11_15 (Q .normal) e H := idE rfl
@[go_sem] def l_Z11_16 : List GOp := [⟨(some 35), .mv (.t 12), none⟩,
    ⟨(some 8), .mv (.t 35), none⟩]
def Z11_16 : IR := .ops l_Z11_16
@[go_sem] theorem w_Z11_16 : wp P Z11_16 Q e H = wpL P l_Z11_16 (Q .normal) e H := idE rfl
@[go_sem] def l_Z11_17 : List GOp := [⟨(some 36), .mv (.t 9), none⟩,
    ⟨(some 37), .bin .add (.t 36) (.c (.int .i64 1)), none⟩,
    ⟨(some 9), .mv (.t 37), none⟩]
def Z11_17 : IR := .ops l_Z11_17
@[go_sem] theorem w_Z11_17 : wp P Z11_17 Q e H = wpL P l_Z11_17 (Q .normal) e H := idE rfl
@[go_sem] def l_Z11_18 : List GOp := [⟨(some 39), .mv (.t 13), none⟩,
    ⟨(some 40), .bin .gtr (.t 39) (.c (.int .i64 0)), none⟩,
    ⟨(some 41), .mv (.t 12), none⟩,
    ⟨(some 42), .bin .gtr (.t 41) (.c (.int .i64 0)), none⟩,
    ⟨(some 43), .beq false (.t 40) (.t 42), none⟩,
    ⟨(some 38), .mv (.t 43), none⟩]
def Z11_18 : IR := .ops l_Z11_18
@[go_sem] theorem w_Z11_18 : wp P Z11_18 Q e H = wpL P l_Z11_18 (Q .normal) e H := idE rfl
@[go_sem] def l_Z11_19 : List GOp := [⟨(some 10), .mv (.c (.bool true)), none⟩]
def Z11_19 : IR := .ops l_Z11_19
@[go_sem] theorem w_Z11_19 : wp P Z11_19 Q e H = wpL P l_Z11_19 (Q .normal) e H := idE rfl
def Z11_20 : IR := .cond (.t 38) Z11_19 .skip
@[go_sem] theorem w_Z11_20 : wp P Z11_20 Q e H = condW P ((.t 38) : X) Z11_19 .skip Q e H := idE rfl
def Z11_21 : IR := .cond (.t 32) (.seq Z11_16 Z11_17) (.seq Z11_18 Z11_20)
@[go_sem] theorem w_Z11_21 : wp P Z11_21 Q e H = condW P ((.t 32) : X) (.seq Z11_16 Z11_17) (.seq Z11_18 Z11_20) Q e H := idE rfl
def Z11_22 : IR := .block 6 (.seq Z11_15 Z11_21)
@[go_sem] theorem w_Z11_22 : wp P Z11_22 Q e H = wp P (.seq Z11_15 Z11_21) (blockQ 6 Q) e H := idE rfl
def Z11_23 : IR := .block 5 (.seq Z11_13 (.seq Z11_14 Z11_22))
@[go_sem] theorem w_Z11_23 : wp P Z11_23 Q e H = wp P (.seq Z11_13 (.seq Z11_14 Z11_22)) (blockQ 5 Q) e H := idE rfl
@[go_sem] def l_Z11_24 : List GOp := [⟨(some 44), .bin .add (.t 23) (.c (.int .i64 1)), none⟩,
    ⟨(some 23), .mv (.t 44), none⟩]
def Z11_24 : IR := .ops l_Z11_24
@[go_sem] theorem w_Z11_24 : wp P Z11_24 Q e H = wpL P l_Z11_24 (Q .normal) e H := idE rfl
def Z11_25 : IR := .loop (.seq Z11_11 (.seq Z11_12 (.seq Z11_23 Z11_24)))
def Z11_26 : IR := .block 4 Z11_25
@[go_sem] theorem w_Z11_26 : wp P Z11_26 Q e H = wp P Z11_25 (blockQ 4 Q) e H := idE rfl
@[go_sem] def l_Z11_27 : List GOp := [⟨(some 46), .mv (.t 10), none⟩,
    ⟨(some 45), .mv (.t 46), none⟩]
def Z11_27 : IR := .ops l_Z11_27
@[go_sem] theorem w_Z11_27 : wp P Z11_27 Q e H = wpL P l_Z11_27 (Q .normal) e H := idE rfl
@[go_sem] def l_Z11_28 : List GOp := [⟨(some 48), .mv (.t 9), none⟩,
    ⟨(some 49), .bin .eql (.t 48) (.c (.int .i64 0)), none⟩,
    ⟨(some 47), .mv (.t 49), none⟩]
def Z11_28 : IR := .ops l_Z11_28
@[go_sem] theorem w_Z11_28 : wp P Z11_28 Q e H = wpL P l_Z11_28 (Q .normal) e H := idE rfl
@[go_sem] def l_Z11_29 : List GOp := [⟨(some 4), .mv (.c (.bool false)), none⟩]
def Z11_29 : IR := .ops l_Z11_29
@[go_sem] theorem w_Z11_29 : wp P Z11_29 Q e H = wpL P l_Z11_29 (Q .normal) e H := idE rfl
@[go_sem] def l_Z11_30 : List GOp := [⟨(some 51), .mv (.t 9), none⟩,
    ⟨(some 52), .bin .eql (.t 51) (.c (.int .i64 1)), none⟩,
    ⟨(some 50), .mv (.t 52), none⟩]
def Z11_30 : IR := .ops l_Z11_30
@[go_sem] theorem w_Z11_30 : wp P Z11_30 Q e H = wpL P l_Z11_30 (Q .normal) e H := idE rfl
@[go_sem] def l_Z11_31 : List GOp := [⟨(some 53), .mv (.t 1), none⟩,
    ⟨(some 54), .mv (.t 8), none⟩,
    ⟨(some 55), .call (n_Z7) [(.t 54)], none⟩,
    ⟨(some 56), .mv (.t 8), none⟩,
    ⟨(some 57), .bin .lss (.t 56) (.c (.int .i64 0)), none⟩,
    ⟨(some 58), .call (n_Z8) [(.t 57)], none⟩,
    ⟨(some 59), .bin .mul (.c (.int .i64 2)) (.t 58), none⟩,
    ⟨(some 60), .bin .sub (.c (.int .i64 1)) (.t 59), none⟩,
    ⟨(some 61), .iaddr (.t 53) (.t 55) 1, none⟩,
    ⟨none, .store (.t 61) 1 (.t 60), none⟩]
def Z11_31 : IR := .ops l_Z11_31
@[go_sem] theorem w_Z11_31 : wp P Z11_31 Q e H = wpL P l_Z11_31 (Q .normal) e H := idE rfl
@[go_sem] def l_Z11_32 : List GOp := [⟨(some 5), .mv (.c (.bool true)), none⟩]
def Z11_32 : IR := .ops l_Z11_32
@[go_sem] theorem w_Z11_32 : wp P Z11_32 Q e H = wpL P l_Z11_32 (Q .normal) e H := idE rfl
def Z11_33 : IR := .cond (.t 50) (.seq Z11_31 Z11_32) .skip
@[go_sem] theorem w_Z11_33 : wp P Z11_33 Q e H = condW P ((.t 50) : X) (.seq Z11_31 Z11_32) .skip Q e H := idE rfl
def Z11_34 : IR := .cond (.t 47) (.seq Z11_29 .ret) (.seq Z11_30 Z11_33)
@[go_sem] theorem w_Z11_34 : wp P Z11_34 Q e H = condW P ((.t 47) : X) (.seq Z11_29 .ret) (.seq Z11_30 Z11_33) Q e H := idE rfl
def Z11_35 : IR := .cond (.t 45) .skip (.seq Z11_28 Z11_34)
@[go_sem] theorem w_Z11_35 : wp P Z11_35 Q e H = condW P ((.t 45) : X) .skip (.seq Z11_28 Z11_34) Q e H := idE rfl
def Z11_36 : IR := .block 7 (.seq Z11_27 Z11_35)
@[go_sem] theorem w_Z11_36 : wp P Z11_36 Q e H = wp P (.seq Z11_27 Z11_35) (blockQ 7 Q) e H := idE rfl
def Z11_37 : IR := .block 3 (.seq Z11_8 (.seq Z11_9 (.seq (.seq Z11_10 Z11_26) Z11_36)))
@[go_sem] theorem w_Z11_37 : wp P Z11_37 Q e H = wp P (.seq Z11_8 (.seq Z11_9 (.seq (.seq Z11_10 Z11_26) Z11_36))) (blockQ 3 Q) e H := idE rfl
@[go_sem] def l_Z11_38 : List GOp := [⟨(some 62), .bin .add (.t 17) (.c (.int .i64 1)), none⟩,
    ⟨(some 17), .mv (.t 62), none⟩]
def Z11_38 : IR := .ops l_Z11_38
@[go_sem] theorem w_Z11_38 : wp P Z11_38 Q e H = wpL P l_Z11_38 (Q .normal) e H := idE rfl
def Z11_39 : IR := .loop (.seq Z11_6 (.seq Z11_7 (.seq Z11_37 Z11_38)))
def Z11_40 : IR := .block 2 Z11_39
@[go_sem] theorem w_Z11_40 : wp P Z11_40 Q e H = wp P Z11_39 (blockQ 2 Q) e H := idE rfl
def Z11_41 : IR := .block 1 (.seq Z11_4 (.seq Z11_5 Z11_40))
@[go_sem] theorem w_Z11_41 : wp P Z11_41 Q e H = wp P (.seq Z11_4 (.seq Z11_5 Z11_40)) (blockQ 1 Q) e H := idE rfl
def Z11_42 : IR := .loop (.seq (.seq Z11_2 Z11_3) Z11_41)
def Z11_43 : IR := .block 0 Z11_42
@[go_sem] theorem w_Z11_43 : wp P Z11_43 Q e H = wp P Z11_42 (blockQ 0 Q) e H := idE rfl
@[go_sem] def l_Z11_44 : List GOp := [⟨(some 4), .mv (.c (.bool true)), none⟩]
def Z11_44 : IR := .ops l_Z11_44
@[go_sem] theorem w_Z11_44 : wp P Z11_44 Q e H = wpL P l_Z11_44 (Q .normal) e H := idE rfl
def F_Z11 : IFn := ⟨2, 63, [.t 4], (.seq Z11_0 (.seq (.seq Z11_1 Z11_43) (.seq Z11_44 .ret)))⟩
theorem c_Z11 : compFn Try.prog [(0, [], []), (1, [], []), (2, [], []), (3, [], []), (4, [], []), (5, [], []), (6, [], []), (7, [], []), (8, [], []), (9, [], []), (10, [], []), (11, [], []), (12, [], []), (13, [], []), (14, [], []), (15, [], []), (16, [], []), (17, [], []), (18, [], []), (19, [], []), (20, [], []), (21, [], []), (22, [], []), (23, [], []), (24, [], []), (25, [], [])] Try.f73 = some F_Z11 := by kernel_rfl
theorem a_Z11 (hl : args.length = 2) (h : wp Try.prog (.seq Z11_0 (.seq (.seq Z11_1 Z11_43) (.seq Z11_44 .ret))) (postQ [.t 4] R) (env0 args) H) : ACall Try.prog n_Z11 args H R :=
  acall_of_wp mixed Try.func73 c_Z11 (by kernel_rfl) hl h
@[go_sem] def l_Z23_0 : List GOp := [⟨(some 2), .mv (.c (.sl none 0 0 true 0)), none⟩]
def Z23_0 : IR := .ops l_Z23_0
@[go_sem] theorem w_Z23_0 : wp P Z23_0 Q e H = wpL P l_Z23_0 (Q .normal) e H := idE rfl
@[go_sem] def l_Z23_1 : List GOp := [⟨(some 3), .mv (.t 0), none⟩,
    ⟨(some 4), .mv (.t 0), none⟩,
    ⟨(some 5), .len (.t 4), none⟩,
    ⟨(some 6), .mv (.t 0), none⟩,
    ⟨(some 7), .len (.t 6), none⟩,
    ⟨(some 8), .slc 1 (.t 3) none (some (.t 5)) (some (.t 7)), none⟩,
    ⟨(some 2), .mv (.t 8), none⟩]
def Z23_1 : IR := .ops l_Z23_1
@[go_sem] theorem w_Z23_1 : wp P Z23_1 Q e H = wpL P l_Z23_1 (Q .normal) e H := idE rfl
def F_Z23 : IFn := ⟨1, 9, [.t 2], (.seq Z23_0 (.seq Z23_1 .ret))⟩
theorem c_Z23 : compFn Try.prog [(0, [], []), (1, [], [])] Try.f136 = some F_Z23 := by kernel_rfl
theorem a_Z23 (hl : args.length = 1) (h : wp Try.prog (.seq Z23_0 (.seq Z23_1 .ret)) (postQ [.t 2] R) (env0 args) H) : ACall Try.prog n_Z23 args H R :=
  acall_of_wp mixed Try.func136 c_Z23 (by kernel_rfl) hl h
@[go_sem] def l_Z24_0 : List GOp := [⟨(some 2), .mv (.c (.sl none 0 0 true 0)), none⟩]
def Z24_0 : IR := .ops l_Z24_0
@[go_sem] theorem w_Z24_0 : wp P Z24_0 Q e H = wpL P l_Z24_0 (Q .normal) e H := idE rfl
@[go_sem] def l_Z24_1 : List GOp := [⟨(some 3), .mv (.t 0), none⟩,
    ⟨(some 4), .eqn false .sl (.t 3), none⟩]
def Z24_1 : IR := .ops l_Z24_1
@[go_sem] theorem w_Z24_1 : wp P Z24_1 Q e H = wpL P l_Z24_1 (Q .normal) e H := idE rfl
@[go_sem] def l_Z24_2 : List GOp := [⟨(some 2), .mv (.c (.sl none 0 0 true 0)), none⟩]
def Z24_2 : IR := .ops l_Z24_2
@[go_sem] theorem w_Z24_2 : wp P Z24_2 Q e H = wpL P l_Z24_2 (Q .normal) e H := idE rfl
def Z24_3 : IR := .cond (.t 4) (.seq Z24_2 .ret) .skip
@[go_sem] theorem w_Z24_3 : wp P Z24_3 Q e H = condW P ((.t 4) : X) (.seq Z24_2 .ret) .skip Q e H := idE rfl
@[go_sem] def l_Z24_4 : List GOp := [⟨(some 5), .bslc 1 0 [(.int .i64 0)] [], none⟩,
    ⟨(some 6), .mv (.t 0), none⟩,
    ⟨(some 7), .app 1 8 (.t 5) (.t 6), none⟩,
    ⟨(some 2), .mv (.t 7), none⟩]
def Z24_4 : IR := .ops l_Z24_4
@[go_sem] theorem w_Z24_4 : wp P Z24_4 Q e H = wpL P l_Z24_4 (Q .normal) e H := idE rfl
def F_Z24 : IFn := ⟨1, 8, [.t 2], (.seq Z24_0 (.seq (.seq Z24_1 Z24_3) (.seq Z24_4 .ret)))⟩
theorem c_Z24 : compFn Try.prog [(0, [], []), (1, [], []), (2, [], []), (3, [], [])] Try.f125 = some F_Z24 := by kernel_rfl
theorem a_Z24 (hl : args.length = 1) (h : wp Try.prog (.seq Z24_0 (.seq (.seq Z24_1 Z24_3) (.seq Z24_4 .ret))) (postQ [.t 2] R) (env0 args) H) : ACall Try.prog n_Z24 args H R :=
  acall_of_wp mixed Try.func125 c_Z24 (by kernel_rfl) hl h
@[go_sem] def l_Z21_0 : List GOp := [⟨(some 2), .mv (.c (.int .i64 0)), none⟩]
def Z21_0 : IR := .ops l_Z21_0
@[go_sem] theorem w_Z21_0 : wp P Z21_0 Q e H = wpL P l_Z21_0 (Q .normal) e H := idE rfl
@[go_sem] def l_Z21_1 : List GOp := [⟨(some 3), .mv (.t 0), none⟩,
    ⟨(some 4), .bin .geq (.t 3) (.c (.int .u32 65536)), none⟩]
def Z21_1 : IR := .ops l_Z21_1
@[go_sem] theorem w_Z21_1 : wp P Z21_1 Q e H = wpL P l_Z21_1 (Q .normal) e H := idE rfl
@[go_sem] def l_Z21_2 : List GOp := [⟨(some 5), .mv (.t 0), none⟩,
    ⟨(some 6), .bin .shr (.t 5) (.c (.int .u64 16)), none⟩,
    ⟨(some 0), .mv (.t 6), none⟩]
def Z21_2 : IR := .ops l_Z21_2
@[go_sem] theorem w_Z21_2 : wp P Z21_2 Q e H = wpL P l_Z21_2 (Q .normal) e H := idE rfl
@[go_sem] def l_Z21_3 : List GOp := [⟨(some 2), .mv (.c (.int .i64 16)), none⟩]
def Z21_3 : IR := .ops l_Z21_3
@[go_sem] theorem w_Z21_3 : wp P Z21_3 Q e H = wpL P l_Z21_3 (Q .normal) e H := idE rfl
def Z21_4 : IR := .cond (.t 4) (.seq Z21_2 Z21_3) .skip
@[go_sem] theorem w_Z21_4 : wp P Z21_4 Q e H = condW P ((.t 4) : X) (.seq Z21_2 Z21_3) .skip Q e H := idE rfl
@[go_sem] def l_Z21_5 : List GOp := [⟨(some 7), .mv (.t 0), none⟩,
    ⟨(some 8), .bin .geq (.t 7) (.c (.int .u32 256)), none⟩]
def Z21_5 : IR := .ops l_Z21_5
@[go_sem] theorem w_Z21_5 : wp P Z21_5 Q e H = wpL P l_Z21_5 (Q .normal) e H := idE rfl
@[go_sem] def l_Z21_6 : List GOp := [⟨(some 9), .mv (.t 0), none⟩,
    ⟨(some 10), .bin .shr (.t 9) (.c (.int .u64 8)), none⟩,
    ⟨(some 0), .mv (.t 10), none⟩]
def Z21_6 : IR := .ops l_Z21_6
@[go_sem] theorem w_Z21_6 : wp P Z21_6 Q e H = wpL P l_Z21_6 (Q .normal) e H := idE rfl
@[go_sem] def l_Z21_7 : List GOp := [⟨(some 11), .mv (.t 2), none⟩,
    ⟨(some 12), .bin .add (.t 11) (.c (.int .i64 8)), none⟩,
    ⟨(some 2), .mv (.t 12), none⟩]
def Z21_7 : IR := .ops l_Z21_7
@[go_sem] theorem w_Z21_7 : wp P Z21_7 Q e H = wpL P l_Z21_7 (Q .normal) e H := idE rfl
def Z21_8 : IR := .cond (.t 8) (.seq Z21_6 Z21_7) .skip
@[go_sem] theorem w_Z21_8 : wp P Z21_8 Q e H = condW P ((.t 8) : X) (.seq Z21_6 Z21_7) .skip Q e H := idE rfl
@[go_sem] def l_Z21_9 : List GOp := [⟨(some 13), .mv (.t 2), none⟩,
    ⟨(some 14), .mv (.t 0), none⟩,
    ⟨(some 15), .cvi .u8 (.t 14), none⟩,
    ⟨(some 16), .sidx (.c (.str ⟨#[0, 1, 2, 2, 3, 3, 3, 3, 4, 4, 4, 4, 4, 4, 4, 4, 5, 5, 5, 5, 5, 5, 5, 5, 5, 5, 5, 5, 5, 5, 5, 5, 6, 6, 6, 6, 6, 6, 6, 6, 6, 6, 6, 6, 6, 6, 6, 6, 6, 6, 6, 6, 6, 6, 6, 6, 6, 6, 6, 6, 6, 6, 6, 6, 7, 7, 7, 7, 7, 7, 7, 7, 7, 7, 7, 7, 7, 7, 7, 7, 7, 7, 7, 7, 7, 7, 7, 7, 7, 7, 7, 7, 7, 7, 7, 7, 7, 7, 7, 7, 7, 7, 7, 7, 7, 7, 7, 7, 7, 7, 7, 7, 7, 7, 7, 7, 7, 7, 7, 7, 7, 7, 7, 7, 7, 7, 7, 7, 8, 8, 8, 8, 8, 8, 8, 8, 8, 8, 8, 8, 8, 8, 8, 8, 8, 8, 8, 8, 8, 8, 8, 8, 8, 8, 8, 8, 8, 8, 8, 8, 8, 8, 8, 8, 8, 8, 8, 8, 8, 8, 8, 8, 8, 8, 8, 8, 8, 8, 8, 8, 8, 8, 8, 8, 8, 8, 8, 8, 8, 8, 8, 8, 8, 8, 8, 8, 8, 8, 8, 8, 8, 8, 8, 8, 8, 8, 8, 8, 8, 8, 8, 8, 8, 8, 8, 8, 8, 8, 8, 8, 8, 8, 8, 8, 8, 8, 8, 8, 8, 8, 8, 8, 8, 8, 8, 8, 8, 8, 8, 8, 8, 8, 8, 8, 8, 8, 8, 8, 8, 8, 8, 8, 8, 8, 8, 8]⟩)) (.t 15), none⟩,
    ⟨(some 17), .cvi .i64 (.t 16), none⟩,
    ⟨(some 18), .bin .add (.t 13) (.t 17), none⟩,
    ⟨(some 2), .mv (.t 18), none⟩]
def Z21_9 : IR := .ops l_Z21_9
@[go_sem] theorem w_Z21_9 : wp P Z21_9 Q e H = wpL P l_Z21_9 (Q .normal) e H := idE rfl
@[go_sem] def l_Z22_0 : List GOp := [⟨(some 2), .mv (.c (.int .i64 0)), none⟩]
def Z22_0 : IR := .ops l_Z22_0
@[go_sem] theorem w_Z22_0 : wp P Z22_0 Q e H = wpL P l_Z22_0 (Q .normal) e H := idE rfl
@[go_sem] def l_Z22_1 : List GOp := [⟨(some 3), .mv (.t 0), none⟩,
    ⟨(some 4), .bin .geq (.t 3) (.c (.int .u64 4294967296)), none⟩]
def Z22_1 : IR := .ops l_Z22_1
@[go_sem] theorem w_Z22_1 : wp P Z22_1 Q e H = wpL P l_Z22_1 (Q .normal) e H := idE rfl
@[go_sem] def l_Z22_2 : List GOp := [⟨(some 5), .mv (.t 0), none⟩,
    ⟨(some 6), .bin .shr (.t 5) (.c (.int .u64 32)), none⟩,
    ⟨(some 0), .mv (.t 6), none⟩]
def Z22_2 : IR := .ops l_Z22_2
@[go_sem] theorem w_Z22_2 : wp P Z22_2 Q e H = wpL P l_Z22_2 (Q .normal) e H := idE rfl
@[go_sem] def l_Z22_3 : List GOp := [⟨(some 2), .mv (.c (.int .i64 32)), none⟩]
def Z22_3 : IR := .ops l_Z22_3
@[go_sem] theorem w_Z22_3 : wp P Z22_3 Q e H = wpL P l_Z22_3 (Q .normal) e H := idE rfl
def Z22_4 : IR := .cond (.t 4) (.seq Z22_2 Z22_3) .skip
@[go_sem] theorem w_Z22_4 : wp P Z22_4 Q e H = condW P ((.t 4) : X) (.seq Z22_2 Z22_3) .skip Q e H := idE rfl
@[go_sem] def l_Z22_5 : List GOp := [⟨(some 7), .mv (.t 0), none⟩,
    ⟨(some 8), .bin .geq (.t 7) (.c (.int .u64 65536)), none⟩]
def Z22_5 : IR := .ops l_Z22_5
@[go_sem] theorem w_Z22_5 : wp P Z22_5 Q e H = wpL P l_Z22_5 (Q .normal) e H := idE rfl
@[go_sem] def l_Z22_6 : List GOp := [⟨(some 9), .mv (.t 0), none⟩,
    ⟨(some 10), .bin .shr (.t 9) (.c (.int .u64 16)), none⟩,
    ⟨(some 0), .mv (.t 10), none⟩]
def Z22_6 : IR := .ops l_Z22_6
@[go_sem] theorem w_Z22_6 : wp P Z22_6 Q e H = wpL P l_Z22_6 (Q .normal) e H := idE rfl
@[go_sem] def l_Z22_7 : List GOp := [⟨(some 11), .mv (.t 2), none⟩,
    ⟨(some 12), .bin .add (.t 11) (.c (.int .i64 16)), none⟩,
    ⟨(some 2), .mv (.t 12), none⟩]
def Z22_7 : IR := .ops l_Z22_7
@[go_sem] theorem w_Z22_7 : wp P Z22_7 Q e H = wpL P l_Z22_7 (Q .normal) e H := idE rfl
def Z22_8 : IR := .cond (.t 8) (.seq Z22_6 Z22_7) .skip
@[go_sem] theorem w_Z22_8 : wp P Z22_8 Q e H = condW P ((.t 8) : X) (.seq Z22_6 Z22_7) .skip Q e H := idE rfl
@[go_sem] def l_Z22_9 : List GOp := [⟨(some 13), .mv (.t 0), none⟩,
    ⟨(some 14), .bin .geq (.t 13) (.c (.int .u64 256)), none⟩]
def Z22_9 : IR := .ops l_Z22_9
@[go_sem] theorem w_Z22_9 : wp P Z22_9 Q e H = wpL P l_Z22_9 (Q .normal) e H := idE rfl
@[go_sem] def l_Z22_10 : List GOp := [⟨(some 15), .mv (.t 0), none⟩,
    ⟨(some 16), .bin .shr (.t 15) (.c (.int .u64 8)), none⟩,
    ⟨(some 0), .mv (.t 16), none⟩]
def Z22_10 : IR := .ops l_Z22_10
@[go_sem] theorem w_Z22_10 : wp P Z22_10 Q e H = wpL P l_Z22_10 (Q .normal) e H := idE rfl
@[go_sem] def l_Z22_11 : List GOp := [⟨(some 17), .mv (.t 2), none⟩,
    ⟨(some 18), .bin .add (.t 17) (.c (.int .i64 8)), none⟩,
    ⟨(some 2), .mv (.t 18), none⟩]
def Z22_11 : IR := .ops l_Z22_11
@[go_sem] theorem w_Z22_11 : wp P Z22_11 Q e H = wpL P l_Z22_11 (Q .normal) e H := idE rfl
def Z22_12 : IR := .cond (.t 14) (.seq Z22_10 Z22_11) .skip
@[go_sem] theorem w_Z22_12 : wp P Z22_12 Q e H = condW P ((.t 14) : X) (.seq Z22_10 Z22_11) .skip Q e H := idE rfl
@[go_sem] def l_Z22_13 : List GOp := [⟨(some 19), .mv (.t 2), none⟩,
    ⟨(some 20), .mv (.t 0), none⟩,
    ⟨(some 21), .cvi .u8 (.t 20), none⟩,
    ⟨(some 22), .sidx (.c (.str ⟨#[0, 1, 2, 2, 3, 3, 3, 3, 4, 4, 4, 4, 4, 4, 4, 4, 5, 5, 5, 5, 5, 5, 5, 5, 5, 5, 5, 5, 5, 5, 5, 5, 6, 6, 6, 6, 6, 6, 6, 6, 6, 6, 6, 6, 6, 6, 6, 6, 6, 6, 6, 6, 6, 6, 6, 6, 6, 6, 6, 6, 6, 6, 6, 6, 7, 7, 7, 7, 7, 7, 7, 7, 7, 7, 7, 7, 7, 7, 7, 7, 7, 7, 7, 7, 7, 7, 7, 7, 7, 7, 7, 7, 7, 7, 7, 7, 7, 7, 7, 7, 7, 7, 7, 7, 7, 7, 7, 7, 7, 7, 7, 7, 7, 7, 7, 7, 7, 7, 7, 7, 7, 7, 7, 7, 7, 7, 7, 7, 8, 8, 8, 8, 8, 8, 8, 8, 8, 8, 8, 8, 8, 8, 8, 8, 8, 8, 8, 8, 8, 8, 8, 8, 8, 8, 8, 8, 8, 8, 8, 8, 8, 8, 8, 8, 8, 8, 8, 8, 8, 8, 8, 8, 8, 8, 8, 8, 8, 8, 8, 8, 8, 8, 8, 8, 8, 8, 8, 8, 8, 8, 8, 8, 8, 8, 8, 8, 8, 8, 8, 8, 8, 8, 8, 8, 8, 8, 8, 8, 8, 8, 8, 8, 8, 8, 8, 8, 8, 8, 8, 8, 8, 8, 8, 8, 8, 8, 8, 8, 8, 8, 8, 8, 8, 8, 8, 8, 8, 8, 8, 8, 8, 8, 8, 8, 8, 8, 8, 8, 8, 8, 8, 8, 8, 8, 8, 8]⟩)) (.t 21), none⟩,
    ⟨(some 23), .cvi .i64 (.t 22), none⟩,
    ⟨(some 24), .bin .add (.t 19) (.t 23), none⟩,
    ⟨(some 2), .mv (.t 24), none⟩]
def Z22_13 : IR := .ops l_Z22_13
@[go_sem] theorem w_Z22_13 : wp P Z22_13 Q e H = wpL P l_Z22_13 (Q .normal) e H := idE rfl
@[go_sem] def l_Z20_0 : List GOp := [⟨(some 2), .mv (.c (.int .i64 0)), none⟩]
def Z20_0 : IR := .ops l_Z20_0
@[go_sem] theorem w_Z20_0 : wp P Z20_0 Q e H = wpL P l_Z20_0 (Q .normal) e H := idE rfl
@[go_sem] def l_Z20_1 : List GOp := [⟨(some 3), .mv (.t 0), none⟩,
    ⟨(some 4), .cvi .u32 (.t 3), none⟩,
    ⟨(some 5), .call (n_Z21) [(.t 4)], none⟩,
    ⟨(some 2), .mv (.t 5), none⟩]
def Z20_1 : IR := .ops l_Z20_1
@[go_sem] theorem w_Z20_1 : wp P Z20_1 Q e H = wpL P l_Z20_1 (Q .normal) e H := idE rfl
def Z20_2 : IR := .cond (.c (.bool false)) (.seq Z20_1 .ret) .skip
@[go_sem] theorem w_Z20_2 : wp P Z20_2 Q e H = condW P ((.c (.bool false)) : X) (.seq Z20_1 .ret) .skip Q e H := idE rfl
@[go_sem] def l_Z20_3 : List GOp := [⟨(some 6), .mv (.t 0), none⟩,
    ⟨(some 7), .call (n_Z22) [(.t 6)], none⟩,
    ⟨(some 2), .mv (.t 7), none⟩]
def Z20_3 : IR := .ops l_Z20_3
@[go_sem] theorem w_Z20_3 : wp P Z20_3 Q e H = wpL P l_Z20_3 (Q .normal) e H := idE rfl
@[go_sem] def l_Z32_0 : List GOp := [⟨(some 10), .mv (.t 1), none⟩,
    ⟨(some 11), .bin .add (.t 10) (.c (.int .i64 1)), none⟩,
    ⟨(some 8), .mv (.t 11), none⟩]
def Z32_0 : IR := .ops l_Z32_0
@[go_sem] theorem w_Z32_0 : wp P Z32_0 Q e H = wpL P l_Z32_0 (Q .normal) e H := idE rfl
@[go_sem] def l_Z32_1 : List GOp := [⟨(some 12), .mv (.t 8), none⟩,
    ⟨(some 13), .mv (.t 2), none⟩,
    ⟨(some 14), .bin .lss (.t 12) (.t 13), none⟩]
def Z32_1 : IR := .ops l_Z32_1
@[go_sem] theorem w_Z32_1 : wp P Z32_1 Q e H = wpL P l_Z32_1 (Q .normal) e H := idE rfl
def Z32_2 : IR := .cond (.t 14) .skip (.exit 0)
@[go_sem] theorem w_Z32_2 : wp P Z32_2 Q e H = condW P ((.t 14) : X) .skip (.exit 0) Q e H := idE rfl
@[go_sem] def l_Z32_3 : List GOp := [⟨(some 17), .mv (.t 8), none⟩,
    ⟨(some 9), .mv (.t 17), none⟩]
def Z32_3 : IR := .ops l_Z32_3
@[go_sem] theorem w_Z32_3 : wp P Z32_3 Q e H = wpL P l_Z32_3 (Q .normal) e H := idE rfl
def l_Z32_4 : List GOp := [⟨(some 18), .mv (.t 9), none⟩,
    ⟨(some 19), .mv (.t 1), none⟩,
    ⟨(some 20), .bin .gtr (.t 18) (.t 19), none⟩,
    ⟨(some 21), .mv (.t 20), none⟩,
    ⟨(some 22), .mv (.t 3), (some (21, true))⟩,
    ⟨(some 23), .mv (.t 0), (some (21, true))⟩,
    ⟨(some 24), .mv (.t 9), (some (21, true))⟩,
    ⟨(some 25), .iaddr (.t 23) (.t 24) 1, (some (21, true))⟩,
    ⟨(some 26), .load (.t 25) 1 false, (some (21, true))⟩,
    ⟨(some 27), .mv (.t 0), (some (21, true))⟩,
    ⟨(some 28), .mv (.t 9), (some (21, true))⟩,
    ⟨(some 29), .bin .sub (.t 28) (.c (.int .i64 1)), (some (21, true))⟩,
    ⟨(some 30), .iaddr (.t 27) (.t 29) 1, (some (21, true))⟩,
    ⟨(some 31), .load (.t 30) 1 false, (some (21, true))⟩,
    ⟨(some 32), .callv (.t 22) [(.t 26), (.t 31)], (some (21, true))⟩,
    ⟨(some 33), .bin .lss (.t 32) (.c (.int .i64 0)), (some (21, true))⟩,
    ⟨(some 34), .pick (.t 21) (.t 33) (.c (.bool false)), none⟩]
@[go_sem] theorem g_Z32_4_0 : gAt l_Z32_4 0 = ⟨(some 18), .mv (.t 9), none⟩ := idE rfl
@[go_sem] theorem g_Z32_4_1 : gAt l_Z32_4 1 = ⟨(some 19), .mv (.t 1), none⟩ := idE rfl
@[go_sem] theorem g_Z32_4_2 : gAt l_Z32_4 2 = ⟨(some 20), .bin .gtr (.t 18) (.t 19), none⟩ := idE rfl
@[go_sem] theorem g_Z32_4_3 : gAt l_Z32_4 3 = ⟨(some 21), .mv (.t 20), none⟩ := idE rfl
@[go_sem] theorem g_Z32_4_4 : gAt l_Z32_4 4 = ⟨(some 22), .mv (.t 3), (some (21, true))⟩ := idE rfl
@[go_sem] theorem g_Z32_4_5 : gAt l_Z32_4 5 = ⟨(some 23), .mv (.t 0), (some (21, true))⟩ := idE rfl
@[go_sem] theorem g_Z32_4_6 : gAt l_Z32_4 6 = ⟨(some 24), .mv (.t 9), (some (21, true))⟩ := idE rfl
@[go_sem] theorem g_Z32_4_7 : gAt l_Z32_4 7 = ⟨(some 25), .iaddr (.t 23) (.t 24) 1, (some (21, true))⟩ := idE rfl
@[go_sem] theorem g_Z32_4_8 : gAt l_Z32_4 8 = ⟨(some 26), .load (.t 25) 1 false, (some (21, true))⟩ := idE rfl
@[go_sem] theorem g_Z32_4_9 : gAt l_Z32_4 9 = ⟨(some 27), .mv (.t 0), (some (21, true))⟩ := idE rfl
@[go_sem] theorem g_Z32_4_10 : gAt l_Z32_4 10 = ⟨(some 28), .mv (.t 9), (some (21, true))⟩ := idE rfl
@[go_sem] theorem g_Z32_4_11 : gAt l_Z32_4 11 = ⟨(some 29), .bin .sub (.t 28) (.c (.int .i64 1)), (some (21, true))⟩ := idE rfl
@[go_sem] theorem g_Z32_4_12 : gAt l_Z32_4 12 = ⟨(some 30), .iaddr (.t 27) (.t 29) 1, (some (21, true))⟩ := idE rfl
@[go_sem] theorem g_Z32_4_13 : gAt l_Z32_4 13 = ⟨(some 31), .load (.t 30) 1 false, (some (21, true))⟩ := idE rfl
@[go_sem] theorem g_Z32_4_14 : gAt l_Z32_4 14 = ⟨(some 32), .callv (.t 22) [(.t 26), (.t 31)], (some (21, true))⟩ := idE rfl
@[go_sem] theorem g_Z32_4_15 : gAt l_Z32_4 15 = ⟨(some 33), .bin .lss (.t 32) (.c (.int .i64 0)), (some (21, true))⟩ := idE rfl
@[go_sem] theorem g_Z32_4_16 : gAt l_Z32_4 16 = ⟨(some 34), .pick (.t 21) (.t 33) (.c (.bool false)), none⟩ := idE rfl
def Z32_4 : IR := .dops l_Z32_4 [(0, []), (1, []), (2, []), (3, []), (4, []), (5, []), (6, []), (7, []), (8, []), (9, []), (10, []), (11, []), (12, []), (13, []), (14, []), (15, []), (16, [])]
@[go_sem] theorem w_Z32_4 : wp P Z32_4 Q e H = wpD P l_Z32_4 [(0, []), (1, []), (2, []), (3, []), (4, []), (5, []), (6, []), (7, []), (8, []), (9, []), (10, []), (11, []), (12, []), (13, []), (14, []), (15, []), (16, [])] (Q .normal) e H := idE rfl
def Z32_5 : IR := .cond (.t 34) .skip (.exit 2)
@[go_sem] theorem w_Z32_5 : wp P Z32_5 Q e H = condW P ((.t 34) : X) .skip (.exit 2) Q e H := idE rfl
def l_Z32_6 : List GOp := [⟨(some 37), .mv (.t 0), none⟩,
    ⟨(some 38), .mv (.t 9), none⟩,
    ⟨(some 39), .mv (.t 0), none⟩,
    ⟨(some 40), .mv (.t 9), none⟩,
    ⟨(some 41), .bin .sub (.t 40) (.c (.int .i64 1)), none⟩,
    ⟨(some 42), .mv (.t 0), none⟩,
    ⟨(some 43), .mv (.t 9), none⟩,
    ⟨(some 44), .bin .sub (.t 43) (.c (.int .i64 1)), none⟩,
    ⟨(some 45), .iaddr (.t 42) (.t 44) 1, none⟩,
    ⟨(some 46), .load (.t 45) 1 false, none⟩,
    ⟨(some 47), .mv (.t 0), none⟩,
    ⟨(some 48), .mv (.t 9), none⟩,
    ⟨(some 49), .iaddr (.t 47) (.t 48) 1, none⟩,
    ⟨(some 50), .load (.t 49) 1 false, none⟩,
    ⟨(some 51), .iaddr (.t 37) (.t 38) 1, none⟩,
    ⟨none, .store (.t 51) 1 (.t 46), none⟩,
    ⟨(some 52), .iaddr (.t 39) (.t 41) 1, none⟩,
    ⟨none, .store (.t 52) 1 (.t 50), none⟩]
@[go_sem] theorem g_Z32_6_0 : gAt l_Z32_6 0 = ⟨(some 37), .mv (.t 0), none⟩ := idE rfl
@[go_sem] theorem g_Z32_6_1 : gAt l_Z32_6 1 = ⟨(some 38), .mv (.t 9), none⟩ := idE rfl
@[go_sem] theorem g_Z32_6_2 : gAt l_Z32_6 2 = ⟨(some 39), .mv (.t 0), none⟩ := idE rfl
@[go_sem] theorem g_Z32_6_3 : gAt l_Z32_6 3 = ⟨(some 40), .mv (.t 9), none⟩ := idE rfl
@[go_sem] theorem g_Z32_6_4 : gAt l_Z32_6 4 = ⟨(some 41), .bin .sub (.t 40) (.c (.int .i64 1)), none⟩ := idE rfl
@[go_sem] theorem g_Z32_6_5 : gAt l_Z32_6 5 = ⟨(some 42), .mv (.t 0), none⟩ := idE rfl
@[go_sem] theorem g_Z32_6_6 : gAt l_Z32_6 6 = ⟨(some 43), .mv (.t 9), none⟩ := idE rfl
@[go_sem] theorem g_Z32_6_7 : gAt l_Z32_6 7 = ⟨(some 44), .bin .sub (.t 43) (.c (.int .i64 1)), none⟩ := idE rfl
@[go_sem] theorem g_Z32_6_8 : gAt l_Z32_6 8 = ⟨(some 45), .iaddr (.t 42) (.t 44) 1, none⟩ := idE rfl
@[go_sem] theorem g_Z32_6_9 : gAt l_Z32_6 9 = ⟨(some 46), .load (.t 45) 1 false, none⟩ := idE rfl
@[go_sem] theorem g_Z32_6_10 : gAt l_Z32_6 10 = ⟨(some 47), .mv (.t 0), none⟩ := idE rfl
@[go_sem] theorem g_Z32_6_11 : gAt l_Z32_6 11 = ⟨(some 48), .mv (.t 9), none⟩ := idE rfl
@[go_sem] theorem g_Z32_6_12 : gAt l_Z32_6 12 = ⟨(some 49), .iaddr (.t 47) (.t 48) 1, none⟩ := idE rfl
@[go_sem] theorem g_Z32_6_13 : gAt l_Z32_6 13 = ⟨(some 50), .load (.t 49) 1 false, none⟩ := idE rfl
@[go_sem] theorem g_Z32_6_14 : gAt l_Z32_6 14 = ⟨(some 51), .iaddr (.t 37) (.t 38) 1, none⟩ := idE rfl
@[go_sem] theorem g_Z32_6_15 : gAt l_Z32_6 15 = ⟨none, .store (.t 51) 1 (.t 46), none⟩ := idE rfl
@[go_sem] theorem g_Z32_6_16 : gAt l_Z32_6 16 = ⟨(some 52), .iaddr (.t 39) (.t 41) 1, none⟩ := idE rfl
@[go_sem] theorem g_Z32_6_17 : gAt l_Z32_6 17 = ⟨none, .store (.t 52) 1 (.t 50), none⟩ := idE rfl
def Z32_6 : IR := .dops l_Z32_6 [(0, []), (1, []), (2, []), (3, []), (4, []), (5, []), (6, []), (7, []), (8, []), (9, []), (10, []), (11, []), (12, []), (13, []), (14, []), (15, []), (16, []), (17, [])]
@[go_sem] theorem w_Z32_6 : wp P Z32_6 Q e H = wpD P l_Z32_6 [(0, []), (1, []), (2, []), (3, []), (4, []), (5, []), (6, []), (7, []), (8, []), (9, []), (10, []), (11, []), (12, []), (13, []), (14, []), (15, []), (16, []), (17, [])] (Q .normal) e H := idE rfl
def Z32_7 : IR := .block 3 Z32_6
@[go_sem] theorem w_Z32_7 : wp P Z32_7 Q e H = wp P Z32_6 (blockQ 3 Q) e H := idE rfl
@[go_sem] def l_Z32_8 : List GOp := [⟨(some 35), .mv (.t 9), none⟩,
    ⟨(some 36), .bin .sub (.t 35) (.c (.int .i64 1)), none⟩,
    ⟨(some 9), .mv (.t 36), none⟩]
def Z32_8 : IR := .ops l_Z32_8
@[go_sem] theorem w_Z32_8 : wp P Z32_8 Q e H = wpL P l_Z32_8 (Q .normal) e H := idE rfl
def Z32_9 : IR := .loop (.seq (.seq Z32_4 Z32_5) (.seq Z32_7 Z32_8))
def Z32_10 : IR := .block 2 Z32_9
@[go_sem] theorem w_Z32_10 : wp P Z32_10 Q e H = wp P Z32_9 (blockQ 2 Q) e H := idE rfl
def Z32_11 : IR := .block 1 (.seq Z32_3 Z32_10)
@[go_sem] theorem w_Z32_11 : wp P Z32_11 Q e H = wp P (.seq Z32_3 Z32_10) (blockQ 1 Q) e H := idE rfl
@[go_sem] def l_Z32_12 : List GOp := [⟨(some 15), .mv (.t 8), none⟩,
    ⟨(some 16), .bin .add (.t 15) (.c (.int .i64 1)), none⟩,
    ⟨(some 8), .mv (.t 16), none⟩]
def Z32_12 : IR := .ops l_Z32_12
@[go_sem] theorem w_Z32_12 : wp P Z32_12 Q e H = wpL P l_Z32_12 (Q .normal) e H := idE rfl
def Z32_13 : IR := .loop (.seq (.seq Z32_1 Z32_2) (.seq Z32_11 Z32_12))
def Z32_14 : IR := .block 0 Z32_13
@[go_sem] theorem w_Z32_14 : wp P Z32_14 Q e H = wp P Z32_13 (blockQ 0 Q) e H := idE rfl
@[go_sem] def l_Z42_0 : List GOp := [⟨(some 12), .mv (.t 1), none⟩,
    ⟨(some 10), .mv (.t 12), none⟩]
def Z42_0 : IR := .ops l_Z42_0
@[go_sem] theorem w_Z42_0 : wp P Z42_0 Q e H = wpL P l_Z42_0 (Q .normal) e H := idE rfl
@[go_sem] def l_Z42_1 : List GOp := [⟨(some 13), .mv (.t 10), none⟩,
    ⟨(some 14), .bin .mul (.c (.int .i64 2)) (.t 13), none⟩,
    ⟨(some 15), .bin .add (.t 14) (.c (.int .i64 1)), none⟩,
    ⟨(some 11), .mv (.t 15), none⟩]
def Z42_1 : IR := .ops l_Z42_1
@[go_sem] theorem w_Z42_1 : wp P Z42_1 Q e H = wpL P l_Z42_1 (Q .normal) e H := idE rfl
@[go_sem] def l_Z42_2 : List GOp := [⟨(some 16), .mv (.t 11), none⟩,
    ⟨(some 17), .mv (.t 2), none⟩,
    ⟨(some 18), .bin .geq (.t 16) (.t 17), none⟩]
def Z42_2 : IR := .ops l_Z42_2
@[go_sem] theorem w_Z42_2 : wp P Z42_2 Q e H = wpL P l_Z42_2 (Q .normal) e H := idE rfl
def Z42_3 : IR := .cond (.t 18) (.exit 0) .skip
@[go_sem] theorem w_Z42_3 : wp P Z42_3 Q e H = condW P ((.t 18) : X) (.exit 0) .skip Q e H := idE rfl
def l_Z42_4 : List GOp := [⟨(some 19), .mv (.t 11), none⟩,
    ⟨(some 20), .bin .add (.t 19) (.c (.int .i64 1)), none⟩,
    ⟨(some 21), .mv (.t 2), none⟩,
    ⟨(some 22), .bin .lss (.t 20) (.t 21), none⟩,
    ⟨(some 23), .mv (.t 22), none⟩,
    ⟨(some 24), .mv (.t 4), (some (23, true))⟩,
    ⟨(some 25), .mv (.t 0), (some (23, true))⟩,
    ⟨(some 26), .mv (.t 3), (some (23, true))⟩,
    ⟨(some 27), .mv (.t 11), (some (23, true))⟩,
    ⟨(some 28), .bin .add (.t 26) (.t 27), (some (23, true))⟩,
    ⟨(some 29), .iaddr (.t 25) (.t 28) 1, (some (23, true))⟩,
    ⟨(some 30), .load (.t 29) 1 false, (some (23, true))⟩,
    ⟨(some 31), .mv (.t 0), (some (23, true))⟩,
    ⟨(some 32), .mv (.t 3), (some (23, true))⟩,
    ⟨(some 33), .mv (.t 11), (some (23, true))⟩,
    ⟨(some 34), .bin .add (.t 32) (.t 33), (some (23, true))⟩,
    ⟨(some 35), .bin .add (.t 34) (.c (.int .i64 1)), (some (23, true))⟩,
    ⟨(some 36), .iaddr (.t 31) (.t 35) 1, (some (23, true))⟩,
    ⟨(some 37), .load (.t 36) 1 false, (some (23, true))⟩,
    ⟨(some 38), .callv (.t 24) [(.t 30), (.t 37)], (some (23, true))⟩,
    ⟨(some 39), .bin .lss (.t 38) (.c (.int .i64 0)), (some (23, true))⟩,
    ⟨(some 40), .pick (.t 23) (.t 39) (.c (.bool false)), none⟩]
@[go_sem] theorem g_Z42_4_0 : gAt l_Z42_4 0 = ⟨(some 19), .mv (.t 11), none⟩ := idE rfl
@[go_sem] theorem g_Z42_4_1 : gAt l_Z42_4 1 = ⟨(some 20), .bin .add (.t 19) (.c (.int .i64 1)), none⟩ := idE rfl
@[go_sem] theorem g_Z42_4_2 : gAt l_Z42_4 2 = ⟨(some 21), .mv (.t 2), none⟩ := idE rfl
@[go_sem] theorem g_Z42_4_3 : gAt l_Z42_4 3 = ⟨(some 22), .bin .lss (.t 20) (.t 21), none⟩ := idE rfl
@[go_sem] theorem g_Z42_4_4 : gAt l_Z42_4 4 = ⟨(some 23), .mv (.t 22), none⟩ := idE rfl
@[go_sem] theorem g_Z42_4_5 : gAt l_Z42_4 5 = ⟨(some 24), .mv (.t 4), (some (23, true))⟩ := idE rfl
@[go_sem] theorem g_Z42_4_6 : gAt l_Z42_4 6 = ⟨(some 25), .mv (.t 0), (some (23, true))⟩ := idE rfl
@[go_sem] theorem g_Z42_4_7 : gAt l_Z42_4 7 = ⟨(some 26), .mv (.t 3), (some (23, true))⟩ := idE rfl
@[go_sem] theorem g_Z42_4_8 : gAt l_Z42_4 8 = ⟨(some 27), .mv (.t 11), (some (23, true))⟩ := idE rfl
@[go_sem] theorem g_Z42_4_9 : gAt l_Z42_4 9 = ⟨(some 28), .bin .add (.t 26) (.t 27), (some (23, true))⟩ := idE rfl
@[go_sem] theorem g_Z42_4_10 : gAt l_Z42_4 10 = ⟨(some 29), .iaddr (.t 25) (.t 28) 1, (some (23, true))⟩ := idE rfl
@[go_sem] theorem g_Z42_4_11 : gAt l_Z42_4 11 = ⟨(some 30), .load (.t 29) 1 false, (some (23, true))⟩ := idE rfl
@[go_sem] theorem g_Z42_4_12 : gAt l_Z42_4 12 = ⟨(some 31), .mv (.t 0), (some (23, true))⟩ := idE rfl
@[go_sem] theorem g_Z42_4_13 : gAt l_Z42_4 13 = ⟨(some 32), .mv (.t 3), (some (23, true))⟩ := idE rfl
@[go_sem] theorem g_Z42_4_14 : gAt l_Z42_4 14 = ⟨(some 33), .mv (.t 11), (some (23, true))⟩ := idE rfl
@[go_sem] theorem g_Z42_4_15 : gAt l_Z42_4 15 = ⟨(some 34), .bin .add (.t 32) (.t 33), (some (23, true))⟩ := idE rfl
@[go_sem] theorem g_Z42_4_16 : gAt l_Z42_4 16 = ⟨(some 35), .bin .add (.t 34) (.c (.int .i64 1)), (some (23, true))⟩ := idE rfl
@[go_sem] theorem g_Z42_4_17 : gAt l_Z42_4 17 = ⟨(some 36), .iaddr (.t 31) (.t 35) 1, (some (23, true))⟩ := idE rfl
@[go_sem] theorem g_Z42_4_18 : gAt l_Z42_4 18 = ⟨(some 37), .load (.t 36) 1 false, (some (23, true))⟩ := idE rfl
@[go_sem] theorem g_Z42_4_19 : gAt l_Z42_4 19 = ⟨(some 38), .callv (.t 24) [(.t 30), (.t 37)], (some (23, true))⟩ := idE rfl
@[go_sem] theorem g_Z42_4_20 : gAt l_Z42_4 20 = ⟨(some 39), .bin .lss (.t 38) (.c (.int .i64 0)), (some (23, true))⟩ := idE rfl
@[go_sem] theorem g_Z42_4_21 : gAt l_Z42_4 21 = ⟨(some 40), .pick (.t 23) (.t 39) (.c (.bool false)), none⟩ := idE rfl
def Z42_4 : IR := .dops l_Z42_4 [(0, []), (1, []), (2, []), (3, []), (4, []), (5, []), (6, []), (7, []), (8, []), (9, []), (10, []), (11, []), (12, []), (13, []), (14, []), (15, []), (16, []), (17, []), (18, []), (19, []), (20, []), (21, [])]
@[go_sem] theorem w_Z42_4 : wp P Z42_4 Q e H = wpD P l_Z42_4 [(0, []), (1, []), (2, []), (3, []), (4, []), (5, []), (6, []), (7, []), (8, []), (9, []), (10, []), (11, []), (12, []), (13, []), (14, []), (15, []), (16, []), (17, []), (18, []), (19, []), (20, []), (21, [])] (Q .normal) e H := idE rfl
@[go_sem] def l_Z42_5 : List GOp := [⟨(some 41), .mv (.t 11), none⟩,
    ⟨(some 42), .bin .add (.t 41) (.c (.int .i64 1)), none⟩,
    ⟨(some 11), .mv (.t 42), none⟩]
def Z42_5 : IR := .ops l_Z42_5
@[go_sem] theorem w_Z42_5 : wp P Z42_5 Q e H = wpL P l_Z42_5 (Q .normal) e H := idE rfl
def Z42_6 : IR := .cond (.t 40) Z42_5 .skip
@[go_sem] theorem w_Z42_6 : wp P Z42_6 Q e H = condW P ((.t 40) : X) Z42_5 .skip Q e H := idE rfl
def l_Z42_7 : List GOp := [⟨(some 43), .mv (.t 4), none⟩,
    ⟨(some 44), .mv (.t 0), none⟩,
    ⟨(some 45), .mv (.t 3), none⟩,
    ⟨(some 46), .mv (.t 10), none⟩,
    ⟨(some 47), .bin .add (.t 45) (.t 46), none⟩,
    ⟨(some 48), .iaddr (.t 44) (.t 47) 1, none⟩,
    ⟨(some 49), .load (.t 48) 1 false, none⟩,
    ⟨(some 50), .mv (.t 0), none⟩,
    ⟨(some 51), .mv (.t 3), none⟩,
    ⟨(some 52), .mv (.t 11), none⟩,
    ⟨(some 53), .bin .add (.t 51) (.t 52), none⟩,
    ⟨(some 54), .iaddr (.t 50) (.t 53) 1, none⟩,
    ⟨(some 55), .load (.t 54) 1 false, none⟩,
    ⟨(some 56), .callv (.t 43) [(.t 49), (.t 55)], none⟩,
    ⟨(some 57), .bin .lss (.t 56) (.c (.int .i64 0)), none⟩,
    ⟨(some 58), .un .not (.t 57), none⟩]
@[go_sem] theorem g_Z42_7_0 : gAt l_Z42_7 0 = ⟨(some 43), .mv (.t 4), none⟩ := idE rfl
@[go_sem] theorem g_Z42_7_1 : gAt l_Z42_7 1 = ⟨(some 44), .mv (.t 0), none⟩ := idE rfl
@[go_sem] theorem g_Z42_7_2 : gAt l_Z42_7 2 = ⟨(some 45), .mv (.t 3), none⟩ := idE rfl
@[go_sem] theorem g_Z42_7_3 : gAt l_Z42_7 3 = ⟨(some 46), .mv (.t 10), none⟩ := idE rfl
@[go_sem] theorem g_Z42_7_4 : gAt l_Z42_7 4 = ⟨(some 47), .bin .add (.t 45) (.t 46), none⟩ := idE rfl
@[go_sem] theorem g_Z42_7_5 : gAt l_Z42_7 5 = ⟨(some 48), .iaddr (.t 44) (.t 47) 1, none⟩ := idE rfl
@[go_sem] theorem g_Z42_7_6 : gAt l_Z42_7 6 = ⟨(some 49), .load (.t 48) 1 false, none⟩ := idE rfl
@[go_sem] theorem g_Z42_7_7 : gAt l_Z42_7 7 = ⟨(some 50), .mv (.t 0), none⟩ := idE rfl
@[go_sem] theorem g_Z42_7_8 : gAt l_Z42_7 8 = ⟨(some 51), .mv (.t 3), none⟩ := idE rfl
@[go_sem] theorem g_Z42_7_9 : gAt l_Z42_7 9 = ⟨(some 52), .mv (.t 11), none⟩ := idE rfl
@[go_sem] theorem g_Z42_7_10 : gAt l_Z42_7 10 = ⟨(some 53), .bin .add (.t 51) (.t 52), none⟩ := idE rfl
@[go_sem] theorem g_Z42_7_11 : gAt l_Z42_7 11 = ⟨(some 54), .iaddr (.t 50) (.t 53) 1, none⟩ := idE rfl
@[go_sem] theorem g_Z42_7_12 : gAt l_Z42_7 12 = ⟨(some 55), .load (.t 54) 1 false, none⟩ := idE rfl
@[go_sem] theorem g_Z42_7_13 : gAt l_Z42_7 13 = ⟨(some 56), .callv (.t 43) [(.t 49), (.t 55)], none⟩ := idE rfl
@[go_sem] theorem g_Z42_7_14 : gAt l_Z42_7 14 = ⟨(some 57), .bin .lss (.t 56) (.c (.int .i64 0)), none⟩ := idE rfl
@[go_sem] theorem g_Z42_7_15 : gAt l_Z42_7 15 = ⟨(some 58), .un .not (.t 57), none⟩ := idE rfl
def Z42_7 : IR := .dops l_Z42_7 [(0, []), (1, []), (2, []), (3, []), (4, []), (5, []), (6, []), (7, []), (8, []), (9, []), (10, []), (11, []), (12, []), (13, []), (14, []), (15, [])]
@[go_sem] theorem w_Z42_7 : wp P Z42_7 Q e H = wpD P l_Z42_7 [(0, []), (1, []), (2, []), (3, []), (4, []), (5, []), (6, []), (7, []), (8, []), (9, []), (10, []), (11, []), (12, []), (13, []), (14, []), (15, [])] (Q .normal) e H := idE rfl
def Z42_8 : IR := .cond (.t 58) .ret .skip
@[go_sem] theorem w_Z42_8 : wp P Z42_8 Q e H = condW P ((.t 58) : X) .ret .skip Q e H := idE rfl
def l_Z42_9 : List GOp := [⟨(some 59), .mv (.t 0), none⟩,
    ⟨(some 60), .mv (.t 3), none⟩,
    ⟨(some 61), .mv (.t 10), none⟩,
    ⟨(some 62), .bin .add (.t 60) (.t 61), none⟩,
    ⟨(some 63), .mv (.t 0), none⟩,
    ⟨(some 64), .mv (.t 3), none⟩,
    ⟨(some 65), .mv (.t 11), none⟩,
    ⟨(some 66), .bin .add (.t 64) (.t 65), none⟩,
    ⟨(some 67), .mv (.t 0), none⟩,
    ⟨(some 68), .mv (.t 3), none⟩,
    ⟨(some 69), .mv (.t 11), none⟩,
    ⟨(some 70), .bin .add (.t 68) (.t 69), none⟩,
    ⟨(some 71), .iaddr (.t 67) (.t 70) 1, none⟩,
    ⟨(some 72), .load (.t 71) 1 false, none⟩,
    ⟨(some 73), .mv (.t 0), none⟩,
    ⟨(some 74), .mv (.t 3), none⟩,
    ⟨(some 75), .mv (.t 10), none⟩,
    ⟨(some 76), .bin .add (.t 74) (.t 75), none⟩,
    ⟨(some 77), .iaddr (.t 73) (.t 76) 1, none⟩,
    ⟨(some 78), .load (.t 77) 1 false, none⟩,
    ⟨(some 79), .iaddr (.t 59) (.t 62) 1, none⟩,
    ⟨none, .store (.t 79) 1 (.t 72), none⟩,
    ⟨(some 80), .iaddr (.t 63) (.t 66) 1, none⟩,
    ⟨none, .store (.t 80) 1 (.t 78), none⟩]
@[go_sem] theorem g_Z42_9_0 : gAt l_Z42_9 0 = ⟨(some 59), .mv (.t 0), none⟩ := idE rfl
@[go_sem] theorem g_Z42_9_1 : gAt l_Z42_9 1 = ⟨(some 60), .mv (.t 3), none⟩ := idE rfl
@[go_sem] theorem g_Z42_9_2 : gAt l_Z42_9 2 = ⟨(some 61), .mv (.t 10), none⟩ := idE rfl
@[go_sem] theorem g_Z42_9_3 : gAt l_Z42_9 3 = ⟨(some 62), .bin .add (.t 60) (.t 61), none⟩ := idE rfl
@[go_sem] theorem g_Z42_9_4 : gAt l_Z42_9 4 = ⟨(some 63), .mv (.t 0), none⟩ := idE rfl
@[go_sem] theorem g_Z42_9_5 : gAt l_Z42_9 5 = ⟨(some 64), .mv (.t 3), none⟩ := idE rfl
@[go_sem] theorem g_Z42_9_6 : gAt l_Z42_9 6 = ⟨(some 65), .mv (.t 11), none⟩ := idE rfl
@[go_sem] theorem g_Z42_9_7 : gAt l_Z42_9 7 = ⟨(some 66), .bin .add (.t 64) (.t 65), none⟩ := idE rfl
@[go_sem] theorem g_Z42_9_8 : gAt l_Z42_9 8 = ⟨(some 67), .mv (.t 0), none⟩ := idE rfl
@[go_sem] theorem g_Z42_9_9 : gAt l_Z42_9 9 = ⟨(some 68), .mv (.t 3), none⟩ := idE rfl
@[go_sem] theorem g_Z42_9_10 : gAt l_Z42_9 10 = ⟨(some 69), .mv (.t 11), none⟩ := idE rfl
@[go_sem] theorem g_Z42_9_11 : gAt l_Z42_9 11 = ⟨(some 70), .bin .add (.t 68) (.t 69), none⟩ := idE rfl
@[go_sem] theorem g_Z42_9_12 : gAt l_Z42_9 12 = ⟨(some 71), .iaddr (.t 67) (.t 70) 1, none⟩ := idE rfl
@[go_sem] theorem g_Z42_9_13 : gAt l_Z42_9 13 = ⟨(some 72), .load (.t 71) 1 false, none⟩ := idE rfl
@[go_sem] theorem g_Z42_9_14 : gAt l_Z42_9 14 = ⟨(some 73), .mv (.t 0), none⟩ := idE rfl
@[go_sem] theorem g_Z42_9_15 : gAt l_Z42_9 15 = ⟨(some 74), .mv (.t 3), none⟩ := idE rfl
@[go_sem] theorem g_Z42_9_16 : gAt l_Z42_9 16 = ⟨(some 75), .mv (.t 10), none⟩ := idE rfl
@[go_sem] theorem g_Z42_9_17 : gAt l_Z42_9 17 = ⟨(some 76), .bin .add (.t 74) (.t 75), none⟩ := idE rfl
@[go_sem] theorem g_Z42_9_18 : gAt l_Z42_9 18 = ⟨(some 77), .iaddr (.t 73) (.t 76) 1, none⟩ := idE rfl
@[go_sem] theorem g_Z42_9_19 : gAt l_Z42_9 19 = ⟨(some 78), .load (.t 77) 1 false, none⟩ := idE rfl
@[go_sem] theorem g_Z42_9_20 : gAt l_Z42_9 20 = ⟨(some 79), .iaddr (.t 59) (.t 62) 1, none⟩ := idE rfl
@[go_sem] theorem g_Z42_9_21 : gAt l_Z42_9 21 = ⟨none, .store (.t 79) 1 (.t 72), none⟩ := idE rfl
@[go_sem] theorem g_Z42_9_22 : gAt l_Z42_9 22 = ⟨(some 80), .iaddr (.t 63) (.t 66) 1, none⟩ := idE rfl
@[go_sem] theorem g_Z42_9_23 : gAt l_Z42_9 23 = ⟨none, .store (.t 80) 1 (.t 78), none⟩ := idE rfl
def Z42_9 : IR := .dops l_Z42_9 [(0, []), (1, []), (2, []), (3, []), (4, []), (5, []), (6, []), (7, []), (8, []), (9, []), (10, []), (11, []), (12, []), (13, []), (14, []), (15, []), (16, []), (17, []), (18, []), (19, []), (20, []), (21, []), (22, []), (23, [])]
@[go_sem] theorem w_Z42_9 : wp P Z42_9 Q e H = wpD P l_Z42_9 [(0, []), (1, []), (2, []), (3, []), (4, []), (5, []), (6, []), (7, []), (8, []), (9, []), (10, []), (11, []), (12, []), (13, []), (14, []), (15, []), (16, []), (17, []), (18, []), (19, []), (20, []), (21, []), (22, []), (23, [])] (Q .normal) e H := idE rfl
@[go_sem] def l_Z42_10 : List GOp := [⟨(some 81), .mv (.t 11), none⟩,
    ⟨(some 10), .mv (.t 81), none⟩]
def Z42_10 : IR := .ops l_Z42_10
@[go_sem] theorem w_Z42_10 : wp P Z42_10 Q e H = wpL P l_Z42_10 (Q .normal) e H := idE rfl
def Z42_11 : IR := .block 1 (.seq Z42_1 (.seq (.seq Z42_2 Z42_3) (.seq (.seq Z42_4 Z42_6) (.seq (.seq Z42_7 Z42_8) (.seq Z42_9 Z42_10)))))
@[go_sem] theorem w_Z42_11 : wp P Z42_11 Q e H = wp P (.seq Z42_1 (.seq (.seq Z42_2 Z42_3) (.seq (.seq Z42_4 Z42_6) (.seq (.seq Z42_7 Z42_8) (.seq Z42_9 Z42_10))))) (blockQ 1 Q) e H := idE rfl
def Z42_12 : IR := .loop Z42_11
def Z42_13 : IR := .block 0 Z42_12
@[go_sem] theorem w_Z42_13 : wp P Z42_13 Q e H = wp P Z42_12 (blockQ 0 Q) e H := idE rfl
@[go_sem] def l_Z31_0 : List GOp := [⟨(some 13), .mv (.t 1), none⟩,
    ⟨(some 8), .mv (.t 13), none⟩]
def Z31_0 : IR := .ops l_Z31_0
@[go_sem] theorem w_Z31_0 : wp P Z31_0 Q e H = wpL P l_Z31_0 (Q .normal) e H := idE rfl
@[go_sem] def l_Z31_1 : List GOp := [⟨(some 9), .mv (.c (.int .i64 0)), none⟩]
def Z31_1 : IR := .ops l_Z31_1
@[go_sem] theorem w_Z31_1 : wp P Z31_1 Q e H = wpL P l_Z31_1 (Q .normal) e H := idE rfl
@[go_sem] def l_Z31_2 : List GOp := [⟨(some 14), .mv (.t 2), none⟩,
    ⟨(some 15), .mv (.t 1), none⟩,
    ⟨(some 16), .bin .sub (.t 14) (.t 15), none⟩,
    ⟨(some 10), .mv (.t 16), none⟩]
def Z31_2 : IR := .ops l_Z31_2
@[go_sem] theorem w_Z31_2 : wp P Z31_2 Q e H = wpL P l_Z31_2 (Q .normal) e H := idE rfl
@[go_sem] def l_Z31_3 : List GOp := [⟨(some 17), .mv (.t 10), none⟩,
    ⟨(some 18), .bin .sub (.t 17) (.c (.int .i64 1)), none⟩,
    ⟨(some 19), .bin .quo (.t 18) (.c (.int .i64 2)), none⟩,
    ⟨(some 11), .mv (.t 19), none⟩]
def Z31_3 : IR := .ops l_Z31_3
@[go_sem] theorem w_Z31_3 : wp P Z31_3 Q e H = wpL P l_Z31_3 (Q .normal) e H := idE rfl
@[go_sem] def l_Z31_4 : List GOp := [⟨(some 20), .mv (.t 11), none⟩,
    ⟨(some 21), .bin .geq (.t 20) (.c (.int .i64 0)), none⟩]
def Z31_4 : IR := .ops l_Z31_4
@[go_sem] theorem w_Z31_4 : wp P Z31_4 Q e H = wpL P l_Z31_4 (Q .normal) e H := idE rfl
def Z31_5 : IR := .cond (.t 21) .skip (.exit 0)
@[go_sem] theorem w_Z31_5 : wp P Z31_5 Q e H = condW P ((.t 21) : X) .skip (.exit 0) Q e H := idE rfl
@[go_sem] def l_Z31_6 : List GOp := [⟨(some 24), .mv (.t 0), none⟩,
    ⟨(some 25), .mv (.t 11), none⟩,
    ⟨(some 26), .mv (.t 10), none⟩,
    ⟨(some 27), .mv (.t 8), none⟩,
    ⟨(some 28), .mv (.t 3), none⟩,
    ⟨(some 29), .call (n_Z42) [(.t 24), (.t 25), (.t 26), (.t 27), (.t 28)], none⟩]
def Z31_6 : IR := .ops l_Z31_6
@[go_sem] theorem w_Z31_6 : wp P Z31_6 Q e H = wpL P l_Z31_6 (Q .normal) e H := idE rfl
def Z31_7 : IR := .block 1 Z31_6
@[go_sem] theorem w_Z31_7 : wp P Z31_7 Q e H = wp P Z31_6 (blockQ 1 Q) e H := idE rfl
@[go_sem] def l_Z31_8 : List GOp := [⟨(some 22), .mv (.t 11), none⟩,
    ⟨(some 23), .bin .sub (.t 22) (.c (.int .i64 1)), none⟩,
    ⟨(some 11), .mv (.t 23), none⟩]
def Z31_8 : IR := .ops l_Z31_8
@[go_sem] theorem w_Z31_8 : wp P Z31_8 Q e H = wpL P l_Z31_8 (Q .normal) e H := idE rfl
def Z31_9 : IR := .loop (.seq (.seq Z31_4 Z31_5) (.seq Z31_7 Z31_8))
def Z31_10 : IR := .block 0 Z31_9
@[go_sem] theorem w_Z31_10 : wp P Z31_10 Q e H = wp P Z31_9 (blockQ 0 Q) e H := idE rfl
@[go_sem] def l_Z31_11 : List GOp := [⟨(some 30), .mv (.t 10), none⟩,
    ⟨(some 31), .bin .sub (.t 30) (.c (.int .i64 1)), none⟩,
    ⟨(some 12), .mv (.t 31), none⟩]
def Z31_11 : IR := .ops l_Z31_11
@[go_sem] theorem w_Z31_11 : wp P Z31_11 Q e H = wpL P l_Z31_11 (Q .normal) e H := idE rfl
@[go_sem] def l_Z31_12 : List GOp := [⟨(some 32), .mv (.t 12), none⟩,
    ⟨(some 33), .bin .geq (.t 32) (.c (.int .i64 0)), none⟩]
def Z31_12 : IR := .ops l_Z31_12
@[go_sem] theorem w_Z31_12 : wp P Z31_12 Q e H = wpL P l_Z31_12 (Q .normal) e H := idE rfl
def Z31_13 : IR := .cond (.t 33) .skip (.exit 2)
@[go_sem] theorem w_Z31_13 : wp P Z31_13 Q e H = condW P ((.t 33) : X) .skip (.exit 2) Q e H := idE rfl
def l_Z31_14 : List GOp := [⟨(some 36), .mv (.t 0), none⟩,
    ⟨(some 37), .mv (.t 8), none⟩,
    ⟨(some 38), .mv (.t 0), none⟩,
    ⟨(some 39), .mv (.t 8), none⟩,
    ⟨(some 40), .mv (.t 12), none⟩,
    ⟨(some 41), .bin .add (.t 39) (.t 40), none⟩,
    ⟨(some 42), .mv (.t 0), none⟩,
    ⟨(some 43), .mv (.t 8), none⟩,
    ⟨(some 44), .mv (.t 12), none⟩,
    ⟨(some 45), .bin .add (.t 43) (.t 44), none⟩,
    ⟨(some 46), .iaddr (.t 42) (.t 45) 1, none⟩,
    ⟨(some 47), .load (.t 46) 1 false, none⟩,
    ⟨(some 48), .mv (.t 0), none⟩,
    ⟨(some 49), .mv (.t 8), none⟩,
    ⟨(some 50), .iaddr (.t 48) (.t 49) 1, none⟩,
    ⟨(some 51), .load (.t 50) 1 false, none⟩,
    ⟨(some 52), .iaddr (.t 36) (.t 37) 1, none⟩,
    ⟨none, .store (.t 52) 1 (.t 47), none⟩,
    ⟨(some 53), .iaddr (.t 38) (.t 41) 1, none⟩,
    ⟨none, .store (.t 53) 1 (.t 51), none⟩]
@[go_sem] theorem g_Z31_14_0 : gAt l_Z31_14 0 = ⟨(some 36), .mv (.t 0), none⟩ := idE rfl
@[go_sem] theorem g_Z31_14_1 : gAt l_Z31_14 1 = ⟨(some 37), .mv (.t 8), none⟩ := idE rfl
@[go_sem] theorem g_Z31_14_2 : gAt l_Z31_14 2 = ⟨(some 38), .mv (.t 0), none⟩ := idE rfl
@[go_sem] theorem g_Z31_14_3 : gAt l_Z31_14 3 = ⟨(some 39), .mv (.t 8), none⟩ := idE rfl
@[go_sem] theorem g_Z31_14_4 : gAt l_Z31_14 4 = ⟨(some 40), .mv (.t 12), none⟩ := idE rfl
@[go_sem] theorem g_Z31_14_5 : gAt l_Z31_14 5 = ⟨(some 41), .bin .add (.t 39) (.t 40), none⟩ := idE rfl
@[go_sem] theorem g_Z31_14_6 : gAt l_Z31_14 6 = ⟨(some 42), .mv (.t 0), none⟩ := idE rfl
@[go_sem] theorem g_Z31_14_7 : gAt l_Z31_14 7 = ⟨(some 43), .mv (.t 8), none⟩ := idE rfl
@[go_sem] theorem g_Z31_14_8 : gAt l_Z31_14 8 = ⟨(some 44), .mv (.t 12), none⟩ := idE rfl
@[go_sem] theorem g_Z31_14_9 : gAt l_Z31_14 9 = ⟨(some 45), .bin .add (.t 43) (.t 44), none⟩ := idE rfl
@[go_sem] theorem g_Z31_14_10 : gAt l_Z31_14 10 = ⟨(some 46), .iaddr (.t 42) (.t 45) 1, none⟩ := idE rfl
@[go_sem] theorem g_Z31_14_11 : gAt l_Z31_14 11 = ⟨(some 47), .load (.t 46) 1 false, none⟩ := idE rfl
@[go_sem] theorem g_Z31_14_12 : gAt l_Z31_14 12 = ⟨(some 48), .mv (.t 0), none⟩ := idE rfl
@[go_sem] theorem g_Z31_14_13 : gAt l_Z31_14 13 = ⟨(some 49), .mv (.t 8), none⟩ := idE rfl
@[go_sem] theorem g_Z31_14_14 : gAt l_Z31_14 14 = ⟨(some 50), .iaddr (.t 48) (.t 49) 1, none⟩ := idE rfl
@[go_sem] theorem g_Z31_14_15 : gAt l_Z31_14 15 = ⟨(some 51), .load (.t 50) 1 false, none⟩ := idE rfl
@[go_sem] theorem g_Z31_14_16 : gAt l_Z31_14 16 = ⟨(some 52), .iaddr (.t 36) (.t 37) 1, none⟩ := idE rfl
@[go_sem] theorem g_Z31_14_17 : gAt l_Z31_14 17 = ⟨none, .store (.t 52) 1 (.t 47), none⟩ := idE rfl
@[go_sem] theorem g_Z31_14_18 : gAt l_Z31_14 18 = ⟨(some 53), .iaddr (.t 38) (.t 41) 1, none⟩ := idE rfl
@[go_sem] theorem g_Z31_14_19 : gAt l_Z31_14 19 = ⟨none, .store (.t 53) 1 (.t 51), none⟩ := idE rfl
def Z31_14 : IR := .dops l_Z31_14 [(0, []), (1, []), (2, []), (3, []), (4, []), (5, []), (6, []), (7, []), (8, []), (9, []), (10, []), (11, []), (12, []), (13, []), (14, []), (15, []), (16, []), (17, []), (18, []), (19, [])]
@[go_sem] theorem w_Z31_14 : wp P Z31_14 Q e H = wpD P l_Z31_14 [(0, []), (1, []), (2, []), (3, []), (4, []), (5, []), (6, []), (7, []), (8, []), (9, []), (10, []), (11, []), (12, []), (13, []), (14, []), (15, []), (16, []), (17, []), (18, []), (19, [])] (Q .normal) e H := idE rfl
@[go_sem] def l_Z31_15 : List GOp := [⟨(some 54), .mv (.t 0), none⟩,
    ⟨(some 55), .mv (.t 9), none⟩,
    ⟨(some 56), .mv (.t 12), none⟩,
    ⟨(some 57), .mv (.t 8), none⟩,
    ⟨(some 58), .mv (.t 3), none⟩,
    ⟨(some 59), .call (n_Z42) [(.t 54), (.t 55), (.t 56), (.t 57), (.t 58)], none⟩]
def Z31_15 : IR := .ops l_Z31_15
@[go_sem] theorem w_Z31_15 : wp P Z31_15 Q e H = wpL P l_Z31_15 (Q .normal) e H := idE rfl
def Z31_16 : IR := .block 3 (.seq Z31_14 Z31_15)
@[go_sem] theorem w_Z31_16 : wp P Z31_16 Q e H = wp P (.seq Z31_14 Z31_15) (blockQ 3 Q) e H := idE rfl
@[go_sem] def l_Z31_17 : List GOp := [⟨(some 34), .mv (.t 12), none⟩,
    ⟨(some 35), .bin .sub (.t 34) (.c (.int .i64 1)), none⟩,
    ⟨(some 12), .mv (.t 35), none⟩]
def Z31_17 : IR := .ops l_Z31_17
@[go_sem] theorem w_Z31_17 : wp P Z31_17 Q e H = wpL P l_Z31_17 (Q .normal) e H := idE rfl
def Z31_18 : IR := .loop (.seq (.seq Z31_12 Z31_13) (.seq Z31_16 Z31_17))
def Z31_19 : IR := .block 2 Z31_18
@[go_sem] theorem w_Z31_19 : wp P Z31_19 Q e H = wp P Z31_18 (blockQ 2 Q) e H := idE rfl
@[go_sem] def l_Z35_0 : List GOp := [⟨(some 2), .mv (.c (.int .u64 0)), none⟩]
def Z35_0 : IR := .ops l_Z35_0
@[go_sem] theorem w_Z35_0 : wp P Z35_0 Q e H = wpL P l_Z35_0 (Q .normal) e H := idE rfl
@[go_sem] def l_Z35_1 : List GOp := [⟨(some 3), .mv (.t 0), none⟩,
    ⟨(some 4), .cvi .u64 (.t 3), none⟩,
    ⟨(some 5), .call (n_Z20) [(.t 4)], none⟩,
    ⟨(some 6), .bin .shl (.c (.int .u64 1)) (.t 5), none⟩,
    ⟨(some 2), .mv (.t 6), none⟩]
def Z35_1 : IR := .ops l_Z35_1
@[go_sem] theorem w_Z35_1 : wp P Z35_1 Q e H = wpL P l_Z35_1 (Q .normal) e H := idE rfl
@[go_sem] def l_Z43_0 : List GOp := [⟨(some 2), .mv (.c (.int .u64 0)), none⟩]
def Z43_0 : IR := .ops l_Z43_0
@[go_sem] theorem w_Z43_0 : wp P Z43_0 Q e H = wpL P l_Z43_0 (Q .normal) e H := idE rfl
def l_Z43_1 : List GOp := [⟨(some 3), .mv (.t 0), none⟩,
    ⟨(some 4), .nilck (.t 3), none⟩,
    ⟨(some 5), .load (.t 4) 1 false, none⟩,
    ⟨(some 6), .mv (.t 0), none⟩,
    ⟨(some 7), .nilck (.t 6), none⟩,
    ⟨(some 8), .load (.t 7) 1 false, none⟩,
    ⟨(some 9), .bin .shl (.t 8) (.c (.int .u64 13)), none⟩,
    ⟨(some 10), .bin .xor (.t 5) (.t 9), none⟩,
    ⟨(some 11), .nilck (.t 3), none⟩,
    ⟨none, .store (.t 11) 1 (.t 10), none⟩]
@[go_sem] theorem g_Z43_1_0 : gAt l_Z43_1 0 = ⟨(some 3), .mv (.t 0), none⟩ := idE rfl
@[go_sem] theorem g_Z43_1_1 : gAt l_Z43_1 1 = ⟨(some 4), .nilck (.t 3), none⟩ := idE rfl
@[go_sem] theorem g_Z43_1_2 : gAt l_Z43_1 2 = ⟨(some 5), .load (.t 4) 1 false, none⟩ := idE rfl
@[go_sem] theorem g_Z43_1_3 : gAt l_Z43_1 3 = ⟨(some 6), .mv (.t 0), none⟩ := idE rfl
@[go_sem] theorem g_Z43_1_4 : gAt l_Z43_1 4 = ⟨(some 7), .nilck (.t 6), none⟩ := idE rfl
@[go_sem] theorem g_Z43_1_5 : gAt l_Z43_1 5 = ⟨(some 8), .load (.t 7) 1 false, none⟩ := idE rfl
@[go_sem] theorem g_Z43_1_6 : gAt l_Z43_1 6 = ⟨(some 9), .bin .shl (.t 8) (.c (.int .u64 13)), none⟩ := idE rfl
@[go_sem] theorem g_Z43_1_7 : gAt l_Z43_1 7 = ⟨(some 10), .bin .xor (.t 5) (.t 9), none⟩ := idE rfl
@[go_sem] theorem g_Z43_1_8 : gAt l_Z43_1 8 = ⟨(some 11), .nilck (.t 3), none⟩ := idE rfl
@[go_sem] theorem g_Z43_1_9 : gAt l_Z43_1 9 = ⟨none, .store (.t 11) 1 (.t 10), none⟩ := idE rfl
def Z43_1 : IR := .dops l_Z43_1 [(0, []), (1, []), (2, []), (3, []), (4, []), (5, []), (6, []), (7, []), (8, []), (9, [])]
@[go_sem] theorem w_Z43_1 : wp P Z43_1 Q e H = wpD P l_Z43_1 [(0, []), (1, []), (2, []), (3, []), (4, []), (5, []), (6, []), (7, []), (8, []), (9, [])] (Q .normal) e H := idE rfl
def l_Z43_2 : List GOp := [⟨(some 12), .mv (.t 0), none⟩,
    ⟨(some 13), .nilck (.t 12), none⟩,
    ⟨(some 14), .load (.t 13) 1 false, none⟩,
    ⟨(some 15), .mv (.t 0), none⟩,
    ⟨(some 16), .nilck (.t 15), none⟩,
    ⟨(some 17), .load (.t 16) 1 false, none⟩,
    ⟨(some 18), .bin .shr (.t 17) (.c (.int .u64 7)), none⟩,
    ⟨(some 19), .bin .xor (.t 14) (.t 18), none⟩,
    ⟨(some 20), .nilck (.t 12), none⟩,
    ⟨none, .store (.t 20) 1 (.t 19), none⟩]
@[go_sem] theorem g_Z43_2_0 : gAt l_Z43_2 0 = ⟨(some 12), .mv (.t 0), none⟩ := idE rfl
@[go_sem] theorem g_Z43_2_1 : gAt l_Z43_2 1 = ⟨(some 13), .nilck (.t 12), none⟩ := idE rfl
@[go_sem] theorem g_Z43_2_2 : gAt l_Z43_2 2 = ⟨(some 14), .load (.t 13) 1 false, none⟩ := idE rfl
@[go_sem] theorem g_Z43_2_3 : gAt l_Z43_2 3 = ⟨(some 15), .mv (.t 0), none⟩ := idE rfl
@[go_sem] theorem g_Z43_2_4 : gAt l_Z43_2 4 = ⟨(some 16), .nilck (.t 15), none⟩ := idE rfl
@[go_sem] theorem g_Z43_2_5 : gAt l_Z43_2 5 = ⟨(some 17), .load (.t 16) 1 false, none⟩ := idE rfl
@[go_sem] theorem g_Z43_2_6 : gAt l_Z43_2 6 = ⟨(some 18), .bin .shr (.t 17) (.c (.int .u64 7)), none⟩ := idE rfl
@[go_sem] theorem g_Z43_2_7 : gAt l_Z43_2 7 = ⟨(some 19), .bin .xor (.t 14) (.t 18), none⟩ := idE rfl
@[go_sem] theorem g_Z43_2_8 : gAt l_Z43_2 8 = ⟨(some 20), .nilck (.t 12), none⟩ := idE rfl
@[go_sem] theorem g_Z43_2_9 : gAt l_Z43_2 9 = ⟨none, .store (.t 20) 1 (.t 19), none⟩ := idE rfl
def Z43_2 : IR := .dops l_Z43_2 [(0, []), (1, []), (2, []), (3, []), (4, []), (5, []), (6, []), (7, []), (8, []), (9, [])]
@[go_sem] theorem w_Z43_2 : wp P Z43_2 Q e H = wpD P l_Z43_2 [(0, []), (1, []), (2, []), (3, []), (4, []), (5, []), (6, []), (7, []), (8, []), (9, [])] (Q .normal) e H := idE rfl
def l_Z43_3 : List GOp := [⟨(some 21), .mv (.t 0), none⟩,
    ⟨(some 22), .nilck (.t 21), none⟩,
    ⟨(some 23), .load (.t 22) 1 false, none⟩,
    ⟨(some 24), .mv (.t 0), none⟩,
    ⟨(some 25), .nilck (.t 24), none⟩,
    ⟨(some 26), .load (.t 25) 1 false, none⟩,
    ⟨(some 27), .bin .shl (.t 26) (.c (.int .u64 17)), none⟩,
    ⟨(some 28), .bin .xor (.t 23) (.t 27), none⟩,
    ⟨(some 29), .nilck (.t 21), none⟩,
    ⟨none, .store (.t 29) 1 (.t 28), none⟩]
@[go_sem] theorem g_Z43_3_0 : gAt l_Z43_3 0 = ⟨(some 21), .mv (.t 0), none⟩ := idE rfl
@[go_sem] theorem g_Z43_3_1 : gAt l_Z43_3 1 = ⟨(some 22), .nilck (.t 21), none⟩ := idE rfl
@[go_sem] theorem g_Z43_3_2 : gAt l_Z43_3 2 = ⟨(some 23), .load (.t 22) 1 false, none⟩ := idE rfl
@[go_sem] theorem g_Z43_3_3 : gAt l_Z43_3 3 = ⟨(some 24), .mv (.t 0), none⟩ := idE rfl
@[go_sem] theorem g_Z43_3_4 : gAt l_Z43_3 4 = ⟨(some 25), .nilck (.t 24), none⟩ := idE rfl
@[go_sem] theorem g_Z43_3_5 : gAt l_Z43_3 5 = ⟨(some 26), .load (.t 25) 1 false, none⟩ := idE rfl
@[go_sem] theorem g_Z43_3_6 : gAt l_Z43_3 6 = ⟨(some 27), .bin .shl (.t 26) (.c (.int .u64 17)), none⟩ := idE rfl
@[go_sem] theorem g_Z43_3_7 : gAt l_Z43_3 7 = ⟨(some 28), .bin .xor (.t 23) (.t 27), none⟩ := idE rfl
@[go_sem] theorem g_Z43_3_8 : gAt l_Z43_3 8 = ⟨(some 29), .nilck (.t 21), none⟩ := idE rfl
@[go_sem] theorem g_Z43_3_9 : gAt l_Z43_3 9 = ⟨none, .store (.t 29) 1 (.t 28), none⟩ := idE rfl
def Z43_3 : IR := .dops l_Z43_3 [(0, []), (1, []), (2, []), (3, []), (4, []), (5, []), (6, []), (7, []), (8, []), (9, [])]
@[go_sem] theorem w_Z43_3 : wp P Z43_3 Q e H = wpD P l_Z43_3 [(0, []), (1, []), (2, []), (3, []), (4, []), (5, []), (6, []), (7, []), (8, []), (9, [])] (Q .normal) e H := idE rfl
@[go_sem] def l_Z43_4 : List GOp := [⟨(some 30), .mv (.t 0), none⟩,
    ⟨(some 31), .nilck (.t 30), none⟩,
    ⟨(some 32), .load (.t 31) 1 false, none⟩,
    ⟨(some 2), .mv (.t 32), none⟩]
def Z43_4 : IR := .ops l_Z43_4
@[go_sem] theorem w_Z43_4 : wp P Z43_4 Q e H = wpL P l_Z43_4 (Q .normal) e H := idE rfl
@[go_sem] def l_Z29_0 : List GOp := [⟨(some 13), .mv (.t 2), none⟩,
    ⟨(some 14), .mv (.t 1), none⟩,
    ⟨(some 15), .bin .sub (.t 13) (.t 14), none⟩,
    ⟨(some 8), .mv (.t 15), none⟩]
def Z29_0 : IR := .ops l_Z29_0
@[go_sem] theorem w_Z29_0 : wp P Z29_0 Q e H = wpL P l_Z29_0 (Q .normal) e H := idE rfl
@[go_sem] def l_Z29_1 : List GOp := [⟨(some 16), .mv (.t 8), none⟩,
    ⟨(some 17), .bin .geq (.t 16) (.c (.int .i64 8)), none⟩]
def Z29_1 : IR := .ops l_Z29_1
@[go_sem] theorem w_Z29_1 : wp P Z29_1 Q e H = wpL P l_Z29_1 (Q .normal) e H := idE rfl
@[go_sem] def l_Z29_2 : List GOp := [⟨(some 18), .mv (.t 8), none⟩,
    ⟨(some 19), .cvi .u64 (.t 18), none⟩,
    ⟨(some 9), .alloc [(.int .u64 0)], none⟩,
    ⟨none, .store (.t 9) 1 (.t 19), none⟩]
def Z29_2 : IR := .ops l_Z29_2
@[go_sem] theorem w_Z29_2 : wp P Z29_2 Q e H = wpL P l_Z29_2 (Q .normal) e H := idE rfl
@[go_sem] def l_Z29_3 : List GOp := [⟨(some 20), .mv (.t 8), none⟩,
    ⟨(some 21), .call (n_Z35) [(.t 20)], none⟩,
    ⟨(some 10), .mv (.t 21), none⟩]
def Z29_3 : IR := .ops l_Z29_3
@[go_sem] theorem w_Z29_3 : wp P Z29_3 Q e H = wpL P l_Z29_3 (Q .normal) e H := idE rfl
@[go_sem] def l_Z29_4 : List GOp := [⟨(some 22), .mv (.t 1), none⟩,
    ⟨(some 23), .mv (.t 8), none⟩,
    ⟨(some 24), .bin .quo (.t 23) (.c (.int .i64 4)), none⟩,
    ⟨(some 25), .bin .mul (.t 24) (.c (.int .i64 2)), none⟩,
    ⟨(some 26), .bin .add (.t 22) (.t 25), none⟩,
    ⟨(some 27), .bin .sub (.t 26) (.c (.int .i64 1)), none⟩,
    ⟨(some 11), .mv (.t 27), none⟩]
def Z29_4 : IR := .ops l_Z29_4
@[go_sem] theorem w_Z29_4 : wp P Z29_4 Q e H = wpL P l_Z29_4 (Q .normal) e H := idE rfl
@[go_sem] def l_Z29_5 : List GOp := [⟨(some 28), .mv (.t 11), none⟩,
    ⟨(some 29), .mv (.t 1), none⟩,
    ⟨(some 30), .mv (.t 8), none⟩,
    ⟨(some 31), .bin .quo (.t 30) (.c (.int .i64 4)), none⟩,
    ⟨(some 32), .bin .mul (.t 31) (.c (.int .i64 2)), none⟩,
    ⟨(some 33), .bin .add (.t 29) (.t 32), none⟩,
    ⟨(some 34), .bin .add (.t 33) (.c (.int .i64 1)), none⟩,
    ⟨(some 35), .bin .leq (.t 28) (.t 34), none⟩]
def Z29_5 : IR := .ops l_Z29_5
@[go_sem] theorem w_Z29_5 : wp P Z29_5 Q e H = wpL P l_Z29_5 (Q .normal) e H := idE rfl
def Z29_6 : IR := .cond (.t 35) .skip (.exit 0)
@[go_sem] theorem w_Z29_6 : wp P Z29_6 Q e H = condW P ((.t 35) : X) .skip (.exit 0) Q e H := idE rfl
@[go_sem] def l_Z29_7 : List GOp := [⟨(some 38), .call (n_Z43) [(.t 9)], none⟩,
    ⟨(some 39), .mv (.t 10), none⟩,
    ⟨(some 40), .bin .sub (.t 39) (.c (.int .u64 1)), none⟩,
    ⟨(some 41), .bin .and (.t 38) (.t 40), none⟩,
    ⟨(some 42), .cvi .i64 (.t 41), none⟩,
    ⟨(some 12), .mv (.t 42), none⟩]
def Z29_7 : IR := .ops l_Z29_7
@[go_sem] theorem w_Z29_7 : wp P Z29_7 Q e H = wpL P l_Z29_7 (Q .normal) e H := idE rfl
@[go_sem] def l_Z29_8 : List GOp := [⟨(some 43), .mv (.t 12), none⟩,
    ⟨(some 44), .mv (.t 8), none⟩,
    ⟨(some 45), .bin .geq (.t 43) (.t 44), none⟩]
def Z29_8 : IR := .ops l_Z29_8
@[go_sem] theorem w_Z29_8 : wp P Z29_8 Q e H = wpL P l_Z29_8 (Q .normal) e H := idE rfl
@[go_sem] def l_Z29_9 : List GOp := [⟨(some 46), .mv (.t 12), none⟩,
    ⟨(some 47), .mv (.t 8), none⟩,
    ⟨(some 48), .bin .sub (.t 46) (.t 47), none⟩,
    ⟨(some 12), .mv (.t 48), none⟩]
def Z29_9 : IR := .ops l_Z29_9
@[go_sem] theorem w_Z29_9 : wp P Z29_9 Q e H = wpL P l_Z29_9 (Q .normal) e H := idE rfl
def Z29_10 : IR := .cond (.t 45) Z29_9 .skip
@[go_sem] theorem w_Z29_10 : wp P Z29_10 Q e H = condW P ((.t 45) : X) Z29_9 .skip Q e H := idE rfl
def l_Z29_11 : List GOp := [⟨(some 49), .mv (.t 0), none⟩,
    ⟨(some 50), .mv (.t 11), none⟩,
    ⟨(some 51), .mv (.t 0), none⟩,
    ⟨(some 52), .mv (.t 1), none⟩,
    ⟨(some 53), .mv (.t 12), none⟩,
    ⟨(some 54), .bin .add (.t 52) (.t 53), none⟩,
    ⟨(some 55), .mv (.t 0), none⟩,
    ⟨(some 56), .mv (.t 1), none⟩,
    ⟨(some 57), .mv (.t 12), none⟩,
    ⟨(some 58), .bin .add (.t 56) (.t 57), none⟩,
    ⟨(some 59), .iaddr (.t 55) (.t 58) 1, none⟩,
    ⟨(some 60), .load (.t 59) 1 false, none⟩,
    ⟨(some 61), .mv (.t 0), none⟩,
    ⟨(some 62), .mv (.t 11), none⟩,
    ⟨(some 63), .iaddr (.t 61) (.t 62) 1, none⟩,
    ⟨(some 64), .load (.t 63) 1 false, none⟩,
    ⟨(some 65), .iaddr (.t 49) (.t 50) 1, none⟩,
    ⟨none, .store (.t 65) 1 (.t 60), none⟩,
    ⟨(some 66), .iaddr (.t 51) (.t 54) 1, none⟩,
    ⟨none, .store (.t 66) 1 (.t 64), none⟩]
@[go_sem] theorem g_Z29_11_0 : gAt l_Z29_11 0 = ⟨(some 49), .mv (.t 0), none⟩ := idE rfl
@[go_sem] theorem g_Z29_11_1 : gAt l_Z29_11 1 = ⟨(some 50), .mv (.t 11), none⟩ := idE rfl
@[go_sem] theorem g_Z29_11_2 : gAt l_Z29_11 2 = ⟨(some 51), .mv (.t 0), none⟩ := idE rfl
@[go_sem] theorem g_Z29_11_3 : gAt l_Z29_11 3 = ⟨(some 52), .mv (.t 1), none⟩ := idE rfl
@[go_sem] theorem g_Z29_11_4 : gAt l_Z29_11 4 = ⟨(some 53), .mv (.t 12), none⟩ := idE rfl
@[go_sem] theorem g_Z29_11_5 : gAt l_Z29_11 5 = ⟨(some 54), .bin .add (.t 52) (.t 53), none⟩ := idE rfl
@[go_sem] theorem g_Z29_11_6 : gAt l_Z29_11 6 = ⟨(some 55), .mv (.t 0), none⟩ := idE rfl
@[go_sem] theorem g_Z29_11_7 : gAt l_Z29_11 7 = ⟨(some 56), .mv (.t 1), none⟩ := idE rfl
@[go_sem] theorem g_Z29_11_8 : gAt l_Z29_11 8 = ⟨(some 57), .mv (.t 12), none⟩ := idE rfl
@[go_sem] theorem g_Z29_11_9 : gAt l_Z29_11 9 = ⟨(some 58), .bin .add (.t 56) (.t 57), none⟩ := idE rfl
@[go_sem] theorem g_Z29_11_10 : gAt l_Z29_11 10 = ⟨(some 59), .iaddr (.t 55) (.t 58) 1, none⟩ := idE rfl
@[go_sem] theorem g_Z29_11_11 : gAt l_Z29_11 11 = ⟨(some 60), .load (.t 59) 1 false, none⟩ := idE rfl
@[go_sem] theorem g_Z29_11_12 : gAt l_Z29_11 12 = ⟨(some 61), .mv (.t 0), none⟩ := idE rfl
@[go_sem] theorem g_Z29_11_13 : gAt l_Z29_11 13 = ⟨(some 62), .mv (.t 11), none⟩ := idE rfl
@[go_sem] theorem g_Z29_11_14 : gAt l_Z29_11 14 = ⟨(some 63), .iaddr (.t 61) (.t 62) 1, none⟩ := idE rfl
@[go_sem] theorem g_Z29_11_15 : gAt l_Z29_11 15 = ⟨(some 64), .load (.t 63) 1 false, none⟩ := idE rfl
@[go_sem] theorem g_Z29_11_16 : gAt l_Z29_11 16 = ⟨(some 65), .iaddr (.t 49) (.t 50) 1, none⟩ := idE rfl
@[go_sem] theorem g_Z29_11_17 : gAt l_Z29_11 17 = ⟨none, .store (.t 65) 1 (.t 60), none⟩ := idE rfl
@[go_sem] theorem g_Z29_11_18 : gAt l_Z29_11 18 = ⟨(some 66), .iaddr (.t 51) (.t 54) 1, none⟩ := idE rfl
@[go_sem] theorem g_Z29_11_19 : gAt l_Z29_11 19 = ⟨none, .store (.t 66) 1 (.t 64), none⟩ := idE rfl
def Z29_11 : IR := .dops l_Z29_11 [(0, []), (1, []), (2, []), (3, []), (4, []), (5, []), (6, []), (7, []), (8, []), (9, []), (10, []), (11, []), (12, []), (13, []), (14, []), (15, []), (16, []), (17, []), (18, []), (19, [])]
@[go_sem] theorem w_Z29_11 : wp P Z29_11 Q e H = wpD P l_Z29_11 [(0, []), (1, []), (2, []), (3, []), (4, []), (5, []), (6, []), (7, []), (8, []), (9, []), (10, []), (11, []), (12, []), (13, []), (14, []), (15, []), (16, []), (17, []), (18, []), (19, [])] (Q .normal) e H := idE rfl
def Z29_12 : IR := .block 1 (.seq Z29_7 (.seq (.seq Z29_8 Z29_10) Z29_11))
@[go_sem] theorem w_Z29_12 : wp P Z29_12 Q e H = wp P (.seq Z29_7 (.seq (.seq Z29_8 Z29_10) Z29_11)) (blockQ 1 Q) e H := idE rfl
@[go_sem] def l_Z29_13 : List GOp := [⟨(some 36), .mv (.t 11), none⟩,
    ⟨(some 37), .bin .add (.t 36) (.c (.int .i64 1)), none⟩,
    ⟨(some 11), .mv (.t 37), none⟩]
def Z29_13 : IR := .ops l_Z29_13
@[go_sem] theorem w_Z29_13 : wp P Z29_13 Q e H = wpL P l_Z29_13 (Q .normal) e H := idE rfl
def Z29_14 : IR := .loop (.seq (.seq Z29_5 Z29_6) (.seq Z29_12 Z29_13))
def Z29_15 : IR := .block 0 Z29_14
@[go_sem] theorem w_Z29_15 : wp P Z29_15 Q e H = wp P Z29_14 (blockQ 0 Q) e H := idE rfl
def Z29_16 : IR := .cond (.t 17) (.seq Z29_2 (.seq Z29_3 (.seq Z29_4 Z29_15))) .skip
@[go_sem] theorem w_Z29_16 : wp P Z29_16 Q e H = condW P ((.t 17) : X) (.seq Z29_2 (.seq Z29_3 (.seq Z29_4 Z29_15))) .skip Q e H := idE rfl
@[go_sem] def l_Z36_0 : List GOp := [⟨(some 10), .mv (.c (.int .i64 0)), none⟩,
    ⟨(some 11), .mv (.c (.int .i64 0)), none⟩]
def Z36_0 : IR := .ops l_Z36_0
@[go_sem] theorem w_Z36_0 : wp P Z36_0 Q e H = wpL P l_Z36_0 (Q .normal) e H := idE rfl
def l_Z36_1 : List GOp := [⟨(some 12), .mv (.t 4), none⟩,
    ⟨(some 13), .mv (.t 0), none⟩,
    ⟨(some 14), .mv (.t 2), none⟩,
    ⟨(some 15), .iaddr (.t 13) (.t 14) 1, none⟩,
    ⟨(some 16), .load (.t 15) 1 false, none⟩,
    ⟨(some 17), .mv (.t 0), none⟩,
    ⟨(some 18), .mv (.t 1), none⟩,
    ⟨(some 19), .iaddr (.t 17) (.t 18) 1, none⟩,
    ⟨(some 20), .load (.t 19) 1 false, none⟩,
    ⟨(some 21), .callv (.t 12) [(.t 16), (.t 20)], none⟩,
    ⟨(some 22), .bin .lss (.t 21) (.c (.int .i64 0)), none⟩]
@[go_sem] theorem g_Z36_1_0 : gAt l_Z36_1 0 = ⟨(some 12), .mv (.t 4), none⟩ := idE rfl
@[go_sem] theorem g_Z36_1_1 : gAt l_Z36_1 1 = ⟨(some 13), .mv (.t 0), none⟩ := idE rfl
@[go_sem] theorem g_Z36_1_2 : gAt l_Z36_1 2 = ⟨(some 14), .mv (.t 2), none⟩ := idE rfl
@[go_sem] theorem g_Z36_1_3 : gAt l_Z36_1 3 = ⟨(some 15), .iaddr (.t 13) (.t 14) 1, none⟩ := idE rfl
@[go_sem] theorem g_Z36_1_4 : gAt l_Z36_1 4 = ⟨(some 16), .load (.t 15) 1 false, none⟩ := idE rfl
@[go_sem] theorem g_Z36_1_5 : gAt l_Z36_1 5 = ⟨(some 17), .mv (.t 0), none⟩ := idE rfl
@[go_sem] theorem g_Z36_1_6 : gAt l_Z36_1 6 = ⟨(some 18), .mv (.t 1), none⟩ := idE rfl
@[go_sem] theorem g_Z36_1_7 : gAt l_Z36_1 7 = ⟨(some 19), .iaddr (.t 17) (.t 18) 1, none⟩ := idE rfl
@[go_sem] theorem g_Z36_1_8 : gAt l_Z36_1 8 = ⟨(some 20), .load (.t 19) 1 false, none⟩ := idE rfl
@[go_sem] theorem g_Z36_1_9 : gAt l_Z36_1 9 = ⟨(some 21), .callv (.t 12) [(.t 16), (.t 20)], none⟩ := idE rfl
@[go_sem] theorem g_Z36_1_10 : gAt l_Z36_1 10 = ⟨(some 22), .bin .lss (.t 21) (.c (.int .i64 0)), none⟩ := idE rfl
def Z36_1 : IR := .dops l_Z36_1 [(0, []), (1, []), (2, []), (3, []), (4, []), (5, []), (6, []), (7, []), (8, []), (9, []), (10, [])]
@[go_sem] theorem w_Z36_1 : wp P Z36_1 Q e H = wpD P l_Z36_1 [(0, []), (1, []), (2, []), (3, []), (4, []), (5, []), (6, []), (7, []), (8, []), (9, []), (10, [])] (Q .normal) e H := idE rfl
@[go_sem] def l_Z36_2 : List GOp := [⟨(some 23), .mv (.t 3), none⟩,
    ⟨(some 24), .nilck (.t 23), none⟩,
    ⟨(some 25), .load (.t 24) 1 false, none⟩,
    ⟨(some 26), .bin .add (.t 25) (.c (.int .i64 1)), none⟩,
    ⟨(some 27), .nilck (.t 23), none⟩,
    ⟨none, .store (.t 27) 1 (.t 26), none⟩]
def Z36_2 : IR := .ops l_Z36_2
@[go_sem] theorem w_Z36_2 : wp P Z36_2 Q e H = wpL P l_Z36_2 (Q .normal) e H := idE rfl
@[go_sem] def l_Z36_3 : List GOp := [⟨(some 28), .mv (.t 2), none⟩,
    ⟨(some 29), .mv (.t 1), none⟩,
    ⟨(some 10), .mv (.t 28), none⟩,
    ⟨(some 11), .mv (.t 29), none⟩]
def Z36_3 : IR := .ops l_Z36_3
@[go_sem] theorem w_Z36_3 : wp P Z36_3 Q e H = wpL P l_Z36_3 (Q .normal) e H := idE rfl
def Z36_4 : IR := .cond (.t 22) (.seq Z36_2 (.seq Z36_3 .ret)) .skip
@[go_sem] theorem w_Z36_4 : wp P Z36_4 Q e H = condW P ((.t 22) : X) (.seq Z36_2 (.seq Z36_3 .ret)) .skip Q e H := idE rfl
@[go_sem] def l_Z36_5 : List GOp := [⟨(some 30), .mv (.t 1), none⟩,
    ⟨(some 31), .mv (.t 2), none⟩,
    ⟨(some 10), .mv (.t 30), none⟩,
    ⟨(some 11), .mv (.t 31), none⟩]
def Z36_5 : IR := .ops l_Z36_5
@[go_sem] theorem w_Z36_5 : wp P Z36_5 Q e H = wpL P l_Z36_5 (Q .normal) e H := idE rfl
@[go_sem] def l_Z34_0 : List GOp := [⟨(some 12), .mv (.c (.int .i64 0)), none⟩]
def Z34_0 : IR := .ops l_Z34_0
@[go_sem] theorem w_Z34_0 : wp P Z34_0 Q e H = wpL P l_Z34_0 (Q .normal) e H := idE rfl
@[go_sem] def l_Z34_1 : List GOp := [⟨(some 14), .mv (.t 0), none⟩,
    ⟨(some 15), .mv (.t 1), none⟩,
    ⟨(some 16), .mv (.t 2), none⟩,
    ⟨(some 17), .mv (.t 4), none⟩,
    ⟨(some 18), .mv (.t 5), none⟩,
    ⟨(some 19), .call (n_Z36) [(.t 14), (.t 15), (.t 16), (.t 17), (.t 18)], none⟩,
    ⟨(some 13), .mv (.t 19), none⟩,
    ⟨(some 20), .ext (.t 13) 0, none⟩,
    ⟨(some 21), .ext (.t 13) 1, none⟩,
    ⟨(some 1), .mv (.t 20), none⟩,
    ⟨(some 2), .mv (.t 21), none⟩]
def Z34_1 : IR := .ops l_Z34_1
@[go_sem] theorem w_Z34_1 : wp P Z34_1 Q e H = wpL P l_Z34_1 (Q .normal) e H := idE rfl
@[go_sem] def l_Z34_2 : List GOp := [⟨(some 23), .mv (.t 0), none⟩,
    ⟨(some 24), .mv (.t 2), none⟩,
    ⟨(some 25), .mv (.t 3), none⟩,
    ⟨(some 26), .mv (.t 4), none⟩,
    ⟨(some 27), .mv (.t 5), none⟩,
    ⟨(some 28), .call (n_Z36) [(.t 23), (.t 24), (.t 25), (.t 26), (.t 27)], none⟩,
    ⟨(some 22), .mv (.t 28), none⟩,
    ⟨(some 29), .ext (.t 22) 0, none⟩,
    ⟨(some 30), .ext (.t 22) 1, none⟩,
    ⟨(some 2), .mv (.t 29), none⟩,
    ⟨(some 3), .mv (.t 30), none⟩]
def Z34_2 : IR := .ops l_Z34_2
@[go_sem] theorem w_Z34_2 : wp P Z34_2 Q e H = wpL P l_Z34_2 (Q .normal) e H := idE rfl
@[go_sem] def l_Z34_3 : List GOp := [⟨(some 32), .mv (.t 0), none⟩,
    ⟨(some 33), .mv (.t 1), none⟩,
    ⟨(some 34), .mv (.t 2), none⟩,
    ⟨(some 35), .mv (.t 4), none⟩,
    ⟨(some 36), .mv (.t 5), none⟩,
    ⟨(some 37), .call (n_Z36) [(.t 32), (.t 33), (.t 34), (.t 35), (.t 36)], none⟩,
    ⟨(some 31), .mv (.t 37), none⟩,
    ⟨(some 38), .ext (.t 31) 0, none⟩,
    ⟨(some 39), .ext (.t 31) 1, none⟩,
    ⟨(some 1), .mv (.t 38), none⟩,
    ⟨(some 2), .mv (.t 39), none⟩]
def Z34_3 : IR := .ops l_Z34_3
@[go_sem] theorem w_Z34_3 : wp P Z34_3 Q e H = wpL P l_Z34_3 (Q .normal) e H := idE rfl
@[go_sem] def l_Z34_4 : List GOp := [⟨(some 40), .mv (.t 2), none⟩,
    ⟨(some 12), .mv (.t 40), none⟩]
def Z34_4 : IR := .ops l_Z34_4
@[go_sem] theorem w_Z34_4 : wp P Z34_4 Q e H = wpL P l_Z34_4 (Q .normal) e H := idE rfl
@[go_sem] def l_Z33_0 : List GOp := [⟨(some 8), .mv (.c (.int .i64 0)), none⟩]
def Z33_0 : IR := .ops l_Z33_0
@[go_sem] theorem w_Z33_0 : wp P Z33_0 Q e H = wpL P l_Z33_0 (Q .normal) e H := idE rfl
@[go_sem] def l_Z33_1 : List GOp := [⟨(some 9), .mv (.t 0), none⟩,
    ⟨(some 10), .mv (.t 1), none⟩,
    ⟨(some 11), .bin .sub (.t 10) (.c (.int .i64 1)), none⟩,
    ⟨(some 12), .mv (.t 1), none⟩,
    ⟨(some 13), .mv (.t 1), none⟩,
    ⟨(some 14), .bin .add (.t 13) (.c (.int .i64 1)), none⟩,
    ⟨(some 15), .mv (.t 2), none⟩,
    ⟨(some 16), .mv (.t 3), none⟩,
    ⟨(some 17), .call (n_Z34) [(.t 9), (.t 11), (.t 12), (.t 14), (.t 15), (.t 16)], none⟩,
    ⟨(some 8), .mv (.t 17), none⟩]
def Z33_1 : IR := .ops l_Z33_1
@[go_sem] theorem w_Z33_1 : wp P Z33_1 Q e H = wpL P l_Z33_1 (Q .normal) e H := idE rfl
@[go_sem] def l_Z30_0 : List GOp := [⟨(some 8), .mv (.c (.int .i64 0)), none⟩,
    ⟨(some 9), .mv (.c (.int .i64 0)), none⟩]
def Z30_0 : IR := .ops l_Z30_0
@[go_sem] theorem w_Z30_0 : wp P Z30_0 Q e H = wpL P l_Z30_0 (Q .normal) e H := idE rfl
@[go_sem] def l_Z30_1 : List GOp := [⟨(some 15), .mv (.t 2), none⟩,
    ⟨(some 16), .mv (.t 1), none⟩,
    ⟨(some 17), .bin .sub (.t 15) (.t 16), none⟩,
    ⟨(some 10), .mv (.t 17), none⟩]
def Z30_1 : IR := .ops l_Z30_1
@[go_sem] theorem w_Z30_1 : wp P Z30_1 Q e H = wpL P l_Z30_1 (Q .normal) e H := idE rfl
@[go_sem] def l_Z30_2 : List GOp := [⟨(some 11), .alloc [(.int .i64 0)], none⟩]
def Z30_2 : IR := .ops l_Z30_2
@[go_sem] theorem w_Z30_2 : wp P Z30_2 Q e H = wpL P l_Z30_2 (Q .normal) e H := idE rfl
@[go_sem] def l_Z30_3 : List GOp := [⟨(some 18), .mv (.t 1), none⟩,
    ⟨(some 19), .mv (.t 10), none⟩,
    ⟨(some 20), .bin .quo (.t 19) (.c (.int .i64 4)), none⟩,
    ⟨(some 21), .bin .mul (.t 20) (.c (.int .i64 1)), none⟩,
    ⟨(some 22), .bin .add (.t 18) (.t 21), none⟩,
    ⟨(some 12), .mv (.t 22), none⟩]
def Z30_3 : IR := .ops l_Z30_3
@[go_sem] theorem w_Z30_3 : wp P Z30_3 Q e H = wpL P l_Z30_3 (Q .normal) e H := idE rfl
@[go_sem] def l_Z30_4 : List GOp := [⟨(some 23), .mv (.t 1), none⟩,
    ⟨(some 24), .mv (.t 10), none⟩,
    ⟨(some 25), .bin .quo (.t 24) (.c (.int .i64 4)), none⟩,
    ⟨(some 26), .bin .mul (.t 25) (.c (.int .i64 2)), none⟩,
    ⟨(some 27), .bin .add (.t 23) (.t 26), none⟩,
    ⟨(some 13), .mv (.t 27), none⟩]
def Z30_4 : IR := .ops l_Z30_4
@[go_sem] theorem w_Z30_4 : wp P Z30_4 Q e H = wpL P l_Z30_4 (Q .normal) e H := idE rfl
@[go_sem] def l_Z30_5 : List GOp := [⟨(some 28), .mv (.t 1), none⟩,
    ⟨(some 29), .mv (.t 10), none⟩,
    ⟨(some 30), .bin .quo (.t 29) (.c (.int .i64 4)), none⟩,
    ⟨(some 31), .bin .mul (.t 30) (.c (.int .i64 3)), none⟩,
    ⟨(some 32), .bin .add (.t 28) (.t 31), none⟩,
    ⟨(some 14), .mv (.t 32), none⟩]
def Z30_5 : IR := .ops l_Z30_5
@[go_sem] theorem w_Z30_5 : wp P Z30_5 Q e H = wpL P l_Z30_5 (Q .normal) e H := idE rfl
@[go_sem] def l_Z30_6 : List GOp := [⟨(some 33), .mv (.t 10), none⟩,
    ⟨(some 34), .bin .geq (.t 33) (.c (.int .i64 8)), none⟩]
def Z30_6 : IR := .ops l_Z30_6
@[go_sem] theorem w_Z30_6 : wp P Z30_6 Q e H = wpL P l_Z30_6 (Q .normal) e H := idE rfl
@[go_sem] def l_Z30_7 : List GOp := [⟨(some 35), .mv (.t 10), none⟩,
    ⟨(some 36), .bin .geq (.t 35) (.c (.int .i64 50)), none⟩]
def Z30_7 : IR := .ops l_Z30_7
@[go_sem] theorem w_Z30_7 : wp P Z30_7 Q e H = wpL P l_Z30_7 (Q .normal) e H := idE rfl
@[go_sem] def l_Z30_8 : List GOp := [⟨(some 37), .mv (.t 0), none⟩,
    ⟨(some 38), .mv (.t 12), none⟩,
    ⟨(some 39), .mv (.t 3), none⟩,
    ⟨(some 40), .call (n_Z33) [(.t 37), (.t 38), (.t 11), (.t 39)], none⟩,
    ⟨(some 12), .mv (.t 40), none⟩]
def Z30_8 : IR := .ops l_Z30_8
@[go_sem] theorem w_Z30_8 : wp P Z30_8 Q e H = wpL P l_Z30_8 (Q .normal) e H := idE rfl
@[go_sem] def l_Z30_9 : List GOp := [⟨(some 41), .mv (.t 0), none⟩,
    ⟨(some 42), .mv (.t 13), none⟩,
    ⟨(some 43), .mv (.t 3), none⟩,
    ⟨(some 44), .call (n_Z33) [(.t 41), (.t 42), (.t 11), (.t 43)], none⟩,
    ⟨(some 13), .mv (.t 44), none⟩]
def Z30_9 : IR := .ops l_Z30_9
@[go_sem] theorem w_Z30_9 : wp P Z30_9 Q e H = wpL P l_Z30_9 (Q .normal) e H := idE rfl
@[go_sem] def l_Z30_10 : List GOp := [⟨(some 45), .mv (.t 0), none⟩,
    ⟨(some 46), .mv (.t 14), none⟩,
    ⟨(some 47), .mv (.t 3), none⟩,
    ⟨(some 48), .call (n_Z33) [(.t 45), (.t 46), (.t 11), (.t 47)], none⟩,
    ⟨(some 14), .mv (.t 48), none⟩]
def Z30_10 : IR := .ops l_Z30_10
@[go_sem] theorem w_Z30_10 : wp P Z30_10 Q e H = wpL P l_Z30_10 (Q .normal) e H := idE rfl
def Z30_11 : IR := .cond (.t 36) (.seq Z30_8 (.seq Z30_9 Z30_10)) .skip
@[go_sem] theorem w_Z30_11 : wp P Z30_11 Q e H = condW P ((.t 36) : X) (.seq Z30_8 (.seq Z30_9 Z30_10)) .skip Q e H := idE rfl
@[go_sem] def l_Z30_12 : List GOp := [⟨(some 49), .mv (.t 0), none⟩,
    ⟨(some 50), .mv (.t 12), none⟩,
    ⟨(some 51), .mv (.t 13), none⟩,
    ⟨(some 52), .mv (.t 14), none⟩,
    ⟨(some 53), .mv (.t 3), none⟩,
    ⟨(some 54), .call (n_Z34) [(.t 49), (.t 50), (.t 51), (.t 52), (.t 11), (.t 53)], none⟩,
    ⟨(some 13), .mv (.t 54), none⟩]
def Z30_12 : IR := .ops l_Z30_12
@[go_sem] theorem w_Z30_12 : wp P Z30_12 Q e H = wpL P l_Z30_12 (Q .normal) e H := idE rfl
def Z30_13 : IR := .cond (.t 34) (.seq (.seq Z30_7 Z30_11) Z30_12) .skip
@[go_sem] theorem w_Z30_13 : wp P Z30_13 Q e H = condW P ((.t 34) : X) (.seq (.seq Z30_7 Z30_11) Z30_12) .skip Q e H := idE rfl
@[go_sem] def l_Z30_14 : List GOp := [⟨(some 55), .load (.t 11) 1 false, none⟩]
def Z30_14 : IR := .ops l_Z30_14
@[go_sem] theorem w_Z30_14 : wp P Z30_14 Q e H = wpL P l_Z30_14 (Q .normal) e H := idE rfl
@[go_sem] def l_Z30_15 : List GOp := [⟨(some 58), .bin .eql (.t 55) (.c (.int .i64 0)), none⟩,
    ⟨(some 57), .mv (.t 58), none⟩]
def Z30_15 : IR := .ops l_Z30_15
@[go_sem] theorem w_Z30_15 : wp P Z30_15 Q e H = wpL P l_Z30_15 (Q .normal) e H := idE rfl
@[go_sem] def l_Z30_16 : List GOp := [⟨(some 59), .mv (.t 13), none⟩,
    ⟨(some 8), .mv (.t 59), none⟩,
    ⟨(some 9), .mv (.c (.int .i64 1)), none⟩]
def Z30_16 : IR := .ops l_Z30_16
@[go_sem] theorem w_Z30_16 : wp P Z30_16 Q e H = wpL P l_Z30_16 (Q .normal) e H := idE rfl
@[go_sem] def l_Z30_17 : List GOp := [⟨(some 61), .bin .eql (.t 55) (.c (.int .i64 12)), none⟩,
    ⟨(some 60), .mv (.t 61), none⟩]
def Z30_17 : IR := .ops l_Z30_17
@[go_sem] theorem w_Z30_17 : wp P Z30_17 Q e H = wpL P l_Z30_17 (Q .normal) e H := idE rfl
@[go_sem] def l_Z30_18 : List GOp := [⟨(some 62), .mv (.t 13), none⟩,
    ⟨(some 8), .mv (.t 62), none⟩,
    ⟨(some 9), .mv (.c (.int .i64 2)), none⟩]
def Z30_18 : IR := .ops l_Z30_18
@[go_sem] theorem w_Z30_18 : wp P Z30_18 Q e H = wpL P l_Z30_18 (Q .normal) e H := idE rfl
@[go_sem] def l_Z30_19 : List GOp := [⟨(some 56), .mv (.t 13), none⟩,
    ⟨(some 8), .mv (.t 56), none⟩,
    ⟨(some 9), .mv (.c (.int .i64 0)), none⟩]
def Z30_19 : IR := .ops l_Z30_19
@[go_sem] theorem w_Z30_19 : wp P Z30_19 Q e H = wpL P l_Z30_19 (Q .normal) e H := idE rfl
def Z30_20 : IR := .cond (.t 60) (.seq Z30_18 .ret) (.seq Z30_19 .ret)
@[go_sem] theorem w_Z30_20 : wp P Z30_20 Q e H = condW P ((.t 60) : X) (.seq Z30_18 .ret) (.seq Z30_19 .ret) Q e H := idE rfl
def Z30_21 : IR := .cond (.t 57) (.seq Z30_16 .ret) (.seq Z30_17 Z30_20)
@[go_sem] theorem w_Z30_21 : wp P Z30_21 Q e H = condW P ((.t 57) : X) (.seq Z30_16 .ret) (.seq Z30_17 Z30_20) Q e H := idE rfl
def Z30_22 : IR := .block 0 (.seq Z30_15 Z30_21)
@[go_sem] theorem w_Z30_22 : wp P Z30_22 Q e H = wp P (.seq Z30_15 Z30_21) (blockQ 0 Q) e H := idE rfl
@[go_sem] def l_Z41_0 : List GOp := [⟨(some 10), .mv (.t 1), none⟩,
    ⟨(some 8), .mv (.t 10), none⟩]
def Z41_0 : IR := .ops l_Z41_0
@[go_sem] theorem w_Z41_0 : wp P Z41_0 Q e H = wpL P l_Z41_0 (Q .normal) e H := idE rfl
@[go_sem] def l_Z41_1 : List GOp := [⟨(some 11), .mv (.t 2), none⟩,
    ⟨(some 12), .bin .sub (.t 11) (.c (.int .i64 1)), none⟩,
    ⟨(some 9), .mv (.t 12), none⟩]
def Z41_1 : IR := .ops l_Z41_1
@[go_sem] theorem w_Z41_1 : wp P Z41_1 Q e H = wpL P l_Z41_1 (Q .normal) e H := idE rfl
@[go_sem] def l_Z41_2 : List GOp := [⟨(some 13), .mv (.t 8), none⟩,
    ⟨(some 14), .mv (.t 9), none⟩,
    ⟨(some 15), .bin .lss (.t 13) (.t 14), none⟩]
def Z41_2 : IR := .ops l_Z41_2
@[go_sem] theorem w_Z41_2 : wp P Z41_2 Q e H = wpL P l_Z41_2 (Q .normal) e H := idE rfl
def Z41_3 : IR := .cond (.t 15) .skip (.exit 0)
@[go_sem] theorem w_Z41_3 : wp P Z41_3 Q e H = condW P ((.t 15) : X) .skip (.exit 0) Q e H := idE rfl
def l_Z41_4 : List GOp := [⟨(some 16), .mv (.t 0), none⟩,
    ⟨(some 17), .mv (.t 8), none⟩,
    ⟨(some 18), .mv (.t 0), none⟩,
    ⟨(some 19), .mv (.t 9), none⟩,
    ⟨(some 20), .mv (.t 0), none⟩,
    ⟨(some 21), .mv (.t 9), none⟩,
    ⟨(some 22), .iaddr (.t 20) (.t 21) 1, none⟩,
    ⟨(some 23), .load (.t 22) 1 false, none⟩,
    ⟨(some 24), .mv (.t 0), none⟩,
    ⟨(some 25), .mv (.t 8), none⟩,
    ⟨(some 26), .iaddr (.t 24) (.t 25) 1, none⟩,
    ⟨(some 27), .load (.t 26) 1 false, none⟩,
    ⟨(some 28), .iaddr (.t 16) (.t 17) 1, none⟩,
    ⟨none, .store (.t 28) 1 (.t 23), none⟩,
    ⟨(some 29), .iaddr (.t 18) (.t 19) 1, none⟩,
    ⟨none, .store (.t 29) 1 (.t 27), none⟩]
@[go_sem] theorem g_Z41_4_0 : gAt l_Z41_4 0 = ⟨(some 16), .mv (.t 0), none⟩ := idE rfl
@[go_sem] theorem g_Z41_4_1 : gAt l_Z41_4 1 = ⟨(some 17), .mv (.t 8), none⟩ := idE rfl
@[go_sem] theorem g_Z41_4_2 : gAt l_Z41_4 2 = ⟨(some 18), .mv (.t 0), none⟩ := idE rfl
@[go_sem] theorem g_Z41_4_3 : gAt l_Z41_4 3 = ⟨(some 19), .mv (.t 9), none⟩ := idE rfl
@[go_sem] theorem g_Z41_4_4 : gAt l_Z41_4 4 = ⟨(some 20), .mv (.t 0), none⟩ := idE rfl
@[go_sem] theorem g_Z41_4_5 : gAt l_Z41_4 5 = ⟨(some 21), .mv (.t 9), none⟩ := idE rfl
@[go_sem] theorem g_Z41_4_6 : gAt l_Z41_4 6 = ⟨(some 22), .iaddr (.t 20) (.t 21) 1, none⟩ := idE rfl
@[go_sem] theorem g_Z41_4_7 : gAt l_Z41_4 7 = ⟨(some 23), .load (.t 22) 1 false, none⟩ := idE rfl
@[go_sem] theorem g_Z41_4_8 : gAt l_Z41_4 8 = ⟨(some 24), .mv (.t 0), none⟩ := idE rfl
@[go_sem] theorem g_Z41_4_9 : gAt l_Z41_4 9 = ⟨(some 25), .mv (.t 8), none⟩ := idE rfl
@[go_sem] theorem g_Z41_4_10 : gAt l_Z41_4 10 = ⟨(some 26), .iaddr (.t 24) (.t 25) 1, none⟩ := idE rfl
@[go_sem] theorem g_Z41_4_11 : gAt l_Z41_4 11 = ⟨(some 27), .load (.t 26) 1 false, none⟩ := idE rfl
@[go_sem] theorem g_Z41_4_12 : gAt l_Z41_4 12 = ⟨(some 28), .iaddr (.t 16) (.t 17) 1, none⟩ := idE rfl
@[go_sem] theorem g_Z41_4_13 : gAt l_Z41_4 13 = ⟨none, .store (.t 28) 1 (.t 23), none⟩ := idE rfl
@[go_sem] theorem g_Z41_4_14 : gAt l_Z41_4 14 = ⟨(some 29), .iaddr (.t 18) (.t 19) 1, none⟩ := idE rfl
@[go_sem] theorem g_Z41_4_15 : gAt l_Z41_4 15 = ⟨none, .store (.t 29) 1 (.t 27), none⟩ := idE rfl
def Z41_4 : IR := .dops l_Z41_4 [(0, []), (1, []), (2, []), (3, []), (4, []), (5, []), (6, []), (7, []), (8, []), (9, []), (10, []), (11, []), (12, []), (13, []), (14, []), (15, [])]
@[go_sem] theorem w_Z41_4 : wp P Z41_4 Q e H = wpD P l_Z41_4 [(0, []), (1, []), (2, []), (3, []), (4, []), (5, []), (6, []), (7, []), (8, []), (9, []), (10, []), (11, []), (12, []), (13, []), (14, []), (15, [])] (Q .normal) e H := idE rfl
@[go_sem] def l_Z41_5 : List GOp := [⟨(some 30), .mv (.t 8), none⟩,
    ⟨(some 31), .bin .add (.t 30) (.c (.int .i64 1)), none⟩,
    ⟨(some 8), .mv (.t 31), none⟩]
def Z41_5 : IR := .ops l_Z41_5
@[go_sem] theorem w_Z41_5 : wp P Z41_5 Q e H = wpL P l_Z41_5 (Q .normal) e H := idE rfl
@[go_sem] def l_Z41_6 : List GOp := [⟨(some 32), .mv (.t 9), none⟩,
    ⟨(some 33), .bin .sub (.t 32) (.c (.int .i64 1)), none⟩,
    ⟨(some 9), .mv (.t 33), none⟩]
def Z41_6 : IR := .ops l_Z41_6
@[go_sem] theorem w_Z41_6 : wp P Z41_6 Q e H = wpL P l_Z41_6 (Q .normal) e H := idE rfl
def Z41_7 : IR := .block 1 (.seq Z41_4 (.seq Z41_5 Z41_6))
@[go_sem] theorem w_Z41_7 : wp P Z41_7 Q e H = wp P (.seq Z41_4 (.seq Z41_5 Z41_6)) (blockQ 1 Q) e H := idE rfl
def Z41_8 : IR := .loop (.seq (.seq Z41_2 Z41_3) Z41_7)
def Z41_9 : IR := .block 0 Z41_8
@[go_sem] theorem w_Z41_9 : wp P Z41_9 Q e H = wp P Z41_8 (blockQ 0 Q) e H := idE rfl
end Go.M2
