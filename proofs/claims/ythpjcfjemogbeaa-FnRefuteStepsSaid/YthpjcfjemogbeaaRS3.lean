/- The functions, turned for the memory: printed by program. -/
import Derived.Test.YthpjcfjemogbeaaRS2
import Derived.Test.YthpjcfjemogbeaaProg
import Derived.KernelRfl
set_option linter.unusedVariables false
set_option linter.unusedSimpArgs false
set_option maxRecDepth 10000
set_option maxHeartbeats 4000000
namespace Go.M2
open Go.Proofs
variable {P : Program} {Q : Post} {e : Env} {H : Heap} {args : List AV} {R : AV → Heap → Prop}
theorem mixed : Try.prog.follows .mixedOrders = true := by kernel_rfl
def n_spec_l40Open : Nat := 66
def n_spec_l40Rd_pick : Nat := 99
def n_spec_l40Rd_num : Nat := 101
def n_spec_l2Has : Nat := 120
def n_spec_l11Abs : Nat := 106
def n_spec_l11Clause : Nat := 121
def n_spec_l11Lits : Nat := 114
def n_spec_l11Draw : Nat := 102
def n_spec_l11Some : Nat := 100
def n_spec_l12Some : Nat := 65
def n_spec_DrawRefute : Nat := 24
def n_impl_in : Nat := 59
def n_impl_atomOf : Nat := 104
def n_impl_ClauseValid : Nat := 70
def n_impl_ClausesValid_1 : Nat := 69
def n_slices_IndexFunc_SSint_Sint : Nat := 103
def n_slices_ContainsFunc_SSint_Sint : Nat := 68
def n_impl_ClausesValid : Nat := 27
def n_impl_bit : Nat := 107
def n_impl_signs : Nat := 72
def n_impl_forced : Nat := 73
def n_slices_Clip_Sint_int : Nat := 136
def n_slices_Clone_Sint_int : Nat := 125
def n_math_bits_Len32 : Nat := 155
def n_math_bits_Len64 : Nat := 156
def n_math_bits_Len : Nat := 140
def n_slices_insertionSortCmpFunc_int : Nat := 147
def n_slices_siftDownCmpFunc_int : Nat := 158
def n_slices_heapSortCmpFunc_int : Nat := 148
def n_slices_nextPowerOfTwo : Nat := 159
def n_slices_xorshift_Next : Nat := 160
def n_slices_breakPatternsCmpFunc_int : Nat := 149
def n_slices_order2CmpFunc_int : Nat := 163
def n_slices_medianCmpFunc_int : Nat := 162
def n_slices_medianAdjacentCmpFunc_int : Nat := 161
def n_slices_choosePivotCmpFunc_int : Nat := 150
def n_slices_reverseRangeCmpFunc_int : Nat := 151
def n_slices_partialInsertionSortCmpFunc_int : Nat := 152
def n_slices_partitionEqualCmpFunc_int : Nat := 153
def n_slices_partitionCmpFunc_int : Nat := 154
def n_slices_pdqsortCmpFunc_int : Nat := 139
def n_slices_SortFunc_Sint_int : Nat := 126
def n_cmp_isNaN_int : Nat := 141
def n_cmp_Compare_int : Nat := 129
def n_cmp_Or_int : Nat := 128
def n_impl_clauseOf_1 : Nat := 127
def n_slices_Compact_Sint_int : Nat := 130
def n_impl_clone_int : Nat := 74
def n_impl_clauseOf : Nat := 96
def n_impl_hunt_under : Nat := 98
def n_impl_hunted : Nat := 64
def n_impl_clone_Sint : Nat := 67
def n_impl_Refute : Nat := 25
def n_spec_l1In : Nat := 55
def n_spec_l11Lit : Nat := 105
def n_spec_ClauseValid : Nat := 71
def n_spec_ClausesValid : Nat := 28
def n_spec_l11Given : Nat := 131
def n_spec_l11Left : Nat := 142
def n_spec_l11Force : Nat := 132
def n_spec_l12Next : Nat := 133
def n_spec_l12Values : Nat := 134
def n_spec_l3Copy : Nat := 88
def n_spec_l12Not : Nat := 135
def n_spec_l12Try : Nat := 97
def n_spec_l12Search : Nat := 63
def n_spec_Refute : Nat := 26
def n_impl_Forced : Nat := 29
def n_laws_FnRefuteSteps : Nat := 5
@[go_sem] def l_spec_l40Open_0 : List GOp := [⟨(some 2), .mv (.c (.ptr none)), none⟩]
def spec_l40Open_0 : IR := .ops l_spec_l40Open_0
@[go_sem] theorem w_spec_l40Open_0 : wp P spec_l40Open_0 Q e H = wpL P l_spec_l40Open_0 (Q .normal) e H := idE rfl
@[go_sem] def l_spec_l40Open_1 : List GOp := [⟨(some 3), .mv (.t 0), none⟩,
    ⟨(some 4), .len (.t 3), none⟩,
    ⟨(some 5), .bin .gtr (.t 4) (.c (.int .i64 2000)), none⟩]
def spec_l40Open_1 : IR := .ops l_spec_l40Open_1
@[go_sem] theorem w_spec_l40Open_1 : wp P spec_l40Open_1 Q e H = wpL P l_spec_l40Open_1 (Q .normal) e H := idE rfl
@[go_sem] def l_spec_l40Open_2 : List GOp := [⟨(some 6), .mv (.t 0), none⟩,
    ⟨(some 7), .slc 1 (.t 6) none (some (.c (.int .i64 2000))) none, none⟩,
    ⟨(some 0), .mv (.t 7), none⟩]
def spec_l40Open_2 : IR := .ops l_spec_l40Open_2
@[go_sem] theorem w_spec_l40Open_2 : wp P spec_l40Open_2 Q e H = wpL P l_spec_l40Open_2 (Q .normal) e H := idE rfl
def spec_l40Open_3 : IR := .cond (.t 5) spec_l40Open_2 .skip
@[go_sem] theorem w_spec_l40Open_3 : wp P spec_l40Open_3 Q e H = condW P ((.t 5) : X) spec_l40Open_2 .skip Q e H := idE rfl
@[go_sem] def l_spec_l40Open_4 : List GOp := [⟨(some 8), .mv (.t 0), none⟩,
    ⟨(some 9), .bld [(.sl none 0 0 true 0), (.int .i64 0)] [(0, 1, (.t 8))], none⟩,
    ⟨(some 10), .box (.t 9), none⟩,
    ⟨(some 2), .mv (.t 10), none⟩]
def spec_l40Open_4 : IR := .ops l_spec_l40Open_4
@[go_sem] theorem w_spec_l40Open_4 : wp P spec_l40Open_4 Q e H = wpL P l_spec_l40Open_4 (Q .normal) e H := idE rfl
def F_spec_l40Open : IFn := ⟨1, 11, [.t 2], (.seq spec_l40Open_0 (.seq (.seq spec_l40Open_1 spec_l40Open_3) (.seq spec_l40Open_4 .ret)))⟩
theorem c_spec_l40Open : compFn Try.prog [(0, [], []), (1, [], []), (2, [], []), (3, [], [])] Try.f66 = some F_spec_l40Open := by kernel_rfl
theorem a_spec_l40Open (hl : args.length = 1) (h : wp Try.prog (.seq spec_l40Open_0 (.seq (.seq spec_l40Open_1 spec_l40Open_3) (.seq spec_l40Open_4 .ret))) (postQ [.t 2] R) (env0 args) H) : ACall Try.prog n_spec_l40Open args H R :=
  acall_of_wp mixed Try.func66 c_spec_l40Open (by kernel_rfl) hl h
@[go_sem] def l_spec_l40Rd_pick_0 : List GOp := [⟨(some 4), .mv (.c (.int .i64 0)), none⟩]
def spec_l40Rd_pick_0 : IR := .ops l_spec_l40Rd_pick_0
@[go_sem] theorem w_spec_l40Rd_pick_0 : wp P spec_l40Rd_pick_0 Q e H = wpL P l_spec_l40Rd_pick_0 (Q .normal) e H := idE rfl
@[go_sem] def l_spec_l40Rd_pick_1 : List GOp := [⟨(some 7), .mv (.t 0), none⟩,
    ⟨(some 8), .mv (.t 0), none⟩,
    ⟨(some 9), .nilck (.t 8), none⟩,
    ⟨(some 10), .faddr (.t 9) 1, none⟩,
    ⟨(some 11), .load (.t 10) 1 false, none⟩,
    ⟨(some 12), .bin .add (.t 11) (.c (.int .i64 1)), none⟩,
    ⟨(some 13), .nilck (.t 7), none⟩,
    ⟨(some 14), .faddr (.t 13) 1, none⟩,
    ⟨none, .store (.t 14) 1 (.t 12), none⟩]
def spec_l40Rd_pick_1 : IR := .ops l_spec_l40Rd_pick_1
@[go_sem] theorem w_spec_l40Rd_pick_1 : wp P spec_l40Rd_pick_1 Q e H = wpL P l_spec_l40Rd_pick_1 (Q .normal) e H := idE rfl
@[go_sem] def l_spec_l40Rd_pick_2 : List GOp := [⟨(some 15), .mv (.t 1), none⟩,
    ⟨(some 16), .bin .lss (.t 15) (.c (.int .i64 1)), none⟩,
    ⟨(some 17), .mv (.t 16), none⟩,
    ⟨(some 18), .mv (.t 0), (some (17, false))⟩,
    ⟨(some 19), .nilck (.t 18), (some (17, false))⟩,
    ⟨(some 20), .faddr (.t 19) 0, (some (17, false))⟩,
    ⟨(some 21), .load (.t 20) 1 false, (some (17, false))⟩,
    ⟨(some 22), .len (.t 21), (some (17, false))⟩,
    ⟨(some 23), .bin .eql (.t 22) (.c (.int .i64 0)), (some (17, false))⟩,
    ⟨(some 24), .pick (.t 17) (.c (.bool true)) (.t 23), none⟩]
def spec_l40Rd_pick_2 : IR := .ops l_spec_l40Rd_pick_2
@[go_sem] theorem w_spec_l40Rd_pick_2 : wp P spec_l40Rd_pick_2 Q e H = wpL P l_spec_l40Rd_pick_2 (Q .normal) e H := idE rfl
@[go_sem] def l_spec_l40Rd_pick_3 : List GOp := [⟨(some 4), .mv (.c (.int .i64 0)), none⟩]
def spec_l40Rd_pick_3 : IR := .ops l_spec_l40Rd_pick_3
@[go_sem] theorem w_spec_l40Rd_pick_3 : wp P spec_l40Rd_pick_3 Q e H = wpL P l_spec_l40Rd_pick_3 (Q .normal) e H := idE rfl
def spec_l40Rd_pick_4 : IR := .cond (.t 24) (.seq spec_l40Rd_pick_3 .ret) .skip
@[go_sem] theorem w_spec_l40Rd_pick_4 : wp P spec_l40Rd_pick_4 Q e H = condW P ((.t 24) : X) (.seq spec_l40Rd_pick_3 .ret) .skip Q e H := idE rfl
@[go_sem] def l_spec_l40Rd_pick_5 : List GOp := [⟨(some 25), .mv (.t 0), none⟩,
    ⟨(some 26), .nilck (.t 25), none⟩,
    ⟨(some 27), .faddr (.t 26) 1, none⟩,
    ⟨(some 28), .load (.t 27) 1 false, none⟩,
    ⟨(some 29), .bin .sub (.t 28) (.c (.int .i64 1)), none⟩,
    ⟨(some 5), .mv (.t 29), none⟩]
def spec_l40Rd_pick_5 : IR := .ops l_spec_l40Rd_pick_5
@[go_sem] theorem w_spec_l40Rd_pick_5 : wp P spec_l40Rd_pick_5 Q e H = wpL P l_spec_l40Rd_pick_5 (Q .normal) e H := idE rfl
@[go_sem] def l_spec_l40Rd_pick_6 : List GOp := [⟨(some 30), .mv (.t 5), none⟩,
    ⟨(some 31), .mv (.t 0), none⟩,
    ⟨(some 32), .nilck (.t 31), none⟩,
    ⟨(some 33), .faddr (.t 32) 0, none⟩,
    ⟨(some 34), .load (.t 33) 1 false, none⟩,
    ⟨(some 35), .len (.t 34), none⟩,
    ⟨(some 36), .bin .lss (.t 30) (.t 35), none⟩]
def spec_l40Rd_pick_6 : IR := .ops l_spec_l40Rd_pick_6
@[go_sem] theorem w_spec_l40Rd_pick_6 : wp P spec_l40Rd_pick_6 Q e H = wpL P l_spec_l40Rd_pick_6 (Q .normal) e H := idE rfl
@[go_sem] def l_spec_l40Rd_pick_7 : List GOp := [⟨(some 37), .mv (.t 0), none⟩,
    ⟨(some 38), .nilck (.t 37), none⟩,
    ⟨(some 39), .faddr (.t 38) 0, none⟩,
    ⟨(some 40), .load (.t 39) 1 false, none⟩,
    ⟨(some 41), .mv (.t 5), none⟩,
    ⟨(some 42), .iaddr (.t 40) (.t 41) 1, none⟩,
    ⟨(some 43), .load (.t 42) 1 false, none⟩,
    ⟨(some 44), .cvi .i64 (.t 43), none⟩,
    ⟨(some 45), .mv (.t 1), none⟩,
    ⟨(some 46), .bin .rem (.t 44) (.t 45), none⟩,
    ⟨(some 4), .mv (.t 46), none⟩]
def spec_l40Rd_pick_7 : IR := .ops l_spec_l40Rd_pick_7
@[go_sem] theorem w_spec_l40Rd_pick_7 : wp P spec_l40Rd_pick_7 Q e H = wpL P l_spec_l40Rd_pick_7 (Q .normal) e H := idE rfl
def spec_l40Rd_pick_8 : IR := .cond (.t 36) (.seq spec_l40Rd_pick_7 .ret) .skip
@[go_sem] theorem w_spec_l40Rd_pick_8 : wp P spec_l40Rd_pick_8 Q e H = condW P ((.t 36) : X) (.seq spec_l40Rd_pick_7 .ret) .skip Q e H := idE rfl
def l_spec_l40Rd_pick_9 : List GOp := [⟨(some 47), .mv (.t 0), none⟩,
    ⟨(some 48), .nilck (.t 47), none⟩,
    ⟨(some 49), .faddr (.t 48) 0, none⟩,
    ⟨(some 50), .load (.t 49) 1 false, none⟩,
    ⟨(some 51), .mv (.t 5), none⟩,
    ⟨(some 52), .mv (.t 0), none⟩,
    ⟨(some 53), .nilck (.t 52), none⟩,
    ⟨(some 54), .faddr (.t 53) 0, none⟩,
    ⟨(some 55), .load (.t 54) 1 false, none⟩,
    ⟨(some 56), .len (.t 55), none⟩,
    ⟨(some 57), .bin .rem (.t 51) (.t 56), none⟩,
    ⟨(some 58), .iaddr (.t 50) (.t 57) 1, none⟩,
    ⟨(some 59), .load (.t 58) 1 false, none⟩,
    ⟨(some 60), .cvi .i64 (.t 59), none⟩,
    ⟨(some 61), .bin .mul (.t 60) (.c (.int .i64 131)), none⟩,
    ⟨(some 62), .mv (.t 0), none⟩,
    ⟨(some 63), .nilck (.t 62), none⟩,
    ⟨(some 64), .faddr (.t 63) 0, none⟩,
    ⟨(some 65), .load (.t 64) 1 false, none⟩,
    ⟨(some 66), .mv (.t 5), none⟩,
    ⟨(some 67), .bin .mul (.t 66) (.c (.int .i64 7)), none⟩,
    ⟨(some 68), .bin .add (.t 67) (.c (.int .i64 3)), none⟩,
    ⟨(some 69), .mv (.t 0), none⟩,
    ⟨(some 70), .nilck (.t 69), none⟩,
    ⟨(some 71), .faddr (.t 70) 0, none⟩,
    ⟨(some 72), .load (.t 71) 1 false, none⟩,
    ⟨(some 73), .len (.t 72), none⟩,
    ⟨(some 74), .bin .rem (.t 68) (.t 73), none⟩,
    ⟨(some 75), .iaddr (.t 65) (.t 74) 1, none⟩,
    ⟨(some 76), .load (.t 75) 1 false, none⟩,
    ⟨(some 77), .cvi .i64 (.t 76), none⟩,
    ⟨(some 78), .bin .mul (.t 77) (.c (.int .i64 1117)), none⟩,
    ⟨(some 79), .bin .add (.t 61) (.t 78), none⟩,
    ⟨(some 80), .mv (.t 5), none⟩,
    ⟨(some 81), .bin .mul (.t 80) (.c (.int .i64 29)), none⟩,
    ⟨(some 82), .bin .add (.t 79) (.t 81), none⟩,
    ⟨(some 83), .mv (.t 5), none⟩,
    ⟨(some 84), .mv (.t 0), none⟩,
    ⟨(some 85), .nilck (.t 84), none⟩,
    ⟨(some 86), .faddr (.t 85) 0, none⟩,
    ⟨(some 87), .load (.t 86) 1 false, none⟩,
    ⟨(some 88), .len (.t 87), none⟩,
    ⟨(some 89), .bin .quo (.t 83) (.t 88), none⟩,
    ⟨(some 90), .bin .mul (.t 89) (.c (.int .i64 53)), none⟩,
    ⟨(some 91), .bin .add (.t 82) (.t 90), none⟩,
    ⟨(some 6), .mv (.t 91), none⟩]
@[go_sem] theorem g_spec_l40Rd_pick_9_0 : gAt l_spec_l40Rd_pick_9 0 = ⟨(some 47), .mv (.t 0), none⟩ := idE rfl
@[go_sem] theorem g_spec_l40Rd_pick_9_1 : gAt l_spec_l40Rd_pick_9 1 = ⟨(some 48), .nilck (.t 47), none⟩ := idE rfl
@[go_sem] theorem g_spec_l40Rd_pick_9_2 : gAt l_spec_l40Rd_pick_9 2 = ⟨(some 49), .faddr (.t 48) 0, none⟩ := idE rfl
@[go_sem] theorem g_spec_l40Rd_pick_9_3 : gAt l_spec_l40Rd_pick_9 3 = ⟨(some 50), .load (.t 49) 1 false, none⟩ := idE rfl
@[go_sem] theorem g_spec_l40Rd_pick_9_4 : gAt l_spec_l40Rd_pick_9 4 = ⟨(some 51), .mv (.t 5), none⟩ := idE rfl
@[go_sem] theorem g_spec_l40Rd_pick_9_5 : gAt l_spec_l40Rd_pick_9 5 = ⟨(some 52), .mv (.t 0), none⟩ := idE rfl
@[go_sem] theorem g_spec_l40Rd_pick_9_6 : gAt l_spec_l40Rd_pick_9 6 = ⟨(some 53), .nilck (.t 52), none⟩ := idE rfl
@[go_sem] theorem g_spec_l40Rd_pick_9_7 : gAt l_spec_l40Rd_pick_9 7 = ⟨(some 54), .faddr (.t 53) 0, none⟩ := idE rfl
@[go_sem] theorem g_spec_l40Rd_pick_9_8 : gAt l_spec_l40Rd_pick_9 8 = ⟨(some 55), .load (.t 54) 1 false, none⟩ := idE rfl
@[go_sem] theorem g_spec_l40Rd_pick_9_9 : gAt l_spec_l40Rd_pick_9 9 = ⟨(some 56), .len (.t 55), none⟩ := idE rfl
@[go_sem] theorem g_spec_l40Rd_pick_9_10 : gAt l_spec_l40Rd_pick_9 10 = ⟨(some 57), .bin .rem (.t 51) (.t 56), none⟩ := idE rfl
@[go_sem] theorem g_spec_l40Rd_pick_9_11 : gAt l_spec_l40Rd_pick_9 11 = ⟨(some 58), .iaddr (.t 50) (.t 57) 1, none⟩ := idE rfl
@[go_sem] theorem g_spec_l40Rd_pick_9_12 : gAt l_spec_l40Rd_pick_9 12 = ⟨(some 59), .load (.t 58) 1 false, none⟩ := idE rfl
@[go_sem] theorem g_spec_l40Rd_pick_9_13 : gAt l_spec_l40Rd_pick_9 13 = ⟨(some 60), .cvi .i64 (.t 59), none⟩ := idE rfl
@[go_sem] theorem g_spec_l40Rd_pick_9_14 : gAt l_spec_l40Rd_pick_9 14 = ⟨(some 61), .bin .mul (.t 60) (.c (.int .i64 131)), none⟩ := idE rfl
@[go_sem] theorem g_spec_l40Rd_pick_9_15 : gAt l_spec_l40Rd_pick_9 15 = ⟨(some 62), .mv (.t 0), none⟩ := idE rfl
@[go_sem] theorem g_spec_l40Rd_pick_9_16 : gAt l_spec_l40Rd_pick_9 16 = ⟨(some 63), .nilck (.t 62), none⟩ := idE rfl
@[go_sem] theorem g_spec_l40Rd_pick_9_17 : gAt l_spec_l40Rd_pick_9 17 = ⟨(some 64), .faddr (.t 63) 0, none⟩ := idE rfl
@[go_sem] theorem g_spec_l40Rd_pick_9_18 : gAt l_spec_l40Rd_pick_9 18 = ⟨(some 65), .load (.t 64) 1 false, none⟩ := idE rfl
@[go_sem] theorem g_spec_l40Rd_pick_9_19 : gAt l_spec_l40Rd_pick_9 19 = ⟨(some 66), .mv (.t 5), none⟩ := idE rfl
@[go_sem] theorem g_spec_l40Rd_pick_9_20 : gAt l_spec_l40Rd_pick_9 20 = ⟨(some 67), .bin .mul (.t 66) (.c (.int .i64 7)), none⟩ := idE rfl
@[go_sem] theorem g_spec_l40Rd_pick_9_21 : gAt l_spec_l40Rd_pick_9 21 = ⟨(some 68), .bin .add (.t 67) (.c (.int .i64 3)), none⟩ := idE rfl
@[go_sem] theorem g_spec_l40Rd_pick_9_22 : gAt l_spec_l40Rd_pick_9 22 = ⟨(some 69), .mv (.t 0), none⟩ := idE rfl
@[go_sem] theorem g_spec_l40Rd_pick_9_23 : gAt l_spec_l40Rd_pick_9 23 = ⟨(some 70), .nilck (.t 69), none⟩ := idE rfl
@[go_sem] theorem g_spec_l40Rd_pick_9_24 : gAt l_spec_l40Rd_pick_9 24 = ⟨(some 71), .faddr (.t 70) 0, none⟩ := idE rfl
@[go_sem] theorem g_spec_l40Rd_pick_9_25 : gAt l_spec_l40Rd_pick_9 25 = ⟨(some 72), .load (.t 71) 1 false, none⟩ := idE rfl
@[go_sem] theorem g_spec_l40Rd_pick_9_26 : gAt l_spec_l40Rd_pick_9 26 = ⟨(some 73), .len (.t 72), none⟩ := idE rfl
@[go_sem] theorem g_spec_l40Rd_pick_9_27 : gAt l_spec_l40Rd_pick_9 27 = ⟨(some 74), .bin .rem (.t 68) (.t 73), none⟩ := idE rfl
@[go_sem] theorem g_spec_l40Rd_pick_9_28 : gAt l_spec_l40Rd_pick_9 28 = ⟨(some 75), .iaddr (.t 65) (.t 74) 1, none⟩ := idE rfl
@[go_sem] theorem g_spec_l40Rd_pick_9_29 : gAt l_spec_l40Rd_pick_9 29 = ⟨(some 76), .load (.t 75) 1 false, none⟩ := idE rfl
@[go_sem] theorem g_spec_l40Rd_pick_9_30 : gAt l_spec_l40Rd_pick_9 30 = ⟨(some 77), .cvi .i64 (.t 76), none⟩ := idE rfl
@[go_sem] theorem g_spec_l40Rd_pick_9_31 : gAt l_spec_l40Rd_pick_9 31 = ⟨(some 78), .bin .mul (.t 77) (.c (.int .i64 1117)), none⟩ := idE rfl
@[go_sem] theorem g_spec_l40Rd_pick_9_32 : gAt l_spec_l40Rd_pick_9 32 = ⟨(some 79), .bin .add (.t 61) (.t 78), none⟩ := idE rfl
@[go_sem] theorem g_spec_l40Rd_pick_9_33 : gAt l_spec_l40Rd_pick_9 33 = ⟨(some 80), .mv (.t 5), none⟩ := idE rfl
@[go_sem] theorem g_spec_l40Rd_pick_9_34 : gAt l_spec_l40Rd_pick_9 34 = ⟨(some 81), .bin .mul (.t 80) (.c (.int .i64 29)), none⟩ := idE rfl
@[go_sem] theorem g_spec_l40Rd_pick_9_35 : gAt l_spec_l40Rd_pick_9 35 = ⟨(some 82), .bin .add (.t 79) (.t 81), none⟩ := idE rfl
@[go_sem] theorem g_spec_l40Rd_pick_9_36 : gAt l_spec_l40Rd_pick_9 36 = ⟨(some 83), .mv (.t 5), none⟩ := idE rfl
@[go_sem] theorem g_spec_l40Rd_pick_9_37 : gAt l_spec_l40Rd_pick_9 37 = ⟨(some 84), .mv (.t 0), none⟩ := idE rfl
@[go_sem] theorem g_spec_l40Rd_pick_9_38 : gAt l_spec_l40Rd_pick_9 38 = ⟨(some 85), .nilck (.t 84), none⟩ := idE rfl
@[go_sem] theorem g_spec_l40Rd_pick_9_39 : gAt l_spec_l40Rd_pick_9 39 = ⟨(some 86), .faddr (.t 85) 0, none⟩ := idE rfl
@[go_sem] theorem g_spec_l40Rd_pick_9_40 : gAt l_spec_l40Rd_pick_9 40 = ⟨(some 87), .load (.t 86) 1 false, none⟩ := idE rfl
@[go_sem] theorem g_spec_l40Rd_pick_9_41 : gAt l_spec_l40Rd_pick_9 41 = ⟨(some 88), .len (.t 87), none⟩ := idE rfl
@[go_sem] theorem g_spec_l40Rd_pick_9_42 : gAt l_spec_l40Rd_pick_9 42 = ⟨(some 89), .bin .quo (.t 83) (.t 88), none⟩ := idE rfl
@[go_sem] theorem g_spec_l40Rd_pick_9_43 : gAt l_spec_l40Rd_pick_9 43 = ⟨(some 90), .bin .mul (.t 89) (.c (.int .i64 53)), none⟩ := idE rfl
@[go_sem] theorem g_spec_l40Rd_pick_9_44 : gAt l_spec_l40Rd_pick_9 44 = ⟨(some 91), .bin .add (.t 82) (.t 90), none⟩ := idE rfl
@[go_sem] theorem g_spec_l40Rd_pick_9_45 : gAt l_spec_l40Rd_pick_9 45 = ⟨(some 6), .mv (.t 91), none⟩ := idE rfl
def spec_l40Rd_pick_9 : IR := .dops l_spec_l40Rd_pick_9 [(0, []), (1, []), (2, []), (3, []), (4, []), (5, []), (6, []), (7, []), (8, []), (9, []), (10, []), (11, []), (12, []), (13, []), (14, []), (15, []), (16, []), (17, []), (18, []), (19, []), (20, []), (21, []), (22, []), (23, []), (24, []), (25, []), (26, []), (27, []), (28, []), (29, []), (30, []), (31, []), (32, []), (33, []), (34, []), (35, []), (36, []), (37, []), (38, []), (39, []), (40, []), (41, []), (42, []), (43, []), (44, []), (45, [])]
@[go_sem] theorem w_spec_l40Rd_pick_9 : wp P spec_l40Rd_pick_9 Q e H = wpD P l_spec_l40Rd_pick_9 [(0, []), (1, []), (2, []), (3, []), (4, []), (5, []), (6, []), (7, []), (8, []), (9, []), (10, []), (11, []), (12, []), (13, []), (14, []), (15, []), (16, []), (17, []), (18, []), (19, []), (20, []), (21, []), (22, []), (23, []), (24, []), (25, []), (26, []), (27, []), (28, []), (29, []), (30, []), (31, []), (32, []), (33, []), (34, []), (35, []), (36, []), (37, []), (38, []), (39, []), (40, []), (41, []), (42, []), (43, []), (44, []), (45, [])] (Q .normal) e H := idE rfl
@[go_sem] def l_spec_l40Rd_pick_10 : List GOp := [⟨(some 92), .mv (.t 6), none⟩,
    ⟨(some 93), .mv (.t 6), none⟩,
    ⟨(some 94), .bin .quo (.t 93) (.c (.int .i64 64)), none⟩,
    ⟨(some 95), .bin .xor (.t 92) (.t 94), none⟩,
    ⟨(some 6), .mv (.t 95), none⟩]
def spec_l40Rd_pick_10 : IR := .ops l_spec_l40Rd_pick_10
@[go_sem] theorem w_spec_l40Rd_pick_10 : wp P spec_l40Rd_pick_10 Q e H = wpL P l_spec_l40Rd_pick_10 (Q .normal) e H := idE rfl
@[go_sem] def l_spec_l40Rd_pick_11 : List GOp := [⟨(some 96), .mv (.t 6), none⟩,
    ⟨(some 97), .mv (.t 1), none⟩,
    ⟨(some 98), .bin .rem (.t 96) (.t 97), none⟩,
    ⟨(some 4), .mv (.t 98), none⟩]
def spec_l40Rd_pick_11 : IR := .ops l_spec_l40Rd_pick_11
@[go_sem] theorem w_spec_l40Rd_pick_11 : wp P spec_l40Rd_pick_11 Q e H = wpL P l_spec_l40Rd_pick_11 (Q .normal) e H := idE rfl
def F_spec_l40Rd_pick : IFn := ⟨2, 99, [.t 4], (.seq spec_l40Rd_pick_0 (.seq spec_l40Rd_pick_1 (.seq (.seq spec_l40Rd_pick_2 spec_l40Rd_pick_4) (.seq spec_l40Rd_pick_5 (.seq (.seq spec_l40Rd_pick_6 spec_l40Rd_pick_8) (.seq spec_l40Rd_pick_9 (.seq spec_l40Rd_pick_10 (.seq spec_l40Rd_pick_11 .ret))))))))⟩
theorem c_spec_l40Rd_pick : compFn Try.prog [(0, [], []), (1, [], []), (2, [], []), (3, [], []), (4, [], []), (5, [], []), (6, [], []), (7, [(0, []), (1, []), (2, []), (3, []), (4, []), (5, []), (6, []), (7, []), (8, []), (9, []), (10, []), (11, []), (12, []), (13, []), (14, []), (15, []), (16, []), (17, []), (18, []), (19, []), (20, []), (21, []), (22, []), (23, []), (24, []), (25, []), (26, []), (27, []), (28, []), (29, []), (30, []), (31, []), (32, []), (33, []), (34, []), (35, []), (36, []), (37, []), (38, []), (39, []), (40, []), (41, []), (42, []), (43, []), (44, []), (45, [])], []), (8, [], []), (9, [], [])] Try.f99 = some F_spec_l40Rd_pick := by kernel_rfl
theorem a_spec_l40Rd_pick (hl : args.length = 2) (h : wp Try.prog (.seq spec_l40Rd_pick_0 (.seq spec_l40Rd_pick_1 (.seq (.seq spec_l40Rd_pick_2 spec_l40Rd_pick_4) (.seq spec_l40Rd_pick_5 (.seq (.seq spec_l40Rd_pick_6 spec_l40Rd_pick_8) (.seq spec_l40Rd_pick_9 (.seq spec_l40Rd_pick_10 (.seq spec_l40Rd_pick_11 .ret)))))))) (postQ [.t 4] R) (env0 args) H) : ACall Try.prog n_spec_l40Rd_pick args H R :=
  acall_of_wp mixed Try.func99 c_spec_l40Rd_pick (by kernel_rfl) hl h
@[go_sem] def l_spec_l40Rd_num_0 : List GOp := [⟨(some 4), .mv (.c (.int .i64 0)), none⟩]
def spec_l40Rd_num_0 : IR := .ops l_spec_l40Rd_num_0
@[go_sem] theorem w_spec_l40Rd_num_0 : wp P spec_l40Rd_num_0 Q e H = wpL P l_spec_l40Rd_num_0 (Q .normal) e H := idE rfl
@[go_sem] def l_spec_l40Rd_num_1 : List GOp := [⟨(some 5), .mv (.t 1), none⟩,
    ⟨(some 6), .mv (.t 0), none⟩,
    ⟨(some 7), .mv (.t 1), none⟩,
    ⟨(some 8), .len (.t 7), none⟩,
    ⟨(some 9), .call (n_spec_l40Rd_pick) [(.t 6), (.t 8)], none⟩,
    ⟨(some 10), .iaddr (.t 5) (.t 9) 1, none⟩,
    ⟨(some 11), .load (.t 10) 1 false, none⟩,
    ⟨(some 4), .mv (.t 11), none⟩]
def spec_l40Rd_num_1 : IR := .ops l_spec_l40Rd_num_1
@[go_sem] theorem w_spec_l40Rd_num_1 : wp P spec_l40Rd_num_1 Q e H = wpL P l_spec_l40Rd_num_1 (Q .normal) e H := idE rfl
def F_spec_l40Rd_num : IFn := ⟨2, 12, [.t 4], (.seq spec_l40Rd_num_0 (.seq spec_l40Rd_num_1 .ret))⟩
theorem c_spec_l40Rd_num : compFn Try.prog [(0, [], []), (1, [], [])] Try.f101 = some F_spec_l40Rd_num := by kernel_rfl
theorem a_spec_l40Rd_num (hl : args.length = 2) (h : wp Try.prog (.seq spec_l40Rd_num_0 (.seq spec_l40Rd_num_1 .ret)) (postQ [.t 4] R) (env0 args) H) : ACall Try.prog n_spec_l40Rd_num args H R :=
  acall_of_wp mixed Try.func101 c_spec_l40Rd_num (by kernel_rfl) hl h
@[go_sem] def l_spec_l2Has_0 : List GOp := [⟨(some 4), .mv (.c (.bool false)), none⟩]
def spec_l2Has_0 : IR := .ops l_spec_l2Has_0
@[go_sem] theorem w_spec_l2Has_0 : wp P spec_l2Has_0 Q e H = wpL P l_spec_l2Has_0 (Q .normal) e H := idE rfl
@[go_sem] def l_spec_l2Has_1 : List GOp := [⟨(some 5), .mv (.c (.int .i64 0)), none⟩]
def spec_l2Has_1 : IR := .ops l_spec_l2Has_1
@[go_sem] theorem w_spec_l2Has_1 : wp P spec_l2Has_1 Q e H = wpL P l_spec_l2Has_1 (Q .normal) e H := idE rfl
@[go_sem] def l_spec_l2Has_2 : List GOp := [⟨(some 6), .mv (.t 5), none⟩,
    ⟨(some 7), .mv (.t 0), none⟩,
    ⟨(some 8), .len (.t 7), none⟩,
    ⟨(some 9), .bin .lss (.t 6) (.t 8), none⟩]
def spec_l2Has_2 : IR := .ops l_spec_l2Has_2
@[go_sem] theorem w_spec_l2Has_2 : wp P spec_l2Has_2 Q e H = wpL P l_spec_l2Has_2 (Q .normal) e H := idE rfl
def spec_l2Has_3 : IR := .cond (.t 9) .skip (.exit 0)
@[go_sem] theorem w_spec_l2Has_3 : wp P spec_l2Has_3 Q e H = condW P ((.t 9) : X) .skip (.exit 0) Q e H := idE rfl
@[go_sem] def l_spec_l2Has_4 : List GOp := [⟨(some 12), .mv (.t 0), none⟩,
    ⟨(some 13), .mv (.t 5), none⟩,
    ⟨(some 14), .iaddr (.t 12) (.t 13) 1, none⟩,
    ⟨(some 15), .load (.t 14) 1 false, none⟩,
    ⟨(some 16), .mv (.t 1), none⟩,
    ⟨(some 17), .bin .eql (.t 15) (.t 16), none⟩]
def spec_l2Has_4 : IR := .ops l_spec_l2Has_4
@[go_sem] theorem w_spec_l2Has_4 : wp P spec_l2Has_4 Q e H = wpL P l_spec_l2Has_4 (Q .normal) e H := idE rfl
@[go_sem] def l_spec_l2Has_5 : List GOp := [⟨(some 4), .mv (.c (.bool true)), none⟩]
def spec_l2Has_5 : IR := .ops l_spec_l2Has_5
@[go_sem] theorem w_spec_l2Has_5 : wp P spec_l2Has_5 Q e H = wpL P l_spec_l2Has_5 (Q .normal) e H := idE rfl
def spec_l2Has_6 : IR := .cond (.t 17) (.seq spec_l2Has_5 .ret) .skip
@[go_sem] theorem w_spec_l2Has_6 : wp P spec_l2Has_6 Q e H = condW P ((.t 17) : X) (.seq spec_l2Has_5 .ret) .skip Q e H := idE rfl
def spec_l2Has_7 : IR := .block 1 (.seq spec_l2Has_4 spec_l2Has_6)
@[go_sem] theorem w_spec_l2Has_7 : wp P spec_l2Has_7 Q e H = wp P (.seq spec_l2Has_4 spec_l2Has_6) (blockQ 1 Q) e H := idE rfl
@[go_sem] def l_spec_l2Has_8 : List GOp := [⟨(some 10), .mv (.t 5), none⟩,
    ⟨(some 11), .bin .add (.t 10) (.c (.int .i64 1)), none⟩,
    ⟨(some 5), .mv (.t 11), none⟩]
def spec_l2Has_8 : IR := .ops l_spec_l2Has_8
@[go_sem] theorem w_spec_l2Has_8 : wp P spec_l2Has_8 Q e H = wpL P l_spec_l2Has_8 (Q .normal) e H := idE rfl
def spec_l2Has_9 : IR := .loop (.seq (.seq spec_l2Has_2 spec_l2Has_3) (.seq spec_l2Has_7 spec_l2Has_8))
def spec_l2Has_10 : IR := .block 0 spec_l2Has_9
@[go_sem] theorem w_spec_l2Has_10 : wp P spec_l2Has_10 Q e H = wp P spec_l2Has_9 (blockQ 0 Q) e H := idE rfl
@[go_sem] def l_spec_l2Has_11 : List GOp := [⟨(some 4), .mv (.c (.bool false)), none⟩]
def spec_l2Has_11 : IR := .ops l_spec_l2Has_11
@[go_sem] theorem w_spec_l2Has_11 : wp P spec_l2Has_11 Q e H = wpL P l_spec_l2Has_11 (Q .normal) e H := idE rfl
def F_spec_l2Has : IFn := ⟨2, 18, [.t 4], (.seq spec_l2Has_0 (.seq (.seq spec_l2Has_1 spec_l2Has_10) (.seq spec_l2Has_11 .ret)))⟩
theorem c_spec_l2Has : compFn Try.prog [(0, [], []), (1, [], []), (2, [], []), (4, [], []), (5, [], []), (3, [], []), (6, [], [])] Try.f120 = some F_spec_l2Has := by kernel_rfl
theorem a_spec_l2Has (hl : args.length = 2) (h : wp Try.prog (.seq spec_l2Has_0 (.seq (.seq spec_l2Has_1 spec_l2Has_10) (.seq spec_l2Has_11 .ret))) (postQ [.t 4] R) (env0 args) H) : ACall Try.prog n_spec_l2Has args H R :=
  acall_of_wp mixed Try.func120 c_spec_l2Has (by kernel_rfl) hl h
@[go_sem] def l_spec_l11Abs_0 : List GOp := [⟨(some 2), .mv (.c (.int .i64 0)), none⟩]
def spec_l11Abs_0 : IR := .ops l_spec_l11Abs_0
@[go_sem] theorem w_spec_l11Abs_0 : wp P spec_l11Abs_0 Q e H = wpL P l_spec_l11Abs_0 (Q .normal) e H := idE rfl
@[go_sem] def l_spec_l11Abs_1 : List GOp := [⟨(some 3), .mv (.t 0), none⟩,
    ⟨(some 4), .bin .lss (.t 3) (.c (.int .i64 0)), none⟩]
def spec_l11Abs_1 : IR := .ops l_spec_l11Abs_1
@[go_sem] theorem w_spec_l11Abs_1 : wp P spec_l11Abs_1 Q e H = wpL P l_spec_l11Abs_1 (Q .normal) e H := idE rfl
@[go_sem] def l_spec_l11Abs_2 : List GOp := [⟨(some 5), .mv (.t 0), none⟩,
    ⟨(some 6), .un .neg (.t 5), none⟩,
    ⟨(some 2), .mv (.t 6), none⟩]
def spec_l11Abs_2 : IR := .ops l_spec_l11Abs_2
@[go_sem] theorem w_spec_l11Abs_2 : wp P spec_l11Abs_2 Q e H = wpL P l_spec_l11Abs_2 (Q .normal) e H := idE rfl
def spec_l11Abs_3 : IR := .cond (.t 4) (.seq spec_l11Abs_2 .ret) .skip
@[go_sem] theorem w_spec_l11Abs_3 : wp P spec_l11Abs_3 Q e H = condW P ((.t 4) : X) (.seq spec_l11Abs_2 .ret) .skip Q e H := idE rfl
@[go_sem] def l_spec_l11Abs_4 : List GOp := [⟨(some 7), .mv (.t 0), none⟩,
    ⟨(some 2), .mv (.t 7), none⟩]
def spec_l11Abs_4 : IR := .ops l_spec_l11Abs_4
@[go_sem] theorem w_spec_l11Abs_4 : wp P spec_l11Abs_4 Q e H = wpL P l_spec_l11Abs_4 (Q .normal) e H := idE rfl
def F_spec_l11Abs : IFn := ⟨1, 8, [.t 2], (.seq spec_l11Abs_0 (.seq (.seq spec_l11Abs_1 spec_l11Abs_3) (.seq spec_l11Abs_4 .ret)))⟩
theorem c_spec_l11Abs : compFn Try.prog [(0, [], []), (1, [], []), (2, [], []), (3, [], [])] Try.f106 = some F_spec_l11Abs := by kernel_rfl
theorem a_spec_l11Abs (hl : args.length = 1) (h : wp Try.prog (.seq spec_l11Abs_0 (.seq (.seq spec_l11Abs_1 spec_l11Abs_3) (.seq spec_l11Abs_4 .ret))) (postQ [.t 2] R) (env0 args) H) : ACall Try.prog n_spec_l11Abs args H R :=
  acall_of_wp mixed Try.func106 c_spec_l11Abs (by kernel_rfl) hl h
@[go_sem] def l_spec_l11Clause_0 : List GOp := [⟨(some 4), .mv (.c (.sl none 0 0 true 0)), none⟩,
    ⟨(some 5), .mv (.c (.bool false)), none⟩]
def spec_l11Clause_0 : IR := .ops l_spec_l11Clause_0
@[go_sem] theorem w_spec_l11Clause_0 : wp P spec_l11Clause_0 Q e H = wpL P l_spec_l11Clause_0 (Q .normal) e H := idE rfl
@[go_sem] def l_spec_l11Clause_1 : List GOp := [⟨(some 11), .mv (.t 1), none⟩,
    ⟨(some 12), .bin .add (.t 11) (.c (.int .i64 1)), none⟩,
    ⟨(some 13), .mks [(.int .i64 0)] 8 (.t 12), none⟩,
    ⟨(some 6), .mv (.t 13), none⟩]
def spec_l11Clause_1 : IR := .ops l_spec_l11Clause_1
@[go_sem] theorem w_spec_l11Clause_1 : wp P spec_l11Clause_1 Q e H = wpL P l_spec_l11Clause_1 (Q .normal) e H := idE rfl
@[go_sem] def l_spec_l11Clause_2 : List GOp := [⟨(some 7), .mv (.c (.int .i64 0)), none⟩]
def spec_l11Clause_2 : IR := .ops l_spec_l11Clause_2
@[go_sem] theorem w_spec_l11Clause_2 : wp P spec_l11Clause_2 Q e H = wpL P l_spec_l11Clause_2 (Q .normal) e H := idE rfl
@[go_sem] def l_spec_l11Clause_3 : List GOp := [⟨(some 14), .mv (.t 7), none⟩,
    ⟨(some 15), .mv (.t 0), none⟩,
    ⟨(some 16), .len (.t 15), none⟩,
    ⟨(some 17), .bin .lss (.t 14) (.t 16), none⟩]
def spec_l11Clause_3 : IR := .ops l_spec_l11Clause_3
@[go_sem] theorem w_spec_l11Clause_3 : wp P spec_l11Clause_3 Q e H = wpL P l_spec_l11Clause_3 (Q .normal) e H := idE rfl
def spec_l11Clause_4 : IR := .cond (.t 17) .skip (.exit 0)
@[go_sem] theorem w_spec_l11Clause_4 : wp P spec_l11Clause_4 Q e H = condW P ((.t 17) : X) .skip (.exit 0) Q e H := idE rfl
@[go_sem] def l_spec_l11Clause_5 : List GOp := [⟨(some 20), .mv (.t 0), none⟩,
    ⟨(some 21), .mv (.t 7), none⟩,
    ⟨(some 22), .iaddr (.t 20) (.t 21) 1, none⟩,
    ⟨(some 23), .load (.t 22) 1 false, none⟩,
    ⟨(some 24), .call (n_spec_l11Abs) [(.t 23)], none⟩,
    ⟨(some 8), .mv (.t 24), none⟩]
def spec_l11Clause_5 : IR := .ops l_spec_l11Clause_5
@[go_sem] theorem w_spec_l11Clause_5 : wp P spec_l11Clause_5 Q e H = wpL P l_spec_l11Clause_5 (Q .normal) e H := idE rfl
def l_spec_l11Clause_6 : List GOp := [⟨(some 25), .mv (.t 6), none⟩,
    ⟨(some 26), .mv (.t 8), none⟩,
    ⟨(some 27), .iaddr (.t 25) (.t 26) 1, none⟩,
    ⟨(some 28), .load (.t 27) 1 false, none⟩,
    ⟨(some 29), .bin .neq (.t 28) (.c (.int .i64 0)), none⟩,
    ⟨(some 30), .mv (.t 29), none⟩,
    ⟨(some 31), .mv (.t 6), (some (30, true))⟩,
    ⟨(some 32), .mv (.t 8), (some (30, true))⟩,
    ⟨(some 33), .iaddr (.t 31) (.t 32) 1, (some (30, true))⟩,
    ⟨(some 34), .load (.t 33) 1 false, (some (30, true))⟩,
    ⟨(some 35), .mv (.t 0), (some (30, true))⟩,
    ⟨(some 36), .mv (.t 7), (some (30, true))⟩,
    ⟨(some 37), .iaddr (.t 35) (.t 36) 1, (some (30, true))⟩,
    ⟨(some 38), .load (.t 37) 1 false, (some (30, true))⟩,
    ⟨(some 39), .bin .neq (.t 34) (.t 38), (some (30, true))⟩,
    ⟨(some 40), .pick (.t 30) (.t 39) (.c (.bool false)), none⟩]
@[go_sem] theorem g_spec_l11Clause_6_0 : gAt l_spec_l11Clause_6 0 = ⟨(some 25), .mv (.t 6), none⟩ := idE rfl
@[go_sem] theorem g_spec_l11Clause_6_1 : gAt l_spec_l11Clause_6 1 = ⟨(some 26), .mv (.t 8), none⟩ := idE rfl
@[go_sem] theorem g_spec_l11Clause_6_2 : gAt l_spec_l11Clause_6 2 = ⟨(some 27), .iaddr (.t 25) (.t 26) 1, none⟩ := idE rfl
@[go_sem] theorem g_spec_l11Clause_6_3 : gAt l_spec_l11Clause_6 3 = ⟨(some 28), .load (.t 27) 1 false, none⟩ := idE rfl
@[go_sem] theorem g_spec_l11Clause_6_4 : gAt l_spec_l11Clause_6 4 = ⟨(some 29), .bin .neq (.t 28) (.c (.int .i64 0)), none⟩ := idE rfl
@[go_sem] theorem g_spec_l11Clause_6_5 : gAt l_spec_l11Clause_6 5 = ⟨(some 30), .mv (.t 29), none⟩ := idE rfl
@[go_sem] theorem g_spec_l11Clause_6_6 : gAt l_spec_l11Clause_6 6 = ⟨(some 31), .mv (.t 6), (some (30, true))⟩ := idE rfl
@[go_sem] theorem g_spec_l11Clause_6_7 : gAt l_spec_l11Clause_6 7 = ⟨(some 32), .mv (.t 8), (some (30, true))⟩ := idE rfl
@[go_sem] theorem g_spec_l11Clause_6_8 : gAt l_spec_l11Clause_6 8 = ⟨(some 33), .iaddr (.t 31) (.t 32) 1, (some (30, true))⟩ := idE rfl
@[go_sem] theorem g_spec_l11Clause_6_9 : gAt l_spec_l11Clause_6 9 = ⟨(some 34), .load (.t 33) 1 false, (some (30, true))⟩ := idE rfl
@[go_sem] theorem g_spec_l11Clause_6_10 : gAt l_spec_l11Clause_6 10 = ⟨(some 35), .mv (.t 0), (some (30, true))⟩ := idE rfl
@[go_sem] theorem g_spec_l11Clause_6_11 : gAt l_spec_l11Clause_6 11 = ⟨(some 36), .mv (.t 7), (some (30, true))⟩ := idE rfl
@[go_sem] theorem g_spec_l11Clause_6_12 : gAt l_spec_l11Clause_6 12 = ⟨(some 37), .iaddr (.t 35) (.t 36) 1, (some (30, true))⟩ := idE rfl
@[go_sem] theorem g_spec_l11Clause_6_13 : gAt l_spec_l11Clause_6 13 = ⟨(some 38), .load (.t 37) 1 false, (some (30, true))⟩ := idE rfl
@[go_sem] theorem g_spec_l11Clause_6_14 : gAt l_spec_l11Clause_6 14 = ⟨(some 39), .bin .neq (.t 34) (.t 38), (some (30, true))⟩ := idE rfl
@[go_sem] theorem g_spec_l11Clause_6_15 : gAt l_spec_l11Clause_6 15 = ⟨(some 40), .pick (.t 30) (.t 39) (.c (.bool false)), none⟩ := idE rfl
def spec_l11Clause_6 : IR := .dops l_spec_l11Clause_6 [(0, []), (1, []), (2, []), (3, []), (4, []), (5, []), (6, []), (7, []), (8, []), (9, []), (10, []), (11, []), (12, []), (13, []), (14, []), (15, [])]
@[go_sem] theorem w_spec_l11Clause_6 : wp P spec_l11Clause_6 Q e H = wpD P l_spec_l11Clause_6 [(0, []), (1, []), (2, []), (3, []), (4, []), (5, []), (6, []), (7, []), (8, []), (9, []), (10, []), (11, []), (12, []), (13, []), (14, []), (15, [])] (Q .normal) e H := idE rfl
@[go_sem] def l_spec_l11Clause_7 : List GOp := [⟨(some 4), .mv (.c (.sl none 0 0 true 0)), none⟩,
    ⟨(some 5), .mv (.c (.bool false)), none⟩]
def spec_l11Clause_7 : IR := .ops l_spec_l11Clause_7
@[go_sem] theorem w_spec_l11Clause_7 : wp P spec_l11Clause_7 Q e H = wpL P l_spec_l11Clause_7 (Q .normal) e H := idE rfl
def spec_l11Clause_8 : IR := .cond (.t 40) (.seq spec_l11Clause_7 .ret) .skip
@[go_sem] theorem w_spec_l11Clause_8 : wp P spec_l11Clause_8 Q e H = condW P ((.t 40) : X) (.seq spec_l11Clause_7 .ret) .skip Q e H := idE rfl
@[go_sem] def l_spec_l11Clause_9 : List GOp := [⟨(some 41), .mv (.t 6), none⟩,
    ⟨(some 42), .mv (.t 8), none⟩,
    ⟨(some 43), .mv (.t 0), none⟩,
    ⟨(some 44), .mv (.t 7), none⟩,
    ⟨(some 45), .iaddr (.t 43) (.t 44) 1, none⟩,
    ⟨(some 46), .load (.t 45) 1 false, none⟩,
    ⟨(some 47), .iaddr (.t 41) (.t 42) 1, none⟩,
    ⟨none, .store (.t 47) 1 (.t 46), none⟩]
def spec_l11Clause_9 : IR := .ops l_spec_l11Clause_9
@[go_sem] theorem w_spec_l11Clause_9 : wp P spec_l11Clause_9 Q e H = wpL P l_spec_l11Clause_9 (Q .normal) e H := idE rfl
def spec_l11Clause_10 : IR := .block 1 (.seq spec_l11Clause_5 (.seq (.seq spec_l11Clause_6 spec_l11Clause_8) spec_l11Clause_9))
@[go_sem] theorem w_spec_l11Clause_10 : wp P spec_l11Clause_10 Q e H = wp P (.seq spec_l11Clause_5 (.seq (.seq spec_l11Clause_6 spec_l11Clause_8) spec_l11Clause_9)) (blockQ 1 Q) e H := idE rfl
@[go_sem] def l_spec_l11Clause_11 : List GOp := [⟨(some 18), .mv (.t 7), none⟩,
    ⟨(some 19), .bin .add (.t 18) (.c (.int .i64 1)), none⟩,
    ⟨(some 7), .mv (.t 19), none⟩]
def spec_l11Clause_11 : IR := .ops l_spec_l11Clause_11
@[go_sem] theorem w_spec_l11Clause_11 : wp P spec_l11Clause_11 Q e H = wpL P l_spec_l11Clause_11 (Q .normal) e H := idE rfl
def spec_l11Clause_12 : IR := .loop (.seq (.seq spec_l11Clause_3 spec_l11Clause_4) (.seq spec_l11Clause_10 spec_l11Clause_11))
def spec_l11Clause_13 : IR := .block 0 spec_l11Clause_12
@[go_sem] theorem w_spec_l11Clause_13 : wp P spec_l11Clause_13 Q e H = wp P spec_l11Clause_12 (blockQ 0 Q) e H := idE rfl
@[go_sem] def l_spec_l11Clause_14 : List GOp := [⟨(some 48), .bslc 1 0 [(.int .i64 0)] [], none⟩,
    ⟨(some 9), .mv (.t 48), none⟩]
def spec_l11Clause_14 : IR := .ops l_spec_l11Clause_14
@[go_sem] theorem w_spec_l11Clause_14 : wp P spec_l11Clause_14 Q e H = wpL P l_spec_l11Clause_14 (Q .normal) e H := idE rfl
@[go_sem] def l_spec_l11Clause_15 : List GOp := [⟨(some 10), .mv (.c (.int .i64 1)), none⟩]
def spec_l11Clause_15 : IR := .ops l_spec_l11Clause_15
@[go_sem] theorem w_spec_l11Clause_15 : wp P spec_l11Clause_15 Q e H = wpL P l_spec_l11Clause_15 (Q .normal) e H := idE rfl
@[go_sem] def l_spec_l11Clause_16 : List GOp := [⟨(some 49), .mv (.t 10), none⟩,
    ⟨(some 50), .mv (.t 1), none⟩,
    ⟨(some 51), .bin .leq (.t 49) (.t 50), none⟩]
def spec_l11Clause_16 : IR := .ops l_spec_l11Clause_16
@[go_sem] theorem w_spec_l11Clause_16 : wp P spec_l11Clause_16 Q e H = wpL P l_spec_l11Clause_16 (Q .normal) e H := idE rfl
def spec_l11Clause_17 : IR := .cond (.t 51) .skip (.exit 2)
@[go_sem] theorem w_spec_l11Clause_17 : wp P spec_l11Clause_17 Q e H = condW P ((.t 51) : X) .skip (.exit 2) Q e H := idE rfl
@[go_sem] def l_spec_l11Clause_18 : List GOp := [⟨(some 54), .mv (.t 6), none⟩,
    ⟨(some 55), .mv (.t 10), none⟩,
    ⟨(some 56), .iaddr (.t 54) (.t 55) 1, none⟩,
    ⟨(some 57), .load (.t 56) 1 false, none⟩,
    ⟨(some 58), .bin .neq (.t 57) (.c (.int .i64 0)), none⟩]
def spec_l11Clause_18 : IR := .ops l_spec_l11Clause_18
@[go_sem] theorem w_spec_l11Clause_18 : wp P spec_l11Clause_18 Q e H = wpL P l_spec_l11Clause_18 (Q .normal) e H := idE rfl
@[go_sem] def l_spec_l11Clause_19 : List GOp := [⟨(some 59), .mv (.t 9), none⟩,
    ⟨(some 60), .mv (.t 6), none⟩,
    ⟨(some 61), .mv (.t 10), none⟩,
    ⟨(some 62), .iaddr (.t 60) (.t 61) 1, none⟩,
    ⟨(some 63), .load (.t 62) 1 false, none⟩,
    ⟨(some 64), .bslc 1 1 [(.int .i64 0)] [(0, (.t 63))], none⟩,
    ⟨(some 65), .app 1 8 (.t 59) (.t 64), none⟩,
    ⟨(some 9), .mv (.t 65), none⟩]
def spec_l11Clause_19 : IR := .ops l_spec_l11Clause_19
@[go_sem] theorem w_spec_l11Clause_19 : wp P spec_l11Clause_19 Q e H = wpL P l_spec_l11Clause_19 (Q .normal) e H := idE rfl
def spec_l11Clause_20 : IR := .cond (.t 58) spec_l11Clause_19 .skip
@[go_sem] theorem w_spec_l11Clause_20 : wp P spec_l11Clause_20 Q e H = condW P ((.t 58) : X) spec_l11Clause_19 .skip Q e H := idE rfl
def spec_l11Clause_21 : IR := .block 3 (.seq spec_l11Clause_18 spec_l11Clause_20)
@[go_sem] theorem w_spec_l11Clause_21 : wp P spec_l11Clause_21 Q e H = wp P (.seq spec_l11Clause_18 spec_l11Clause_20) (blockQ 3 Q) e H := idE rfl
@[go_sem] def l_spec_l11Clause_22 : List GOp := [⟨(some 52), .mv (.t 10), none⟩,
    ⟨(some 53), .bin .add (.t 52) (.c (.int .i64 1)), none⟩,
    ⟨(some 10), .mv (.t 53), none⟩]
def spec_l11Clause_22 : IR := .ops l_spec_l11Clause_22
@[go_sem] theorem w_spec_l11Clause_22 : wp P spec_l11Clause_22 Q e H = wpL P l_spec_l11Clause_22 (Q .normal) e H := idE rfl
def spec_l11Clause_23 : IR := .loop (.seq (.seq spec_l11Clause_16 spec_l11Clause_17) (.seq spec_l11Clause_21 spec_l11Clause_22))
def spec_l11Clause_24 : IR := .block 2 spec_l11Clause_23
@[go_sem] theorem w_spec_l11Clause_24 : wp P spec_l11Clause_24 Q e H = wp P spec_l11Clause_23 (blockQ 2 Q) e H := idE rfl
@[go_sem] def l_spec_l11Clause_25 : List GOp := [⟨(some 66), .mv (.t 9), none⟩,
    ⟨(some 4), .mv (.t 66), none⟩,
    ⟨(some 5), .mv (.c (.bool true)), none⟩]
def spec_l11Clause_25 : IR := .ops l_spec_l11Clause_25
@[go_sem] theorem w_spec_l11Clause_25 : wp P spec_l11Clause_25 Q e H = wpL P l_spec_l11Clause_25 (Q .normal) e H := idE rfl
def F_spec_l11Clause : IFn := ⟨2, 67, [.t 4, .t 5], (.seq spec_l11Clause_0 (.seq spec_l11Clause_1 (.seq (.seq spec_l11Clause_2 spec_l11Clause_13) (.seq spec_l11Clause_14 (.seq (.seq spec_l11Clause_15 spec_l11Clause_24) (.seq spec_l11Clause_25 .ret))))))⟩
theorem c_spec_l11Clause : compFn Try.prog [(0, [], []), (1, [], []), (2, [], []), (3, [], []), (5, [], []), (6, [(0, []), (1, []), (2, []), (3, []), (4, []), (5, []), (6, []), (7, []), (8, []), (9, []), (10, []), (11, []), (12, []), (13, []), (14, []), (15, [])], []), (7, [], []), (8, [], []), (4, [], []), (9, [], []), (10, [], []), (11, [], []), (13, [], []), (14, [], []), (12, [], []), (15, [], [])] Try.f121 = some F_spec_l11Clause := by kernel_rfl
theorem a_spec_l11Clause (hl : args.length = 2) (h : wp Try.prog (.seq spec_l11Clause_0 (.seq spec_l11Clause_1 (.seq (.seq spec_l11Clause_2 spec_l11Clause_13) (.seq spec_l11Clause_14 (.seq (.seq spec_l11Clause_15 spec_l11Clause_24) (.seq spec_l11Clause_25 .ret)))))) (postQ [.t 4, .t 5] R) (env0 args) H) : ACall Try.prog n_spec_l11Clause args H R :=
  acall_of_wp mixed Try.func121 c_spec_l11Clause (by kernel_rfl) hl h
@[go_sem] def l_spec_l11Lits_0 : List GOp := [⟨(some 6), .mv (.c (.sl none 0 0 true 0)), none⟩]
def spec_l11Lits_0 : IR := .ops l_spec_l11Lits_0
@[go_sem] theorem w_spec_l11Lits_0 : wp P spec_l11Lits_0 Q e H = wpL P l_spec_l11Lits_0 (Q .normal) e H := idE rfl
@[go_sem] def l_spec_l11Lits_1 : List GOp := [⟨(some 12), .bslc 1 0 [(.int .i64 0)] [], none⟩,
    ⟨(some 7), .mv (.t 12), none⟩]
def spec_l11Lits_1 : IR := .ops l_spec_l11Lits_1
@[go_sem] theorem w_spec_l11Lits_1 : wp P spec_l11Lits_1 Q e H = wpL P l_spec_l11Lits_1 (Q .normal) e H := idE rfl
@[go_sem] def l_spec_l11Lits_2 : List GOp := [⟨(some 8), .mv (.c (.int .i64 0)), none⟩]
def spec_l11Lits_2 : IR := .ops l_spec_l11Lits_2
@[go_sem] theorem w_spec_l11Lits_2 : wp P spec_l11Lits_2 Q e H = wpL P l_spec_l11Lits_2 (Q .normal) e H := idE rfl
@[go_sem] def l_spec_l11Lits_3 : List GOp := [⟨(some 13), .mv (.t 8), none⟩,
    ⟨(some 14), .mv (.t 2), none⟩,
    ⟨(some 15), .bin .lss (.t 13) (.t 14), none⟩,
    ⟨(some 16), .mv (.t 15), none⟩,
    ⟨(some 17), .mv (.t 1), (some (16, true))⟩,
    ⟨(some 18), .bin .gtr (.t 17) (.c (.int .i64 0)), (some (16, true))⟩,
    ⟨(some 19), .pick (.t 16) (.t 18) (.c (.bool false)), none⟩]
def spec_l11Lits_3 : IR := .ops l_spec_l11Lits_3
@[go_sem] theorem w_spec_l11Lits_3 : wp P spec_l11Lits_3 Q e H = wpL P l_spec_l11Lits_3 (Q .normal) e H := idE rfl
def spec_l11Lits_4 : IR := .cond (.t 19) .skip (.exit 0)
@[go_sem] theorem w_spec_l11Lits_4 : wp P spec_l11Lits_4 Q e H = condW P ((.t 19) : X) .skip (.exit 0) Q e H := idE rfl
@[go_sem] def l_spec_l11Lits_5 : List GOp := [⟨(some 22), .mv (.t 0), none⟩,
    ⟨(some 23), .mv (.t 1), none⟩,
    ⟨(some 24), .call (n_spec_l40Rd_pick) [(.t 22), (.t 23)], none⟩,
    ⟨(some 25), .bin .add (.c (.int .i64 1)) (.t 24), none⟩,
    ⟨(some 9), .mv (.t 25), none⟩]
def spec_l11Lits_5 : IR := .ops l_spec_l11Lits_5
@[go_sem] theorem w_spec_l11Lits_5 : wp P spec_l11Lits_5 Q e H = wpL P l_spec_l11Lits_5 (Q .normal) e H := idE rfl
@[go_sem] def l_spec_l11Lits_6 : List GOp := [⟨(some 26), .mv (.t 0), none⟩,
    ⟨(some 27), .call (n_spec_l40Rd_pick) [(.t 26), (.c (.int .i64 2))], none⟩,
    ⟨(some 28), .bin .eql (.t 27) (.c (.int .i64 0)), none⟩]
def spec_l11Lits_6 : IR := .ops l_spec_l11Lits_6
@[go_sem] theorem w_spec_l11Lits_6 : wp P spec_l11Lits_6 Q e H = wpL P l_spec_l11Lits_6 (Q .normal) e H := idE rfl
@[go_sem] def l_spec_l11Lits_7 : List GOp := [⟨(some 29), .mv (.t 9), none⟩,
    ⟨(some 30), .un .neg (.t 29), none⟩,
    ⟨(some 9), .mv (.t 30), none⟩]
def spec_l11Lits_7 : IR := .ops l_spec_l11Lits_7
@[go_sem] theorem w_spec_l11Lits_7 : wp P spec_l11Lits_7 Q e H = wpL P l_spec_l11Lits_7 (Q .normal) e H := idE rfl
def spec_l11Lits_8 : IR := .cond (.t 28) spec_l11Lits_7 .skip
@[go_sem] theorem w_spec_l11Lits_8 : wp P spec_l11Lits_8 Q e H = condW P ((.t 28) : X) spec_l11Lits_7 .skip Q e H := idE rfl
@[go_sem] def l_spec_l11Lits_9 : List GOp := [⟨(some 31), .mv (.t 7), none⟩,
    ⟨(some 32), .mv (.t 9), none⟩,
    ⟨(some 33), .un .neg (.t 32), none⟩,
    ⟨(some 34), .call (n_spec_l2Has) [(.t 31), (.t 33)], none⟩,
    ⟨(some 35), .un .not (.t 34), none⟩]
def spec_l11Lits_9 : IR := .ops l_spec_l11Lits_9
@[go_sem] theorem w_spec_l11Lits_9 : wp P spec_l11Lits_9 Q e H = wpL P l_spec_l11Lits_9 (Q .normal) e H := idE rfl
@[go_sem] def l_spec_l11Lits_10 : List GOp := [⟨(some 36), .mv (.t 7), none⟩,
    ⟨(some 37), .mv (.t 9), none⟩,
    ⟨(some 38), .bslc 1 1 [(.int .i64 0)] [(0, (.t 37))], none⟩,
    ⟨(some 39), .app 1 8 (.t 36) (.t 38), none⟩,
    ⟨(some 7), .mv (.t 39), none⟩]
def spec_l11Lits_10 : IR := .ops l_spec_l11Lits_10
@[go_sem] theorem w_spec_l11Lits_10 : wp P spec_l11Lits_10 Q e H = wpL P l_spec_l11Lits_10 (Q .normal) e H := idE rfl
def spec_l11Lits_11 : IR := .cond (.t 35) spec_l11Lits_10 .skip
@[go_sem] theorem w_spec_l11Lits_11 : wp P spec_l11Lits_11 Q e H = condW P ((.t 35) : X) spec_l11Lits_10 .skip Q e H := idE rfl
def spec_l11Lits_12 : IR := .block 1 (.seq spec_l11Lits_5 (.seq (.seq spec_l11Lits_6 spec_l11Lits_8) (.seq spec_l11Lits_9 spec_l11Lits_11)))
@[go_sem] theorem w_spec_l11Lits_12 : wp P spec_l11Lits_12 Q e H = wp P (.seq spec_l11Lits_5 (.seq (.seq spec_l11Lits_6 spec_l11Lits_8) (.seq spec_l11Lits_9 spec_l11Lits_11))) (blockQ 1 Q) e H := idE rfl
@[go_sem] def l_spec_l11Lits_13 : List GOp := [⟨(some 20), .mv (.t 8), none⟩,
    ⟨(some 21), .bin .add (.t 20) (.c (.int .i64 1)), none⟩,
    ⟨(some 8), .mv (.t 21), none⟩]
def spec_l11Lits_13 : IR := .ops l_spec_l11Lits_13
@[go_sem] theorem w_spec_l11Lits_13 : wp P spec_l11Lits_13 Q e H = wpL P l_spec_l11Lits_13 (Q .normal) e H := idE rfl
def spec_l11Lits_14 : IR := .loop (.seq (.seq spec_l11Lits_3 spec_l11Lits_4) (.seq spec_l11Lits_12 spec_l11Lits_13))
def spec_l11Lits_15 : IR := .block 0 spec_l11Lits_14
@[go_sem] theorem w_spec_l11Lits_15 : wp P spec_l11Lits_15 Q e H = wp P spec_l11Lits_14 (blockQ 0 Q) e H := idE rfl
@[go_sem] def l_spec_l11Lits_16 : List GOp := [⟨(some 41), .mv (.t 7), none⟩,
    ⟨(some 42), .mv (.t 1), none⟩,
    ⟨(some 43), .call (n_spec_l11Clause) [(.t 41), (.t 42)], none⟩,
    ⟨(some 40), .mv (.t 43), none⟩,
    ⟨(some 44), .ext (.t 40) 0, none⟩,
    ⟨(some 45), .ext (.t 40) 1, none⟩,
    ⟨(some 10), .mv (.t 44), none⟩,
    ⟨(some 11), .mv (.t 45), none⟩]
def spec_l11Lits_16 : IR := .ops l_spec_l11Lits_16
@[go_sem] theorem w_spec_l11Lits_16 : wp P spec_l11Lits_16 Q e H = wpL P l_spec_l11Lits_16 (Q .normal) e H := idE rfl
@[go_sem] def l_spec_l11Lits_17 : List GOp := [⟨(some 46), .mv (.t 10), none⟩,
    ⟨(some 6), .mv (.t 46), none⟩]
def spec_l11Lits_17 : IR := .ops l_spec_l11Lits_17
@[go_sem] theorem w_spec_l11Lits_17 : wp P spec_l11Lits_17 Q e H = wpL P l_spec_l11Lits_17 (Q .normal) e H := idE rfl
def F_spec_l11Lits : IFn := ⟨3, 47, [.t 6], (.seq spec_l11Lits_0 (.seq spec_l11Lits_1 (.seq (.seq spec_l11Lits_2 spec_l11Lits_15) (.seq spec_l11Lits_16 (.seq spec_l11Lits_17 .ret)))))⟩
theorem c_spec_l11Lits : compFn Try.prog [(0, [], []), (1, [], []), (2, [], []), (3, [], []), (5, [], []), (6, [], []), (7, [], []), (8, [], []), (9, [], []), (4, [], []), (10, [], []), (11, [], [])] Try.f114 = some F_spec_l11Lits := by kernel_rfl
theorem a_spec_l11Lits (hl : args.length = 3) (h : wp Try.prog (.seq spec_l11Lits_0 (.seq spec_l11Lits_1 (.seq (.seq spec_l11Lits_2 spec_l11Lits_15) (.seq spec_l11Lits_16 (.seq spec_l11Lits_17 .ret))))) (postQ [.t 6] R) (env0 args) H) : ACall Try.prog n_spec_l11Lits args H R :=
  acall_of_wp mixed Try.func114 c_spec_l11Lits (by kernel_rfl) hl h
@[go_sem] def l_spec_l11Draw_0 : List GOp := [⟨(some 6), .alloc [(.int .i64 0), (.sl none 0 0 true 0)], none⟩]
def spec_l11Draw_0 : IR := .ops l_spec_l11Draw_0
@[go_sem] theorem w_spec_l11Draw_0 : wp P spec_l11Draw_0 Q e H = wpL P l_spec_l11Draw_0 (Q .normal) e H := idE rfl
@[go_sem] def l_spec_l11Draw_1 : List GOp := [⟨(some 9), .mv (.t 1), none⟩,
    ⟨(some 10), .bld [(.int .i64 0), (.sl none 0 0 true 0)] [(0, 1, (.t 9))], none⟩,
    ⟨(some 7), .alloc [(.int .i64 0), (.sl none 0 0 true 0)], none⟩,
    ⟨none, .store (.t 7) 2 (.t 10), none⟩]
def spec_l11Draw_1 : IR := .ops l_spec_l11Draw_1
@[go_sem] theorem w_spec_l11Draw_1 : wp P spec_l11Draw_1 Q e H = wpL P l_spec_l11Draw_1 (Q .normal) e H := idE rfl
@[go_sem] def l_spec_l11Draw_2 : List GOp := [⟨(some 8), .mv (.c (.int .i64 0)), none⟩]
def spec_l11Draw_2 : IR := .ops l_spec_l11Draw_2
@[go_sem] theorem w_spec_l11Draw_2 : wp P spec_l11Draw_2 Q e H = wpL P l_spec_l11Draw_2 (Q .normal) e H := idE rfl
@[go_sem] def l_spec_l11Draw_3 : List GOp := [⟨(some 11), .mv (.t 8), none⟩,
    ⟨(some 12), .mv (.t 2), none⟩,
    ⟨(some 13), .bin .lss (.t 11) (.t 12), none⟩]
def spec_l11Draw_3 : IR := .ops l_spec_l11Draw_3
@[go_sem] theorem w_spec_l11Draw_3 : wp P spec_l11Draw_3 Q e H = wpL P l_spec_l11Draw_3 (Q .normal) e H := idE rfl
def spec_l11Draw_4 : IR := .cond (.t 13) .skip (.exit 0)
@[go_sem] theorem w_spec_l11Draw_4 : wp P spec_l11Draw_4 Q e H = condW P ((.t 13) : X) .skip (.exit 0) Q e H := idE rfl
def l_spec_l11Draw_5 : List GOp := [⟨(some 16), .faddr (.t 7) 1, none⟩,
    ⟨(some 17), .load (.t 16) 1 false, none⟩,
    ⟨(some 18), .mv (.t 0), none⟩,
    ⟨(some 19), .mv (.t 1), none⟩,
    ⟨(some 20), .mv (.t 0), none⟩,
    ⟨(some 21), .bslc 1 7 [(.int .i64 0)] [(0, (.c (.int .i64 2))), (1, (.c (.int .i64 3))), (2, (.c (.int .i64 3))), (3, (.c (.int .i64 2))), (4, (.c (.int .i64 1))), (5, (.c (.int .i64 3))), (6, (.c (.int .i64 4)))], none⟩,
    ⟨(some 22), .call (n_spec_l40Rd_num) [(.t 20), (.t 21)], none⟩,
    ⟨(some 23), .call (n_spec_l11Lits) [(.t 18), (.t 19), (.t 22)], none⟩,
    ⟨(some 24), .bslc 1 1 [(.sl none 0 0 true 0)] [(0, (.t 23))], none⟩,
    ⟨(some 25), .app 1 24 (.t 17) (.t 24), none⟩,
    ⟨(some 26), .faddr (.t 7) 1, none⟩,
    ⟨none, .store (.t 26) 1 (.t 25), none⟩]
@[go_sem] theorem g_spec_l11Draw_5_0 : gAt l_spec_l11Draw_5 0 = ⟨(some 16), .faddr (.t 7) 1, none⟩ := idE rfl
@[go_sem] theorem g_spec_l11Draw_5_1 : gAt l_spec_l11Draw_5 1 = ⟨(some 17), .load (.t 16) 1 false, none⟩ := idE rfl
@[go_sem] theorem g_spec_l11Draw_5_2 : gAt l_spec_l11Draw_5 2 = ⟨(some 18), .mv (.t 0), none⟩ := idE rfl
@[go_sem] theorem g_spec_l11Draw_5_3 : gAt l_spec_l11Draw_5 3 = ⟨(some 19), .mv (.t 1), none⟩ := idE rfl
@[go_sem] theorem g_spec_l11Draw_5_4 : gAt l_spec_l11Draw_5 4 = ⟨(some 20), .mv (.t 0), none⟩ := idE rfl
@[go_sem] theorem g_spec_l11Draw_5_5 : gAt l_spec_l11Draw_5 5 = ⟨(some 21), .bslc 1 7 [(.int .i64 0)] [(0, (.c (.int .i64 2))), (1, (.c (.int .i64 3))), (2, (.c (.int .i64 3))), (3, (.c (.int .i64 2))), (4, (.c (.int .i64 1))), (5, (.c (.int .i64 3))), (6, (.c (.int .i64 4)))], none⟩ := idE rfl
@[go_sem] theorem g_spec_l11Draw_5_6 : gAt l_spec_l11Draw_5 6 = ⟨(some 22), .call (n_spec_l40Rd_num) [(.t 20), (.t 21)], none⟩ := idE rfl
@[go_sem] theorem g_spec_l11Draw_5_7 : gAt l_spec_l11Draw_5 7 = ⟨(some 23), .call (n_spec_l11Lits) [(.t 18), (.t 19), (.t 22)], none⟩ := idE rfl
@[go_sem] theorem g_spec_l11Draw_5_8 : gAt l_spec_l11Draw_5 8 = ⟨(some 24), .bslc 1 1 [(.sl none 0 0 true 0)] [(0, (.t 23))], none⟩ := idE rfl
@[go_sem] theorem g_spec_l11Draw_5_9 : gAt l_spec_l11Draw_5 9 = ⟨(some 25), .app 1 24 (.t 17) (.t 24), none⟩ := idE rfl
@[go_sem] theorem g_spec_l11Draw_5_10 : gAt l_spec_l11Draw_5 10 = ⟨(some 26), .faddr (.t 7) 1, none⟩ := idE rfl
@[go_sem] theorem g_spec_l11Draw_5_11 : gAt l_spec_l11Draw_5 11 = ⟨none, .store (.t 26) 1 (.t 25), none⟩ := idE rfl
def spec_l11Draw_5 : IR := .dops l_spec_l11Draw_5 [(0, []), (1, []), (2, []), (3, []), (4, []), (5, []), (6, [1]), (7, [1]), (8, []), (9, []), (10, []), (11, [])]
@[go_sem] theorem w_spec_l11Draw_5 : wp P spec_l11Draw_5 Q e H = wpD P l_spec_l11Draw_5 [(0, []), (1, []), (2, []), (3, []), (4, []), (5, []), (6, [1]), (7, [1]), (8, []), (9, []), (10, []), (11, [])] (Q .normal) e H := idE rfl
def spec_l11Draw_6 : IR := .block 1 spec_l11Draw_5
@[go_sem] theorem w_spec_l11Draw_6 : wp P spec_l11Draw_6 Q e H = wp P spec_l11Draw_5 (blockQ 1 Q) e H := idE rfl
@[go_sem] def l_spec_l11Draw_7 : List GOp := [⟨(some 14), .mv (.t 8), none⟩,
    ⟨(some 15), .bin .add (.t 14) (.c (.int .i64 1)), none⟩,
    ⟨(some 8), .mv (.t 15), none⟩]
def spec_l11Draw_7 : IR := .ops l_spec_l11Draw_7
@[go_sem] theorem w_spec_l11Draw_7 : wp P spec_l11Draw_7 Q e H = wpL P l_spec_l11Draw_7 (Q .normal) e H := idE rfl
def spec_l11Draw_8 : IR := .loop (.seq (.seq spec_l11Draw_3 spec_l11Draw_4) (.seq spec_l11Draw_6 spec_l11Draw_7))
def spec_l11Draw_9 : IR := .block 0 spec_l11Draw_8
@[go_sem] theorem w_spec_l11Draw_9 : wp P spec_l11Draw_9 Q e H = wp P spec_l11Draw_8 (blockQ 0 Q) e H := idE rfl
@[go_sem] def l_spec_l11Draw_10 : List GOp := [⟨(some 27), .load (.t 7) 2 true, none⟩,
    ⟨none, .store (.t 6) 2 (.t 27), none⟩]
def spec_l11Draw_10 : IR := .ops l_spec_l11Draw_10
@[go_sem] theorem w_spec_l11Draw_10 : wp P spec_l11Draw_10 Q e H = wpL P l_spec_l11Draw_10 (Q .normal) e H := idE rfl
def F_spec_l11Draw : IFn := ⟨3, 28, [.c 6 2 true], (.seq spec_l11Draw_0 (.seq spec_l11Draw_1 (.seq (.seq spec_l11Draw_2 spec_l11Draw_9) (.seq spec_l11Draw_10 .ret))))⟩
theorem c_spec_l11Draw : compFn Try.prog [(0, [], []), (1, [], []), (2, [], []), (3, [], []), (5, [(0, []), (1, []), (2, []), (3, []), (4, []), (5, []), (6, [1]), (7, [1]), (8, []), (9, []), (10, []), (11, [])], []), (4, [], []), (6, [], [])] Try.f102 = some F_spec_l11Draw := by kernel_rfl
theorem a_spec_l11Draw (hl : args.length = 3) (h : wp Try.prog (.seq spec_l11Draw_0 (.seq spec_l11Draw_1 (.seq (.seq spec_l11Draw_2 spec_l11Draw_9) (.seq spec_l11Draw_10 .ret)))) (postQ [.c 6 2 true] R) (env0 args) H) : ACall Try.prog n_spec_l11Draw args H R :=
  acall_of_wp mixed Try.func102 c_spec_l11Draw (by kernel_rfl) hl h
@[go_sem] def l_spec_l11Some_0 : List GOp := [⟨(some 2), .alloc [(.int .i64 0), (.sl none 0 0 true 0)], none⟩]
def spec_l11Some_0 : IR := .ops l_spec_l11Some_0
@[go_sem] theorem w_spec_l11Some_0 : wp P spec_l11Some_0 Q e H = wpL P l_spec_l11Some_0 (Q .normal) e H := idE rfl
@[go_sem] def l_spec_l11Some_1 : List GOp := [⟨(some 6), .mv (.t 0), none⟩,
    ⟨(some 7), .bslc 1 7 [(.int .i64 0)] [(0, (.c (.int .i64 2))), (1, (.c (.int .i64 3))), (2, (.c (.int .i64 4))), (3, (.c (.int .i64 5))), (4, (.c (.int .i64 6))), (5, (.c (.int .i64 1))), (6, (.c (.int .i64 0)))], none⟩,
    ⟨(some 8), .call (n_spec_l40Rd_num) [(.t 6), (.t 7)], none⟩,
    ⟨(some 3), .mv (.t 8), none⟩]
def spec_l11Some_1 : IR := .ops l_spec_l11Some_1
@[go_sem] theorem w_spec_l11Some_1 : wp P spec_l11Some_1 Q e H = wpL P l_spec_l11Some_1 (Q .normal) e H := idE rfl
@[go_sem] def l_spec_l11Some_2 : List GOp := [⟨(some 9), .mv (.t 0), none⟩,
    ⟨(some 10), .mv (.t 3), none⟩,
    ⟨(some 11), .mv (.t 0), none⟩,
    ⟨(some 12), .bslc 1 7 [(.int .i64 0)] [(0, (.c (.int .i64 3))), (1, (.c (.int .i64 6))), (2, (.c (.int .i64 9))), (3, (.c (.int .i64 12))), (4, (.c (.int .i64 2))), (5, (.c (.int .i64 15))), (6, (.c (.int .i64 0)))], none⟩,
    ⟨(some 13), .call (n_spec_l40Rd_num) [(.t 11), (.t 12)], none⟩,
    ⟨(some 14), .call (n_spec_l11Draw) [(.t 9), (.t 10), (.t 13)], none⟩,
    ⟨(some 4), .alloc [(.int .i64 0), (.sl none 0 0 true 0)], none⟩,
    ⟨none, .store (.t 4) 2 (.t 14), none⟩]
def spec_l11Some_2 : IR := .ops l_spec_l11Some_2
@[go_sem] theorem w_spec_l11Some_2 : wp P spec_l11Some_2 Q e H = wpL P l_spec_l11Some_2 (Q .normal) e H := idE rfl
@[go_sem] def l_spec_l11Some_3 : List GOp := [⟨(some 15), .mv (.t 0), none⟩,
    ⟨(some 16), .call (n_spec_l40Rd_pick) [(.t 15), (.c (.int .i64 14))], none⟩,
    ⟨(some 17), .bin .eql (.t 16) (.c (.int .i64 0)), none⟩]
def spec_l11Some_3 : IR := .ops l_spec_l11Some_3
@[go_sem] theorem w_spec_l11Some_3 : wp P spec_l11Some_3 Q e H = wpL P l_spec_l11Some_3 (Q .normal) e H := idE rfl
@[go_sem] def l_spec_l11Some_4 : List GOp := [⟨(some 18), .mv (.t 0), none⟩,
    ⟨(some 19), .call (n_spec_l40Rd_pick) [(.t 18), (.c (.int .i64 4))], none⟩,
    ⟨(some 5), .mv (.t 19), none⟩]
def spec_l11Some_4 : IR := .ops l_spec_l11Some_4
@[go_sem] theorem w_spec_l11Some_4 : wp P spec_l11Some_4 Q e H = wpL P l_spec_l11Some_4 (Q .normal) e H := idE rfl
@[go_sem] def l_spec_l11Some_5 : List GOp := [⟨(some 20), .mv (.t 5), none⟩,
    ⟨(some 21), .bin .eql (.t 20) (.c (.int .i64 0)), none⟩]
def spec_l11Some_5 : IR := .ops l_spec_l11Some_5
@[go_sem] theorem w_spec_l11Some_5 : wp P spec_l11Some_5 Q e H = wpL P l_spec_l11Some_5 (Q .normal) e H := idE rfl
@[go_sem] def l_spec_l11Some_6 : List GOp := [⟨(some 22), .mv (.t 0), none⟩,
    ⟨(some 23), .bslc 1 3 [(.int .i64 0)] [(0, (.c (.int .i64 (-1)))), (1, (.c (.int .i64 701))), (2, (.c (.int .i64 0)))], none⟩,
    ⟨(some 24), .call (n_spec_l40Rd_num) [(.t 22), (.t 23)], none⟩,
    ⟨(some 25), .faddr (.t 4) 0, none⟩,
    ⟨none, .store (.t 25) 1 (.t 24), none⟩]
def spec_l11Some_6 : IR := .ops l_spec_l11Some_6
@[go_sem] theorem w_spec_l11Some_6 : wp P spec_l11Some_6 Q e H = wpL P l_spec_l11Some_6 (Q .normal) e H := idE rfl
@[go_sem] def l_spec_l11Some_7 : List GOp := [⟨(some 26), .mv (.t 5), none⟩,
    ⟨(some 27), .bin .eql (.t 26) (.c (.int .i64 1)), none⟩]
def spec_l11Some_7 : IR := .ops l_spec_l11Some_7
@[go_sem] theorem w_spec_l11Some_7 : wp P spec_l11Some_7 Q e H = wpL P l_spec_l11Some_7 (Q .normal) e H := idE rfl
@[go_sem] def l_spec_l11Some_8 : List GOp := [⟨(some 28), .faddr (.t 4) 1, none⟩,
    ⟨(some 29), .load (.t 28) 1 false, none⟩,
    ⟨(some 30), .bslc 1 2 [(.int .i64 0)] [(0, (.c (.int .i64 2))), (1, (.c (.int .i64 1)))], none⟩,
    ⟨(some 31), .bslo 1 1 [(.sl none 0 0 true 0)] [(0, (.t 30))], none⟩,
    ⟨(some 32), .app 1 24 (.t 29) (.t 31), none⟩,
    ⟨(some 33), .faddr (.t 4) 1, none⟩,
    ⟨none, .store (.t 33) 1 (.t 32), none⟩]
def spec_l11Some_8 : IR := .ops l_spec_l11Some_8
@[go_sem] theorem w_spec_l11Some_8 : wp P spec_l11Some_8 Q e H = wpL P l_spec_l11Some_8 (Q .normal) e H := idE rfl
@[go_sem] def l_spec_l11Some_9 : List GOp := [⟨(some 34), .mv (.t 5), none⟩,
    ⟨(some 35), .bin .eql (.t 34) (.c (.int .i64 2)), none⟩]
def spec_l11Some_9 : IR := .ops l_spec_l11Some_9
@[go_sem] theorem w_spec_l11Some_9 : wp P spec_l11Some_9 Q e H = wpL P l_spec_l11Some_9 (Q .normal) e H := idE rfl
def l_spec_l11Some_10 : List GOp := [⟨(some 36), .faddr (.t 4) 1, none⟩,
    ⟨(some 37), .load (.t 36) 1 false, none⟩,
    ⟨(some 38), .mv (.t 0), none⟩,
    ⟨(some 39), .mv (.t 3), none⟩,
    ⟨(some 40), .bin .add (.t 39) (.c (.int .i64 1)), none⟩,
    ⟨(some 41), .mv (.t 3), none⟩,
    ⟨(some 42), .un .neg (.t 41), none⟩,
    ⟨(some 43), .bin .sub (.t 42) (.c (.int .i64 1)), none⟩,
    ⟨(some 44), .bslc 1 3 [(.int .i64 0)] [(0, (.c (.int .i64 0))), (1, (.t 40)), (2, (.t 43))], none⟩,
    ⟨(some 45), .call (n_spec_l40Rd_num) [(.t 38), (.t 44)], none⟩,
    ⟨(some 46), .bslc 1 1 [(.int .i64 0)] [(0, (.t 45))], none⟩,
    ⟨(some 47), .bslo 1 1 [(.sl none 0 0 true 0)] [(0, (.t 46))], none⟩,
    ⟨(some 48), .app 1 24 (.t 37) (.t 47), none⟩,
    ⟨(some 49), .faddr (.t 4) 1, none⟩,
    ⟨none, .store (.t 49) 1 (.t 48), none⟩]
@[go_sem] theorem g_spec_l11Some_10_0 : gAt l_spec_l11Some_10 0 = ⟨(some 36), .faddr (.t 4) 1, none⟩ := idE rfl
@[go_sem] theorem g_spec_l11Some_10_1 : gAt l_spec_l11Some_10 1 = ⟨(some 37), .load (.t 36) 1 false, none⟩ := idE rfl
@[go_sem] theorem g_spec_l11Some_10_2 : gAt l_spec_l11Some_10 2 = ⟨(some 38), .mv (.t 0), none⟩ := idE rfl
@[go_sem] theorem g_spec_l11Some_10_3 : gAt l_spec_l11Some_10 3 = ⟨(some 39), .mv (.t 3), none⟩ := idE rfl
@[go_sem] theorem g_spec_l11Some_10_4 : gAt l_spec_l11Some_10 4 = ⟨(some 40), .bin .add (.t 39) (.c (.int .i64 1)), none⟩ := idE rfl
@[go_sem] theorem g_spec_l11Some_10_5 : gAt l_spec_l11Some_10 5 = ⟨(some 41), .mv (.t 3), none⟩ := idE rfl
@[go_sem] theorem g_spec_l11Some_10_6 : gAt l_spec_l11Some_10 6 = ⟨(some 42), .un .neg (.t 41), none⟩ := idE rfl
@[go_sem] theorem g_spec_l11Some_10_7 : gAt l_spec_l11Some_10 7 = ⟨(some 43), .bin .sub (.t 42) (.c (.int .i64 1)), none⟩ := idE rfl
@[go_sem] theorem g_spec_l11Some_10_8 : gAt l_spec_l11Some_10 8 = ⟨(some 44), .bslc 1 3 [(.int .i64 0)] [(0, (.c (.int .i64 0))), (1, (.t 40)), (2, (.t 43))], none⟩ := idE rfl
@[go_sem] theorem g_spec_l11Some_10_9 : gAt l_spec_l11Some_10 9 = ⟨(some 45), .call (n_spec_l40Rd_num) [(.t 38), (.t 44)], none⟩ := idE rfl
@[go_sem] theorem g_spec_l11Some_10_10 : gAt l_spec_l11Some_10 10 = ⟨(some 46), .bslc 1 1 [(.int .i64 0)] [(0, (.t 45))], none⟩ := idE rfl
@[go_sem] theorem g_spec_l11Some_10_11 : gAt l_spec_l11Some_10 11 = ⟨(some 47), .bslo 1 1 [(.sl none 0 0 true 0)] [(0, (.t 46))], none⟩ := idE rfl
@[go_sem] theorem g_spec_l11Some_10_12 : gAt l_spec_l11Some_10 12 = ⟨(some 48), .app 1 24 (.t 37) (.t 47), none⟩ := idE rfl
@[go_sem] theorem g_spec_l11Some_10_13 : gAt l_spec_l11Some_10 13 = ⟨(some 49), .faddr (.t 4) 1, none⟩ := idE rfl
@[go_sem] theorem g_spec_l11Some_10_14 : gAt l_spec_l11Some_10 14 = ⟨none, .store (.t 49) 1 (.t 48), none⟩ := idE rfl
def spec_l11Some_10 : IR := .dops l_spec_l11Some_10 [(0, []), (1, []), (2, []), (3, []), (4, []), (5, []), (6, []), (7, []), (8, []), (9, [1]), (10, []), (11, [1]), (12, []), (13, []), (14, [])]
@[go_sem] theorem w_spec_l11Some_10 : wp P spec_l11Some_10 Q e H = wpD P l_spec_l11Some_10 [(0, []), (1, []), (2, []), (3, []), (4, []), (5, []), (6, []), (7, []), (8, []), (9, [1]), (10, []), (11, [1]), (12, []), (13, []), (14, [])] (Q .normal) e H := idE rfl
@[go_sem] def l_spec_l11Some_11 : List GOp := [⟨(some 50), .faddr (.t 4) 1, none⟩,
    ⟨(some 51), .load (.t 50) 1 false, none⟩,
    ⟨(some 52), .bslc 1 2 [(.int .i64 0)] [(0, (.c (.int .i64 1))), (1, (.c (.int .i64 (-1))))], none⟩,
    ⟨(some 53), .bslo 1 1 [(.sl none 0 0 true 0)] [(0, (.t 52))], none⟩,
    ⟨(some 54), .app 1 24 (.t 51) (.t 53), none⟩,
    ⟨(some 55), .faddr (.t 4) 1, none⟩,
    ⟨none, .store (.t 55) 1 (.t 54), none⟩]
def spec_l11Some_11 : IR := .ops l_spec_l11Some_11
@[go_sem] theorem w_spec_l11Some_11 : wp P spec_l11Some_11 Q e H = wpL P l_spec_l11Some_11 (Q .normal) e H := idE rfl
def spec_l11Some_12 : IR := .cond (.t 35) spec_l11Some_10 spec_l11Some_11
@[go_sem] theorem w_spec_l11Some_12 : wp P spec_l11Some_12 Q e H = condW P ((.t 35) : X) spec_l11Some_10 spec_l11Some_11 Q e H := idE rfl
def spec_l11Some_13 : IR := .cond (.t 27) spec_l11Some_8 (.seq spec_l11Some_9 spec_l11Some_12)
@[go_sem] theorem w_spec_l11Some_13 : wp P spec_l11Some_13 Q e H = condW P ((.t 27) : X) spec_l11Some_8 (.seq spec_l11Some_9 spec_l11Some_12) Q e H := idE rfl
def spec_l11Some_14 : IR := .cond (.t 21) spec_l11Some_6 (.seq spec_l11Some_7 spec_l11Some_13)
@[go_sem] theorem w_spec_l11Some_14 : wp P spec_l11Some_14 Q e H = condW P ((.t 21) : X) spec_l11Some_6 (.seq spec_l11Some_7 spec_l11Some_13) Q e H := idE rfl
def spec_l11Some_15 : IR := .cond (.t 17) (.seq spec_l11Some_4 (.seq spec_l11Some_5 spec_l11Some_14)) .skip
@[go_sem] theorem w_spec_l11Some_15 : wp P spec_l11Some_15 Q e H = condW P ((.t 17) : X) (.seq spec_l11Some_4 (.seq spec_l11Some_5 spec_l11Some_14)) .skip Q e H := idE rfl
@[go_sem] def l_spec_l11Some_16 : List GOp := [⟨(some 56), .load (.t 4) 2 true, none⟩,
    ⟨none, .store (.t 2) 2 (.t 56), none⟩]
def spec_l11Some_16 : IR := .ops l_spec_l11Some_16
@[go_sem] theorem w_spec_l11Some_16 : wp P spec_l11Some_16 Q e H = wpL P l_spec_l11Some_16 (Q .normal) e H := idE rfl
def F_spec_l11Some : IFn := ⟨1, 57, [.c 2 2 true], (.seq spec_l11Some_0 (.seq spec_l11Some_1 (.seq spec_l11Some_2 (.seq (.seq spec_l11Some_3 spec_l11Some_15) (.seq spec_l11Some_16 .ret)))))⟩
theorem c_spec_l11Some : compFn Try.prog [(0, [], []), (1, [], []), (2, [], []), (3, [], []), (4, [], []), (5, [], []), (6, [], []), (7, [], []), (8, [], []), (9, [], []), (10, [(0, []), (1, []), (2, []), (3, []), (4, []), (5, []), (6, []), (7, []), (8, []), (9, [1]), (10, []), (11, [1]), (12, []), (13, []), (14, [])], []), (11, [], []), (12, [], [])] Try.f100 = some F_spec_l11Some := by kernel_rfl
theorem a_spec_l11Some (hl : args.length = 1) (h : wp Try.prog (.seq spec_l11Some_0 (.seq spec_l11Some_1 (.seq spec_l11Some_2 (.seq (.seq spec_l11Some_3 spec_l11Some_15) (.seq spec_l11Some_16 .ret))))) (postQ [.c 2 2 true] R) (env0 args) H) : ACall Try.prog n_spec_l11Some args H R :=
  acall_of_wp mixed Try.func100 c_spec_l11Some (by kernel_rfl) hl h
@[go_sem] def l_spec_l12Some_0 : List GOp := [⟨(some 2), .alloc [(.int .i64 0), (.sl none 0 0 true 0)], none⟩]
def spec_l12Some_0 : IR := .ops l_spec_l12Some_0
@[go_sem] theorem w_spec_l12Some_0 : wp P spec_l12Some_0 Q e H = wpL P l_spec_l12Some_0 (Q .normal) e H := idE rfl
@[go_sem] def l_spec_l12Some_1 : List GOp := [⟨(some 5), .mv (.t 0), none⟩,
    ⟨(some 6), .call (n_spec_l40Rd_pick) [(.t 5), (.c (.int .i64 4))], none⟩,
    ⟨(some 7), .bin .eql (.t 6) (.c (.int .i64 0)), none⟩]
def spec_l12Some_1 : IR := .ops l_spec_l12Some_1
@[go_sem] theorem w_spec_l12Some_1 : wp P spec_l12Some_1 Q e H = wpL P l_spec_l12Some_1 (Q .normal) e H := idE rfl
@[go_sem] def l_spec_l12Some_2 : List GOp := [⟨(some 8), .mv (.t 0), none⟩,
    ⟨(some 9), .call (n_spec_l11Some) [(.t 8)], none⟩,
    ⟨none, .store (.t 2) 2 (.t 9), none⟩]
def spec_l12Some_2 : IR := .ops l_spec_l12Some_2
@[go_sem] theorem w_spec_l12Some_2 : wp P spec_l12Some_2 Q e H = wpL P l_spec_l12Some_2 (Q .normal) e H := idE rfl
def spec_l12Some_3 : IR := .cond (.t 7) (.seq spec_l12Some_2 .ret) .skip
@[go_sem] theorem w_spec_l12Some_3 : wp P spec_l12Some_3 Q e H = condW P ((.t 7) : X) (.seq spec_l12Some_2 .ret) .skip Q e H := idE rfl
@[go_sem] def l_spec_l12Some_4 : List GOp := [⟨(some 10), .mv (.t 0), none⟩,
    ⟨(some 11), .bslc 1 5 [(.int .i64 0)] [(0, (.c (.int .i64 3))), (1, (.c (.int .i64 4))), (2, (.c (.int .i64 5))), (3, (.c (.int .i64 6))), (4, (.c (.int .i64 2)))], none⟩,
    ⟨(some 12), .call (n_spec_l40Rd_num) [(.t 10), (.t 11)], none⟩,
    ⟨(some 3), .mv (.t 12), none⟩]
def spec_l12Some_4 : IR := .ops l_spec_l12Some_4
@[go_sem] theorem w_spec_l12Some_4 : wp P spec_l12Some_4 Q e H = wpL P l_spec_l12Some_4 (Q .normal) e H := idE rfl
@[go_sem] def l_spec_l12Some_5 : List GOp := [⟨(some 13), .mv (.t 0), none⟩,
    ⟨(some 14), .mv (.t 3), none⟩,
    ⟨(some 15), .mv (.t 0), none⟩,
    ⟨(some 16), .bslc 1 5 [(.int .i64 0)] [(0, (.c (.int .i64 8))), (1, (.c (.int .i64 12))), (2, (.c (.int .i64 16))), (3, (.c (.int .i64 20))), (4, (.c (.int .i64 4)))], none⟩,
    ⟨(some 17), .call (n_spec_l40Rd_num) [(.t 15), (.t 16)], none⟩,
    ⟨(some 18), .call (n_spec_l11Draw) [(.t 13), (.t 14), (.t 17)], none⟩,
    ⟨(some 4), .alloc [(.int .i64 0), (.sl none 0 0 true 0)], none⟩,
    ⟨none, .store (.t 4) 2 (.t 18), none⟩]
def spec_l12Some_5 : IR := .ops l_spec_l12Some_5
@[go_sem] theorem w_spec_l12Some_5 : wp P spec_l12Some_5 Q e H = wpL P l_spec_l12Some_5 (Q .normal) e H := idE rfl
@[go_sem] def l_spec_l12Some_6 : List GOp := [⟨(some 19), .mv (.t 0), none⟩,
    ⟨(some 20), .call (n_spec_l40Rd_pick) [(.t 19), (.c (.int .i64 6))], none⟩,
    ⟨(some 21), .bin .eql (.t 20) (.c (.int .i64 0)), none⟩]
def spec_l12Some_6 : IR := .ops l_spec_l12Some_6
@[go_sem] theorem w_spec_l12Some_6 : wp P spec_l12Some_6 Q e H = wpL P l_spec_l12Some_6 (Q .normal) e H := idE rfl
@[go_sem] def l_spec_l12Some_7 : List GOp := [⟨(some 22), .faddr (.t 4) 1, none⟩,
    ⟨(some 23), .load (.t 22) 1 false, none⟩,
    ⟨(some 24), .bslc 1 0 [(.int .i64 0)] [], none⟩,
    ⟨(some 25), .bslo 1 1 [(.sl none 0 0 true 0)] [(0, (.t 24))], none⟩,
    ⟨(some 26), .app 1 24 (.t 23) (.t 25), none⟩,
    ⟨(some 27), .faddr (.t 4) 1, none⟩,
    ⟨none, .store (.t 27) 1 (.t 26), none⟩]
def spec_l12Some_7 : IR := .ops l_spec_l12Some_7
@[go_sem] theorem w_spec_l12Some_7 : wp P spec_l12Some_7 Q e H = wpL P l_spec_l12Some_7 (Q .normal) e H := idE rfl
def spec_l12Some_8 : IR := .cond (.t 21) spec_l12Some_7 .skip
@[go_sem] theorem w_spec_l12Some_8 : wp P spec_l12Some_8 Q e H = condW P ((.t 21) : X) spec_l12Some_7 .skip Q e H := idE rfl
@[go_sem] def l_spec_l12Some_9 : List GOp := [⟨(some 28), .load (.t 4) 2 true, none⟩,
    ⟨none, .store (.t 2) 2 (.t 28), none⟩]
def spec_l12Some_9 : IR := .ops l_spec_l12Some_9
@[go_sem] theorem w_spec_l12Some_9 : wp P spec_l12Some_9 Q e H = wpL P l_spec_l12Some_9 (Q .normal) e H := idE rfl
def F_spec_l12Some : IFn := ⟨1, 29, [.c 2 2 true], (.seq spec_l12Some_0 (.seq (.seq spec_l12Some_1 spec_l12Some_3) (.seq spec_l12Some_4 (.seq spec_l12Some_5 (.seq (.seq spec_l12Some_6 spec_l12Some_8) (.seq spec_l12Some_9 .ret))))))⟩
theorem c_spec_l12Some : compFn Try.prog [(0, [], []), (1, [], []), (2, [], []), (3, [], []), (4, [], []), (5, [], []), (6, [], []), (7, [], [])] Try.f65 = some F_spec_l12Some := by kernel_rfl
theorem a_spec_l12Some (hl : args.length = 1) (h : wp Try.prog (.seq spec_l12Some_0 (.seq (.seq spec_l12Some_1 spec_l12Some_3) (.seq spec_l12Some_4 (.seq spec_l12Some_5 (.seq (.seq spec_l12Some_6 spec_l12Some_8) (.seq spec_l12Some_9 .ret)))))) (postQ [.c 2 2 true] R) (env0 args) H) : ACall Try.prog n_spec_l12Some args H R :=
  acall_of_wp mixed Try.func65 c_spec_l12Some (by kernel_rfl) hl h
@[go_sem] def l_spec_DrawRefute_0 : List GOp := [⟨(some 2), .alloc [(.int .i64 0), (.sl none 0 0 true 0)], none⟩]
def spec_DrawRefute_0 : IR := .ops l_spec_DrawRefute_0
@[go_sem] theorem w_spec_DrawRefute_0 : wp P spec_DrawRefute_0 Q e H = wpL P l_spec_DrawRefute_0 (Q .normal) e H := idE rfl
@[go_sem] def l_spec_DrawRefute_1 : List GOp := [⟨(some 3), .mv (.t 0), none⟩,
    ⟨(some 4), .call (n_spec_l40Open) [(.t 3)], none⟩,
    ⟨(some 5), .call (n_spec_l12Some) [(.t 4)], none⟩,
    ⟨none, .store (.t 2) 2 (.t 5), none⟩]
def spec_DrawRefute_1 : IR := .ops l_spec_DrawRefute_1
@[go_sem] theorem w_spec_DrawRefute_1 : wp P spec_DrawRefute_1 Q e H = wpL P l_spec_DrawRefute_1 (Q .normal) e H := idE rfl
def F_spec_DrawRefute : IFn := ⟨1, 6, [.c 2 2 true], (.seq spec_DrawRefute_0 (.seq spec_DrawRefute_1 .ret))⟩
theorem c_spec_DrawRefute : compFn Try.prog [(0, [], []), (1, [], [])] Try.f24 = some F_spec_DrawRefute := by kernel_rfl
theorem a_spec_DrawRefute (hl : args.length = 1) (h : wp Try.prog (.seq spec_DrawRefute_0 (.seq spec_DrawRefute_1 .ret)) (postQ [.c 2 2 true] R) (env0 args) H) : ACall Try.prog n_spec_DrawRefute args H R :=
  acall_of_wp mixed Try.func24 c_spec_DrawRefute (by kernel_rfl) hl h
@[go_sem] def l_impl_in_0 : List GOp := [⟨(some 6), .mv (.c (.bool false)), none⟩]
def impl_in_0 : IR := .ops l_impl_in_0
@[go_sem] theorem w_impl_in_0 : wp P impl_in_0 Q e H = wpL P l_impl_in_0 (Q .normal) e H := idE rfl
@[go_sem] def l_impl_in_1 : List GOp := [⟨(some 7), .mv (.t 0), none⟩,
    ⟨(some 8), .mv (.t 1), none⟩,
    ⟨(some 9), .bin .geq (.t 7) (.t 8), none⟩,
    ⟨(some 10), .mv (.t 9), none⟩,
    ⟨(some 11), .mv (.t 0), (some (10, true))⟩,
    ⟨(some 12), .mv (.t 2), (some (10, true))⟩,
    ⟨(some 13), .bin .leq (.t 11) (.t 12), (some (10, true))⟩,
    ⟨(some 14), .pick (.t 10) (.t 13) (.c (.bool false)), none⟩,
    ⟨(some 6), .mv (.t 14), none⟩]
def impl_in_1 : IR := .ops l_impl_in_1
@[go_sem] theorem w_impl_in_1 : wp P impl_in_1 Q e H = wpL P l_impl_in_1 (Q .normal) e H := idE rfl
def F_impl_in : IFn := ⟨3, 15, [.t 6], (.seq impl_in_0 (.seq impl_in_1 .ret))⟩
theorem c_impl_in : compFn Try.prog [(0, [], []), (1, [], [])] Try.f59 = some F_impl_in := by kernel_rfl
theorem a_impl_in (hl : args.length = 3) (h : wp Try.prog (.seq impl_in_0 (.seq impl_in_1 .ret)) (postQ [.t 6] R) (env0 args) H) : ACall Try.prog n_impl_in args H R :=
  acall_of_wp mixed Try.func59 c_impl_in (by kernel_rfl) hl h
@[go_sem] def l_impl_atomOf_0 : List GOp := [⟨(some 2), .mv (.c (.int .i64 0)), none⟩]
def impl_atomOf_0 : IR := .ops l_impl_atomOf_0
@[go_sem] theorem w_impl_atomOf_0 : wp P impl_atomOf_0 Q e H = wpL P l_impl_atomOf_0 (Q .normal) e H := idE rfl
@[go_sem] def l_impl_atomOf_1 : List GOp := [⟨(some 3), .mv (.t 0), none⟩,
    ⟨(some 4), .mv (.t 0), none⟩,
    ⟨(some 5), .un .neg (.t 4), none⟩,
    ⟨(some 6), .mnx true (.t 3) (.t 5), none⟩,
    ⟨(some 2), .mv (.t 6), none⟩]
def impl_atomOf_1 : IR := .ops l_impl_atomOf_1
@[go_sem] theorem w_impl_atomOf_1 : wp P impl_atomOf_1 Q e H = wpL P l_impl_atomOf_1 (Q .normal) e H := idE rfl
def F_impl_atomOf : IFn := ⟨1, 7, [.t 2], (.seq impl_atomOf_0 (.seq impl_atomOf_1 .ret))⟩
theorem c_impl_atomOf : compFn Try.prog [(0, [], []), (1, [], [])] Try.f104 = some F_impl_atomOf := by kernel_rfl
theorem a_impl_atomOf (hl : args.length = 1) (h : wp Try.prog (.seq impl_atomOf_0 (.seq impl_atomOf_1 .ret)) (postQ [.t 2] R) (env0 args) H) : ACall Try.prog n_impl_atomOf args H R :=
  acall_of_wp mixed Try.func104 c_impl_atomOf (by kernel_rfl) hl h
@[go_sem] def l_impl_ClauseValid_0 : List GOp := [⟨(some 4), .mv (.c (.bool false)), none⟩]
def impl_ClauseValid_0 : IR := .ops l_impl_ClauseValid_0
@[go_sem] theorem w_impl_ClauseValid_0 : wp P impl_ClauseValid_0 Q e H = wpL P l_impl_ClauseValid_0 (Q .normal) e H := idE rfl
@[go_sem] def l_impl_ClauseValid_1 : List GOp := [⟨(some 7), .mv (.t 1), none⟩,
    ⟨(some 8), .call (n_impl_in) [(.t 7), (.c (.int .i64 0)), (.c (.int .i64 700))], none⟩,
    ⟨(some 9), .un .not (.t 8), none⟩]
def impl_ClauseValid_1 : IR := .ops l_impl_ClauseValid_1
@[go_sem] theorem w_impl_ClauseValid_1 : wp P impl_ClauseValid_1 Q e H = wpL P l_impl_ClauseValid_1 (Q .normal) e H := idE rfl
@[go_sem] def l_impl_ClauseValid_2 : List GOp := [⟨(some 4), .mv (.c (.bool false)), none⟩]
def impl_ClauseValid_2 : IR := .ops l_impl_ClauseValid_2
@[go_sem] theorem w_impl_ClauseValid_2 : wp P impl_ClauseValid_2 Q e H = wpL P l_impl_ClauseValid_2 (Q .normal) e H := idE rfl
def impl_ClauseValid_3 : IR := .cond (.t 9) (.seq impl_ClauseValid_2 .ret) .skip
@[go_sem] theorem w_impl_ClauseValid_3 : wp P impl_ClauseValid_3 Q e H = condW P ((.t 9) : X) (.seq impl_ClauseValid_2 .ret) .skip Q e H := idE rfl
@[go_sem] def l_impl_ClauseValid_4 : List GOp := [⟨(some 10), .mv (.t 0), none⟩,
    ⟨(some 11), .len (.t 10), none⟩,
    ⟨(some 12), .mv (.c (.int .i64 0)), none⟩]
def impl_ClauseValid_4 : IR := .ops l_impl_ClauseValid_4
@[go_sem] theorem w_impl_ClauseValid_4 : wp P impl_ClauseValid_4 Q e H = wpL P l_impl_ClauseValid_4 (Q .normal) e H := idE rfl
@[go_sem] def l_impl_ClauseValid_5 : List GOp := [⟨(some 13), .bin .lss (.t 12) (.t 11), none⟩]
def impl_ClauseValid_5 : IR := .ops l_impl_ClauseValid_5
@[go_sem] theorem w_impl_ClauseValid_5 : wp P impl_ClauseValid_5 Q e H = wpL P l_impl_ClauseValid_5 (Q .normal) e H := idE rfl
def impl_ClauseValid_6 : IR := .cond (.t 13) .skip (.exit 0)
@[go_sem] theorem w_impl_ClauseValid_6 : wp P impl_ClauseValid_6 Q e H = condW P ((.t 13) : X) .skip (.exit 0) Q e H := idE rfl
@[go_sem] def l_impl_ClauseValid_7 : List GOp := [⟨(some 14), .mv (.t 12), none⟩,
    ⟨(some 15), .iaddr (.t 10) (.t 12) 1, none⟩,
    ⟨(some 16), .load (.t 15) 1 false, none⟩,
    ⟨(some 5), .mv (.t 14), none⟩,
    ⟨(some 6), .mv (.t 16), none⟩]
def impl_ClauseValid_7 : IR := .ops l_impl_ClauseValid_7
@[go_sem] theorem w_impl_ClauseValid_7 : wp P impl_ClauseValid_7 Q e H = wpL P l_impl_ClauseValid_7 (Q .normal) e H := idE rfl
@[go_sem] def l_impl_ClauseValid_8 : List GOp := [⟨(some 17), .mv (.t 6), none⟩,
    ⟨(some 18), .mv (.t 1), none⟩,
    ⟨(some 19), .un .neg (.t 18), none⟩,
    ⟨(some 20), .mv (.t 1), none⟩,
    ⟨(some 21), .call (n_impl_in) [(.t 17), (.t 19), (.t 20)], none⟩,
    ⟨(some 22), .un .not (.t 21), none⟩,
    ⟨(some 23), .mv (.t 22), none⟩,
    ⟨(some 24), .mv (.t 6), (some (23, false))⟩,
    ⟨(some 25), .bin .eql (.t 24) (.c (.int .i64 0)), (some (23, false))⟩,
    ⟨(some 26), .pick (.t 23) (.c (.bool true)) (.t 25), none⟩,
    ⟨(some 27), .mv (.t 26), none⟩,
    ⟨(some 28), .mv (.t 5), (some (27, false))⟩,
    ⟨(some 29), .bin .gtr (.t 28) (.c (.int .i64 0)), (some (27, false))⟩,
    ⟨(some 30), .mv (.t 29), (some (27, false))⟩,
    ⟨(some 31), .mv (.t 0), (some (30, true))⟩,
    ⟨(some 32), .mv (.t 5), (some (30, true))⟩,
    ⟨(some 33), .bin .sub (.t 32) (.c (.int .i64 1)), (some (30, true))⟩,
    ⟨(some 34), .iaddr (.t 31) (.t 33) 1, (some (30, true))⟩,
    ⟨(some 35), .load (.t 34) 1 false, (some (30, true))⟩,
    ⟨(some 36), .call (n_impl_atomOf) [(.t 35)], (some (30, true))⟩,
    ⟨(some 37), .mv (.t 6), (some (30, true))⟩,
    ⟨(some 38), .call (n_impl_atomOf) [(.t 37)], (some (30, true))⟩,
    ⟨(some 39), .bin .geq (.t 36) (.t 38), (some (30, true))⟩,
    ⟨(some 40), .pick (.t 30) (.t 39) (.c (.bool false)), (some (27, false))⟩,
    ⟨(some 41), .pick (.t 27) (.c (.bool true)) (.t 40), none⟩]
def impl_ClauseValid_8 : IR := .ops l_impl_ClauseValid_8
@[go_sem] theorem w_impl_ClauseValid_8 : wp P impl_ClauseValid_8 Q e H = wpL P l_impl_ClauseValid_8 (Q .normal) e H := idE rfl
@[go_sem] def l_impl_ClauseValid_9 : List GOp := [⟨(some 4), .mv (.c (.bool false)), none⟩]
def impl_ClauseValid_9 : IR := .ops l_impl_ClauseValid_9
@[go_sem] theorem w_impl_ClauseValid_9 : wp P impl_ClauseValid_9 Q e H = wpL P l_impl_ClauseValid_9 (Q .normal) e H := idE rfl
def impl_ClauseValid_10 : IR := .cond (.t 41) (.seq impl_ClauseValid_9 .ret) .skip
@[go_sem] theorem w_impl_ClauseValid_10 : wp P impl_ClauseValid_10 Q e H = condW P ((.t 41) : X) (.seq impl_ClauseValid_9 .ret) .skip Q e H := idE rfl
def impl_ClauseValid_11 : IR := .block 1 (.seq impl_ClauseValid_7 (.seq impl_ClauseValid_8 impl_ClauseValid_10))
@[go_sem] theorem w_impl_ClauseValid_11 : wp P impl_ClauseValid_11 Q e H = wp P (.seq impl_ClauseValid_7 (.seq impl_ClauseValid_8 impl_ClauseValid_10)) (blockQ 1 Q) e H := idE rfl
@[go_sem] def l_impl_ClauseValid_12 : List GOp := [⟨(some 42), .bin .add (.t 12) (.c (.int .i64 1)), none⟩,
    ⟨(some 12), .mv (.t 42), none⟩]
def impl_ClauseValid_12 : IR := .ops l_impl_ClauseValid_12
@[go_sem] theorem w_impl_ClauseValid_12 : wp P impl_ClauseValid_12 Q e H = wpL P l_impl_ClauseValid_12 (Q .normal) e H := idE rfl
def impl_ClauseValid_13 : IR := .loop (.seq impl_ClauseValid_5 (.seq impl_ClauseValid_6 (.seq impl_ClauseValid_11 impl_ClauseValid_12)))
def impl_ClauseValid_14 : IR := .block 0 impl_ClauseValid_13
@[go_sem] theorem w_impl_ClauseValid_14 : wp P impl_ClauseValid_14 Q e H = wp P impl_ClauseValid_13 (blockQ 0 Q) e H := idE rfl
@[go_sem] def l_impl_ClauseValid_15 : List GOp := [⟨(some 4), .mv (.c (.bool true)), none⟩]
def impl_ClauseValid_15 : IR := .ops l_impl_ClauseValid_15
@[go_sem] theorem w_impl_ClauseValid_15 : wp P impl_ClauseValid_15 Q e H = wpL P l_impl_ClauseValid_15 (Q .normal) e H := idE rfl
def F_impl_ClauseValid : IFn := ⟨2, 43, [.t 4], (.seq impl_ClauseValid_0 (.seq (.seq impl_ClauseValid_1 impl_ClauseValid_3) (.seq (.seq impl_ClauseValid_4 impl_ClauseValid_14) (.seq impl_ClauseValid_15 .ret))))⟩
theorem c_impl_ClauseValid : compFn Try.prog [(0, [], []), (1, [], []), (2, [], []), (3, [], []), (4, [], []), (5, [], []), (6, [], []), (7, [], []), (8, [], []), (9, [], [])] Try.f70 = some F_impl_ClauseValid := by kernel_rfl
theorem a_impl_ClauseValid (hl : args.length = 2) (h : wp Try.prog (.seq impl_ClauseValid_0 (.seq (.seq impl_ClauseValid_1 impl_ClauseValid_3) (.seq (.seq impl_ClauseValid_4 impl_ClauseValid_14) (.seq impl_ClauseValid_15 .ret)))) (postQ [.t 4] R) (env0 args) H) : ACall Try.prog n_impl_ClauseValid args H R :=
  acall_of_wp mixed Try.func70 c_impl_ClauseValid (by kernel_rfl) hl h
@[go_sem] def l_impl_ClausesValid_1_0 : List GOp := [⟨(some 3), .mv (.c (.bool false)), none⟩]
def impl_ClausesValid_1_0 : IR := .ops l_impl_ClausesValid_1_0
@[go_sem] theorem w_impl_ClausesValid_1_0 : wp P impl_ClausesValid_1_0 Q e H = wpL P l_impl_ClausesValid_1_0 (Q .normal) e H := idE rfl
@[go_sem] def l_impl_ClausesValid_1_1 : List GOp := [⟨(some 4), .mv (.t 0), none⟩,
    ⟨(some 5), .faddr (.t 1) 0, none⟩,
    ⟨(some 6), .load (.t 5) 1 false, none⟩,
    ⟨(some 7), .call (n_impl_ClauseValid) [(.t 4), (.t 6)], none⟩,
    ⟨(some 8), .un .not (.t 7), none⟩,
    ⟨(some 3), .mv (.t 8), none⟩]
def impl_ClausesValid_1_1 : IR := .ops l_impl_ClausesValid_1_1
@[go_sem] theorem w_impl_ClausesValid_1_1 : wp P impl_ClausesValid_1_1 Q e H = wpL P l_impl_ClausesValid_1_1 (Q .normal) e H := idE rfl
def F_impl_ClausesValid_1 : IFn := ⟨2, 9, [.t 3], (.seq impl_ClausesValid_1_0 (.seq impl_ClausesValid_1_1 .ret))⟩
theorem c_impl_ClausesValid_1 : compFn Try.prog [(0, [], []), (1, [], [])] Try.f69 = some F_impl_ClausesValid_1 := by kernel_rfl
theorem a_impl_ClausesValid_1 (hl : args.length = 2) (h : wp Try.prog (.seq impl_ClausesValid_1_0 (.seq impl_ClausesValid_1_1 .ret)) (postQ [.t 3] R) (env0 args) H) : ACall Try.prog n_impl_ClausesValid_1 args H R :=
  acall_of_wp mixed Try.func69 c_impl_ClausesValid_1 (by kernel_rfl) hl h
@[go_sem] def l_slices_IndexFunc_SSint_Sint_0 : List GOp := [⟨(some 4), .mv (.c (.int .i64 0)), none⟩]
def slices_IndexFunc_SSint_Sint_0 : IR := .ops l_slices_IndexFunc_SSint_Sint_0
@[go_sem] theorem w_slices_IndexFunc_SSint_Sint_0 : wp P slices_IndexFunc_SSint_Sint_0 Q e H = wpL P l_slices_IndexFunc_SSint_Sint_0 (Q .normal) e H := idE rfl
@[go_sem] def l_slices_IndexFunc_SSint_Sint_1 : List GOp := [⟨(some 6), .mv (.t 0), none⟩,
    ⟨(some 7), .len (.t 6), none⟩,
    ⟨(some 8), .mv (.c (.int .i64 0)), none⟩]
def slices_IndexFunc_SSint_Sint_1 : IR := .ops l_slices_IndexFunc_SSint_Sint_1
@[go_sem] theorem w_slices_IndexFunc_SSint_Sint_1 : wp P slices_IndexFunc_SSint_Sint_1 Q e H = wpL P l_slices_IndexFunc_SSint_Sint_1 (Q .normal) e H := idE rfl
@[go_sem] def l_slices_IndexFunc_SSint_Sint_2 : List GOp := [⟨(some 9), .bin .lss (.t 8) (.t 7), none⟩]
def slices_IndexFunc_SSint_Sint_2 : IR := .ops l_slices_IndexFunc_SSint_Sint_2
@[go_sem] theorem w_slices_IndexFunc_SSint_Sint_2 : wp P slices_IndexFunc_SSint_Sint_2 Q e H = wpL P l_slices_IndexFunc_SSint_Sint_2 (Q .normal) e H := idE rfl
def slices_IndexFunc_SSint_Sint_3 : IR := .cond (.t 9) .skip (.exit 0)
@[go_sem] theorem w_slices_IndexFunc_SSint_Sint_3 : wp P slices_IndexFunc_SSint_Sint_3 Q e H = condW P ((.t 9) : X) .skip (.exit 0) Q e H := idE rfl
@[go_sem] def l_slices_IndexFunc_SSint_Sint_4 : List GOp := [⟨(some 10), .mv (.t 8), none⟩,
    ⟨(some 5), .mv (.t 10), none⟩]
def slices_IndexFunc_SSint_Sint_4 : IR := .ops l_slices_IndexFunc_SSint_Sint_4
@[go_sem] theorem w_slices_IndexFunc_SSint_Sint_4 : wp P slices_IndexFunc_SSint_Sint_4 Q e H = wpL P l_slices_IndexFunc_SSint_Sint_4 (Q .normal) e H := idE rfl
@[go_sem] def l_slices_IndexFunc_SSint_Sint_5 : List GOp := [⟨(some 11), .mv (.t 1), none⟩,
    ⟨(some 12), .mv (.t 0), none⟩,
    ⟨(some 13), .mv (.t 5), none⟩,
    ⟨(some 14), .iaddr (.t 12) (.t 13) 1, none⟩,
    ⟨(some 15), .load (.t 14) 1 false, none⟩,
    ⟨(some 16), .callv (.t 11) [(.t 15)], none⟩]
def slices_IndexFunc_SSint_Sint_5 : IR := .ops l_slices_IndexFunc_SSint_Sint_5
@[go_sem] theorem w_slices_IndexFunc_SSint_Sint_5 : wp P slices_IndexFunc_SSint_Sint_5 Q e H = wpL P l_slices_IndexFunc_SSint_Sint_5 (Q .normal) e H := idE rfl
@[go_sem] def l_slices_IndexFunc_SSint_Sint_6 : List GOp := [⟨(some 17), .mv (.t 5), none⟩,
    ⟨(some 4), .mv (.t 17), none⟩]
def slices_IndexFunc_SSint_Sint_6 : IR := .ops l_slices_IndexFunc_SSint_Sint_6
@[go_sem] theorem w_slices_IndexFunc_SSint_Sint_6 : wp P slices_IndexFunc_SSint_Sint_6 Q e H = wpL P l_slices_IndexFunc_SSint_Sint_6 (Q .normal) e H := idE rfl
def slices_IndexFunc_SSint_Sint_7 : IR := .cond (.t 16) (.seq slices_IndexFunc_SSint_Sint_6 .ret) .skip
@[go_sem] theorem w_slices_IndexFunc_SSint_Sint_7 : wp P slices_IndexFunc_SSint_Sint_7 Q e H = condW P ((.t 16) : X) (.seq slices_IndexFunc_SSint_Sint_6 .ret) .skip Q e H := idE rfl
def slices_IndexFunc_SSint_Sint_8 : IR := .block 1 (.seq slices_IndexFunc_SSint_Sint_4 (.seq slices_IndexFunc_SSint_Sint_5 slices_IndexFunc_SSint_Sint_7))
@[go_sem] theorem w_slices_IndexFunc_SSint_Sint_8 : wp P slices_IndexFunc_SSint_Sint_8 Q e H = wp P (.seq slices_IndexFunc_SSint_Sint_4 (.seq slices_IndexFunc_SSint_Sint_5 slices_IndexFunc_SSint_Sint_7)) (blockQ 1 Q) e H := idE rfl
@[go_sem] def l_slices_IndexFunc_SSint_Sint_9 : List GOp := [⟨(some 18), .bin .add (.t 8) (.c (.int .i64 1)), none⟩,
    ⟨(some 8), .mv (.t 18), none⟩]
def slices_IndexFunc_SSint_Sint_9 : IR := .ops l_slices_IndexFunc_SSint_Sint_9
@[go_sem] theorem w_slices_IndexFunc_SSint_Sint_9 : wp P slices_IndexFunc_SSint_Sint_9 Q e H = wpL P l_slices_IndexFunc_SSint_Sint_9 (Q .normal) e H := idE rfl
def slices_IndexFunc_SSint_Sint_10 : IR := .loop (.seq slices_IndexFunc_SSint_Sint_2 (.seq slices_IndexFunc_SSint_Sint_3 (.seq slices_IndexFunc_SSint_Sint_8 slices_IndexFunc_SSint_Sint_9)))
def slices_IndexFunc_SSint_Sint_11 : IR := .block 0 slices_IndexFunc_SSint_Sint_10
@[go_sem] theorem w_slices_IndexFunc_SSint_Sint_11 : wp P slices_IndexFunc_SSint_Sint_11 Q e H = wp P slices_IndexFunc_SSint_Sint_10 (blockQ 0 Q) e H := idE rfl
@[go_sem] def l_slices_IndexFunc_SSint_Sint_12 : List GOp := [⟨(some 4), .mv (.c (.int .i64 (-1))), none⟩]
def slices_IndexFunc_SSint_Sint_12 : IR := .ops l_slices_IndexFunc_SSint_Sint_12
@[go_sem] theorem w_slices_IndexFunc_SSint_Sint_12 : wp P slices_IndexFunc_SSint_Sint_12 Q e H = wpL P l_slices_IndexFunc_SSint_Sint_12 (Q .normal) e H := idE rfl
def F_slices_IndexFunc_SSint_Sint : IFn := ⟨2, 19, [.t 4], (.seq slices_IndexFunc_SSint_Sint_0 (.seq (.seq slices_IndexFunc_SSint_Sint_1 slices_IndexFunc_SSint_Sint_11) (.seq slices_IndexFunc_SSint_Sint_12 .ret)))⟩
theorem c_slices_IndexFunc_SSint_Sint : compFn Try.prog [(0, [], []), (1, [], []), (2, [], []), (3, [], []), (4, [], []), (5, [], []), (6, [], []), (7, [], [])] Try.f103 = some F_slices_IndexFunc_SSint_Sint := by kernel_rfl
theorem a_slices_IndexFunc_SSint_Sint (hl : args.length = 2) (h : wp Try.prog (.seq slices_IndexFunc_SSint_Sint_0 (.seq (.seq slices_IndexFunc_SSint_Sint_1 slices_IndexFunc_SSint_Sint_11) (.seq slices_IndexFunc_SSint_Sint_12 .ret))) (postQ [.t 4] R) (env0 args) H) : ACall Try.prog n_slices_IndexFunc_SSint_Sint args H R :=
  acall_of_wp mixed Try.func103 c_slices_IndexFunc_SSint_Sint (by kernel_rfl) hl h
@[go_sem] def l_slices_ContainsFunc_SSint_Sint_0 : List GOp := [⟨(some 4), .mv (.c (.bool false)), none⟩]
def slices_ContainsFunc_SSint_Sint_0 : IR := .ops l_slices_ContainsFunc_SSint_Sint_0
@[go_sem] theorem w_slices_ContainsFunc_SSint_Sint_0 : wp P slices_ContainsFunc_SSint_Sint_0 Q e H = wpL P l_slices_ContainsFunc_SSint_Sint_0 (Q .normal) e H := idE rfl
@[go_sem] def l_slices_ContainsFunc_SSint_Sint_1 : List GOp := [⟨(some 5), .mv (.t 0), none⟩,
    ⟨(some 6), .mv (.t 1), none⟩,
    ⟨(some 7), .call (n_slices_IndexFunc_SSint_Sint) [(.t 5), (.t 6)], none⟩,
    ⟨(some 8), .bin .geq (.t 7) (.c (.int .i64 0)), none⟩,
    ⟨(some 4), .mv (.t 8), none⟩]
def slices_ContainsFunc_SSint_Sint_1 : IR := .ops l_slices_ContainsFunc_SSint_Sint_1
@[go_sem] theorem w_slices_ContainsFunc_SSint_Sint_1 : wp P slices_ContainsFunc_SSint_Sint_1 Q e H = wpL P l_slices_ContainsFunc_SSint_Sint_1 (Q .normal) e H := idE rfl
def F_slices_ContainsFunc_SSint_Sint : IFn := ⟨2, 9, [.t 4], (.seq slices_ContainsFunc_SSint_Sint_0 (.seq slices_ContainsFunc_SSint_Sint_1 .ret))⟩
theorem c_slices_ContainsFunc_SSint_Sint : compFn Try.prog [(0, [], []), (1, [], [])] Try.f68 = some F_slices_ContainsFunc_SSint_Sint := by kernel_rfl
theorem a_slices_ContainsFunc_SSint_Sint (hl : args.length = 2) (h : wp Try.prog (.seq slices_ContainsFunc_SSint_Sint_0 (.seq slices_ContainsFunc_SSint_Sint_1 .ret)) (postQ [.t 4] R) (env0 args) H) : ACall Try.prog n_slices_ContainsFunc_SSint_Sint args H R :=
  acall_of_wp mixed Try.func68 c_slices_ContainsFunc_SSint_Sint (by kernel_rfl) hl h
@[go_sem] def l_impl_ClausesValid_0 : List GOp := [⟨(some 1), .box (.t 0), none⟩,
    ⟨(some 2), .mv (.c (.bool false)), none⟩]
def impl_ClausesValid_0 : IR := .ops l_impl_ClausesValid_0
@[go_sem] theorem w_impl_ClausesValid_0 : wp P impl_ClausesValid_0 Q e H = wpL P l_impl_ClausesValid_0 (Q .normal) e H := idE rfl
@[go_sem] def l_impl_ClausesValid_1 : List GOp := [⟨(some 3), .faddr (.t 1) 0, none⟩,
    ⟨(some 4), .load (.t 3) 1 false, none⟩,
    ⟨(some 5), .call (n_impl_in) [(.t 4), (.c (.int .i64 0)), (.c (.int .i64 700))], none⟩,
    ⟨(some 6), .mv (.t 5), none⟩,
    ⟨(some 7), .faddr (.t 1) 1, (some (6, true))⟩,
    ⟨(some 8), .load (.t 7) 1 false, (some (6, true))⟩,
    ⟨(some 9), .len (.t 8), (some (6, true))⟩,
    ⟨(some 10), .bin .leq (.t 9) (.c (.int .i64 2500)), (some (6, true))⟩,
    ⟨(some 11), .pick (.t 6) (.t 10) (.c (.bool false)), none⟩,
    ⟨(some 12), .mv (.t 11), none⟩,
    ⟨(some 13), .faddr (.t 1) 1, (some (12, true))⟩,
    ⟨(some 14), .load (.t 13) 1 false, (some (12, true))⟩,
    ⟨(some 15), .mkfn (n_impl_ClausesValid_1) [(.t 1)], (some (12, true))⟩,
    ⟨(some 16), .call (n_slices_ContainsFunc_SSint_Sint) [(.t 14), (.t 15)], (some (12, true))⟩,
    ⟨(some 17), .un .not (.t 16), (some (12, true))⟩,
    ⟨(some 18), .pick (.t 12) (.t 17) (.c (.bool false)), none⟩,
    ⟨(some 2), .mv (.t 18), none⟩]
def impl_ClausesValid_1 : IR := .ops l_impl_ClausesValid_1
@[go_sem] theorem w_impl_ClausesValid_1 : wp P impl_ClausesValid_1 Q e H = wpL P l_impl_ClausesValid_1 (Q .normal) e H := idE rfl
def F_impl_ClausesValid : IFn := ⟨1, 19, [.t 2], (.seq impl_ClausesValid_0 (.seq impl_ClausesValid_1 .ret))⟩
theorem c_impl_ClausesValid : compFn Try.prog [(0, [], []), (1, [], [])] Try.f27 = some F_impl_ClausesValid := by kernel_rfl
theorem a_impl_ClausesValid (hl : args.length = 1) (h : wp Try.prog (.seq impl_ClausesValid_0 (.seq impl_ClausesValid_1 .ret)) (postQ [.t 2] R) (env0 args) H) : ACall Try.prog n_impl_ClausesValid args H R :=
  acall_of_wp mixed Try.func27 c_impl_ClausesValid (by kernel_rfl) hl h
@[go_sem] def l_impl_bit_0 : List GOp := [⟨(some 2), .mv (.c (.int .i64 0)), none⟩]
def impl_bit_0 : IR := .ops l_impl_bit_0
@[go_sem] theorem w_impl_bit_0 : wp P impl_bit_0 Q e H = wpL P l_impl_bit_0 (Q .normal) e H := idE rfl
@[go_sem] def l_impl_bit_1 : List GOp := [⟨(some 3), .mv (.t 0), none⟩]
def impl_bit_1 : IR := .ops l_impl_bit_1
@[go_sem] theorem w_impl_bit_1 : wp P impl_bit_1 Q e H = wpL P l_impl_bit_1 (Q .normal) e H := idE rfl
@[go_sem] def l_impl_bit_2 : List GOp := [⟨(some 2), .mv (.c (.int .i64 1)), none⟩]
def impl_bit_2 : IR := .ops l_impl_bit_2
@[go_sem] theorem w_impl_bit_2 : wp P impl_bit_2 Q e H = wpL P l_impl_bit_2 (Q .normal) e H := idE rfl
def impl_bit_3 : IR := .cond (.t 3) (.seq impl_bit_2 .ret) .skip
@[go_sem] theorem w_impl_bit_3 : wp P impl_bit_3 Q e H = condW P ((.t 3) : X) (.seq impl_bit_2 .ret) .skip Q e H := idE rfl
@[go_sem] def l_impl_bit_4 : List GOp := [⟨(some 2), .mv (.c (.int .i64 0)), none⟩]
def impl_bit_4 : IR := .ops l_impl_bit_4
@[go_sem] theorem w_impl_bit_4 : wp P impl_bit_4 Q e H = wpL P l_impl_bit_4 (Q .normal) e H := idE rfl
def F_impl_bit : IFn := ⟨1, 4, [.t 2], (.seq impl_bit_0 (.seq (.seq impl_bit_1 impl_bit_3) (.seq impl_bit_4 .ret)))⟩
theorem c_impl_bit : compFn Try.prog [(0, [], []), (1, [], []), (2, [], []), (3, [], [])] Try.f107 = some F_impl_bit := by kernel_rfl
theorem a_impl_bit (hl : args.length = 1) (h : wp Try.prog (.seq impl_bit_0 (.seq (.seq impl_bit_1 impl_bit_3) (.seq impl_bit_4 .ret))) (postQ [.t 2] R) (env0 args) H) : ACall Try.prog n_impl_bit args H R :=
  acall_of_wp mixed Try.func107 c_impl_bit (by kernel_rfl) hl h
@[go_sem] def l_impl_signs_0 : List GOp := [⟨(some 4), .mv (.c (.sl none 0 0 true 0)), none⟩]
def impl_signs_0 : IR := .ops l_impl_signs_0
@[go_sem] theorem w_impl_signs_0 : wp P impl_signs_0 Q e H = wpL P l_impl_signs_0 (Q .normal) e H := idE rfl
@[go_sem] def l_impl_signs_1 : List GOp := [⟨(some 8), .mv (.t 0), none⟩,
    ⟨(some 9), .bin .add (.t 8) (.c (.int .i64 1)), none⟩,
    ⟨(some 10), .mks [(.int .i64 0)] 8 (.t 9), none⟩,
    ⟨(some 5), .mv (.t 10), none⟩]
def impl_signs_1 : IR := .ops l_impl_signs_1
@[go_sem] theorem w_impl_signs_1 : wp P impl_signs_1 Q e H = wpL P l_impl_signs_1 (Q .normal) e H := idE rfl
@[go_sem] def l_impl_signs_2 : List GOp := [⟨(some 11), .mv (.t 1), none⟩,
    ⟨(some 12), .len (.t 11), none⟩,
    ⟨(some 13), .mv (.c (.int .i64 0)), none⟩]
def impl_signs_2 : IR := .ops l_impl_signs_2
@[go_sem] theorem w_impl_signs_2 : wp P impl_signs_2 Q e H = wpL P l_impl_signs_2 (Q .normal) e H := idE rfl
@[go_sem] def l_impl_signs_3 : List GOp := [⟨(some 14), .bin .lss (.t 13) (.t 12), none⟩]
def impl_signs_3 : IR := .ops l_impl_signs_3
@[go_sem] theorem w_impl_signs_3 : wp P impl_signs_3 Q e H = wpL P l_impl_signs_3 (Q .normal) e H := idE rfl
def impl_signs_4 : IR := .cond (.t 14) .skip (.exit 0)
@[go_sem] theorem w_impl_signs_4 : wp P impl_signs_4 Q e H = condW P ((.t 14) : X) .skip (.exit 0) Q e H := idE rfl
@[go_sem] def l_impl_signs_5 : List GOp := [⟨(some 15), .iaddr (.t 11) (.t 13) 1, none⟩,
    ⟨(some 16), .load (.t 15) 1 false, none⟩,
    ⟨(some 7), .mv (.t 16), none⟩]
def impl_signs_5 : IR := .ops l_impl_signs_5
@[go_sem] theorem w_impl_signs_5 : wp P impl_signs_5 Q e H = wpL P l_impl_signs_5 (Q .normal) e H := idE rfl
@[go_sem] def l_impl_signs_6 : List GOp := [⟨(some 17), .mv (.t 5), none⟩,
    ⟨(some 18), .mv (.t 7), none⟩,
    ⟨(some 19), .call (n_impl_atomOf) [(.t 18)], none⟩,
    ⟨(some 20), .mv (.t 7), none⟩,
    ⟨(some 21), .bin .lss (.t 20) (.c (.int .i64 0)), none⟩,
    ⟨(some 22), .call (n_impl_bit) [(.t 21)], none⟩,
    ⟨(some 23), .bin .mul (.c (.int .i64 2)) (.t 22), none⟩,
    ⟨(some 24), .bin .sub (.c (.int .i64 1)) (.t 23), none⟩,
    ⟨(some 25), .iaddr (.t 17) (.t 19) 1, none⟩,
    ⟨none, .store (.t 25) 1 (.t 24), none⟩]
def impl_signs_6 : IR := .ops l_impl_signs_6
@[go_sem] theorem w_impl_signs_6 : wp P impl_signs_6 Q e H = wpL P l_impl_signs_6 (Q .normal) e H := idE rfl
def impl_signs_7 : IR := .block 1 (.seq impl_signs_5 impl_signs_6)
@[go_sem] theorem w_impl_signs_7 : wp P impl_signs_7 Q e H = wp P (.seq impl_signs_5 impl_signs_6) (blockQ 1 Q) e H := idE rfl
@[go_sem] def l_impl_signs_8 : List GOp := [⟨(some 26), .bin .add (.t 13) (.c (.int .i64 1)), none⟩,
    ⟨(some 13), .mv (.t 26), none⟩]
def impl_signs_8 : IR := .ops l_impl_signs_8
@[go_sem] theorem w_impl_signs_8 : wp P impl_signs_8 Q e H = wpL P l_impl_signs_8 (Q .normal) e H := idE rfl
def impl_signs_9 : IR := .loop (.seq impl_signs_3 (.seq impl_signs_4 (.seq impl_signs_7 impl_signs_8)))
def impl_signs_10 : IR := .block 0 impl_signs_9
@[go_sem] theorem w_impl_signs_10 : wp P impl_signs_10 Q e H = wp P impl_signs_9 (blockQ 0 Q) e H := idE rfl
@[go_sem] def l_impl_signs_11 : List GOp := [⟨(some 27), .mv (.t 5), none⟩,
    ⟨(some 4), .mv (.t 27), none⟩]
def impl_signs_11 : IR := .ops l_impl_signs_11
@[go_sem] theorem w_impl_signs_11 : wp P impl_signs_11 Q e H = wpL P l_impl_signs_11 (Q .normal) e H := idE rfl
def F_impl_signs : IFn := ⟨2, 28, [.t 4], (.seq impl_signs_0 (.seq impl_signs_1 (.seq (.seq impl_signs_2 impl_signs_10) (.seq impl_signs_11 .ret))))⟩
theorem c_impl_signs : compFn Try.prog [(0, [], []), (1, [], []), (2, [], []), (3, [], []), (4, [], []), (5, [], []), (6, [], []), (7, [], [])] Try.f72 = some F_impl_signs := by kernel_rfl
theorem a_impl_signs (hl : args.length = 2) (h : wp Try.prog (.seq impl_signs_0 (.seq impl_signs_1 (.seq (.seq impl_signs_2 impl_signs_10) (.seq impl_signs_11 .ret)))) (postQ [.t 4] R) (env0 args) H) : ACall Try.prog n_impl_signs args H R :=
  acall_of_wp mixed Try.func72 c_impl_signs (by kernel_rfl) hl h
@[go_sem] def l_impl_forced_0 : List GOp := [⟨(some 4), .mv (.c (.bool false)), none⟩]
def impl_forced_0 : IR := .ops l_impl_forced_0
@[go_sem] theorem w_impl_forced_0 : wp P impl_forced_0 Q e H = wpL P l_impl_forced_0 (Q .normal) e H := idE rfl
@[go_sem] def l_impl_forced_1 : List GOp := [⟨(some 5), .mv (.c (.bool true)), none⟩]
def impl_forced_1 : IR := .ops l_impl_forced_1
@[go_sem] theorem w_impl_forced_1 : wp P impl_forced_1 Q e H = wpL P l_impl_forced_1 (Q .normal) e H := idE rfl
@[go_sem] def l_impl_forced_2 : List GOp := [⟨(some 14), .mv (.t 5), none⟩]
def impl_forced_2 : IR := .ops l_impl_forced_2
@[go_sem] theorem w_impl_forced_2 : wp P impl_forced_2 Q e H = wpL P l_impl_forced_2 (Q .normal) e H := idE rfl
def impl_forced_3 : IR := .cond (.t 14) .skip (.exit 0)
@[go_sem] theorem w_impl_forced_3 : wp P impl_forced_3 Q e H = condW P ((.t 14) : X) .skip (.exit 0) Q e H := idE rfl
@[go_sem] def l_impl_forced_4 : List GOp := [⟨(some 5), .mv (.c (.bool false)), none⟩]
def impl_forced_4 : IR := .ops l_impl_forced_4
@[go_sem] theorem w_impl_forced_4 : wp P impl_forced_4 Q e H = wpL P l_impl_forced_4 (Q .normal) e H := idE rfl
@[go_sem] def l_impl_forced_5 : List GOp := [⟨(some 15), .mv (.t 0), none⟩,
    ⟨(some 16), .len (.t 15), none⟩,
    ⟨(some 17), .mv (.c (.int .i64 0)), none⟩]
def impl_forced_5 : IR := .ops l_impl_forced_5
@[go_sem] theorem w_impl_forced_5 : wp P impl_forced_5 Q e H = wpL P l_impl_forced_5 (Q .normal) e H := idE rfl
@[go_sem] def l_impl_forced_6 : List GOp := [⟨(some 18), .bin .lss (.t 17) (.t 16), none⟩]
def impl_forced_6 : IR := .ops l_impl_forced_6
@[go_sem] theorem w_impl_forced_6 : wp P impl_forced_6 Q e H = wpL P l_impl_forced_6 (Q .normal) e H := idE rfl
def impl_forced_7 : IR := .cond (.t 18) .skip (.exit 2)
@[go_sem] theorem w_impl_forced_7 : wp P impl_forced_7 Q e H = condW P ((.t 18) : X) .skip (.exit 2) Q e H := idE rfl
@[go_sem] def l_impl_forced_8 : List GOp := [⟨(some 19), .iaddr (.t 15) (.t 17) 1, none⟩,
    ⟨(some 20), .load (.t 19) 1 false, none⟩,
    ⟨(some 7), .mv (.t 20), none⟩]
def impl_forced_8 : IR := .ops l_impl_forced_8
@[go_sem] theorem w_impl_forced_8 : wp P impl_forced_8 Q e H = wpL P l_impl_forced_8 (Q .normal) e H := idE rfl
@[go_sem] def l_impl_forced_9 : List GOp := [⟨(some 8), .mv (.c (.int .i64 0)), none⟩,
    ⟨(some 9), .mv (.c (.int .i64 0)), none⟩,
    ⟨(some 10), .mv (.c (.bool false)), none⟩]
def impl_forced_9 : IR := .ops l_impl_forced_9
@[go_sem] theorem w_impl_forced_9 : wp P impl_forced_9 Q e H = wpL P l_impl_forced_9 (Q .normal) e H := idE rfl
@[go_sem] def l_impl_forced_10 : List GOp := [⟨(some 21), .mv (.t 7), none⟩,
    ⟨(some 22), .len (.t 21), none⟩,
    ⟨(some 23), .mv (.c (.int .i64 0)), none⟩]
def impl_forced_10 : IR := .ops l_impl_forced_10
@[go_sem] theorem w_impl_forced_10 : wp P impl_forced_10 Q e H = wpL P l_impl_forced_10 (Q .normal) e H := idE rfl
@[go_sem] def l_impl_forced_11 : List GOp := [⟨(some 24), .bin .lss (.t 23) (.t 22), none⟩]
def impl_forced_11 : IR := .ops l_impl_forced_11
@[go_sem] theorem w_impl_forced_11 : wp P impl_forced_11 Q e H = wpL P l_impl_forced_11 (Q .normal) e H := idE rfl
def impl_forced_12 : IR := .cond (.t 24) .skip (.exit 4)
@[go_sem] theorem w_impl_forced_12 : wp P impl_forced_12 Q e H = condW P ((.t 24) : X) .skip (.exit 4) Q e H := idE rfl
@[go_sem] def l_impl_forced_13 : List GOp := [⟨(some 25), .iaddr (.t 21) (.t 23) 1, none⟩,
    ⟨(some 26), .load (.t 25) 1 false, none⟩,
    ⟨(some 12), .mv (.t 26), none⟩]
def impl_forced_13 : IR := .ops l_impl_forced_13
@[go_sem] theorem w_impl_forced_13 : wp P impl_forced_13 Q e H = wpL P l_impl_forced_13 (Q .normal) e H := idE rfl
@[go_sem] def l_impl_forced_14 : List GOp := [⟨(some 27), .mv (.t 1), none⟩,
    ⟨(some 28), .mv (.t 12), none⟩,
    ⟨(some 29), .call (n_impl_atomOf) [(.t 28)], none⟩,
    ⟨(some 30), .iaddr (.t 27) (.t 29) 1, none⟩,
    ⟨(some 31), .load (.t 30) 1 false, none⟩,
    ⟨(some 13), .mv (.t 31), none⟩]
def impl_forced_14 : IR := .ops l_impl_forced_14
@[go_sem] theorem w_impl_forced_14 : wp P impl_forced_14 Q e H = wpL P l_impl_forced_14 (Q .normal) e H := idE rfl
@[go_sem] def l_impl_forced_15 : List GOp := [⟨(some 33), .mv (.t 13), none⟩,
    ⟨(some 34), .bin .eql (.t 33) (.c (.int .i64 0)), none⟩,
    ⟨(some 32), .mv (.t 34), none⟩]
def impl_forced_15 : IR := .ops l_impl_forced_15
@[go_sem] theorem w_impl_forced_15 : wp P impl_forced_15 Q e H = wpL P l_impl_forced_15 (Q .normal) e H := idE rfl
@[go_sem] def l_impl_forced_16 : List GOp := [⟨(some 35), .mv (.t 12), none⟩,
    ⟨(some 8), .mv (.t 35), none⟩]
def impl_forced_16 : IR := .ops l_impl_forced_16
@[go_sem] theorem w_impl_forced_16 : wp P impl_forced_16 Q e H = wpL P l_impl_forced_16 (Q .normal) e H := idE rfl
@[go_sem] def l_impl_forced_17 : List GOp := [⟨(some 36), .mv (.t 9), none⟩,
    ⟨(some 37), .bin .add (.t 36) (.c (.int .i64 1)), none⟩,
    ⟨(some 9), .mv (.t 37), none⟩]
def impl_forced_17 : IR := .ops l_impl_forced_17
@[go_sem] theorem w_impl_forced_17 : wp P impl_forced_17 Q e H = wpL P l_impl_forced_17 (Q .normal) e H := idE rfl
@[go_sem] def l_impl_forced_18 : List GOp := [⟨(some 39), .mv (.t 13), none⟩,
    ⟨(some 40), .bin .gtr (.t 39) (.c (.int .i64 0)), none⟩,
    ⟨(some 41), .mv (.t 12), none⟩,
    ⟨(some 42), .bin .gtr (.t 41) (.c (.int .i64 0)), none⟩,
    ⟨(some 43), .beq false (.t 40) (.t 42), none⟩,
    ⟨(some 38), .mv (.t 43), none⟩]
def impl_forced_18 : IR := .ops l_impl_forced_18
@[go_sem] theorem w_impl_forced_18 : wp P impl_forced_18 Q e H = wpL P l_impl_forced_18 (Q .normal) e H := idE rfl
@[go_sem] def l_impl_forced_19 : List GOp := [⟨(some 10), .mv (.c (.bool true)), none⟩]
def impl_forced_19 : IR := .ops l_impl_forced_19
@[go_sem] theorem w_impl_forced_19 : wp P impl_forced_19 Q e H = wpL P l_impl_forced_19 (Q .normal) e H := idE rfl
def impl_forced_20 : IR := .cond (.t 38) impl_forced_19 .skip
@[go_sem] theorem w_impl_forced_20 : wp P impl_forced_20 Q e H = condW P ((.t 38) : X) impl_forced_19 .skip Q e H := idE rfl
def impl_forced_21 : IR := .cond (.t 32) (.seq impl_forced_16 impl_forced_17) (.seq impl_forced_18 impl_forced_20)
@[go_sem] theorem w_impl_forced_21 : wp P impl_forced_21 Q e H = condW P ((.t 32) : X) (.seq impl_forced_16 impl_forced_17) (.seq impl_forced_18 impl_forced_20) Q e H := idE rfl
def impl_forced_22 : IR := .block 6 (.seq impl_forced_15 impl_forced_21)
@[go_sem] theorem w_impl_forced_22 : wp P impl_forced_22 Q e H = wp P (.seq impl_forced_15 impl_forced_21) (blockQ 6 Q) e H := idE rfl
def impl_forced_23 : IR := .block 5 (.seq impl_forced_13 (.seq impl_forced_14 impl_forced_22))
@[go_sem] theorem w_impl_forced_23 : wp P impl_forced_23 Q e H = wp P (.seq impl_forced_13 (.seq impl_forced_14 impl_forced_22)) (blockQ 5 Q) e H := idE rfl
@[go_sem] def l_impl_forced_24 : List GOp := [⟨(some 44), .bin .add (.t 23) (.c (.int .i64 1)), none⟩,
    ⟨(some 23), .mv (.t 44), none⟩]
def impl_forced_24 : IR := .ops l_impl_forced_24
@[go_sem] theorem w_impl_forced_24 : wp P impl_forced_24 Q e H = wpL P l_impl_forced_24 (Q .normal) e H := idE rfl
def impl_forced_25 : IR := .loop (.seq impl_forced_11 (.seq impl_forced_12 (.seq impl_forced_23 impl_forced_24)))
def impl_forced_26 : IR := .block 4 impl_forced_25
@[go_sem] theorem w_impl_forced_26 : wp P impl_forced_26 Q e H = wp P impl_forced_25 (blockQ 4 Q) e H := idE rfl
@[go_sem] def l_impl_forced_27 : List GOp := [⟨(some 46), .mv (.t 10), none⟩,
    ⟨(some 45), .mv (.t 46), none⟩]
def impl_forced_27 : IR := .ops l_impl_forced_27
@[go_sem] theorem w_impl_forced_27 : wp P impl_forced_27 Q e H = wpL P l_impl_forced_27 (Q .normal) e H := idE rfl
@[go_sem] def l_impl_forced_28 : List GOp := [⟨(some 48), .mv (.t 9), none⟩,
    ⟨(some 49), .bin .eql (.t 48) (.c (.int .i64 0)), none⟩,
    ⟨(some 47), .mv (.t 49), none⟩]
def impl_forced_28 : IR := .ops l_impl_forced_28
@[go_sem] theorem w_impl_forced_28 : wp P impl_forced_28 Q e H = wpL P l_impl_forced_28 (Q .normal) e H := idE rfl
@[go_sem] def l_impl_forced_29 : List GOp := [⟨(some 4), .mv (.c (.bool false)), none⟩]
def impl_forced_29 : IR := .ops l_impl_forced_29
@[go_sem] theorem w_impl_forced_29 : wp P impl_forced_29 Q e H = wpL P l_impl_forced_29 (Q .normal) e H := idE rfl
@[go_sem] def l_impl_forced_30 : List GOp := [⟨(some 51), .mv (.t 9), none⟩,
    ⟨(some 52), .bin .eql (.t 51) (.c (.int .i64 1)), none⟩,
    ⟨(some 50), .mv (.t 52), none⟩]
def impl_forced_30 : IR := .ops l_impl_forced_30
@[go_sem] theorem w_impl_forced_30 : wp P impl_forced_30 Q e H = wpL P l_impl_forced_30 (Q .normal) e H := idE rfl
@[go_sem] def l_impl_forced_31 : List GOp := [⟨(some 53), .mv (.t 1), none⟩,
    ⟨(some 54), .mv (.t 8), none⟩,
    ⟨(some 55), .call (n_impl_atomOf) [(.t 54)], none⟩,
    ⟨(some 56), .mv (.t 8), none⟩,
    ⟨(some 57), .bin .lss (.t 56) (.c (.int .i64 0)), none⟩,
    ⟨(some 58), .call (n_impl_bit) [(.t 57)], none⟩,
    ⟨(some 59), .bin .mul (.c (.int .i64 2)) (.t 58), none⟩,
    ⟨(some 60), .bin .sub (.c (.int .i64 1)) (.t 59), none⟩,
    ⟨(some 61), .iaddr (.t 53) (.t 55) 1, none⟩,
    ⟨none, .store (.t 61) 1 (.t 60), none⟩]
def impl_forced_31 : IR := .ops l_impl_forced_31
@[go_sem] theorem w_impl_forced_31 : wp P impl_forced_31 Q e H = wpL P l_impl_forced_31 (Q .normal) e H := idE rfl
@[go_sem] def l_impl_forced_32 : List GOp := [⟨(some 5), .mv (.c (.bool true)), none⟩]
def impl_forced_32 : IR := .ops l_impl_forced_32
@[go_sem] theorem w_impl_forced_32 : wp P impl_forced_32 Q e H = wpL P l_impl_forced_32 (Q .normal) e H := idE rfl
def impl_forced_33 : IR := .cond (.t 50) (.seq impl_forced_31 impl_forced_32) .skip
@[go_sem] theorem w_impl_forced_33 : wp P impl_forced_33 Q e H = condW P ((.t 50) : X) (.seq impl_forced_31 impl_forced_32) .skip Q e H := idE rfl
def impl_forced_34 : IR := .cond (.t 47) (.seq impl_forced_29 .ret) (.seq impl_forced_30 impl_forced_33)
@[go_sem] theorem w_impl_forced_34 : wp P impl_forced_34 Q e H = condW P ((.t 47) : X) (.seq impl_forced_29 .ret) (.seq impl_forced_30 impl_forced_33) Q e H := idE rfl
def impl_forced_35 : IR := .cond (.t 45) .skip (.seq impl_forced_28 impl_forced_34)
@[go_sem] theorem w_impl_forced_35 : wp P impl_forced_35 Q e H = condW P ((.t 45) : X) .skip (.seq impl_forced_28 impl_forced_34) Q e H := idE rfl
def impl_forced_36 : IR := .block 7 (.seq impl_forced_27 impl_forced_35)
@[go_sem] theorem w_impl_forced_36 : wp P impl_forced_36 Q e H = wp P (.seq impl_forced_27 impl_forced_35) (blockQ 7 Q) e H := idE rfl
def impl_forced_37 : IR := .block 3 (.seq impl_forced_8 (.seq impl_forced_9 (.seq (.seq impl_forced_10 impl_forced_26) impl_forced_36)))
@[go_sem] theorem w_impl_forced_37 : wp P impl_forced_37 Q e H = wp P (.seq impl_forced_8 (.seq impl_forced_9 (.seq (.seq impl_forced_10 impl_forced_26) impl_forced_36))) (blockQ 3 Q) e H := idE rfl
@[go_sem] def l_impl_forced_38 : List GOp := [⟨(some 62), .bin .add (.t 17) (.c (.int .i64 1)), none⟩,
    ⟨(some 17), .mv (.t 62), none⟩]
def impl_forced_38 : IR := .ops l_impl_forced_38
@[go_sem] theorem w_impl_forced_38 : wp P impl_forced_38 Q e H = wpL P l_impl_forced_38 (Q .normal) e H := idE rfl
def impl_forced_39 : IR := .loop (.seq impl_forced_6 (.seq impl_forced_7 (.seq impl_forced_37 impl_forced_38)))
def impl_forced_40 : IR := .block 2 impl_forced_39
@[go_sem] theorem w_impl_forced_40 : wp P impl_forced_40 Q e H = wp P impl_forced_39 (blockQ 2 Q) e H := idE rfl
def impl_forced_41 : IR := .block 1 (.seq impl_forced_4 (.seq impl_forced_5 impl_forced_40))
@[go_sem] theorem w_impl_forced_41 : wp P impl_forced_41 Q e H = wp P (.seq impl_forced_4 (.seq impl_forced_5 impl_forced_40)) (blockQ 1 Q) e H := idE rfl
def impl_forced_42 : IR := .loop (.seq (.seq impl_forced_2 impl_forced_3) impl_forced_41)
def impl_forced_43 : IR := .block 0 impl_forced_42
@[go_sem] theorem w_impl_forced_43 : wp P impl_forced_43 Q e H = wp P impl_forced_42 (blockQ 0 Q) e H := idE rfl
@[go_sem] def l_impl_forced_44 : List GOp := [⟨(some 4), .mv (.c (.bool true)), none⟩]
def impl_forced_44 : IR := .ops l_impl_forced_44
@[go_sem] theorem w_impl_forced_44 : wp P impl_forced_44 Q e H = wpL P l_impl_forced_44 (Q .normal) e H := idE rfl
def F_impl_forced : IFn := ⟨2, 63, [.t 4], (.seq impl_forced_0 (.seq (.seq impl_forced_1 impl_forced_43) (.seq impl_forced_44 .ret)))⟩
theorem c_impl_forced : compFn Try.prog [(0, [], []), (1, [], []), (2, [], []), (3, [], []), (4, [], []), (5, [], []), (6, [], []), (7, [], []), (8, [], []), (9, [], []), (10, [], []), (11, [], []), (12, [], []), (13, [], []), (14, [], []), (15, [], []), (16, [], []), (17, [], []), (18, [], []), (19, [], []), (20, [], []), (21, [], []), (22, [], []), (23, [], []), (24, [], []), (25, [], [])] Try.f73 = some F_impl_forced := by kernel_rfl
theorem a_impl_forced (hl : args.length = 2) (h : wp Try.prog (.seq impl_forced_0 (.seq (.seq impl_forced_1 impl_forced_43) (.seq impl_forced_44 .ret))) (postQ [.t 4] R) (env0 args) H) : ACall Try.prog n_impl_forced args H R :=
  acall_of_wp mixed Try.func73 c_impl_forced (by kernel_rfl) hl h
@[go_sem] def l_slices_Clip_Sint_int_0 : List GOp := [⟨(some 2), .mv (.c (.sl none 0 0 true 0)), none⟩]
def slices_Clip_Sint_int_0 : IR := .ops l_slices_Clip_Sint_int_0
@[go_sem] theorem w_slices_Clip_Sint_int_0 : wp P slices_Clip_Sint_int_0 Q e H = wpL P l_slices_Clip_Sint_int_0 (Q .normal) e H := idE rfl
@[go_sem] def l_slices_Clip_Sint_int_1 : List GOp := [⟨(some 3), .mv (.t 0), none⟩,
    ⟨(some 4), .mv (.t 0), none⟩,
    ⟨(some 5), .len (.t 4), none⟩,
    ⟨(some 6), .mv (.t 0), none⟩,
    ⟨(some 7), .len (.t 6), none⟩,
    ⟨(some 8), .slc 1 (.t 3) none (some (.t 5)) (some (.t 7)), none⟩,
    ⟨(some 2), .mv (.t 8), none⟩]
def slices_Clip_Sint_int_1 : IR := .ops l_slices_Clip_Sint_int_1
@[go_sem] theorem w_slices_Clip_Sint_int_1 : wp P slices_Clip_Sint_int_1 Q e H = wpL P l_slices_Clip_Sint_int_1 (Q .normal) e H := idE rfl
def F_slices_Clip_Sint_int : IFn := ⟨1, 9, [.t 2], (.seq slices_Clip_Sint_int_0 (.seq slices_Clip_Sint_int_1 .ret))⟩
theorem c_slices_Clip_Sint_int : compFn Try.prog [(0, [], []), (1, [], [])] Try.f136 = some F_slices_Clip_Sint_int := by kernel_rfl
theorem a_slices_Clip_Sint_int (hl : args.length = 1) (h : wp Try.prog (.seq slices_Clip_Sint_int_0 (.seq slices_Clip_Sint_int_1 .ret)) (postQ [.t 2] R) (env0 args) H) : ACall Try.prog n_slices_Clip_Sint_int args H R :=
  acall_of_wp mixed Try.func136 c_slices_Clip_Sint_int (by kernel_rfl) hl h
@[go_sem] def l_slices_Clone_Sint_int_0 : List GOp := [⟨(some 2), .mv (.c (.sl none 0 0 true 0)), none⟩]
def slices_Clone_Sint_int_0 : IR := .ops l_slices_Clone_Sint_int_0
@[go_sem] theorem w_slices_Clone_Sint_int_0 : wp P slices_Clone_Sint_int_0 Q e H = wpL P l_slices_Clone_Sint_int_0 (Q .normal) e H := idE rfl
@[go_sem] def l_slices_Clone_Sint_int_1 : List GOp := [⟨(some 3), .mv (.t 0), none⟩,
    ⟨(some 4), .eqn false .sl (.t 3), none⟩]
def slices_Clone_Sint_int_1 : IR := .ops l_slices_Clone_Sint_int_1
@[go_sem] theorem w_slices_Clone_Sint_int_1 : wp P slices_Clone_Sint_int_1 Q e H = wpL P l_slices_Clone_Sint_int_1 (Q .normal) e H := idE rfl
@[go_sem] def l_slices_Clone_Sint_int_2 : List GOp := [⟨(some 2), .mv (.c (.sl none 0 0 true 0)), none⟩]
def slices_Clone_Sint_int_2 : IR := .ops l_slices_Clone_Sint_int_2
@[go_sem] theorem w_slices_Clone_Sint_int_2 : wp P slices_Clone_Sint_int_2 Q e H = wpL P l_slices_Clone_Sint_int_2 (Q .normal) e H := idE rfl
def slices_Clone_Sint_int_3 : IR := .cond (.t 4) (.seq slices_Clone_Sint_int_2 .ret) .skip
@[go_sem] theorem w_slices_Clone_Sint_int_3 : wp P slices_Clone_Sint_int_3 Q e H = condW P ((.t 4) : X) (.seq slices_Clone_Sint_int_2 .ret) .skip Q e H := idE rfl
@[go_sem] def l_slices_Clone_Sint_int_4 : List GOp := [⟨(some 5), .bslc 1 0 [(.int .i64 0)] [], none⟩,
    ⟨(some 6), .mv (.t 0), none⟩,
    ⟨(some 7), .app 1 8 (.t 5) (.t 6), none⟩,
    ⟨(some 2), .mv (.t 7), none⟩]
def slices_Clone_Sint_int_4 : IR := .ops l_slices_Clone_Sint_int_4
@[go_sem] theorem w_slices_Clone_Sint_int_4 : wp P slices_Clone_Sint_int_4 Q e H = wpL P l_slices_Clone_Sint_int_4 (Q .normal) e H := idE rfl
def F_slices_Clone_Sint_int : IFn := ⟨1, 8, [.t 2], (.seq slices_Clone_Sint_int_0 (.seq (.seq slices_Clone_Sint_int_1 slices_Clone_Sint_int_3) (.seq slices_Clone_Sint_int_4 .ret)))⟩
theorem c_slices_Clone_Sint_int : compFn Try.prog [(0, [], []), (1, [], []), (2, [], []), (3, [], [])] Try.f125 = some F_slices_Clone_Sint_int := by kernel_rfl
theorem a_slices_Clone_Sint_int (hl : args.length = 1) (h : wp Try.prog (.seq slices_Clone_Sint_int_0 (.seq (.seq slices_Clone_Sint_int_1 slices_Clone_Sint_int_3) (.seq slices_Clone_Sint_int_4 .ret))) (postQ [.t 2] R) (env0 args) H) : ACall Try.prog n_slices_Clone_Sint_int args H R :=
  acall_of_wp mixed Try.func125 c_slices_Clone_Sint_int (by kernel_rfl) hl h
@[go_sem] def l_math_bits_Len32_0 : List GOp := [⟨(some 2), .mv (.c (.int .i64 0)), none⟩]
def math_bits_Len32_0 : IR := .ops l_math_bits_Len32_0
@[go_sem] theorem w_math_bits_Len32_0 : wp P math_bits_Len32_0 Q e H = wpL P l_math_bits_Len32_0 (Q .normal) e H := idE rfl
@[go_sem] def l_math_bits_Len32_1 : List GOp := [⟨(some 3), .mv (.t 0), none⟩,
    ⟨(some 4), .bin .geq (.t 3) (.c (.int .u32 65536)), none⟩]
def math_bits_Len32_1 : IR := .ops l_math_bits_Len32_1
@[go_sem] theorem w_math_bits_Len32_1 : wp P math_bits_Len32_1 Q e H = wpL P l_math_bits_Len32_1 (Q .normal) e H := idE rfl
@[go_sem] def l_math_bits_Len32_2 : List GOp := [⟨(some 5), .mv (.t 0), none⟩,
    ⟨(some 6), .bin .shr (.t 5) (.c (.int .u64 16)), none⟩,
    ⟨(some 0), .mv (.t 6), none⟩]
def math_bits_Len32_2 : IR := .ops l_math_bits_Len32_2
@[go_sem] theorem w_math_bits_Len32_2 : wp P math_bits_Len32_2 Q e H = wpL P l_math_bits_Len32_2 (Q .normal) e H := idE rfl
@[go_sem] def l_math_bits_Len32_3 : List GOp := [⟨(some 2), .mv (.c (.int .i64 16)), none⟩]
def math_bits_Len32_3 : IR := .ops l_math_bits_Len32_3
@[go_sem] theorem w_math_bits_Len32_3 : wp P math_bits_Len32_3 Q e H = wpL P l_math_bits_Len32_3 (Q .normal) e H := idE rfl
def math_bits_Len32_4 : IR := .cond (.t 4) (.seq math_bits_Len32_2 math_bits_Len32_3) .skip
@[go_sem] theorem w_math_bits_Len32_4 : wp P math_bits_Len32_4 Q e H = condW P ((.t 4) : X) (.seq math_bits_Len32_2 math_bits_Len32_3) .skip Q e H := idE rfl
@[go_sem] def l_math_bits_Len32_5 : List GOp := [⟨(some 7), .mv (.t 0), none⟩,
    ⟨(some 8), .bin .geq (.t 7) (.c (.int .u32 256)), none⟩]
def math_bits_Len32_5 : IR := .ops l_math_bits_Len32_5
@[go_sem] theorem w_math_bits_Len32_5 : wp P math_bits_Len32_5 Q e H = wpL P l_math_bits_Len32_5 (Q .normal) e H := idE rfl
@[go_sem] def l_math_bits_Len32_6 : List GOp := [⟨(some 9), .mv (.t 0), none⟩,
    ⟨(some 10), .bin .shr (.t 9) (.c (.int .u64 8)), none⟩,
    ⟨(some 0), .mv (.t 10), none⟩]
def math_bits_Len32_6 : IR := .ops l_math_bits_Len32_6
@[go_sem] theorem w_math_bits_Len32_6 : wp P math_bits_Len32_6 Q e H = wpL P l_math_bits_Len32_6 (Q .normal) e H := idE rfl
@[go_sem] def l_math_bits_Len32_7 : List GOp := [⟨(some 11), .mv (.t 2), none⟩,
    ⟨(some 12), .bin .add (.t 11) (.c (.int .i64 8)), none⟩,
    ⟨(some 2), .mv (.t 12), none⟩]
def math_bits_Len32_7 : IR := .ops l_math_bits_Len32_7
@[go_sem] theorem w_math_bits_Len32_7 : wp P math_bits_Len32_7 Q e H = wpL P l_math_bits_Len32_7 (Q .normal) e H := idE rfl
def math_bits_Len32_8 : IR := .cond (.t 8) (.seq math_bits_Len32_6 math_bits_Len32_7) .skip
@[go_sem] theorem w_math_bits_Len32_8 : wp P math_bits_Len32_8 Q e H = condW P ((.t 8) : X) (.seq math_bits_Len32_6 math_bits_Len32_7) .skip Q e H := idE rfl
@[go_sem] def l_math_bits_Len32_9 : List GOp := [⟨(some 13), .mv (.t 2), none⟩,
    ⟨(some 14), .mv (.t 0), none⟩,
    ⟨(some 15), .cvi .u8 (.t 14), none⟩,
    ⟨(some 16), .sidx (.c (.str ⟨#[0, 1, 2, 2, 3, 3, 3, 3, 4, 4, 4, 4, 4, 4, 4, 4, 5, 5, 5, 5, 5, 5, 5, 5, 5, 5, 5, 5, 5, 5, 5, 5, 6, 6, 6, 6, 6, 6, 6, 6, 6, 6, 6, 6, 6, 6, 6, 6, 6, 6, 6, 6, 6, 6, 6, 6, 6, 6, 6, 6, 6, 6, 6, 6, 7, 7, 7, 7, 7, 7, 7, 7, 7, 7, 7, 7, 7, 7, 7, 7, 7, 7, 7, 7, 7, 7, 7, 7, 7, 7, 7, 7, 7, 7, 7, 7, 7, 7, 7, 7, 7, 7, 7, 7, 7, 7, 7, 7, 7, 7, 7, 7, 7, 7, 7, 7, 7, 7, 7, 7, 7, 7, 7, 7, 7, 7, 7, 7, 8, 8, 8, 8, 8, 8, 8, 8, 8, 8, 8, 8, 8, 8, 8, 8, 8, 8, 8, 8, 8, 8, 8, 8, 8, 8, 8, 8, 8, 8, 8, 8, 8, 8, 8, 8, 8, 8, 8, 8, 8, 8, 8, 8, 8, 8, 8, 8, 8, 8, 8, 8, 8, 8, 8, 8, 8, 8, 8, 8, 8, 8, 8, 8, 8, 8, 8, 8, 8, 8, 8, 8, 8, 8, 8, 8, 8, 8, 8, 8, 8, 8, 8, 8, 8, 8, 8, 8, 8, 8, 8, 8, 8, 8, 8, 8, 8, 8, 8, 8, 8, 8, 8, 8, 8, 8, 8, 8, 8, 8, 8, 8, 8, 8, 8, 8, 8, 8, 8, 8, 8, 8, 8, 8, 8, 8, 8, 8]⟩)) (.t 15), none⟩,
    ⟨(some 17), .cvi .i64 (.t 16), none⟩,
    ⟨(some 18), .bin .add (.t 13) (.t 17), none⟩,
    ⟨(some 2), .mv (.t 18), none⟩]
def math_bits_Len32_9 : IR := .ops l_math_bits_Len32_9
@[go_sem] theorem w_math_bits_Len32_9 : wp P math_bits_Len32_9 Q e H = wpL P l_math_bits_Len32_9 (Q .normal) e H := idE rfl
@[go_sem] def l_math_bits_Len64_0 : List GOp := [⟨(some 2), .mv (.c (.int .i64 0)), none⟩]
def math_bits_Len64_0 : IR := .ops l_math_bits_Len64_0
@[go_sem] theorem w_math_bits_Len64_0 : wp P math_bits_Len64_0 Q e H = wpL P l_math_bits_Len64_0 (Q .normal) e H := idE rfl
@[go_sem] def l_math_bits_Len64_1 : List GOp := [⟨(some 3), .mv (.t 0), none⟩,
    ⟨(some 4), .bin .geq (.t 3) (.c (.int .u64 4294967296)), none⟩]
def math_bits_Len64_1 : IR := .ops l_math_bits_Len64_1
@[go_sem] theorem w_math_bits_Len64_1 : wp P math_bits_Len64_1 Q e H = wpL P l_math_bits_Len64_1 (Q .normal) e H := idE rfl
@[go_sem] def l_math_bits_Len64_2 : List GOp := [⟨(some 5), .mv (.t 0), none⟩,
    ⟨(some 6), .bin .shr (.t 5) (.c (.int .u64 32)), none⟩,
    ⟨(some 0), .mv (.t 6), none⟩]
def math_bits_Len64_2 : IR := .ops l_math_bits_Len64_2
@[go_sem] theorem w_math_bits_Len64_2 : wp P math_bits_Len64_2 Q e H = wpL P l_math_bits_Len64_2 (Q .normal) e H := idE rfl
@[go_sem] def l_math_bits_Len64_3 : List GOp := [⟨(some 2), .mv (.c (.int .i64 32)), none⟩]
def math_bits_Len64_3 : IR := .ops l_math_bits_Len64_3
@[go_sem] theorem w_math_bits_Len64_3 : wp P math_bits_Len64_3 Q e H = wpL P l_math_bits_Len64_3 (Q .normal) e H := idE rfl
def math_bits_Len64_4 : IR := .cond (.t 4) (.seq math_bits_Len64_2 math_bits_Len64_3) .skip
@[go_sem] theorem w_math_bits_Len64_4 : wp P math_bits_Len64_4 Q e H = condW P ((.t 4) : X) (.seq math_bits_Len64_2 math_bits_Len64_3) .skip Q e H := idE rfl
@[go_sem] def l_math_bits_Len64_5 : List GOp := [⟨(some 7), .mv (.t 0), none⟩,
    ⟨(some 8), .bin .geq (.t 7) (.c (.int .u64 65536)), none⟩]
def math_bits_Len64_5 : IR := .ops l_math_bits_Len64_5
@[go_sem] theorem w_math_bits_Len64_5 : wp P math_bits_Len64_5 Q e H = wpL P l_math_bits_Len64_5 (Q .normal) e H := idE rfl
@[go_sem] def l_math_bits_Len64_6 : List GOp := [⟨(some 9), .mv (.t 0), none⟩,
    ⟨(some 10), .bin .shr (.t 9) (.c (.int .u64 16)), none⟩,
    ⟨(some 0), .mv (.t 10), none⟩]
def math_bits_Len64_6 : IR := .ops l_math_bits_Len64_6
@[go_sem] theorem w_math_bits_Len64_6 : wp P math_bits_Len64_6 Q e H = wpL P l_math_bits_Len64_6 (Q .normal) e H := idE rfl
@[go_sem] def l_math_bits_Len64_7 : List GOp := [⟨(some 11), .mv (.t 2), none⟩,
    ⟨(some 12), .bin .add (.t 11) (.c (.int .i64 16)), none⟩,
    ⟨(some 2), .mv (.t 12), none⟩]
def math_bits_Len64_7 : IR := .ops l_math_bits_Len64_7
@[go_sem] theorem w_math_bits_Len64_7 : wp P math_bits_Len64_7 Q e H = wpL P l_math_bits_Len64_7 (Q .normal) e H := idE rfl
def math_bits_Len64_8 : IR := .cond (.t 8) (.seq math_bits_Len64_6 math_bits_Len64_7) .skip
@[go_sem] theorem w_math_bits_Len64_8 : wp P math_bits_Len64_8 Q e H = condW P ((.t 8) : X) (.seq math_bits_Len64_6 math_bits_Len64_7) .skip Q e H := idE rfl
@[go_sem] def l_math_bits_Len64_9 : List GOp := [⟨(some 13), .mv (.t 0), none⟩,
    ⟨(some 14), .bin .geq (.t 13) (.c (.int .u64 256)), none⟩]
def math_bits_Len64_9 : IR := .ops l_math_bits_Len64_9
@[go_sem] theorem w_math_bits_Len64_9 : wp P math_bits_Len64_9 Q e H = wpL P l_math_bits_Len64_9 (Q .normal) e H := idE rfl
@[go_sem] def l_math_bits_Len64_10 : List GOp := [⟨(some 15), .mv (.t 0), none⟩,
    ⟨(some 16), .bin .shr (.t 15) (.c (.int .u64 8)), none⟩,
    ⟨(some 0), .mv (.t 16), none⟩]
def math_bits_Len64_10 : IR := .ops l_math_bits_Len64_10
@[go_sem] theorem w_math_bits_Len64_10 : wp P math_bits_Len64_10 Q e H = wpL P l_math_bits_Len64_10 (Q .normal) e H := idE rfl
@[go_sem] def l_math_bits_Len64_11 : List GOp := [⟨(some 17), .mv (.t 2), none⟩,
    ⟨(some 18), .bin .add (.t 17) (.c (.int .i64 8)), none⟩,
    ⟨(some 2), .mv (.t 18), none⟩]
def math_bits_Len64_11 : IR := .ops l_math_bits_Len64_11
@[go_sem] theorem w_math_bits_Len64_11 : wp P math_bits_Len64_11 Q e H = wpL P l_math_bits_Len64_11 (Q .normal) e H := idE rfl
def math_bits_Len64_12 : IR := .cond (.t 14) (.seq math_bits_Len64_10 math_bits_Len64_11) .skip
@[go_sem] theorem w_math_bits_Len64_12 : wp P math_bits_Len64_12 Q e H = condW P ((.t 14) : X) (.seq math_bits_Len64_10 math_bits_Len64_11) .skip Q e H := idE rfl
@[go_sem] def l_math_bits_Len64_13 : List GOp := [⟨(some 19), .mv (.t 2), none⟩,
    ⟨(some 20), .mv (.t 0), none⟩,
    ⟨(some 21), .cvi .u8 (.t 20), none⟩,
    ⟨(some 22), .sidx (.c (.str ⟨#[0, 1, 2, 2, 3, 3, 3, 3, 4, 4, 4, 4, 4, 4, 4, 4, 5, 5, 5, 5, 5, 5, 5, 5, 5, 5, 5, 5, 5, 5, 5, 5, 6, 6, 6, 6, 6, 6, 6, 6, 6, 6, 6, 6, 6, 6, 6, 6, 6, 6, 6, 6, 6, 6, 6, 6, 6, 6, 6, 6, 6, 6, 6, 6, 7, 7, 7, 7, 7, 7, 7, 7, 7, 7, 7, 7, 7, 7, 7, 7, 7, 7, 7, 7, 7, 7, 7, 7, 7, 7, 7, 7, 7, 7, 7, 7, 7, 7, 7, 7, 7, 7, 7, 7, 7, 7, 7, 7, 7, 7, 7, 7, 7, 7, 7, 7, 7, 7, 7, 7, 7, 7, 7, 7, 7, 7, 7, 7, 8, 8, 8, 8, 8, 8, 8, 8, 8, 8, 8, 8, 8, 8, 8, 8, 8, 8, 8, 8, 8, 8, 8, 8, 8, 8, 8, 8, 8, 8, 8, 8, 8, 8, 8, 8, 8, 8, 8, 8, 8, 8, 8, 8, 8, 8, 8, 8, 8, 8, 8, 8, 8, 8, 8, 8, 8, 8, 8, 8, 8, 8, 8, 8, 8, 8, 8, 8, 8, 8, 8, 8, 8, 8, 8, 8, 8, 8, 8, 8, 8, 8, 8, 8, 8, 8, 8, 8, 8, 8, 8, 8, 8, 8, 8, 8, 8, 8, 8, 8, 8, 8, 8, 8, 8, 8, 8, 8, 8, 8, 8, 8, 8, 8, 8, 8, 8, 8, 8, 8, 8, 8, 8, 8, 8, 8, 8, 8]⟩)) (.t 21), none⟩,
    ⟨(some 23), .cvi .i64 (.t 22), none⟩,
    ⟨(some 24), .bin .add (.t 19) (.t 23), none⟩,
    ⟨(some 2), .mv (.t 24), none⟩]
def math_bits_Len64_13 : IR := .ops l_math_bits_Len64_13
@[go_sem] theorem w_math_bits_Len64_13 : wp P math_bits_Len64_13 Q e H = wpL P l_math_bits_Len64_13 (Q .normal) e H := idE rfl
@[go_sem] def l_math_bits_Len_0 : List GOp := [⟨(some 2), .mv (.c (.int .i64 0)), none⟩]
def math_bits_Len_0 : IR := .ops l_math_bits_Len_0
@[go_sem] theorem w_math_bits_Len_0 : wp P math_bits_Len_0 Q e H = wpL P l_math_bits_Len_0 (Q .normal) e H := idE rfl
@[go_sem] def l_math_bits_Len_1 : List GOp := [⟨(some 3), .mv (.t 0), none⟩,
    ⟨(some 4), .cvi .u32 (.t 3), none⟩,
    ⟨(some 5), .call (n_math_bits_Len32) [(.t 4)], none⟩,
    ⟨(some 2), .mv (.t 5), none⟩]
def math_bits_Len_1 : IR := .ops l_math_bits_Len_1
@[go_sem] theorem w_math_bits_Len_1 : wp P math_bits_Len_1 Q e H = wpL P l_math_bits_Len_1 (Q .normal) e H := idE rfl
def math_bits_Len_2 : IR := .cond (.c (.bool false)) (.seq math_bits_Len_1 .ret) .skip
@[go_sem] theorem w_math_bits_Len_2 : wp P math_bits_Len_2 Q e H = condW P ((.c (.bool false)) : X) (.seq math_bits_Len_1 .ret) .skip Q e H := idE rfl
@[go_sem] def l_math_bits_Len_3 : List GOp := [⟨(some 6), .mv (.t 0), none⟩,
    ⟨(some 7), .call (n_math_bits_Len64) [(.t 6)], none⟩,
    ⟨(some 2), .mv (.t 7), none⟩]
def math_bits_Len_3 : IR := .ops l_math_bits_Len_3
@[go_sem] theorem w_math_bits_Len_3 : wp P math_bits_Len_3 Q e H = wpL P l_math_bits_Len_3 (Q .normal) e H := idE rfl
@[go_sem] def l_slices_insertionSortCmpFunc_int_0 : List GOp := [⟨(some 10), .mv (.t 1), none⟩,
    ⟨(some 11), .bin .add (.t 10) (.c (.int .i64 1)), none⟩,
    ⟨(some 8), .mv (.t 11), none⟩]
def slices_insertionSortCmpFunc_int_0 : IR := .ops l_slices_insertionSortCmpFunc_int_0
@[go_sem] theorem w_slices_insertionSortCmpFunc_int_0 : wp P slices_insertionSortCmpFunc_int_0 Q e H = wpL P l_slices_insertionSortCmpFunc_int_0 (Q .normal) e H := idE rfl
@[go_sem] def l_slices_insertionSortCmpFunc_int_1 : List GOp := [⟨(some 12), .mv (.t 8), none⟩,
    ⟨(some 13), .mv (.t 2), none⟩,
    ⟨(some 14), .bin .lss (.t 12) (.t 13), none⟩]
def slices_insertionSortCmpFunc_int_1 : IR := .ops l_slices_insertionSortCmpFunc_int_1
@[go_sem] theorem w_slices_insertionSortCmpFunc_int_1 : wp P slices_insertionSortCmpFunc_int_1 Q e H = wpL P l_slices_insertionSortCmpFunc_int_1 (Q .normal) e H := idE rfl
def slices_insertionSortCmpFunc_int_2 : IR := .cond (.t 14) .skip (.exit 0)
@[go_sem] theorem w_slices_insertionSortCmpFunc_int_2 : wp P slices_insertionSortCmpFunc_int_2 Q e H = condW P ((.t 14) : X) .skip (.exit 0) Q e H := idE rfl
@[go_sem] def l_slices_insertionSortCmpFunc_int_3 : List GOp := [⟨(some 17), .mv (.t 8), none⟩,
    ⟨(some 9), .mv (.t 17), none⟩]
def slices_insertionSortCmpFunc_int_3 : IR := .ops l_slices_insertionSortCmpFunc_int_3
@[go_sem] theorem w_slices_insertionSortCmpFunc_int_3 : wp P slices_insertionSortCmpFunc_int_3 Q e H = wpL P l_slices_insertionSortCmpFunc_int_3 (Q .normal) e H := idE rfl
def l_slices_insertionSortCmpFunc_int_4 : List GOp := [⟨(some 18), .mv (.t 9), none⟩,
    ⟨(some 19), .mv (.t 1), none⟩,
    ⟨(some 20), .bin .gtr (.t 18) (.t 19), none⟩,
    ⟨(some 21), .mv (.t 20), none⟩,
    ⟨(some 22), .mv (.t 3), (some (21, true))⟩,
    ⟨(some 23), .mv (.t 0), (some (21, true))⟩,
    ⟨(some 24), .mv (.t 9), (some (21, true))⟩,
    ⟨(some 25), .iaddr (.t 23) (.t 24) 1, (some (21, true))⟩,
    ⟨(some 26), .load (.t 25) 1 false, (some (21, true))⟩,
    ⟨(some 27), .mv (.t 0), (some (21, true))⟩,
    ⟨(some 28), .mv (.t 9), (some (21, true))⟩,
    ⟨(some 29), .bin .sub (.t 28) (.c (.int .i64 1)), (some (21, true))⟩,
    ⟨(some 30), .iaddr (.t 27) (.t 29) 1, (some (21, true))⟩,
    ⟨(some 31), .load (.t 30) 1 false, (some (21, true))⟩,
    ⟨(some 32), .callv (.t 22) [(.t 26), (.t 31)], (some (21, true))⟩,
    ⟨(some 33), .bin .lss (.t 32) (.c (.int .i64 0)), (some (21, true))⟩,
    ⟨(some 34), .pick (.t 21) (.t 33) (.c (.bool false)), none⟩]
@[go_sem] theorem g_slices_insertionSortCmpFunc_int_4_0 : gAt l_slices_insertionSortCmpFunc_int_4 0 = ⟨(some 18), .mv (.t 9), none⟩ := idE rfl
@[go_sem] theorem g_slices_insertionSortCmpFunc_int_4_1 : gAt l_slices_insertionSortCmpFunc_int_4 1 = ⟨(some 19), .mv (.t 1), none⟩ := idE rfl
@[go_sem] theorem g_slices_insertionSortCmpFunc_int_4_2 : gAt l_slices_insertionSortCmpFunc_int_4 2 = ⟨(some 20), .bin .gtr (.t 18) (.t 19), none⟩ := idE rfl
@[go_sem] theorem g_slices_insertionSortCmpFunc_int_4_3 : gAt l_slices_insertionSortCmpFunc_int_4 3 = ⟨(some 21), .mv (.t 20), none⟩ := idE rfl
@[go_sem] theorem g_slices_insertionSortCmpFunc_int_4_4 : gAt l_slices_insertionSortCmpFunc_int_4 4 = ⟨(some 22), .mv (.t 3), (some (21, true))⟩ := idE rfl
@[go_sem] theorem g_slices_insertionSortCmpFunc_int_4_5 : gAt l_slices_insertionSortCmpFunc_int_4 5 = ⟨(some 23), .mv (.t 0), (some (21, true))⟩ := idE rfl
@[go_sem] theorem g_slices_insertionSortCmpFunc_int_4_6 : gAt l_slices_insertionSortCmpFunc_int_4 6 = ⟨(some 24), .mv (.t 9), (some (21, true))⟩ := idE rfl
@[go_sem] theorem g_slices_insertionSortCmpFunc_int_4_7 : gAt l_slices_insertionSortCmpFunc_int_4 7 = ⟨(some 25), .iaddr (.t 23) (.t 24) 1, (some (21, true))⟩ := idE rfl
@[go_sem] theorem g_slices_insertionSortCmpFunc_int_4_8 : gAt l_slices_insertionSortCmpFunc_int_4 8 = ⟨(some 26), .load (.t 25) 1 false, (some (21, true))⟩ := idE rfl
@[go_sem] theorem g_slices_insertionSortCmpFunc_int_4_9 : gAt l_slices_insertionSortCmpFunc_int_4 9 = ⟨(some 27), .mv (.t 0), (some (21, true))⟩ := idE rfl
@[go_sem] theorem g_slices_insertionSortCmpFunc_int_4_10 : gAt l_slices_insertionSortCmpFunc_int_4 10 = ⟨(some 28), .mv (.t 9), (some (21, true))⟩ := idE rfl
@[go_sem] theorem g_slices_insertionSortCmpFunc_int_4_11 : gAt l_slices_insertionSortCmpFunc_int_4 11 = ⟨(some 29), .bin .sub (.t 28) (.c (.int .i64 1)), (some (21, true))⟩ := idE rfl
@[go_sem] theorem g_slices_insertionSortCmpFunc_int_4_12 : gAt l_slices_insertionSortCmpFunc_int_4 12 = ⟨(some 30), .iaddr (.t 27) (.t 29) 1, (some (21, true))⟩ := idE rfl
@[go_sem] theorem g_slices_insertionSortCmpFunc_int_4_13 : gAt l_slices_insertionSortCmpFunc_int_4 13 = ⟨(some 31), .load (.t 30) 1 false, (some (21, true))⟩ := idE rfl
@[go_sem] theorem g_slices_insertionSortCmpFunc_int_4_14 : gAt l_slices_insertionSortCmpFunc_int_4 14 = ⟨(some 32), .callv (.t 22) [(.t 26), (.t 31)], (some (21, true))⟩ := idE rfl
@[go_sem] theorem g_slices_insertionSortCmpFunc_int_4_15 : gAt l_slices_insertionSortCmpFunc_int_4 15 = ⟨(some 33), .bin .lss (.t 32) (.c (.int .i64 0)), (some (21, true))⟩ := idE rfl
@[go_sem] theorem g_slices_insertionSortCmpFunc_int_4_16 : gAt l_slices_insertionSortCmpFunc_int_4 16 = ⟨(some 34), .pick (.t 21) (.t 33) (.c (.bool false)), none⟩ := idE rfl
def slices_insertionSortCmpFunc_int_4 : IR := .dops l_slices_insertionSortCmpFunc_int_4 [(0, []), (1, []), (2, []), (3, []), (4, []), (5, []), (6, []), (7, []), (8, []), (9, []), (10, []), (11, []), (12, []), (13, []), (14, []), (15, []), (16, [])]
@[go_sem] theorem w_slices_insertionSortCmpFunc_int_4 : wp P slices_insertionSortCmpFunc_int_4 Q e H = wpD P l_slices_insertionSortCmpFunc_int_4 [(0, []), (1, []), (2, []), (3, []), (4, []), (5, []), (6, []), (7, []), (8, []), (9, []), (10, []), (11, []), (12, []), (13, []), (14, []), (15, []), (16, [])] (Q .normal) e H := idE rfl
def slices_insertionSortCmpFunc_int_5 : IR := .cond (.t 34) .skip (.exit 2)
@[go_sem] theorem w_slices_insertionSortCmpFunc_int_5 : wp P slices_insertionSortCmpFunc_int_5 Q e H = condW P ((.t 34) : X) .skip (.exit 2) Q e H := idE rfl
def l_slices_insertionSortCmpFunc_int_6 : List GOp := [⟨(some 37), .mv (.t 0), none⟩,
    ⟨(some 38), .mv (.t 9), none⟩,
    ⟨(some 39), .mv (.t 0), none⟩,
    ⟨(some 40), .mv (.t 9), none⟩,
    ⟨(some 41), .bin .sub (.t 40) (.c (.int .i64 1)), none⟩,
    ⟨(some 42), .mv (.t 0), none⟩,
    ⟨(some 43), .mv (.t 9), none⟩,
    ⟨(some 44), .bin .sub (.t 43) (.c (.int .i64 1)), none⟩,
    ⟨(some 45), .iaddr (.t 42) (.t 44) 1, none⟩,
    ⟨(some 46), .load (.t 45) 1 false, none⟩,
    ⟨(some 47), .mv (.t 0), none⟩,
    ⟨(some 48), .mv (.t 9), none⟩,
    ⟨(some 49), .iaddr (.t 47) (.t 48) 1, none⟩,
    ⟨(some 50), .load (.t 49) 1 false, none⟩,
    ⟨(some 51), .iaddr (.t 37) (.t 38) 1, none⟩,
    ⟨none, .store (.t 51) 1 (.t 46), none⟩,
    ⟨(some 52), .iaddr (.t 39) (.t 41) 1, none⟩,
    ⟨none, .store (.t 52) 1 (.t 50), none⟩]
@[go_sem] theorem g_slices_insertionSortCmpFunc_int_6_0 : gAt l_slices_insertionSortCmpFunc_int_6 0 = ⟨(some 37), .mv (.t 0), none⟩ := idE rfl
@[go_sem] theorem g_slices_insertionSortCmpFunc_int_6_1 : gAt l_slices_insertionSortCmpFunc_int_6 1 = ⟨(some 38), .mv (.t 9), none⟩ := idE rfl
@[go_sem] theorem g_slices_insertionSortCmpFunc_int_6_2 : gAt l_slices_insertionSortCmpFunc_int_6 2 = ⟨(some 39), .mv (.t 0), none⟩ := idE rfl
@[go_sem] theorem g_slices_insertionSortCmpFunc_int_6_3 : gAt l_slices_insertionSortCmpFunc_int_6 3 = ⟨(some 40), .mv (.t 9), none⟩ := idE rfl
@[go_sem] theorem g_slices_insertionSortCmpFunc_int_6_4 : gAt l_slices_insertionSortCmpFunc_int_6 4 = ⟨(some 41), .bin .sub (.t 40) (.c (.int .i64 1)), none⟩ := idE rfl
@[go_sem] theorem g_slices_insertionSortCmpFunc_int_6_5 : gAt l_slices_insertionSortCmpFunc_int_6 5 = ⟨(some 42), .mv (.t 0), none⟩ := idE rfl
@[go_sem] theorem g_slices_insertionSortCmpFunc_int_6_6 : gAt l_slices_insertionSortCmpFunc_int_6 6 = ⟨(some 43), .mv (.t 9), none⟩ := idE rfl
@[go_sem] theorem g_slices_insertionSortCmpFunc_int_6_7 : gAt l_slices_insertionSortCmpFunc_int_6 7 = ⟨(some 44), .bin .sub (.t 43) (.c (.int .i64 1)), none⟩ := idE rfl
@[go_sem] theorem g_slices_insertionSortCmpFunc_int_6_8 : gAt l_slices_insertionSortCmpFunc_int_6 8 = ⟨(some 45), .iaddr (.t 42) (.t 44) 1, none⟩ := idE rfl
@[go_sem] theorem g_slices_insertionSortCmpFunc_int_6_9 : gAt l_slices_insertionSortCmpFunc_int_6 9 = ⟨(some 46), .load (.t 45) 1 false, none⟩ := idE rfl
@[go_sem] theorem g_slices_insertionSortCmpFunc_int_6_10 : gAt l_slices_insertionSortCmpFunc_int_6 10 = ⟨(some 47), .mv (.t 0), none⟩ := idE rfl
@[go_sem] theorem g_slices_insertionSortCmpFunc_int_6_11 : gAt l_slices_insertionSortCmpFunc_int_6 11 = ⟨(some 48), .mv (.t 9), none⟩ := idE rfl
@[go_sem] theorem g_slices_insertionSortCmpFunc_int_6_12 : gAt l_slices_insertionSortCmpFunc_int_6 12 = ⟨(some 49), .iaddr (.t 47) (.t 48) 1, none⟩ := idE rfl
@[go_sem] theorem g_slices_insertionSortCmpFunc_int_6_13 : gAt l_slices_insertionSortCmpFunc_int_6 13 = ⟨(some 50), .load (.t 49) 1 false, none⟩ := idE rfl
@[go_sem] theorem g_slices_insertionSortCmpFunc_int_6_14 : gAt l_slices_insertionSortCmpFunc_int_6 14 = ⟨(some 51), .iaddr (.t 37) (.t 38) 1, none⟩ := idE rfl
@[go_sem] theorem g_slices_insertionSortCmpFunc_int_6_15 : gAt l_slices_insertionSortCmpFunc_int_6 15 = ⟨none, .store (.t 51) 1 (.t 46), none⟩ := idE rfl
@[go_sem] theorem g_slices_insertionSortCmpFunc_int_6_16 : gAt l_slices_insertionSortCmpFunc_int_6 16 = ⟨(some 52), .iaddr (.t 39) (.t 41) 1, none⟩ := idE rfl
@[go_sem] theorem g_slices_insertionSortCmpFunc_int_6_17 : gAt l_slices_insertionSortCmpFunc_int_6 17 = ⟨none, .store (.t 52) 1 (.t 50), none⟩ := idE rfl
def slices_insertionSortCmpFunc_int_6 : IR := .dops l_slices_insertionSortCmpFunc_int_6 [(0, []), (1, []), (2, []), (3, []), (4, []), (5, []), (6, []), (7, []), (8, []), (9, []), (10, []), (11, []), (12, []), (13, []), (14, []), (15, []), (16, []), (17, [])]
@[go_sem] theorem w_slices_insertionSortCmpFunc_int_6 : wp P slices_insertionSortCmpFunc_int_6 Q e H = wpD P l_slices_insertionSortCmpFunc_int_6 [(0, []), (1, []), (2, []), (3, []), (4, []), (5, []), (6, []), (7, []), (8, []), (9, []), (10, []), (11, []), (12, []), (13, []), (14, []), (15, []), (16, []), (17, [])] (Q .normal) e H := idE rfl
def slices_insertionSortCmpFunc_int_7 : IR := .block 3 slices_insertionSortCmpFunc_int_6
@[go_sem] theorem w_slices_insertionSortCmpFunc_int_7 : wp P slices_insertionSortCmpFunc_int_7 Q e H = wp P slices_insertionSortCmpFunc_int_6 (blockQ 3 Q) e H := idE rfl
@[go_sem] def l_slices_insertionSortCmpFunc_int_8 : List GOp := [⟨(some 35), .mv (.t 9), none⟩,
    ⟨(some 36), .bin .sub (.t 35) (.c (.int .i64 1)), none⟩,
    ⟨(some 9), .mv (.t 36), none⟩]
def slices_insertionSortCmpFunc_int_8 : IR := .ops l_slices_insertionSortCmpFunc_int_8
@[go_sem] theorem w_slices_insertionSortCmpFunc_int_8 : wp P slices_insertionSortCmpFunc_int_8 Q e H = wpL P l_slices_insertionSortCmpFunc_int_8 (Q .normal) e H := idE rfl
def slices_insertionSortCmpFunc_int_9 : IR := .loop (.seq (.seq slices_insertionSortCmpFunc_int_4 slices_insertionSortCmpFunc_int_5) (.seq slices_insertionSortCmpFunc_int_7 slices_insertionSortCmpFunc_int_8))
def slices_insertionSortCmpFunc_int_10 : IR := .block 2 slices_insertionSortCmpFunc_int_9
@[go_sem] theorem w_slices_insertionSortCmpFunc_int_10 : wp P slices_insertionSortCmpFunc_int_10 Q e H = wp P slices_insertionSortCmpFunc_int_9 (blockQ 2 Q) e H := idE rfl
def slices_insertionSortCmpFunc_int_11 : IR := .block 1 (.seq slices_insertionSortCmpFunc_int_3 slices_insertionSortCmpFunc_int_10)
@[go_sem] theorem w_slices_insertionSortCmpFunc_int_11 : wp P slices_insertionSortCmpFunc_int_11 Q e H = wp P (.seq slices_insertionSortCmpFunc_int_3 slices_insertionSortCmpFunc_int_10) (blockQ 1 Q) e H := idE rfl
@[go_sem] def l_slices_insertionSortCmpFunc_int_12 : List GOp := [⟨(some 15), .mv (.t 8), none⟩,
    ⟨(some 16), .bin .add (.t 15) (.c (.int .i64 1)), none⟩,
    ⟨(some 8), .mv (.t 16), none⟩]
def slices_insertionSortCmpFunc_int_12 : IR := .ops l_slices_insertionSortCmpFunc_int_12
@[go_sem] theorem w_slices_insertionSortCmpFunc_int_12 : wp P slices_insertionSortCmpFunc_int_12 Q e H = wpL P l_slices_insertionSortCmpFunc_int_12 (Q .normal) e H := idE rfl
def slices_insertionSortCmpFunc_int_13 : IR := .loop (.seq (.seq slices_insertionSortCmpFunc_int_1 slices_insertionSortCmpFunc_int_2) (.seq slices_insertionSortCmpFunc_int_11 slices_insertionSortCmpFunc_int_12))
def slices_insertionSortCmpFunc_int_14 : IR := .block 0 slices_insertionSortCmpFunc_int_13
@[go_sem] theorem w_slices_insertionSortCmpFunc_int_14 : wp P slices_insertionSortCmpFunc_int_14 Q e H = wp P slices_insertionSortCmpFunc_int_13 (blockQ 0 Q) e H := idE rfl
@[go_sem] def l_slices_siftDownCmpFunc_int_0 : List GOp := [⟨(some 12), .mv (.t 1), none⟩,
    ⟨(some 10), .mv (.t 12), none⟩]
def slices_siftDownCmpFunc_int_0 : IR := .ops l_slices_siftDownCmpFunc_int_0
@[go_sem] theorem w_slices_siftDownCmpFunc_int_0 : wp P slices_siftDownCmpFunc_int_0 Q e H = wpL P l_slices_siftDownCmpFunc_int_0 (Q .normal) e H := idE rfl
@[go_sem] def l_slices_siftDownCmpFunc_int_1 : List GOp := [⟨(some 13), .mv (.t 10), none⟩,
    ⟨(some 14), .bin .mul (.c (.int .i64 2)) (.t 13), none⟩,
    ⟨(some 15), .bin .add (.t 14) (.c (.int .i64 1)), none⟩,
    ⟨(some 11), .mv (.t 15), none⟩]
def slices_siftDownCmpFunc_int_1 : IR := .ops l_slices_siftDownCmpFunc_int_1
@[go_sem] theorem w_slices_siftDownCmpFunc_int_1 : wp P slices_siftDownCmpFunc_int_1 Q e H = wpL P l_slices_siftDownCmpFunc_int_1 (Q .normal) e H := idE rfl
@[go_sem] def l_slices_siftDownCmpFunc_int_2 : List GOp := [⟨(some 16), .mv (.t 11), none⟩,
    ⟨(some 17), .mv (.t 2), none⟩,
    ⟨(some 18), .bin .geq (.t 16) (.t 17), none⟩]
def slices_siftDownCmpFunc_int_2 : IR := .ops l_slices_siftDownCmpFunc_int_2
@[go_sem] theorem w_slices_siftDownCmpFunc_int_2 : wp P slices_siftDownCmpFunc_int_2 Q e H = wpL P l_slices_siftDownCmpFunc_int_2 (Q .normal) e H := idE rfl
def slices_siftDownCmpFunc_int_3 : IR := .cond (.t 18) (.exit 0) .skip
@[go_sem] theorem w_slices_siftDownCmpFunc_int_3 : wp P slices_siftDownCmpFunc_int_3 Q e H = condW P ((.t 18) : X) (.exit 0) .skip Q e H := idE rfl
def l_slices_siftDownCmpFunc_int_4 : List GOp := [⟨(some 19), .mv (.t 11), none⟩,
    ⟨(some 20), .bin .add (.t 19) (.c (.int .i64 1)), none⟩,
    ⟨(some 21), .mv (.t 2), none⟩,
    ⟨(some 22), .bin .lss (.t 20) (.t 21), none⟩,
    ⟨(some 23), .mv (.t 22), none⟩,
    ⟨(some 24), .mv (.t 4), (some (23, true))⟩,
    ⟨(some 25), .mv (.t 0), (some (23, true))⟩,
    ⟨(some 26), .mv (.t 3), (some (23, true))⟩,
    ⟨(some 27), .mv (.t 11), (some (23, true))⟩,
    ⟨(some 28), .bin .add (.t 26) (.t 27), (some (23, true))⟩,
    ⟨(some 29), .iaddr (.t 25) (.t 28) 1, (some (23, true))⟩,
    ⟨(some 30), .load (.t 29) 1 false, (some (23, true))⟩,
    ⟨(some 31), .mv (.t 0), (some (23, true))⟩,
    ⟨(some 32), .mv (.t 3), (some (23, true))⟩,
    ⟨(some 33), .mv (.t 11), (some (23, true))⟩,
    ⟨(some 34), .bin .add (.t 32) (.t 33), (some (23, true))⟩,
    ⟨(some 35), .bin .add (.t 34) (.c (.int .i64 1)), (some (23, true))⟩,
    ⟨(some 36), .iaddr (.t 31) (.t 35) 1, (some (23, true))⟩,
    ⟨(some 37), .load (.t 36) 1 false, (some (23, true))⟩,
    ⟨(some 38), .callv (.t 24) [(.t 30), (.t 37)], (some (23, true))⟩,
    ⟨(some 39), .bin .lss (.t 38) (.c (.int .i64 0)), (some (23, true))⟩,
    ⟨(some 40), .pick (.t 23) (.t 39) (.c (.bool false)), none⟩]
@[go_sem] theorem g_slices_siftDownCmpFunc_int_4_0 : gAt l_slices_siftDownCmpFunc_int_4 0 = ⟨(some 19), .mv (.t 11), none⟩ := idE rfl
@[go_sem] theorem g_slices_siftDownCmpFunc_int_4_1 : gAt l_slices_siftDownCmpFunc_int_4 1 = ⟨(some 20), .bin .add (.t 19) (.c (.int .i64 1)), none⟩ := idE rfl
@[go_sem] theorem g_slices_siftDownCmpFunc_int_4_2 : gAt l_slices_siftDownCmpFunc_int_4 2 = ⟨(some 21), .mv (.t 2), none⟩ := idE rfl
@[go_sem] theorem g_slices_siftDownCmpFunc_int_4_3 : gAt l_slices_siftDownCmpFunc_int_4 3 = ⟨(some 22), .bin .lss (.t 20) (.t 21), none⟩ := idE rfl
@[go_sem] theorem g_slices_siftDownCmpFunc_int_4_4 : gAt l_slices_siftDownCmpFunc_int_4 4 = ⟨(some 23), .mv (.t 22), none⟩ := idE rfl
@[go_sem] theorem g_slices_siftDownCmpFunc_int_4_5 : gAt l_slices_siftDownCmpFunc_int_4 5 = ⟨(some 24), .mv (.t 4), (some (23, true))⟩ := idE rfl
@[go_sem] theorem g_slices_siftDownCmpFunc_int_4_6 : gAt l_slices_siftDownCmpFunc_int_4 6 = ⟨(some 25), .mv (.t 0), (some (23, true))⟩ := idE rfl
@[go_sem] theorem g_slices_siftDownCmpFunc_int_4_7 : gAt l_slices_siftDownCmpFunc_int_4 7 = ⟨(some 26), .mv (.t 3), (some (23, true))⟩ := idE rfl
@[go_sem] theorem g_slices_siftDownCmpFunc_int_4_8 : gAt l_slices_siftDownCmpFunc_int_4 8 = ⟨(some 27), .mv (.t 11), (some (23, true))⟩ := idE rfl
@[go_sem] theorem g_slices_siftDownCmpFunc_int_4_9 : gAt l_slices_siftDownCmpFunc_int_4 9 = ⟨(some 28), .bin .add (.t 26) (.t 27), (some (23, true))⟩ := idE rfl
@[go_sem] theorem g_slices_siftDownCmpFunc_int_4_10 : gAt l_slices_siftDownCmpFunc_int_4 10 = ⟨(some 29), .iaddr (.t 25) (.t 28) 1, (some (23, true))⟩ := idE rfl
@[go_sem] theorem g_slices_siftDownCmpFunc_int_4_11 : gAt l_slices_siftDownCmpFunc_int_4 11 = ⟨(some 30), .load (.t 29) 1 false, (some (23, true))⟩ := idE rfl
@[go_sem] theorem g_slices_siftDownCmpFunc_int_4_12 : gAt l_slices_siftDownCmpFunc_int_4 12 = ⟨(some 31), .mv (.t 0), (some (23, true))⟩ := idE rfl
@[go_sem] theorem g_slices_siftDownCmpFunc_int_4_13 : gAt l_slices_siftDownCmpFunc_int_4 13 = ⟨(some 32), .mv (.t 3), (some (23, true))⟩ := idE rfl
@[go_sem] theorem g_slices_siftDownCmpFunc_int_4_14 : gAt l_slices_siftDownCmpFunc_int_4 14 = ⟨(some 33), .mv (.t 11), (some (23, true))⟩ := idE rfl
@[go_sem] theorem g_slices_siftDownCmpFunc_int_4_15 : gAt l_slices_siftDownCmpFunc_int_4 15 = ⟨(some 34), .bin .add (.t 32) (.t 33), (some (23, true))⟩ := idE rfl
@[go_sem] theorem g_slices_siftDownCmpFunc_int_4_16 : gAt l_slices_siftDownCmpFunc_int_4 16 = ⟨(some 35), .bin .add (.t 34) (.c (.int .i64 1)), (some (23, true))⟩ := idE rfl
@[go_sem] theorem g_slices_siftDownCmpFunc_int_4_17 : gAt l_slices_siftDownCmpFunc_int_4 17 = ⟨(some 36), .iaddr (.t 31) (.t 35) 1, (some (23, true))⟩ := idE rfl
@[go_sem] theorem g_slices_siftDownCmpFunc_int_4_18 : gAt l_slices_siftDownCmpFunc_int_4 18 = ⟨(some 37), .load (.t 36) 1 false, (some (23, true))⟩ := idE rfl
@[go_sem] theorem g_slices_siftDownCmpFunc_int_4_19 : gAt l_slices_siftDownCmpFunc_int_4 19 = ⟨(some 38), .callv (.t 24) [(.t 30), (.t 37)], (some (23, true))⟩ := idE rfl
@[go_sem] theorem g_slices_siftDownCmpFunc_int_4_20 : gAt l_slices_siftDownCmpFunc_int_4 20 = ⟨(some 39), .bin .lss (.t 38) (.c (.int .i64 0)), (some (23, true))⟩ := idE rfl
@[go_sem] theorem g_slices_siftDownCmpFunc_int_4_21 : gAt l_slices_siftDownCmpFunc_int_4 21 = ⟨(some 40), .pick (.t 23) (.t 39) (.c (.bool false)), none⟩ := idE rfl
def slices_siftDownCmpFunc_int_4 : IR := .dops l_slices_siftDownCmpFunc_int_4 [(0, []), (1, []), (2, []), (3, []), (4, []), (5, []), (6, []), (7, []), (8, []), (9, []), (10, []), (11, []), (12, []), (13, []), (14, []), (15, []), (16, []), (17, []), (18, []), (19, []), (20, []), (21, [])]
@[go_sem] theorem w_slices_siftDownCmpFunc_int_4 : wp P slices_siftDownCmpFunc_int_4 Q e H = wpD P l_slices_siftDownCmpFunc_int_4 [(0, []), (1, []), (2, []), (3, []), (4, []), (5, []), (6, []), (7, []), (8, []), (9, []), (10, []), (11, []), (12, []), (13, []), (14, []), (15, []), (16, []), (17, []), (18, []), (19, []), (20, []), (21, [])] (Q .normal) e H := idE rfl
@[go_sem] def l_slices_siftDownCmpFunc_int_5 : List GOp := [⟨(some 41), .mv (.t 11), none⟩,
    ⟨(some 42), .bin .add (.t 41) (.c (.int .i64 1)), none⟩,
    ⟨(some 11), .mv (.t 42), none⟩]
def slices_siftDownCmpFunc_int_5 : IR := .ops l_slices_siftDownCmpFunc_int_5
@[go_sem] theorem w_slices_siftDownCmpFunc_int_5 : wp P slices_siftDownCmpFunc_int_5 Q e H = wpL P l_slices_siftDownCmpFunc_int_5 (Q .normal) e H := idE rfl
def slices_siftDownCmpFunc_int_6 : IR := .cond (.t 40) slices_siftDownCmpFunc_int_5 .skip
@[go_sem] theorem w_slices_siftDownCmpFunc_int_6 : wp P slices_siftDownCmpFunc_int_6 Q e H = condW P ((.t 40) : X) slices_siftDownCmpFunc_int_5 .skip Q e H := idE rfl
def l_slices_siftDownCmpFunc_int_7 : List GOp := [⟨(some 43), .mv (.t 4), none⟩,
    ⟨(some 44), .mv (.t 0), none⟩,
    ⟨(some 45), .mv (.t 3), none⟩,
    ⟨(some 46), .mv (.t 10), none⟩,
    ⟨(some 47), .bin .add (.t 45) (.t 46), none⟩,
    ⟨(some 48), .iaddr (.t 44) (.t 47) 1, none⟩,
    ⟨(some 49), .load (.t 48) 1 false, none⟩,
    ⟨(some 50), .mv (.t 0), none⟩,
    ⟨(some 51), .mv (.t 3), none⟩,
    ⟨(some 52), .mv (.t 11), none⟩,
    ⟨(some 53), .bin .add (.t 51) (.t 52), none⟩,
    ⟨(some 54), .iaddr (.t 50) (.t 53) 1, none⟩,
    ⟨(some 55), .load (.t 54) 1 false, none⟩,
    ⟨(some 56), .callv (.t 43) [(.t 49), (.t 55)], none⟩,
    ⟨(some 57), .bin .lss (.t 56) (.c (.int .i64 0)), none⟩,
    ⟨(some 58), .un .not (.t 57), none⟩]
@[go_sem] theorem g_slices_siftDownCmpFunc_int_7_0 : gAt l_slices_siftDownCmpFunc_int_7 0 = ⟨(some 43), .mv (.t 4), none⟩ := idE rfl
@[go_sem] theorem g_slices_siftDownCmpFunc_int_7_1 : gAt l_slices_siftDownCmpFunc_int_7 1 = ⟨(some 44), .mv (.t 0), none⟩ := idE rfl
@[go_sem] theorem g_slices_siftDownCmpFunc_int_7_2 : gAt l_slices_siftDownCmpFunc_int_7 2 = ⟨(some 45), .mv (.t 3), none⟩ := idE rfl
@[go_sem] theorem g_slices_siftDownCmpFunc_int_7_3 : gAt l_slices_siftDownCmpFunc_int_7 3 = ⟨(some 46), .mv (.t 10), none⟩ := idE rfl
@[go_sem] theorem g_slices_siftDownCmpFunc_int_7_4 : gAt l_slices_siftDownCmpFunc_int_7 4 = ⟨(some 47), .bin .add (.t 45) (.t 46), none⟩ := idE rfl
@[go_sem] theorem g_slices_siftDownCmpFunc_int_7_5 : gAt l_slices_siftDownCmpFunc_int_7 5 = ⟨(some 48), .iaddr (.t 44) (.t 47) 1, none⟩ := idE rfl
@[go_sem] theorem g_slices_siftDownCmpFunc_int_7_6 : gAt l_slices_siftDownCmpFunc_int_7 6 = ⟨(some 49), .load (.t 48) 1 false, none⟩ := idE rfl
@[go_sem] theorem g_slices_siftDownCmpFunc_int_7_7 : gAt l_slices_siftDownCmpFunc_int_7 7 = ⟨(some 50), .mv (.t 0), none⟩ := idE rfl
@[go_sem] theorem g_slices_siftDownCmpFunc_int_7_8 : gAt l_slices_siftDownCmpFunc_int_7 8 = ⟨(some 51), .mv (.t 3), none⟩ := idE rfl
@[go_sem] theorem g_slices_siftDownCmpFunc_int_7_9 : gAt l_slices_siftDownCmpFunc_int_7 9 = ⟨(some 52), .mv (.t 11), none⟩ := idE rfl
@[go_sem] theorem g_slices_siftDownCmpFunc_int_7_10 : gAt l_slices_siftDownCmpFunc_int_7 10 = ⟨(some 53), .bin .add (.t 51) (.t 52), none⟩ := idE rfl
@[go_sem] theorem g_slices_siftDownCmpFunc_int_7_11 : gAt l_slices_siftDownCmpFunc_int_7 11 = ⟨(some 54), .iaddr (.t 50) (.t 53) 1, none⟩ := idE rfl
@[go_sem] theorem g_slices_siftDownCmpFunc_int_7_12 : gAt l_slices_siftDownCmpFunc_int_7 12 = ⟨(some 55), .load (.t 54) 1 false, none⟩ := idE rfl
@[go_sem] theorem g_slices_siftDownCmpFunc_int_7_13 : gAt l_slices_siftDownCmpFunc_int_7 13 = ⟨(some 56), .callv (.t 43) [(.t 49), (.t 55)], none⟩ := idE rfl
@[go_sem] theorem g_slices_siftDownCmpFunc_int_7_14 : gAt l_slices_siftDownCmpFunc_int_7 14 = ⟨(some 57), .bin .lss (.t 56) (.c (.int .i64 0)), none⟩ := idE rfl
@[go_sem] theorem g_slices_siftDownCmpFunc_int_7_15 : gAt l_slices_siftDownCmpFunc_int_7 15 = ⟨(some 58), .un .not (.t 57), none⟩ := idE rfl
def slices_siftDownCmpFunc_int_7 : IR := .dops l_slices_siftDownCmpFunc_int_7 [(0, []), (1, []), (2, []), (3, []), (4, []), (5, []), (6, []), (7, []), (8, []), (9, []), (10, []), (11, []), (12, []), (13, []), (14, []), (15, [])]
@[go_sem] theorem w_slices_siftDownCmpFunc_int_7 : wp P slices_siftDownCmpFunc_int_7 Q e H = wpD P l_slices_siftDownCmpFunc_int_7 [(0, []), (1, []), (2, []), (3, []), (4, []), (5, []), (6, []), (7, []), (8, []), (9, []), (10, []), (11, []), (12, []), (13, []), (14, []), (15, [])] (Q .normal) e H := idE rfl
def slices_siftDownCmpFunc_int_8 : IR := .cond (.t 58) .ret .skip
@[go_sem] theorem w_slices_siftDownCmpFunc_int_8 : wp P slices_siftDownCmpFunc_int_8 Q e H = condW P ((.t 58) : X) .ret .skip Q e H := idE rfl
def l_slices_siftDownCmpFunc_int_9 : List GOp := [⟨(some 59), .mv (.t 0), none⟩,
    ⟨(some 60), .mv (.t 3), none⟩,
    ⟨(some 61), .mv (.t 10), none⟩,
    ⟨(some 62), .bin .add (.t 60) (.t 61), none⟩,
    ⟨(some 63), .mv (.t 0), none⟩,
    ⟨(some 64), .mv (.t 3), none⟩,
    ⟨(some 65), .mv (.t 11), none⟩,
    ⟨(some 66), .bin .add (.t 64) (.t 65), none⟩,
    ⟨(some 67), .mv (.t 0), none⟩,
    ⟨(some 68), .mv (.t 3), none⟩,
    ⟨(some 69), .mv (.t 11), none⟩,
    ⟨(some 70), .bin .add (.t 68) (.t 69), none⟩,
    ⟨(some 71), .iaddr (.t 67) (.t 70) 1, none⟩,
    ⟨(some 72), .load (.t 71) 1 false, none⟩,
    ⟨(some 73), .mv (.t 0), none⟩,
    ⟨(some 74), .mv (.t 3), none⟩,
    ⟨(some 75), .mv (.t 10), none⟩,
    ⟨(some 76), .bin .add (.t 74) (.t 75), none⟩,
    ⟨(some 77), .iaddr (.t 73) (.t 76) 1, none⟩,
    ⟨(some 78), .load (.t 77) 1 false, none⟩,
    ⟨(some 79), .iaddr (.t 59) (.t 62) 1, none⟩,
    ⟨none, .store (.t 79) 1 (.t 72), none⟩,
    ⟨(some 80), .iaddr (.t 63) (.t 66) 1, none⟩,
    ⟨none, .store (.t 80) 1 (.t 78), none⟩]
@[go_sem] theorem g_slices_siftDownCmpFunc_int_9_0 : gAt l_slices_siftDownCmpFunc_int_9 0 = ⟨(some 59), .mv (.t 0), none⟩ := idE rfl
@[go_sem] theorem g_slices_siftDownCmpFunc_int_9_1 : gAt l_slices_siftDownCmpFunc_int_9 1 = ⟨(some 60), .mv (.t 3), none⟩ := idE rfl
@[go_sem] theorem g_slices_siftDownCmpFunc_int_9_2 : gAt l_slices_siftDownCmpFunc_int_9 2 = ⟨(some 61), .mv (.t 10), none⟩ := idE rfl
@[go_sem] theorem g_slices_siftDownCmpFunc_int_9_3 : gAt l_slices_siftDownCmpFunc_int_9 3 = ⟨(some 62), .bin .add (.t 60) (.t 61), none⟩ := idE rfl
@[go_sem] theorem g_slices_siftDownCmpFunc_int_9_4 : gAt l_slices_siftDownCmpFunc_int_9 4 = ⟨(some 63), .mv (.t 0), none⟩ := idE rfl
@[go_sem] theorem g_slices_siftDownCmpFunc_int_9_5 : gAt l_slices_siftDownCmpFunc_int_9 5 = ⟨(some 64), .mv (.t 3), none⟩ := idE rfl
@[go_sem] theorem g_slices_siftDownCmpFunc_int_9_6 : gAt l_slices_siftDownCmpFunc_int_9 6 = ⟨(some 65), .mv (.t 11), none⟩ := idE rfl
@[go_sem] theorem g_slices_siftDownCmpFunc_int_9_7 : gAt l_slices_siftDownCmpFunc_int_9 7 = ⟨(some 66), .bin .add (.t 64) (.t 65), none⟩ := idE rfl
@[go_sem] theorem g_slices_siftDownCmpFunc_int_9_8 : gAt l_slices_siftDownCmpFunc_int_9 8 = ⟨(some 67), .mv (.t 0), none⟩ := idE rfl
@[go_sem] theorem g_slices_siftDownCmpFunc_int_9_9 : gAt l_slices_siftDownCmpFunc_int_9 9 = ⟨(some 68), .mv (.t 3), none⟩ := idE rfl
@[go_sem] theorem g_slices_siftDownCmpFunc_int_9_10 : gAt l_slices_siftDownCmpFunc_int_9 10 = ⟨(some 69), .mv (.t 11), none⟩ := idE rfl
@[go_sem] theorem g_slices_siftDownCmpFunc_int_9_11 : gAt l_slices_siftDownCmpFunc_int_9 11 = ⟨(some 70), .bin .add (.t 68) (.t 69), none⟩ := idE rfl
@[go_sem] theorem g_slices_siftDownCmpFunc_int_9_12 : gAt l_slices_siftDownCmpFunc_int_9 12 = ⟨(some 71), .iaddr (.t 67) (.t 70) 1, none⟩ := idE rfl
@[go_sem] theorem g_slices_siftDownCmpFunc_int_9_13 : gAt l_slices_siftDownCmpFunc_int_9 13 = ⟨(some 72), .load (.t 71) 1 false, none⟩ := idE rfl
@[go_sem] theorem g_slices_siftDownCmpFunc_int_9_14 : gAt l_slices_siftDownCmpFunc_int_9 14 = ⟨(some 73), .mv (.t 0), none⟩ := idE rfl
@[go_sem] theorem g_slices_siftDownCmpFunc_int_9_15 : gAt l_slices_siftDownCmpFunc_int_9 15 = ⟨(some 74), .mv (.t 3), none⟩ := idE rfl
@[go_sem] theorem g_slices_siftDownCmpFunc_int_9_16 : gAt l_slices_siftDownCmpFunc_int_9 16 = ⟨(some 75), .mv (.t 10), none⟩ := idE rfl
@[go_sem] theorem g_slices_siftDownCmpFunc_int_9_17 : gAt l_slices_siftDownCmpFunc_int_9 17 = ⟨(some 76), .bin .add (.t 74) (.t 75), none⟩ := idE rfl
@[go_sem] theorem g_slices_siftDownCmpFunc_int_9_18 : gAt l_slices_siftDownCmpFunc_int_9 18 = ⟨(some 77), .iaddr (.t 73) (.t 76) 1, none⟩ := idE rfl
@[go_sem] theorem g_slices_siftDownCmpFunc_int_9_19 : gAt l_slices_siftDownCmpFunc_int_9 19 = ⟨(some 78), .load (.t 77) 1 false, none⟩ := idE rfl
@[go_sem] theorem g_slices_siftDownCmpFunc_int_9_20 : gAt l_slices_siftDownCmpFunc_int_9 20 = ⟨(some 79), .iaddr (.t 59) (.t 62) 1, none⟩ := idE rfl
@[go_sem] theorem g_slices_siftDownCmpFunc_int_9_21 : gAt l_slices_siftDownCmpFunc_int_9 21 = ⟨none, .store (.t 79) 1 (.t 72), none⟩ := idE rfl
@[go_sem] theorem g_slices_siftDownCmpFunc_int_9_22 : gAt l_slices_siftDownCmpFunc_int_9 22 = ⟨(some 80), .iaddr (.t 63) (.t 66) 1, none⟩ := idE rfl
@[go_sem] theorem g_slices_siftDownCmpFunc_int_9_23 : gAt l_slices_siftDownCmpFunc_int_9 23 = ⟨none, .store (.t 80) 1 (.t 78), none⟩ := idE rfl
def slices_siftDownCmpFunc_int_9 : IR := .dops l_slices_siftDownCmpFunc_int_9 [(0, []), (1, []), (2, []), (3, []), (4, []), (5, []), (6, []), (7, []), (8, []), (9, []), (10, []), (11, []), (12, []), (13, []), (14, []), (15, []), (16, []), (17, []), (18, []), (19, []), (20, []), (21, []), (22, []), (23, [])]
@[go_sem] theorem w_slices_siftDownCmpFunc_int_9 : wp P slices_siftDownCmpFunc_int_9 Q e H = wpD P l_slices_siftDownCmpFunc_int_9 [(0, []), (1, []), (2, []), (3, []), (4, []), (5, []), (6, []), (7, []), (8, []), (9, []), (10, []), (11, []), (12, []), (13, []), (14, []), (15, []), (16, []), (17, []), (18, []), (19, []), (20, []), (21, []), (22, []), (23, [])] (Q .normal) e H := idE rfl
@[go_sem] def l_slices_siftDownCmpFunc_int_10 : List GOp := [⟨(some 81), .mv (.t 11), none⟩,
    ⟨(some 10), .mv (.t 81), none⟩]
def slices_siftDownCmpFunc_int_10 : IR := .ops l_slices_siftDownCmpFunc_int_10
@[go_sem] theorem w_slices_siftDownCmpFunc_int_10 : wp P slices_siftDownCmpFunc_int_10 Q e H = wpL P l_slices_siftDownCmpFunc_int_10 (Q .normal) e H := idE rfl
def slices_siftDownCmpFunc_int_11 : IR := .block 1 (.seq slices_siftDownCmpFunc_int_1 (.seq (.seq slices_siftDownCmpFunc_int_2 slices_siftDownCmpFunc_int_3) (.seq (.seq slices_siftDownCmpFunc_int_4 slices_siftDownCmpFunc_int_6) (.seq (.seq slices_siftDownCmpFunc_int_7 slices_siftDownCmpFunc_int_8) (.seq slices_siftDownCmpFunc_int_9 slices_siftDownCmpFunc_int_10)))))
@[go_sem] theorem w_slices_siftDownCmpFunc_int_11 : wp P slices_siftDownCmpFunc_int_11 Q e H = wp P (.seq slices_siftDownCmpFunc_int_1 (.seq (.seq slices_siftDownCmpFunc_int_2 slices_siftDownCmpFunc_int_3) (.seq (.seq slices_siftDownCmpFunc_int_4 slices_siftDownCmpFunc_int_6) (.seq (.seq slices_siftDownCmpFunc_int_7 slices_siftDownCmpFunc_int_8) (.seq slices_siftDownCmpFunc_int_9 slices_siftDownCmpFunc_int_10))))) (blockQ 1 Q) e H := idE rfl
def slices_siftDownCmpFunc_int_12 : IR := .loop slices_siftDownCmpFunc_int_11
def slices_siftDownCmpFunc_int_13 : IR := .block 0 slices_siftDownCmpFunc_int_12
@[go_sem] theorem w_slices_siftDownCmpFunc_int_13 : wp P slices_siftDownCmpFunc_int_13 Q e H = wp P slices_siftDownCmpFunc_int_12 (blockQ 0 Q) e H := idE rfl
@[go_sem] def l_slices_heapSortCmpFunc_int_0 : List GOp := [⟨(some 13), .mv (.t 1), none⟩,
    ⟨(some 8), .mv (.t 13), none⟩]
def slices_heapSortCmpFunc_int_0 : IR := .ops l_slices_heapSortCmpFunc_int_0
@[go_sem] theorem w_slices_heapSortCmpFunc_int_0 : wp P slices_heapSortCmpFunc_int_0 Q e H = wpL P l_slices_heapSortCmpFunc_int_0 (Q .normal) e H := idE rfl
@[go_sem] def l_slices_heapSortCmpFunc_int_1 : List GOp := [⟨(some 9), .mv (.c (.int .i64 0)), none⟩]
def slices_heapSortCmpFunc_int_1 : IR := .ops l_slices_heapSortCmpFunc_int_1
@[go_sem] theorem w_slices_heapSortCmpFunc_int_1 : wp P slices_heapSortCmpFunc_int_1 Q e H = wpL P l_slices_heapSortCmpFunc_int_1 (Q .normal) e H := idE rfl
@[go_sem] def l_slices_heapSortCmpFunc_int_2 : List GOp := [⟨(some 14), .mv (.t 2), none⟩,
    ⟨(some 15), .mv (.t 1), none⟩,
    ⟨(some 16), .bin .sub (.t 14) (.t 15), none⟩,
    ⟨(some 10), .mv (.t 16), none⟩]
def slices_heapSortCmpFunc_int_2 : IR := .ops l_slices_heapSortCmpFunc_int_2
@[go_sem] theorem w_slices_heapSortCmpFunc_int_2 : wp P slices_heapSortCmpFunc_int_2 Q e H = wpL P l_slices_heapSortCmpFunc_int_2 (Q .normal) e H := idE rfl
@[go_sem] def l_slices_heapSortCmpFunc_int_3 : List GOp := [⟨(some 17), .mv (.t 10), none⟩,
    ⟨(some 18), .bin .sub (.t 17) (.c (.int .i64 1)), none⟩,
    ⟨(some 19), .bin .quo (.t 18) (.c (.int .i64 2)), none⟩,
    ⟨(some 11), .mv (.t 19), none⟩]
def slices_heapSortCmpFunc_int_3 : IR := .ops l_slices_heapSortCmpFunc_int_3
@[go_sem] theorem w_slices_heapSortCmpFunc_int_3 : wp P slices_heapSortCmpFunc_int_3 Q e H = wpL P l_slices_heapSortCmpFunc_int_3 (Q .normal) e H := idE rfl
@[go_sem] def l_slices_heapSortCmpFunc_int_4 : List GOp := [⟨(some 20), .mv (.t 11), none⟩,
    ⟨(some 21), .bin .geq (.t 20) (.c (.int .i64 0)), none⟩]
def slices_heapSortCmpFunc_int_4 : IR := .ops l_slices_heapSortCmpFunc_int_4
@[go_sem] theorem w_slices_heapSortCmpFunc_int_4 : wp P slices_heapSortCmpFunc_int_4 Q e H = wpL P l_slices_heapSortCmpFunc_int_4 (Q .normal) e H := idE rfl
def slices_heapSortCmpFunc_int_5 : IR := .cond (.t 21) .skip (.exit 0)
@[go_sem] theorem w_slices_heapSortCmpFunc_int_5 : wp P slices_heapSortCmpFunc_int_5 Q e H = condW P ((.t 21) : X) .skip (.exit 0) Q e H := idE rfl
@[go_sem] def l_slices_heapSortCmpFunc_int_6 : List GOp := [⟨(some 24), .mv (.t 0), none⟩,
    ⟨(some 25), .mv (.t 11), none⟩,
    ⟨(some 26), .mv (.t 10), none⟩,
    ⟨(some 27), .mv (.t 8), none⟩,
    ⟨(some 28), .mv (.t 3), none⟩,
    ⟨(some 29), .call (n_slices_siftDownCmpFunc_int) [(.t 24), (.t 25), (.t 26), (.t 27), (.t 28)], none⟩]
def slices_heapSortCmpFunc_int_6 : IR := .ops l_slices_heapSortCmpFunc_int_6
@[go_sem] theorem w_slices_heapSortCmpFunc_int_6 : wp P slices_heapSortCmpFunc_int_6 Q e H = wpL P l_slices_heapSortCmpFunc_int_6 (Q .normal) e H := idE rfl
def slices_heapSortCmpFunc_int_7 : IR := .block 1 slices_heapSortCmpFunc_int_6
@[go_sem] theorem w_slices_heapSortCmpFunc_int_7 : wp P slices_heapSortCmpFunc_int_7 Q e H = wp P slices_heapSortCmpFunc_int_6 (blockQ 1 Q) e H := idE rfl
@[go_sem] def l_slices_heapSortCmpFunc_int_8 : List GOp := [⟨(some 22), .mv (.t 11), none⟩,
    ⟨(some 23), .bin .sub (.t 22) (.c (.int .i64 1)), none⟩,
    ⟨(some 11), .mv (.t 23), none⟩]
def slices_heapSortCmpFunc_int_8 : IR := .ops l_slices_heapSortCmpFunc_int_8
@[go_sem] theorem w_slices_heapSortCmpFunc_int_8 : wp P slices_heapSortCmpFunc_int_8 Q e H = wpL P l_slices_heapSortCmpFunc_int_8 (Q .normal) e H := idE rfl
def slices_heapSortCmpFunc_int_9 : IR := .loop (.seq (.seq slices_heapSortCmpFunc_int_4 slices_heapSortCmpFunc_int_5) (.seq slices_heapSortCmpFunc_int_7 slices_heapSortCmpFunc_int_8))
def slices_heapSortCmpFunc_int_10 : IR := .block 0 slices_heapSortCmpFunc_int_9
@[go_sem] theorem w_slices_heapSortCmpFunc_int_10 : wp P slices_heapSortCmpFunc_int_10 Q e H = wp P slices_heapSortCmpFunc_int_9 (blockQ 0 Q) e H := idE rfl
@[go_sem] def l_slices_heapSortCmpFunc_int_11 : List GOp := [⟨(some 30), .mv (.t 10), none⟩,
    ⟨(some 31), .bin .sub (.t 30) (.c (.int .i64 1)), none⟩,
    ⟨(some 12), .mv (.t 31), none⟩]
def slices_heapSortCmpFunc_int_11 : IR := .ops l_slices_heapSortCmpFunc_int_11
@[go_sem] theorem w_slices_heapSortCmpFunc_int_11 : wp P slices_heapSortCmpFunc_int_11 Q e H = wpL P l_slices_heapSortCmpFunc_int_11 (Q .normal) e H := idE rfl
@[go_sem] def l_slices_heapSortCmpFunc_int_12 : List GOp := [⟨(some 32), .mv (.t 12), none⟩,
    ⟨(some 33), .bin .geq (.t 32) (.c (.int .i64 0)), none⟩]
def slices_heapSortCmpFunc_int_12 : IR := .ops l_slices_heapSortCmpFunc_int_12
@[go_sem] theorem w_slices_heapSortCmpFunc_int_12 : wp P slices_heapSortCmpFunc_int_12 Q e H = wpL P l_slices_heapSortCmpFunc_int_12 (Q .normal) e H := idE rfl
def slices_heapSortCmpFunc_int_13 : IR := .cond (.t 33) .skip (.exit 2)
@[go_sem] theorem w_slices_heapSortCmpFunc_int_13 : wp P slices_heapSortCmpFunc_int_13 Q e H = condW P ((.t 33) : X) .skip (.exit 2) Q e H := idE rfl
def l_slices_heapSortCmpFunc_int_14 : List GOp := [⟨(some 36), .mv (.t 0), none⟩,
    ⟨(some 37), .mv (.t 8), none⟩,
    ⟨(some 38), .mv (.t 0), none⟩,
    ⟨(some 39), .mv (.t 8), none⟩,
    ⟨(some 40), .mv (.t 12), none⟩,
    ⟨(some 41), .bin .add (.t 39) (.t 40), none⟩,
    ⟨(some 42), .mv (.t 0), none⟩,
    ⟨(some 43), .mv (.t 8), none⟩,
    ⟨(some 44), .mv (.t 12), none⟩,
    ⟨(some 45), .bin .add (.t 43) (.t 44), none⟩,
    ⟨(some 46), .iaddr (.t 42) (.t 45) 1, none⟩,
    ⟨(some 47), .load (.t 46) 1 false, none⟩,
    ⟨(some 48), .mv (.t 0), none⟩,
    ⟨(some 49), .mv (.t 8), none⟩,
    ⟨(some 50), .iaddr (.t 48) (.t 49) 1, none⟩,
    ⟨(some 51), .load (.t 50) 1 false, none⟩,
    ⟨(some 52), .iaddr (.t 36) (.t 37) 1, none⟩,
    ⟨none, .store (.t 52) 1 (.t 47), none⟩,
    ⟨(some 53), .iaddr (.t 38) (.t 41) 1, none⟩,
    ⟨none, .store (.t 53) 1 (.t 51), none⟩]
@[go_sem] theorem g_slices_heapSortCmpFunc_int_14_0 : gAt l_slices_heapSortCmpFunc_int_14 0 = ⟨(some 36), .mv (.t 0), none⟩ := idE rfl
@[go_sem] theorem g_slices_heapSortCmpFunc_int_14_1 : gAt l_slices_heapSortCmpFunc_int_14 1 = ⟨(some 37), .mv (.t 8), none⟩ := idE rfl
@[go_sem] theorem g_slices_heapSortCmpFunc_int_14_2 : gAt l_slices_heapSortCmpFunc_int_14 2 = ⟨(some 38), .mv (.t 0), none⟩ := idE rfl
@[go_sem] theorem g_slices_heapSortCmpFunc_int_14_3 : gAt l_slices_heapSortCmpFunc_int_14 3 = ⟨(some 39), .mv (.t 8), none⟩ := idE rfl
@[go_sem] theorem g_slices_heapSortCmpFunc_int_14_4 : gAt l_slices_heapSortCmpFunc_int_14 4 = ⟨(some 40), .mv (.t 12), none⟩ := idE rfl
@[go_sem] theorem g_slices_heapSortCmpFunc_int_14_5 : gAt l_slices_heapSortCmpFunc_int_14 5 = ⟨(some 41), .bin .add (.t 39) (.t 40), none⟩ := idE rfl
@[go_sem] theorem g_slices_heapSortCmpFunc_int_14_6 : gAt l_slices_heapSortCmpFunc_int_14 6 = ⟨(some 42), .mv (.t 0), none⟩ := idE rfl
@[go_sem] theorem g_slices_heapSortCmpFunc_int_14_7 : gAt l_slices_heapSortCmpFunc_int_14 7 = ⟨(some 43), .mv (.t 8), none⟩ := idE rfl
@[go_sem] theorem g_slices_heapSortCmpFunc_int_14_8 : gAt l_slices_heapSortCmpFunc_int_14 8 = ⟨(some 44), .mv (.t 12), none⟩ := idE rfl
@[go_sem] theorem g_slices_heapSortCmpFunc_int_14_9 : gAt l_slices_heapSortCmpFunc_int_14 9 = ⟨(some 45), .bin .add (.t 43) (.t 44), none⟩ := idE rfl
@[go_sem] theorem g_slices_heapSortCmpFunc_int_14_10 : gAt l_slices_heapSortCmpFunc_int_14 10 = ⟨(some 46), .iaddr (.t 42) (.t 45) 1, none⟩ := idE rfl
@[go_sem] theorem g_slices_heapSortCmpFunc_int_14_11 : gAt l_slices_heapSortCmpFunc_int_14 11 = ⟨(some 47), .load (.t 46) 1 false, none⟩ := idE rfl
@[go_sem] theorem g_slices_heapSortCmpFunc_int_14_12 : gAt l_slices_heapSortCmpFunc_int_14 12 = ⟨(some 48), .mv (.t 0), none⟩ := idE rfl
@[go_sem] theorem g_slices_heapSortCmpFunc_int_14_13 : gAt l_slices_heapSortCmpFunc_int_14 13 = ⟨(some 49), .mv (.t 8), none⟩ := idE rfl
@[go_sem] theorem g_slices_heapSortCmpFunc_int_14_14 : gAt l_slices_heapSortCmpFunc_int_14 14 = ⟨(some 50), .iaddr (.t 48) (.t 49) 1, none⟩ := idE rfl
@[go_sem] theorem g_slices_heapSortCmpFunc_int_14_15 : gAt l_slices_heapSortCmpFunc_int_14 15 = ⟨(some 51), .load (.t 50) 1 false, none⟩ := idE rfl
@[go_sem] theorem g_slices_heapSortCmpFunc_int_14_16 : gAt l_slices_heapSortCmpFunc_int_14 16 = ⟨(some 52), .iaddr (.t 36) (.t 37) 1, none⟩ := idE rfl
@[go_sem] theorem g_slices_heapSortCmpFunc_int_14_17 : gAt l_slices_heapSortCmpFunc_int_14 17 = ⟨none, .store (.t 52) 1 (.t 47), none⟩ := idE rfl
@[go_sem] theorem g_slices_heapSortCmpFunc_int_14_18 : gAt l_slices_heapSortCmpFunc_int_14 18 = ⟨(some 53), .iaddr (.t 38) (.t 41) 1, none⟩ := idE rfl
@[go_sem] theorem g_slices_heapSortCmpFunc_int_14_19 : gAt l_slices_heapSortCmpFunc_int_14 19 = ⟨none, .store (.t 53) 1 (.t 51), none⟩ := idE rfl
def slices_heapSortCmpFunc_int_14 : IR := .dops l_slices_heapSortCmpFunc_int_14 [(0, []), (1, []), (2, []), (3, []), (4, []), (5, []), (6, []), (7, []), (8, []), (9, []), (10, []), (11, []), (12, []), (13, []), (14, []), (15, []), (16, []), (17, []), (18, []), (19, [])]
@[go_sem] theorem w_slices_heapSortCmpFunc_int_14 : wp P slices_heapSortCmpFunc_int_14 Q e H = wpD P l_slices_heapSortCmpFunc_int_14 [(0, []), (1, []), (2, []), (3, []), (4, []), (5, []), (6, []), (7, []), (8, []), (9, []), (10, []), (11, []), (12, []), (13, []), (14, []), (15, []), (16, []), (17, []), (18, []), (19, [])] (Q .normal) e H := idE rfl
@[go_sem] def l_slices_heapSortCmpFunc_int_15 : List GOp := [⟨(some 54), .mv (.t 0), none⟩,
    ⟨(some 55), .mv (.t 9), none⟩,
    ⟨(some 56), .mv (.t 12), none⟩,
    ⟨(some 57), .mv (.t 8), none⟩,
    ⟨(some 58), .mv (.t 3), none⟩,
    ⟨(some 59), .call (n_slices_siftDownCmpFunc_int) [(.t 54), (.t 55), (.t 56), (.t 57), (.t 58)], none⟩]
def slices_heapSortCmpFunc_int_15 : IR := .ops l_slices_heapSortCmpFunc_int_15
@[go_sem] theorem w_slices_heapSortCmpFunc_int_15 : wp P slices_heapSortCmpFunc_int_15 Q e H = wpL P l_slices_heapSortCmpFunc_int_15 (Q .normal) e H := idE rfl
def slices_heapSortCmpFunc_int_16 : IR := .block 3 (.seq slices_heapSortCmpFunc_int_14 slices_heapSortCmpFunc_int_15)
@[go_sem] theorem w_slices_heapSortCmpFunc_int_16 : wp P slices_heapSortCmpFunc_int_16 Q e H = wp P (.seq slices_heapSortCmpFunc_int_14 slices_heapSortCmpFunc_int_15) (blockQ 3 Q) e H := idE rfl
@[go_sem] def l_slices_heapSortCmpFunc_int_17 : List GOp := [⟨(some 34), .mv (.t 12), none⟩,
    ⟨(some 35), .bin .sub (.t 34) (.c (.int .i64 1)), none⟩,
    ⟨(some 12), .mv (.t 35), none⟩]
def slices_heapSortCmpFunc_int_17 : IR := .ops l_slices_heapSortCmpFunc_int_17
@[go_sem] theorem w_slices_heapSortCmpFunc_int_17 : wp P slices_heapSortCmpFunc_int_17 Q e H = wpL P l_slices_heapSortCmpFunc_int_17 (Q .normal) e H := idE rfl
def slices_heapSortCmpFunc_int_18 : IR := .loop (.seq (.seq slices_heapSortCmpFunc_int_12 slices_heapSortCmpFunc_int_13) (.seq slices_heapSortCmpFunc_int_16 slices_heapSortCmpFunc_int_17))
def slices_heapSortCmpFunc_int_19 : IR := .block 2 slices_heapSortCmpFunc_int_18
@[go_sem] theorem w_slices_heapSortCmpFunc_int_19 : wp P slices_heapSortCmpFunc_int_19 Q e H = wp P slices_heapSortCmpFunc_int_18 (blockQ 2 Q) e H := idE rfl
@[go_sem] def l_slices_nextPowerOfTwo_0 : List GOp := [⟨(some 2), .mv (.c (.int .u64 0)), none⟩]
def slices_nextPowerOfTwo_0 : IR := .ops l_slices_nextPowerOfTwo_0
@[go_sem] theorem w_slices_nextPowerOfTwo_0 : wp P slices_nextPowerOfTwo_0 Q e H = wpL P l_slices_nextPowerOfTwo_0 (Q .normal) e H := idE rfl
@[go_sem] def l_slices_nextPowerOfTwo_1 : List GOp := [⟨(some 3), .mv (.t 0), none⟩,
    ⟨(some 4), .cvi .u64 (.t 3), none⟩,
    ⟨(some 5), .call (n_math_bits_Len) [(.t 4)], none⟩,
    ⟨(some 6), .bin .shl (.c (.int .u64 1)) (.t 5), none⟩,
    ⟨(some 2), .mv (.t 6), none⟩]
def slices_nextPowerOfTwo_1 : IR := .ops l_slices_nextPowerOfTwo_1
@[go_sem] theorem w_slices_nextPowerOfTwo_1 : wp P slices_nextPowerOfTwo_1 Q e H = wpL P l_slices_nextPowerOfTwo_1 (Q .normal) e H := idE rfl
@[go_sem] def l_slices_xorshift_Next_0 : List GOp := [⟨(some 2), .mv (.c (.int .u64 0)), none⟩]
def slices_xorshift_Next_0 : IR := .ops l_slices_xorshift_Next_0
@[go_sem] theorem w_slices_xorshift_Next_0 : wp P slices_xorshift_Next_0 Q e H = wpL P l_slices_xorshift_Next_0 (Q .normal) e H := idE rfl
def l_slices_xorshift_Next_1 : List GOp := [⟨(some 3), .mv (.t 0), none⟩,
    ⟨(some 4), .nilck (.t 3), none⟩,
    ⟨(some 5), .load (.t 4) 1 false, none⟩,
    ⟨(some 6), .mv (.t 0), none⟩,
    ⟨(some 7), .nilck (.t 6), none⟩,
    ⟨(some 8), .load (.t 7) 1 false, none⟩,
    ⟨(some 9), .bin .shl (.t 8) (.c (.int .u64 13)), none⟩,
    ⟨(some 10), .bin .xor (.t 5) (.t 9), none⟩,
    ⟨(some 11), .nilck (.t 3), none⟩,
    ⟨none, .store (.t 11) 1 (.t 10), none⟩]
@[go_sem] theorem g_slices_xorshift_Next_1_0 : gAt l_slices_xorshift_Next_1 0 = ⟨(some 3), .mv (.t 0), none⟩ := idE rfl
@[go_sem] theorem g_slices_xorshift_Next_1_1 : gAt l_slices_xorshift_Next_1 1 = ⟨(some 4), .nilck (.t 3), none⟩ := idE rfl
@[go_sem] theorem g_slices_xorshift_Next_1_2 : gAt l_slices_xorshift_Next_1 2 = ⟨(some 5), .load (.t 4) 1 false, none⟩ := idE rfl
@[go_sem] theorem g_slices_xorshift_Next_1_3 : gAt l_slices_xorshift_Next_1 3 = ⟨(some 6), .mv (.t 0), none⟩ := idE rfl
@[go_sem] theorem g_slices_xorshift_Next_1_4 : gAt l_slices_xorshift_Next_1 4 = ⟨(some 7), .nilck (.t 6), none⟩ := idE rfl
@[go_sem] theorem g_slices_xorshift_Next_1_5 : gAt l_slices_xorshift_Next_1 5 = ⟨(some 8), .load (.t 7) 1 false, none⟩ := idE rfl
@[go_sem] theorem g_slices_xorshift_Next_1_6 : gAt l_slices_xorshift_Next_1 6 = ⟨(some 9), .bin .shl (.t 8) (.c (.int .u64 13)), none⟩ := idE rfl
@[go_sem] theorem g_slices_xorshift_Next_1_7 : gAt l_slices_xorshift_Next_1 7 = ⟨(some 10), .bin .xor (.t 5) (.t 9), none⟩ := idE rfl
@[go_sem] theorem g_slices_xorshift_Next_1_8 : gAt l_slices_xorshift_Next_1 8 = ⟨(some 11), .nilck (.t 3), none⟩ := idE rfl
@[go_sem] theorem g_slices_xorshift_Next_1_9 : gAt l_slices_xorshift_Next_1 9 = ⟨none, .store (.t 11) 1 (.t 10), none⟩ := idE rfl
def slices_xorshift_Next_1 : IR := .dops l_slices_xorshift_Next_1 [(0, []), (1, []), (2, []), (3, []), (4, []), (5, []), (6, []), (7, []), (8, []), (9, [])]
@[go_sem] theorem w_slices_xorshift_Next_1 : wp P slices_xorshift_Next_1 Q e H = wpD P l_slices_xorshift_Next_1 [(0, []), (1, []), (2, []), (3, []), (4, []), (5, []), (6, []), (7, []), (8, []), (9, [])] (Q .normal) e H := idE rfl
def l_slices_xorshift_Next_2 : List GOp := [⟨(some 12), .mv (.t 0), none⟩,
    ⟨(some 13), .nilck (.t 12), none⟩,
    ⟨(some 14), .load (.t 13) 1 false, none⟩,
    ⟨(some 15), .mv (.t 0), none⟩,
    ⟨(some 16), .nilck (.t 15), none⟩,
    ⟨(some 17), .load (.t 16) 1 false, none⟩,
    ⟨(some 18), .bin .shr (.t 17) (.c (.int .u64 7)), none⟩,
    ⟨(some 19), .bin .xor (.t 14) (.t 18), none⟩,
    ⟨(some 20), .nilck (.t 12), none⟩,
    ⟨none, .store (.t 20) 1 (.t 19), none⟩]
@[go_sem] theorem g_slices_xorshift_Next_2_0 : gAt l_slices_xorshift_Next_2 0 = ⟨(some 12), .mv (.t 0), none⟩ := idE rfl
@[go_sem] theorem g_slices_xorshift_Next_2_1 : gAt l_slices_xorshift_Next_2 1 = ⟨(some 13), .nilck (.t 12), none⟩ := idE rfl
@[go_sem] theorem g_slices_xorshift_Next_2_2 : gAt l_slices_xorshift_Next_2 2 = ⟨(some 14), .load (.t 13) 1 false, none⟩ := idE rfl
@[go_sem] theorem g_slices_xorshift_Next_2_3 : gAt l_slices_xorshift_Next_2 3 = ⟨(some 15), .mv (.t 0), none⟩ := idE rfl
@[go_sem] theorem g_slices_xorshift_Next_2_4 : gAt l_slices_xorshift_Next_2 4 = ⟨(some 16), .nilck (.t 15), none⟩ := idE rfl
@[go_sem] theorem g_slices_xorshift_Next_2_5 : gAt l_slices_xorshift_Next_2 5 = ⟨(some 17), .load (.t 16) 1 false, none⟩ := idE rfl
@[go_sem] theorem g_slices_xorshift_Next_2_6 : gAt l_slices_xorshift_Next_2 6 = ⟨(some 18), .bin .shr (.t 17) (.c (.int .u64 7)), none⟩ := idE rfl
@[go_sem] theorem g_slices_xorshift_Next_2_7 : gAt l_slices_xorshift_Next_2 7 = ⟨(some 19), .bin .xor (.t 14) (.t 18), none⟩ := idE rfl
@[go_sem] theorem g_slices_xorshift_Next_2_8 : gAt l_slices_xorshift_Next_2 8 = ⟨(some 20), .nilck (.t 12), none⟩ := idE rfl
@[go_sem] theorem g_slices_xorshift_Next_2_9 : gAt l_slices_xorshift_Next_2 9 = ⟨none, .store (.t 20) 1 (.t 19), none⟩ := idE rfl
def slices_xorshift_Next_2 : IR := .dops l_slices_xorshift_Next_2 [(0, []), (1, []), (2, []), (3, []), (4, []), (5, []), (6, []), (7, []), (8, []), (9, [])]
@[go_sem] theorem w_slices_xorshift_Next_2 : wp P slices_xorshift_Next_2 Q e H = wpD P l_slices_xorshift_Next_2 [(0, []), (1, []), (2, []), (3, []), (4, []), (5, []), (6, []), (7, []), (8, []), (9, [])] (Q .normal) e H := idE rfl
def l_slices_xorshift_Next_3 : List GOp := [⟨(some 21), .mv (.t 0), none⟩,
    ⟨(some 22), .nilck (.t 21), none⟩,
    ⟨(some 23), .load (.t 22) 1 false, none⟩,
    ⟨(some 24), .mv (.t 0), none⟩,
    ⟨(some 25), .nilck (.t 24), none⟩,
    ⟨(some 26), .load (.t 25) 1 false, none⟩,
    ⟨(some 27), .bin .shl (.t 26) (.c (.int .u64 17)), none⟩,
    ⟨(some 28), .bin .xor (.t 23) (.t 27), none⟩,
    ⟨(some 29), .nilck (.t 21), none⟩,
    ⟨none, .store (.t 29) 1 (.t 28), none⟩]
@[go_sem] theorem g_slices_xorshift_Next_3_0 : gAt l_slices_xorshift_Next_3 0 = ⟨(some 21), .mv (.t 0), none⟩ := idE rfl
@[go_sem] theorem g_slices_xorshift_Next_3_1 : gAt l_slices_xorshift_Next_3 1 = ⟨(some 22), .nilck (.t 21), none⟩ := idE rfl
@[go_sem] theorem g_slices_xorshift_Next_3_2 : gAt l_slices_xorshift_Next_3 2 = ⟨(some 23), .load (.t 22) 1 false, none⟩ := idE rfl
@[go_sem] theorem g_slices_xorshift_Next_3_3 : gAt l_slices_xorshift_Next_3 3 = ⟨(some 24), .mv (.t 0), none⟩ := idE rfl
@[go_sem] theorem g_slices_xorshift_Next_3_4 : gAt l_slices_xorshift_Next_3 4 = ⟨(some 25), .nilck (.t 24), none⟩ := idE rfl
@[go_sem] theorem g_slices_xorshift_Next_3_5 : gAt l_slices_xorshift_Next_3 5 = ⟨(some 26), .load (.t 25) 1 false, none⟩ := idE rfl
@[go_sem] theorem g_slices_xorshift_Next_3_6 : gAt l_slices_xorshift_Next_3 6 = ⟨(some 27), .bin .shl (.t 26) (.c (.int .u64 17)), none⟩ := idE rfl
@[go_sem] theorem g_slices_xorshift_Next_3_7 : gAt l_slices_xorshift_Next_3 7 = ⟨(some 28), .bin .xor (.t 23) (.t 27), none⟩ := idE rfl
@[go_sem] theorem g_slices_xorshift_Next_3_8 : gAt l_slices_xorshift_Next_3 8 = ⟨(some 29), .nilck (.t 21), none⟩ := idE rfl
@[go_sem] theorem g_slices_xorshift_Next_3_9 : gAt l_slices_xorshift_Next_3 9 = ⟨none, .store (.t 29) 1 (.t 28), none⟩ := idE rfl
def slices_xorshift_Next_3 : IR := .dops l_slices_xorshift_Next_3 [(0, []), (1, []), (2, []), (3, []), (4, []), (5, []), (6, []), (7, []), (8, []), (9, [])]
@[go_sem] theorem w_slices_xorshift_Next_3 : wp P slices_xorshift_Next_3 Q e H = wpD P l_slices_xorshift_Next_3 [(0, []), (1, []), (2, []), (3, []), (4, []), (5, []), (6, []), (7, []), (8, []), (9, [])] (Q .normal) e H := idE rfl
@[go_sem] def l_slices_xorshift_Next_4 : List GOp := [⟨(some 30), .mv (.t 0), none⟩,
    ⟨(some 31), .nilck (.t 30), none⟩,
    ⟨(some 32), .load (.t 31) 1 false, none⟩,
    ⟨(some 2), .mv (.t 32), none⟩]
def slices_xorshift_Next_4 : IR := .ops l_slices_xorshift_Next_4
@[go_sem] theorem w_slices_xorshift_Next_4 : wp P slices_xorshift_Next_4 Q e H = wpL P l_slices_xorshift_Next_4 (Q .normal) e H := idE rfl
@[go_sem] def l_slices_breakPatternsCmpFunc_int_0 : List GOp := [⟨(some 13), .mv (.t 2), none⟩,
    ⟨(some 14), .mv (.t 1), none⟩,
    ⟨(some 15), .bin .sub (.t 13) (.t 14), none⟩,
    ⟨(some 8), .mv (.t 15), none⟩]
def slices_breakPatternsCmpFunc_int_0 : IR := .ops l_slices_breakPatternsCmpFunc_int_0
@[go_sem] theorem w_slices_breakPatternsCmpFunc_int_0 : wp P slices_breakPatternsCmpFunc_int_0 Q e H = wpL P l_slices_breakPatternsCmpFunc_int_0 (Q .normal) e H := idE rfl
@[go_sem] def l_slices_breakPatternsCmpFunc_int_1 : List GOp := [⟨(some 16), .mv (.t 8), none⟩,
    ⟨(some 17), .bin .geq (.t 16) (.c (.int .i64 8)), none⟩]
def slices_breakPatternsCmpFunc_int_1 : IR := .ops l_slices_breakPatternsCmpFunc_int_1
@[go_sem] theorem w_slices_breakPatternsCmpFunc_int_1 : wp P slices_breakPatternsCmpFunc_int_1 Q e H = wpL P l_slices_breakPatternsCmpFunc_int_1 (Q .normal) e H := idE rfl
@[go_sem] def l_slices_breakPatternsCmpFunc_int_2 : List GOp := [⟨(some 18), .mv (.t 8), none⟩,
    ⟨(some 19), .cvi .u64 (.t 18), none⟩,
    ⟨(some 9), .alloc [(.int .u64 0)], none⟩,
    ⟨none, .store (.t 9) 1 (.t 19), none⟩]
def slices_breakPatternsCmpFunc_int_2 : IR := .ops l_slices_breakPatternsCmpFunc_int_2
@[go_sem] theorem w_slices_breakPatternsCmpFunc_int_2 : wp P slices_breakPatternsCmpFunc_int_2 Q e H = wpL P l_slices_breakPatternsCmpFunc_int_2 (Q .normal) e H := idE rfl
@[go_sem] def l_slices_breakPatternsCmpFunc_int_3 : List GOp := [⟨(some 20), .mv (.t 8), none⟩,
    ⟨(some 21), .call (n_slices_nextPowerOfTwo) [(.t 20)], none⟩,
    ⟨(some 10), .mv (.t 21), none⟩]
def slices_breakPatternsCmpFunc_int_3 : IR := .ops l_slices_breakPatternsCmpFunc_int_3
@[go_sem] theorem w_slices_breakPatternsCmpFunc_int_3 : wp P slices_breakPatternsCmpFunc_int_3 Q e H = wpL P l_slices_breakPatternsCmpFunc_int_3 (Q .normal) e H := idE rfl
@[go_sem] def l_slices_breakPatternsCmpFunc_int_4 : List GOp := [⟨(some 22), .mv (.t 1), none⟩,
    ⟨(some 23), .mv (.t 8), none⟩,
    ⟨(some 24), .bin .quo (.t 23) (.c (.int .i64 4)), none⟩,
    ⟨(some 25), .bin .mul (.t 24) (.c (.int .i64 2)), none⟩,
    ⟨(some 26), .bin .add (.t 22) (.t 25), none⟩,
    ⟨(some 27), .bin .sub (.t 26) (.c (.int .i64 1)), none⟩,
    ⟨(some 11), .mv (.t 27), none⟩]
def slices_breakPatternsCmpFunc_int_4 : IR := .ops l_slices_breakPatternsCmpFunc_int_4
@[go_sem] theorem w_slices_breakPatternsCmpFunc_int_4 : wp P slices_breakPatternsCmpFunc_int_4 Q e H = wpL P l_slices_breakPatternsCmpFunc_int_4 (Q .normal) e H := idE rfl
@[go_sem] def l_slices_breakPatternsCmpFunc_int_5 : List GOp := [⟨(some 28), .mv (.t 11), none⟩,
    ⟨(some 29), .mv (.t 1), none⟩,
    ⟨(some 30), .mv (.t 8), none⟩,
    ⟨(some 31), .bin .quo (.t 30) (.c (.int .i64 4)), none⟩,
    ⟨(some 32), .bin .mul (.t 31) (.c (.int .i64 2)), none⟩,
    ⟨(some 33), .bin .add (.t 29) (.t 32), none⟩,
    ⟨(some 34), .bin .add (.t 33) (.c (.int .i64 1)), none⟩,
    ⟨(some 35), .bin .leq (.t 28) (.t 34), none⟩]
def slices_breakPatternsCmpFunc_int_5 : IR := .ops l_slices_breakPatternsCmpFunc_int_5
@[go_sem] theorem w_slices_breakPatternsCmpFunc_int_5 : wp P slices_breakPatternsCmpFunc_int_5 Q e H = wpL P l_slices_breakPatternsCmpFunc_int_5 (Q .normal) e H := idE rfl
def slices_breakPatternsCmpFunc_int_6 : IR := .cond (.t 35) .skip (.exit 0)
@[go_sem] theorem w_slices_breakPatternsCmpFunc_int_6 : wp P slices_breakPatternsCmpFunc_int_6 Q e H = condW P ((.t 35) : X) .skip (.exit 0) Q e H := idE rfl
@[go_sem] def l_slices_breakPatternsCmpFunc_int_7 : List GOp := [⟨(some 38), .call (n_slices_xorshift_Next) [(.t 9)], none⟩,
    ⟨(some 39), .mv (.t 10), none⟩,
    ⟨(some 40), .bin .sub (.t 39) (.c (.int .u64 1)), none⟩,
    ⟨(some 41), .bin .and (.t 38) (.t 40), none⟩,
    ⟨(some 42), .cvi .i64 (.t 41), none⟩,
    ⟨(some 12), .mv (.t 42), none⟩]
def slices_breakPatternsCmpFunc_int_7 : IR := .ops l_slices_breakPatternsCmpFunc_int_7
@[go_sem] theorem w_slices_breakPatternsCmpFunc_int_7 : wp P slices_breakPatternsCmpFunc_int_7 Q e H = wpL P l_slices_breakPatternsCmpFunc_int_7 (Q .normal) e H := idE rfl
@[go_sem] def l_slices_breakPatternsCmpFunc_int_8 : List GOp := [⟨(some 43), .mv (.t 12), none⟩,
    ⟨(some 44), .mv (.t 8), none⟩,
    ⟨(some 45), .bin .geq (.t 43) (.t 44), none⟩]
def slices_breakPatternsCmpFunc_int_8 : IR := .ops l_slices_breakPatternsCmpFunc_int_8
@[go_sem] theorem w_slices_breakPatternsCmpFunc_int_8 : wp P slices_breakPatternsCmpFunc_int_8 Q e H = wpL P l_slices_breakPatternsCmpFunc_int_8 (Q .normal) e H := idE rfl
@[go_sem] def l_slices_breakPatternsCmpFunc_int_9 : List GOp := [⟨(some 46), .mv (.t 12), none⟩,
    ⟨(some 47), .mv (.t 8), none⟩,
    ⟨(some 48), .bin .sub (.t 46) (.t 47), none⟩,
    ⟨(some 12), .mv (.t 48), none⟩]
def slices_breakPatternsCmpFunc_int_9 : IR := .ops l_slices_breakPatternsCmpFunc_int_9
@[go_sem] theorem w_slices_breakPatternsCmpFunc_int_9 : wp P slices_breakPatternsCmpFunc_int_9 Q e H = wpL P l_slices_breakPatternsCmpFunc_int_9 (Q .normal) e H := idE rfl
def slices_breakPatternsCmpFunc_int_10 : IR := .cond (.t 45) slices_breakPatternsCmpFunc_int_9 .skip
@[go_sem] theorem w_slices_breakPatternsCmpFunc_int_10 : wp P slices_breakPatternsCmpFunc_int_10 Q e H = condW P ((.t 45) : X) slices_breakPatternsCmpFunc_int_9 .skip Q e H := idE rfl
def l_slices_breakPatternsCmpFunc_int_11 : List GOp := [⟨(some 49), .mv (.t 0), none⟩,
    ⟨(some 50), .mv (.t 11), none⟩,
    ⟨(some 51), .mv (.t 0), none⟩,
    ⟨(some 52), .mv (.t 1), none⟩,
    ⟨(some 53), .mv (.t 12), none⟩,
    ⟨(some 54), .bin .add (.t 52) (.t 53), none⟩,
    ⟨(some 55), .mv (.t 0), none⟩,
    ⟨(some 56), .mv (.t 1), none⟩,
    ⟨(some 57), .mv (.t 12), none⟩,
    ⟨(some 58), .bin .add (.t 56) (.t 57), none⟩,
    ⟨(some 59), .iaddr (.t 55) (.t 58) 1, none⟩,
    ⟨(some 60), .load (.t 59) 1 false, none⟩,
    ⟨(some 61), .mv (.t 0), none⟩,
    ⟨(some 62), .mv (.t 11), none⟩,
    ⟨(some 63), .iaddr (.t 61) (.t 62) 1, none⟩,
    ⟨(some 64), .load (.t 63) 1 false, none⟩,
    ⟨(some 65), .iaddr (.t 49) (.t 50) 1, none⟩,
    ⟨none, .store (.t 65) 1 (.t 60), none⟩,
    ⟨(some 66), .iaddr (.t 51) (.t 54) 1, none⟩,
    ⟨none, .store (.t 66) 1 (.t 64), none⟩]
@[go_sem] theorem g_slices_breakPatternsCmpFunc_int_11_0 : gAt l_slices_breakPatternsCmpFunc_int_11 0 = ⟨(some 49), .mv (.t 0), none⟩ := idE rfl
@[go_sem] theorem g_slices_breakPatternsCmpFunc_int_11_1 : gAt l_slices_breakPatternsCmpFunc_int_11 1 = ⟨(some 50), .mv (.t 11), none⟩ := idE rfl
@[go_sem] theorem g_slices_breakPatternsCmpFunc_int_11_2 : gAt l_slices_breakPatternsCmpFunc_int_11 2 = ⟨(some 51), .mv (.t 0), none⟩ := idE rfl
@[go_sem] theorem g_slices_breakPatternsCmpFunc_int_11_3 : gAt l_slices_breakPatternsCmpFunc_int_11 3 = ⟨(some 52), .mv (.t 1), none⟩ := idE rfl
@[go_sem] theorem g_slices_breakPatternsCmpFunc_int_11_4 : gAt l_slices_breakPatternsCmpFunc_int_11 4 = ⟨(some 53), .mv (.t 12), none⟩ := idE rfl
@[go_sem] theorem g_slices_breakPatternsCmpFunc_int_11_5 : gAt l_slices_breakPatternsCmpFunc_int_11 5 = ⟨(some 54), .bin .add (.t 52) (.t 53), none⟩ := idE rfl
@[go_sem] theorem g_slices_breakPatternsCmpFunc_int_11_6 : gAt l_slices_breakPatternsCmpFunc_int_11 6 = ⟨(some 55), .mv (.t 0), none⟩ := idE rfl
@[go_sem] theorem g_slices_breakPatternsCmpFunc_int_11_7 : gAt l_slices_breakPatternsCmpFunc_int_11 7 = ⟨(some 56), .mv (.t 1), none⟩ := idE rfl
@[go_sem] theorem g_slices_breakPatternsCmpFunc_int_11_8 : gAt l_slices_breakPatternsCmpFunc_int_11 8 = ⟨(some 57), .mv (.t 12), none⟩ := idE rfl
@[go_sem] theorem g_slices_breakPatternsCmpFunc_int_11_9 : gAt l_slices_breakPatternsCmpFunc_int_11 9 = ⟨(some 58), .bin .add (.t 56) (.t 57), none⟩ := idE rfl
@[go_sem] theorem g_slices_breakPatternsCmpFunc_int_11_10 : gAt l_slices_breakPatternsCmpFunc_int_11 10 = ⟨(some 59), .iaddr (.t 55) (.t 58) 1, none⟩ := idE rfl
@[go_sem] theorem g_slices_breakPatternsCmpFunc_int_11_11 : gAt l_slices_breakPatternsCmpFunc_int_11 11 = ⟨(some 60), .load (.t 59) 1 false, none⟩ := idE rfl
@[go_sem] theorem g_slices_breakPatternsCmpFunc_int_11_12 : gAt l_slices_breakPatternsCmpFunc_int_11 12 = ⟨(some 61), .mv (.t 0), none⟩ := idE rfl
@[go_sem] theorem g_slices_breakPatternsCmpFunc_int_11_13 : gAt l_slices_breakPatternsCmpFunc_int_11 13 = ⟨(some 62), .mv (.t 11), none⟩ := idE rfl
@[go_sem] theorem g_slices_breakPatternsCmpFunc_int_11_14 : gAt l_slices_breakPatternsCmpFunc_int_11 14 = ⟨(some 63), .iaddr (.t 61) (.t 62) 1, none⟩ := idE rfl
@[go_sem] theorem g_slices_breakPatternsCmpFunc_int_11_15 : gAt l_slices_breakPatternsCmpFunc_int_11 15 = ⟨(some 64), .load (.t 63) 1 false, none⟩ := idE rfl
@[go_sem] theorem g_slices_breakPatternsCmpFunc_int_11_16 : gAt l_slices_breakPatternsCmpFunc_int_11 16 = ⟨(some 65), .iaddr (.t 49) (.t 50) 1, none⟩ := idE rfl
@[go_sem] theorem g_slices_breakPatternsCmpFunc_int_11_17 : gAt l_slices_breakPatternsCmpFunc_int_11 17 = ⟨none, .store (.t 65) 1 (.t 60), none⟩ := idE rfl
@[go_sem] theorem g_slices_breakPatternsCmpFunc_int_11_18 : gAt l_slices_breakPatternsCmpFunc_int_11 18 = ⟨(some 66), .iaddr (.t 51) (.t 54) 1, none⟩ := idE rfl
@[go_sem] theorem g_slices_breakPatternsCmpFunc_int_11_19 : gAt l_slices_breakPatternsCmpFunc_int_11 19 = ⟨none, .store (.t 66) 1 (.t 64), none⟩ := idE rfl
def slices_breakPatternsCmpFunc_int_11 : IR := .dops l_slices_breakPatternsCmpFunc_int_11 [(0, []), (1, []), (2, []), (3, []), (4, []), (5, []), (6, []), (7, []), (8, []), (9, []), (10, []), (11, []), (12, []), (13, []), (14, []), (15, []), (16, []), (17, []), (18, []), (19, [])]
@[go_sem] theorem w_slices_breakPatternsCmpFunc_int_11 : wp P slices_breakPatternsCmpFunc_int_11 Q e H = wpD P l_slices_breakPatternsCmpFunc_int_11 [(0, []), (1, []), (2, []), (3, []), (4, []), (5, []), (6, []), (7, []), (8, []), (9, []), (10, []), (11, []), (12, []), (13, []), (14, []), (15, []), (16, []), (17, []), (18, []), (19, [])] (Q .normal) e H := idE rfl
def slices_breakPatternsCmpFunc_int_12 : IR := .block 1 (.seq slices_breakPatternsCmpFunc_int_7 (.seq (.seq slices_breakPatternsCmpFunc_int_8 slices_breakPatternsCmpFunc_int_10) slices_breakPatternsCmpFunc_int_11))
@[go_sem] theorem w_slices_breakPatternsCmpFunc_int_12 : wp P slices_breakPatternsCmpFunc_int_12 Q e H = wp P (.seq slices_breakPatternsCmpFunc_int_7 (.seq (.seq slices_breakPatternsCmpFunc_int_8 slices_breakPatternsCmpFunc_int_10) slices_breakPatternsCmpFunc_int_11)) (blockQ 1 Q) e H := idE rfl
@[go_sem] def l_slices_breakPatternsCmpFunc_int_13 : List GOp := [⟨(some 36), .mv (.t 11), none⟩,
    ⟨(some 37), .bin .add (.t 36) (.c (.int .i64 1)), none⟩,
    ⟨(some 11), .mv (.t 37), none⟩]
def slices_breakPatternsCmpFunc_int_13 : IR := .ops l_slices_breakPatternsCmpFunc_int_13
@[go_sem] theorem w_slices_breakPatternsCmpFunc_int_13 : wp P slices_breakPatternsCmpFunc_int_13 Q e H = wpL P l_slices_breakPatternsCmpFunc_int_13 (Q .normal) e H := idE rfl
def slices_breakPatternsCmpFunc_int_14 : IR := .loop (.seq (.seq slices_breakPatternsCmpFunc_int_5 slices_breakPatternsCmpFunc_int_6) (.seq slices_breakPatternsCmpFunc_int_12 slices_breakPatternsCmpFunc_int_13))
def slices_breakPatternsCmpFunc_int_15 : IR := .block 0 slices_breakPatternsCmpFunc_int_14
@[go_sem] theorem w_slices_breakPatternsCmpFunc_int_15 : wp P slices_breakPatternsCmpFunc_int_15 Q e H = wp P slices_breakPatternsCmpFunc_int_14 (blockQ 0 Q) e H := idE rfl
def slices_breakPatternsCmpFunc_int_16 : IR := .cond (.t 17) (.seq slices_breakPatternsCmpFunc_int_2 (.seq slices_breakPatternsCmpFunc_int_3 (.seq slices_breakPatternsCmpFunc_int_4 slices_breakPatternsCmpFunc_int_15))) .skip
@[go_sem] theorem w_slices_breakPatternsCmpFunc_int_16 : wp P slices_breakPatternsCmpFunc_int_16 Q e H = condW P ((.t 17) : X) (.seq slices_breakPatternsCmpFunc_int_2 (.seq slices_breakPatternsCmpFunc_int_3 (.seq slices_breakPatternsCmpFunc_int_4 slices_breakPatternsCmpFunc_int_15))) .skip Q e H := idE rfl
@[go_sem] def l_slices_order2CmpFunc_int_0 : List GOp := [⟨(some 10), .mv (.c (.int .i64 0)), none⟩,
    ⟨(some 11), .mv (.c (.int .i64 0)), none⟩]
def slices_order2CmpFunc_int_0 : IR := .ops l_slices_order2CmpFunc_int_0
@[go_sem] theorem w_slices_order2CmpFunc_int_0 : wp P slices_order2CmpFunc_int_0 Q e H = wpL P l_slices_order2CmpFunc_int_0 (Q .normal) e H := idE rfl
def l_slices_order2CmpFunc_int_1 : List GOp := [⟨(some 12), .mv (.t 4), none⟩,
    ⟨(some 13), .mv (.t 0), none⟩,
    ⟨(some 14), .mv (.t 2), none⟩,
    ⟨(some 15), .iaddr (.t 13) (.t 14) 1, none⟩,
    ⟨(some 16), .load (.t 15) 1 false, none⟩,
    ⟨(some 17), .mv (.t 0), none⟩,
    ⟨(some 18), .mv (.t 1), none⟩,
    ⟨(some 19), .iaddr (.t 17) (.t 18) 1, none⟩,
    ⟨(some 20), .load (.t 19) 1 false, none⟩,
    ⟨(some 21), .callv (.t 12) [(.t 16), (.t 20)], none⟩,
    ⟨(some 22), .bin .lss (.t 21) (.c (.int .i64 0)), none⟩]
@[go_sem] theorem g_slices_order2CmpFunc_int_1_0 : gAt l_slices_order2CmpFunc_int_1 0 = ⟨(some 12), .mv (.t 4), none⟩ := idE rfl
@[go_sem] theorem g_slices_order2CmpFunc_int_1_1 : gAt l_slices_order2CmpFunc_int_1 1 = ⟨(some 13), .mv (.t 0), none⟩ := idE rfl
@[go_sem] theorem g_slices_order2CmpFunc_int_1_2 : gAt l_slices_order2CmpFunc_int_1 2 = ⟨(some 14), .mv (.t 2), none⟩ := idE rfl
@[go_sem] theorem g_slices_order2CmpFunc_int_1_3 : gAt l_slices_order2CmpFunc_int_1 3 = ⟨(some 15), .iaddr (.t 13) (.t 14) 1, none⟩ := idE rfl
@[go_sem] theorem g_slices_order2CmpFunc_int_1_4 : gAt l_slices_order2CmpFunc_int_1 4 = ⟨(some 16), .load (.t 15) 1 false, none⟩ := idE rfl
@[go_sem] theorem g_slices_order2CmpFunc_int_1_5 : gAt l_slices_order2CmpFunc_int_1 5 = ⟨(some 17), .mv (.t 0), none⟩ := idE rfl
@[go_sem] theorem g_slices_order2CmpFunc_int_1_6 : gAt l_slices_order2CmpFunc_int_1 6 = ⟨(some 18), .mv (.t 1), none⟩ := idE rfl
@[go_sem] theorem g_slices_order2CmpFunc_int_1_7 : gAt l_slices_order2CmpFunc_int_1 7 = ⟨(some 19), .iaddr (.t 17) (.t 18) 1, none⟩ := idE rfl
@[go_sem] theorem g_slices_order2CmpFunc_int_1_8 : gAt l_slices_order2CmpFunc_int_1 8 = ⟨(some 20), .load (.t 19) 1 false, none⟩ := idE rfl
@[go_sem] theorem g_slices_order2CmpFunc_int_1_9 : gAt l_slices_order2CmpFunc_int_1 9 = ⟨(some 21), .callv (.t 12) [(.t 16), (.t 20)], none⟩ := idE rfl
@[go_sem] theorem g_slices_order2CmpFunc_int_1_10 : gAt l_slices_order2CmpFunc_int_1 10 = ⟨(some 22), .bin .lss (.t 21) (.c (.int .i64 0)), none⟩ := idE rfl
def slices_order2CmpFunc_int_1 : IR := .dops l_slices_order2CmpFunc_int_1 [(0, []), (1, []), (2, []), (3, []), (4, []), (5, []), (6, []), (7, []), (8, []), (9, []), (10, [])]
@[go_sem] theorem w_slices_order2CmpFunc_int_1 : wp P slices_order2CmpFunc_int_1 Q e H = wpD P l_slices_order2CmpFunc_int_1 [(0, []), (1, []), (2, []), (3, []), (4, []), (5, []), (6, []), (7, []), (8, []), (9, []), (10, [])] (Q .normal) e H := idE rfl
@[go_sem] def l_slices_order2CmpFunc_int_2 : List GOp := [⟨(some 23), .mv (.t 3), none⟩,
    ⟨(some 24), .nilck (.t 23), none⟩,
    ⟨(some 25), .load (.t 24) 1 false, none⟩,
    ⟨(some 26), .bin .add (.t 25) (.c (.int .i64 1)), none⟩,
    ⟨(some 27), .nilck (.t 23), none⟩,
    ⟨none, .store (.t 27) 1 (.t 26), none⟩]
def slices_order2CmpFunc_int_2 : IR := .ops l_slices_order2CmpFunc_int_2
@[go_sem] theorem w_slices_order2CmpFunc_int_2 : wp P slices_order2CmpFunc_int_2 Q e H = wpL P l_slices_order2CmpFunc_int_2 (Q .normal) e H := idE rfl
@[go_sem] def l_slices_order2CmpFunc_int_3 : List GOp := [⟨(some 28), .mv (.t 2), none⟩,
    ⟨(some 29), .mv (.t 1), none⟩,
    ⟨(some 10), .mv (.t 28), none⟩,
    ⟨(some 11), .mv (.t 29), none⟩]
def slices_order2CmpFunc_int_3 : IR := .ops l_slices_order2CmpFunc_int_3
@[go_sem] theorem w_slices_order2CmpFunc_int_3 : wp P slices_order2CmpFunc_int_3 Q e H = wpL P l_slices_order2CmpFunc_int_3 (Q .normal) e H := idE rfl
def slices_order2CmpFunc_int_4 : IR := .cond (.t 22) (.seq slices_order2CmpFunc_int_2 (.seq slices_order2CmpFunc_int_3 .ret)) .skip
@[go_sem] theorem w_slices_order2CmpFunc_int_4 : wp P slices_order2CmpFunc_int_4 Q e H = condW P ((.t 22) : X) (.seq slices_order2CmpFunc_int_2 (.seq slices_order2CmpFunc_int_3 .ret)) .skip Q e H := idE rfl
@[go_sem] def l_slices_order2CmpFunc_int_5 : List GOp := [⟨(some 30), .mv (.t 1), none⟩,
    ⟨(some 31), .mv (.t 2), none⟩,
    ⟨(some 10), .mv (.t 30), none⟩,
    ⟨(some 11), .mv (.t 31), none⟩]
def slices_order2CmpFunc_int_5 : IR := .ops l_slices_order2CmpFunc_int_5
@[go_sem] theorem w_slices_order2CmpFunc_int_5 : wp P slices_order2CmpFunc_int_5 Q e H = wpL P l_slices_order2CmpFunc_int_5 (Q .normal) e H := idE rfl
@[go_sem] def l_slices_medianCmpFunc_int_0 : List GOp := [⟨(some 12), .mv (.c (.int .i64 0)), none⟩]
def slices_medianCmpFunc_int_0 : IR := .ops l_slices_medianCmpFunc_int_0
@[go_sem] theorem w_slices_medianCmpFunc_int_0 : wp P slices_medianCmpFunc_int_0 Q e H = wpL P l_slices_medianCmpFunc_int_0 (Q .normal) e H := idE rfl
@[go_sem] def l_slices_medianCmpFunc_int_1 : List GOp := [⟨(some 14), .mv (.t 0), none⟩,
    ⟨(some 15), .mv (.t 1), none⟩,
    ⟨(some 16), .mv (.t 2), none⟩,
    ⟨(some 17), .mv (.t 4), none⟩,
    ⟨(some 18), .mv (.t 5), none⟩,
    ⟨(some 19), .call (n_slices_order2CmpFunc_int) [(.t 14), (.t 15), (.t 16), (.t 17), (.t 18)], none⟩,
    ⟨(some 13), .mv (.t 19), none⟩,
    ⟨(some 20), .ext (.t 13) 0, none⟩,
    ⟨(some 21), .ext (.t 13) 1, none⟩,
    ⟨(some 1), .mv (.t 20), none⟩,
    ⟨(some 2), .mv (.t 21), none⟩]
def slices_medianCmpFunc_int_1 : IR := .ops l_slices_medianCmpFunc_int_1
@[go_sem] theorem w_slices_medianCmpFunc_int_1 : wp P slices_medianCmpFunc_int_1 Q e H = wpL P l_slices_medianCmpFunc_int_1 (Q .normal) e H := idE rfl
@[go_sem] def l_slices_medianCmpFunc_int_2 : List GOp := [⟨(some 23), .mv (.t 0), none⟩,
    ⟨(some 24), .mv (.t 2), none⟩,
    ⟨(some 25), .mv (.t 3), none⟩,
    ⟨(some 26), .mv (.t 4), none⟩,
    ⟨(some 27), .mv (.t 5), none⟩,
    ⟨(some 28), .call (n_slices_order2CmpFunc_int) [(.t 23), (.t 24), (.t 25), (.t 26), (.t 27)], none⟩,
    ⟨(some 22), .mv (.t 28), none⟩,
    ⟨(some 29), .ext (.t 22) 0, none⟩,
    ⟨(some 30), .ext (.t 22) 1, none⟩,
    ⟨(some 2), .mv (.t 29), none⟩,
    ⟨(some 3), .mv (.t 30), none⟩]
def slices_medianCmpFunc_int_2 : IR := .ops l_slices_medianCmpFunc_int_2
@[go_sem] theorem w_slices_medianCmpFunc_int_2 : wp P slices_medianCmpFunc_int_2 Q e H = wpL P l_slices_medianCmpFunc_int_2 (Q .normal) e H := idE rfl
@[go_sem] def l_slices_medianCmpFunc_int_3 : List GOp := [⟨(some 32), .mv (.t 0), none⟩,
    ⟨(some 33), .mv (.t 1), none⟩,
    ⟨(some 34), .mv (.t 2), none⟩,
    ⟨(some 35), .mv (.t 4), none⟩,
    ⟨(some 36), .mv (.t 5), none⟩,
    ⟨(some 37), .call (n_slices_order2CmpFunc_int) [(.t 32), (.t 33), (.t 34), (.t 35), (.t 36)], none⟩,
    ⟨(some 31), .mv (.t 37), none⟩,
    ⟨(some 38), .ext (.t 31) 0, none⟩,
    ⟨(some 39), .ext (.t 31) 1, none⟩,
    ⟨(some 1), .mv (.t 38), none⟩,
    ⟨(some 2), .mv (.t 39), none⟩]
def slices_medianCmpFunc_int_3 : IR := .ops l_slices_medianCmpFunc_int_3
@[go_sem] theorem w_slices_medianCmpFunc_int_3 : wp P slices_medianCmpFunc_int_3 Q e H = wpL P l_slices_medianCmpFunc_int_3 (Q .normal) e H := idE rfl
@[go_sem] def l_slices_medianCmpFunc_int_4 : List GOp := [⟨(some 40), .mv (.t 2), none⟩,
    ⟨(some 12), .mv (.t 40), none⟩]
def slices_medianCmpFunc_int_4 : IR := .ops l_slices_medianCmpFunc_int_4
@[go_sem] theorem w_slices_medianCmpFunc_int_4 : wp P slices_medianCmpFunc_int_4 Q e H = wpL P l_slices_medianCmpFunc_int_4 (Q .normal) e H := idE rfl
@[go_sem] def l_slices_medianAdjacentCmpFunc_int_0 : List GOp := [⟨(some 8), .mv (.c (.int .i64 0)), none⟩]
def slices_medianAdjacentCmpFunc_int_0 : IR := .ops l_slices_medianAdjacentCmpFunc_int_0
@[go_sem] theorem w_slices_medianAdjacentCmpFunc_int_0 : wp P slices_medianAdjacentCmpFunc_int_0 Q e H = wpL P l_slices_medianAdjacentCmpFunc_int_0 (Q .normal) e H := idE rfl
@[go_sem] def l_slices_medianAdjacentCmpFunc_int_1 : List GOp := [⟨(some 9), .mv (.t 0), none⟩,
    ⟨(some 10), .mv (.t 1), none⟩,
    ⟨(some 11), .bin .sub (.t 10) (.c (.int .i64 1)), none⟩,
    ⟨(some 12), .mv (.t 1), none⟩,
    ⟨(some 13), .mv (.t 1), none⟩,
    ⟨(some 14), .bin .add (.t 13) (.c (.int .i64 1)), none⟩,
    ⟨(some 15), .mv (.t 2), none⟩,
    ⟨(some 16), .mv (.t 3), none⟩,
    ⟨(some 17), .call (n_slices_medianCmpFunc_int) [(.t 9), (.t 11), (.t 12), (.t 14), (.t 15), (.t 16)], none⟩,
    ⟨(some 8), .mv (.t 17), none⟩]
def slices_medianAdjacentCmpFunc_int_1 : IR := .ops l_slices_medianAdjacentCmpFunc_int_1
@[go_sem] theorem w_slices_medianAdjacentCmpFunc_int_1 : wp P slices_medianAdjacentCmpFunc_int_1 Q e H = wpL P l_slices_medianAdjacentCmpFunc_int_1 (Q .normal) e H := idE rfl
@[go_sem] def l_slices_choosePivotCmpFunc_int_0 : List GOp := [⟨(some 8), .mv (.c (.int .i64 0)), none⟩,
    ⟨(some 9), .mv (.c (.int .i64 0)), none⟩]
def slices_choosePivotCmpFunc_int_0 : IR := .ops l_slices_choosePivotCmpFunc_int_0
@[go_sem] theorem w_slices_choosePivotCmpFunc_int_0 : wp P slices_choosePivotCmpFunc_int_0 Q e H = wpL P l_slices_choosePivotCmpFunc_int_0 (Q .normal) e H := idE rfl
@[go_sem] def l_slices_choosePivotCmpFunc_int_1 : List GOp := [⟨(some 15), .mv (.t 2), none⟩,
    ⟨(some 16), .mv (.t 1), none⟩,
    ⟨(some 17), .bin .sub (.t 15) (.t 16), none⟩,
    ⟨(some 10), .mv (.t 17), none⟩]
def slices_choosePivotCmpFunc_int_1 : IR := .ops l_slices_choosePivotCmpFunc_int_1
@[go_sem] theorem w_slices_choosePivotCmpFunc_int_1 : wp P slices_choosePivotCmpFunc_int_1 Q e H = wpL P l_slices_choosePivotCmpFunc_int_1 (Q .normal) e H := idE rfl
@[go_sem] def l_slices_choosePivotCmpFunc_int_2 : List GOp := [⟨(some 11), .alloc [(.int .i64 0)], none⟩]
def slices_choosePivotCmpFunc_int_2 : IR := .ops l_slices_choosePivotCmpFunc_int_2
@[go_sem] theorem w_slices_choosePivotCmpFunc_int_2 : wp P slices_choosePivotCmpFunc_int_2 Q e H = wpL P l_slices_choosePivotCmpFunc_int_2 (Q .normal) e H := idE rfl
@[go_sem] def l_slices_choosePivotCmpFunc_int_3 : List GOp := [⟨(some 18), .mv (.t 1), none⟩,
    ⟨(some 19), .mv (.t 10), none⟩,
    ⟨(some 20), .bin .quo (.t 19) (.c (.int .i64 4)), none⟩,
    ⟨(some 21), .bin .mul (.t 20) (.c (.int .i64 1)), none⟩,
    ⟨(some 22), .bin .add (.t 18) (.t 21), none⟩,
    ⟨(some 12), .mv (.t 22), none⟩]
def slices_choosePivotCmpFunc_int_3 : IR := .ops l_slices_choosePivotCmpFunc_int_3
@[go_sem] theorem w_slices_choosePivotCmpFunc_int_3 : wp P slices_choosePivotCmpFunc_int_3 Q e H = wpL P l_slices_choosePivotCmpFunc_int_3 (Q .normal) e H := idE rfl
@[go_sem] def l_slices_choosePivotCmpFunc_int_4 : List GOp := [⟨(some 23), .mv (.t 1), none⟩,
    ⟨(some 24), .mv (.t 10), none⟩,
    ⟨(some 25), .bin .quo (.t 24) (.c (.int .i64 4)), none⟩,
    ⟨(some 26), .bin .mul (.t 25) (.c (.int .i64 2)), none⟩,
    ⟨(some 27), .bin .add (.t 23) (.t 26), none⟩,
    ⟨(some 13), .mv (.t 27), none⟩]
def slices_choosePivotCmpFunc_int_4 : IR := .ops l_slices_choosePivotCmpFunc_int_4
@[go_sem] theorem w_slices_choosePivotCmpFunc_int_4 : wp P slices_choosePivotCmpFunc_int_4 Q e H = wpL P l_slices_choosePivotCmpFunc_int_4 (Q .normal) e H := idE rfl
@[go_sem] def l_slices_choosePivotCmpFunc_int_5 : List GOp := [⟨(some 28), .mv (.t 1), none⟩,
    ⟨(some 29), .mv (.t 10), none⟩,
    ⟨(some 30), .bin .quo (.t 29) (.c (.int .i64 4)), none⟩,
    ⟨(some 31), .bin .mul (.t 30) (.c (.int .i64 3)), none⟩,
    ⟨(some 32), .bin .add (.t 28) (.t 31), none⟩,
    ⟨(some 14), .mv (.t 32), none⟩]
def slices_choosePivotCmpFunc_int_5 : IR := .ops l_slices_choosePivotCmpFunc_int_5
@[go_sem] theorem w_slices_choosePivotCmpFunc_int_5 : wp P slices_choosePivotCmpFunc_int_5 Q e H = wpL P l_slices_choosePivotCmpFunc_int_5 (Q .normal) e H := idE rfl
@[go_sem] def l_slices_choosePivotCmpFunc_int_6 : List GOp := [⟨(some 33), .mv (.t 10), none⟩,
    ⟨(some 34), .bin .geq (.t 33) (.c (.int .i64 8)), none⟩]
def slices_choosePivotCmpFunc_int_6 : IR := .ops l_slices_choosePivotCmpFunc_int_6
@[go_sem] theorem w_slices_choosePivotCmpFunc_int_6 : wp P slices_choosePivotCmpFunc_int_6 Q e H = wpL P l_slices_choosePivotCmpFunc_int_6 (Q .normal) e H := idE rfl
@[go_sem] def l_slices_choosePivotCmpFunc_int_7 : List GOp := [⟨(some 35), .mv (.t 10), none⟩,
    ⟨(some 36), .bin .geq (.t 35) (.c (.int .i64 50)), none⟩]
def slices_choosePivotCmpFunc_int_7 : IR := .ops l_slices_choosePivotCmpFunc_int_7
@[go_sem] theorem w_slices_choosePivotCmpFunc_int_7 : wp P slices_choosePivotCmpFunc_int_7 Q e H = wpL P l_slices_choosePivotCmpFunc_int_7 (Q .normal) e H := idE rfl
@[go_sem] def l_slices_choosePivotCmpFunc_int_8 : List GOp := [⟨(some 37), .mv (.t 0), none⟩,
    ⟨(some 38), .mv (.t 12), none⟩,
    ⟨(some 39), .mv (.t 3), none⟩,
    ⟨(some 40), .call (n_slices_medianAdjacentCmpFunc_int) [(.t 37), (.t 38), (.t 11), (.t 39)], none⟩,
    ⟨(some 12), .mv (.t 40), none⟩]
def slices_choosePivotCmpFunc_int_8 : IR := .ops l_slices_choosePivotCmpFunc_int_8
@[go_sem] theorem w_slices_choosePivotCmpFunc_int_8 : wp P slices_choosePivotCmpFunc_int_8 Q e H = wpL P l_slices_choosePivotCmpFunc_int_8 (Q .normal) e H := idE rfl
@[go_sem] def l_slices_choosePivotCmpFunc_int_9 : List GOp := [⟨(some 41), .mv (.t 0), none⟩,
    ⟨(some 42), .mv (.t 13), none⟩,
    ⟨(some 43), .mv (.t 3), none⟩,
    ⟨(some 44), .call (n_slices_medianAdjacentCmpFunc_int) [(.t 41), (.t 42), (.t 11), (.t 43)], none⟩,
    ⟨(some 13), .mv (.t 44), none⟩]
def slices_choosePivotCmpFunc_int_9 : IR := .ops l_slices_choosePivotCmpFunc_int_9
@[go_sem] theorem w_slices_choosePivotCmpFunc_int_9 : wp P slices_choosePivotCmpFunc_int_9 Q e H = wpL P l_slices_choosePivotCmpFunc_int_9 (Q .normal) e H := idE rfl
@[go_sem] def l_slices_choosePivotCmpFunc_int_10 : List GOp := [⟨(some 45), .mv (.t 0), none⟩,
    ⟨(some 46), .mv (.t 14), none⟩,
    ⟨(some 47), .mv (.t 3), none⟩,
    ⟨(some 48), .call (n_slices_medianAdjacentCmpFunc_int) [(.t 45), (.t 46), (.t 11), (.t 47)], none⟩,
    ⟨(some 14), .mv (.t 48), none⟩]
def slices_choosePivotCmpFunc_int_10 : IR := .ops l_slices_choosePivotCmpFunc_int_10
@[go_sem] theorem w_slices_choosePivotCmpFunc_int_10 : wp P slices_choosePivotCmpFunc_int_10 Q e H = wpL P l_slices_choosePivotCmpFunc_int_10 (Q .normal) e H := idE rfl
def slices_choosePivotCmpFunc_int_11 : IR := .cond (.t 36) (.seq slices_choosePivotCmpFunc_int_8 (.seq slices_choosePivotCmpFunc_int_9 slices_choosePivotCmpFunc_int_10)) .skip
@[go_sem] theorem w_slices_choosePivotCmpFunc_int_11 : wp P slices_choosePivotCmpFunc_int_11 Q e H = condW P ((.t 36) : X) (.seq slices_choosePivotCmpFunc_int_8 (.seq slices_choosePivotCmpFunc_int_9 slices_choosePivotCmpFunc_int_10)) .skip Q e H := idE rfl
@[go_sem] def l_slices_choosePivotCmpFunc_int_12 : List GOp := [⟨(some 49), .mv (.t 0), none⟩,
    ⟨(some 50), .mv (.t 12), none⟩,
    ⟨(some 51), .mv (.t 13), none⟩,
    ⟨(some 52), .mv (.t 14), none⟩,
    ⟨(some 53), .mv (.t 3), none⟩,
    ⟨(some 54), .call (n_slices_medianCmpFunc_int) [(.t 49), (.t 50), (.t 51), (.t 52), (.t 11), (.t 53)], none⟩,
    ⟨(some 13), .mv (.t 54), none⟩]
def slices_choosePivotCmpFunc_int_12 : IR := .ops l_slices_choosePivotCmpFunc_int_12
@[go_sem] theorem w_slices_choosePivotCmpFunc_int_12 : wp P slices_choosePivotCmpFunc_int_12 Q e H = wpL P l_slices_choosePivotCmpFunc_int_12 (Q .normal) e H := idE rfl
def slices_choosePivotCmpFunc_int_13 : IR := .cond (.t 34) (.seq (.seq slices_choosePivotCmpFunc_int_7 slices_choosePivotCmpFunc_int_11) slices_choosePivotCmpFunc_int_12) .skip
@[go_sem] theorem w_slices_choosePivotCmpFunc_int_13 : wp P slices_choosePivotCmpFunc_int_13 Q e H = condW P ((.t 34) : X) (.seq (.seq slices_choosePivotCmpFunc_int_7 slices_choosePivotCmpFunc_int_11) slices_choosePivotCmpFunc_int_12) .skip Q e H := idE rfl
@[go_sem] def l_slices_choosePivotCmpFunc_int_14 : List GOp := [⟨(some 55), .load (.t 11) 1 false, none⟩]
def slices_choosePivotCmpFunc_int_14 : IR := .ops l_slices_choosePivotCmpFunc_int_14
@[go_sem] theorem w_slices_choosePivotCmpFunc_int_14 : wp P slices_choosePivotCmpFunc_int_14 Q e H = wpL P l_slices_choosePivotCmpFunc_int_14 (Q .normal) e H := idE rfl
@[go_sem] def l_slices_choosePivotCmpFunc_int_15 : List GOp := [⟨(some 58), .bin .eql (.t 55) (.c (.int .i64 0)), none⟩,
    ⟨(some 57), .mv (.t 58), none⟩]
def slices_choosePivotCmpFunc_int_15 : IR := .ops l_slices_choosePivotCmpFunc_int_15
@[go_sem] theorem w_slices_choosePivotCmpFunc_int_15 : wp P slices_choosePivotCmpFunc_int_15 Q e H = wpL P l_slices_choosePivotCmpFunc_int_15 (Q .normal) e H := idE rfl
@[go_sem] def l_slices_choosePivotCmpFunc_int_16 : List GOp := [⟨(some 59), .mv (.t 13), none⟩,
    ⟨(some 8), .mv (.t 59), none⟩,
    ⟨(some 9), .mv (.c (.int .i64 1)), none⟩]
def slices_choosePivotCmpFunc_int_16 : IR := .ops l_slices_choosePivotCmpFunc_int_16
@[go_sem] theorem w_slices_choosePivotCmpFunc_int_16 : wp P slices_choosePivotCmpFunc_int_16 Q e H = wpL P l_slices_choosePivotCmpFunc_int_16 (Q .normal) e H := idE rfl
@[go_sem] def l_slices_choosePivotCmpFunc_int_17 : List GOp := [⟨(some 61), .bin .eql (.t 55) (.c (.int .i64 12)), none⟩,
    ⟨(some 60), .mv (.t 61), none⟩]
def slices_choosePivotCmpFunc_int_17 : IR := .ops l_slices_choosePivotCmpFunc_int_17
@[go_sem] theorem w_slices_choosePivotCmpFunc_int_17 : wp P slices_choosePivotCmpFunc_int_17 Q e H = wpL P l_slices_choosePivotCmpFunc_int_17 (Q .normal) e H := idE rfl
@[go_sem] def l_slices_choosePivotCmpFunc_int_18 : List GOp := [⟨(some 62), .mv (.t 13), none⟩,
    ⟨(some 8), .mv (.t 62), none⟩,
    ⟨(some 9), .mv (.c (.int .i64 2)), none⟩]
def slices_choosePivotCmpFunc_int_18 : IR := .ops l_slices_choosePivotCmpFunc_int_18
@[go_sem] theorem w_slices_choosePivotCmpFunc_int_18 : wp P slices_choosePivotCmpFunc_int_18 Q e H = wpL P l_slices_choosePivotCmpFunc_int_18 (Q .normal) e H := idE rfl
@[go_sem] def l_slices_choosePivotCmpFunc_int_19 : List GOp := [⟨(some 56), .mv (.t 13), none⟩,
    ⟨(some 8), .mv (.t 56), none⟩,
    ⟨(some 9), .mv (.c (.int .i64 0)), none⟩]
def slices_choosePivotCmpFunc_int_19 : IR := .ops l_slices_choosePivotCmpFunc_int_19
@[go_sem] theorem w_slices_choosePivotCmpFunc_int_19 : wp P slices_choosePivotCmpFunc_int_19 Q e H = wpL P l_slices_choosePivotCmpFunc_int_19 (Q .normal) e H := idE rfl
def slices_choosePivotCmpFunc_int_20 : IR := .cond (.t 60) (.seq slices_choosePivotCmpFunc_int_18 .ret) (.seq slices_choosePivotCmpFunc_int_19 .ret)
@[go_sem] theorem w_slices_choosePivotCmpFunc_int_20 : wp P slices_choosePivotCmpFunc_int_20 Q e H = condW P ((.t 60) : X) (.seq slices_choosePivotCmpFunc_int_18 .ret) (.seq slices_choosePivotCmpFunc_int_19 .ret) Q e H := idE rfl
def slices_choosePivotCmpFunc_int_21 : IR := .cond (.t 57) (.seq slices_choosePivotCmpFunc_int_16 .ret) (.seq slices_choosePivotCmpFunc_int_17 slices_choosePivotCmpFunc_int_20)
@[go_sem] theorem w_slices_choosePivotCmpFunc_int_21 : wp P slices_choosePivotCmpFunc_int_21 Q e H = condW P ((.t 57) : X) (.seq slices_choosePivotCmpFunc_int_16 .ret) (.seq slices_choosePivotCmpFunc_int_17 slices_choosePivotCmpFunc_int_20) Q e H := idE rfl
def slices_choosePivotCmpFunc_int_22 : IR := .block 0 (.seq slices_choosePivotCmpFunc_int_15 slices_choosePivotCmpFunc_int_21)
@[go_sem] theorem w_slices_choosePivotCmpFunc_int_22 : wp P slices_choosePivotCmpFunc_int_22 Q e H = wp P (.seq slices_choosePivotCmpFunc_int_15 slices_choosePivotCmpFunc_int_21) (blockQ 0 Q) e H := idE rfl
@[go_sem] def l_slices_reverseRangeCmpFunc_int_0 : List GOp := [⟨(some 10), .mv (.t 1), none⟩,
    ⟨(some 8), .mv (.t 10), none⟩]
def slices_reverseRangeCmpFunc_int_0 : IR := .ops l_slices_reverseRangeCmpFunc_int_0
@[go_sem] theorem w_slices_reverseRangeCmpFunc_int_0 : wp P slices_reverseRangeCmpFunc_int_0 Q e H = wpL P l_slices_reverseRangeCmpFunc_int_0 (Q .normal) e H := idE rfl
@[go_sem] def l_slices_reverseRangeCmpFunc_int_1 : List GOp := [⟨(some 11), .mv (.t 2), none⟩,
    ⟨(some 12), .bin .sub (.t 11) (.c (.int .i64 1)), none⟩,
    ⟨(some 9), .mv (.t 12), none⟩]
def slices_reverseRangeCmpFunc_int_1 : IR := .ops l_slices_reverseRangeCmpFunc_int_1
@[go_sem] theorem w_slices_reverseRangeCmpFunc_int_1 : wp P slices_reverseRangeCmpFunc_int_1 Q e H = wpL P l_slices_reverseRangeCmpFunc_int_1 (Q .normal) e H := idE rfl
@[go_sem] def l_slices_reverseRangeCmpFunc_int_2 : List GOp := [⟨(some 13), .mv (.t 8), none⟩,
    ⟨(some 14), .mv (.t 9), none⟩,
    ⟨(some 15), .bin .lss (.t 13) (.t 14), none⟩]
def slices_reverseRangeCmpFunc_int_2 : IR := .ops l_slices_reverseRangeCmpFunc_int_2
@[go_sem] theorem w_slices_reverseRangeCmpFunc_int_2 : wp P slices_reverseRangeCmpFunc_int_2 Q e H = wpL P l_slices_reverseRangeCmpFunc_int_2 (Q .normal) e H := idE rfl
def slices_reverseRangeCmpFunc_int_3 : IR := .cond (.t 15) .skip (.exit 0)
@[go_sem] theorem w_slices_reverseRangeCmpFunc_int_3 : wp P slices_reverseRangeCmpFunc_int_3 Q e H = condW P ((.t 15) : X) .skip (.exit 0) Q e H := idE rfl
def l_slices_reverseRangeCmpFunc_int_4 : List GOp := [⟨(some 16), .mv (.t 0), none⟩,
    ⟨(some 17), .mv (.t 8), none⟩,
    ⟨(some 18), .mv (.t 0), none⟩,
    ⟨(some 19), .mv (.t 9), none⟩,
    ⟨(some 20), .mv (.t 0), none⟩,
    ⟨(some 21), .mv (.t 9), none⟩,
    ⟨(some 22), .iaddr (.t 20) (.t 21) 1, none⟩,
    ⟨(some 23), .load (.t 22) 1 false, none⟩,
    ⟨(some 24), .mv (.t 0), none⟩,
    ⟨(some 25), .mv (.t 8), none⟩,
    ⟨(some 26), .iaddr (.t 24) (.t 25) 1, none⟩,
    ⟨(some 27), .load (.t 26) 1 false, none⟩,
    ⟨(some 28), .iaddr (.t 16) (.t 17) 1, none⟩,
    ⟨none, .store (.t 28) 1 (.t 23), none⟩,
    ⟨(some 29), .iaddr (.t 18) (.t 19) 1, none⟩,
    ⟨none, .store (.t 29) 1 (.t 27), none⟩]
@[go_sem] theorem g_slices_reverseRangeCmpFunc_int_4_0 : gAt l_slices_reverseRangeCmpFunc_int_4 0 = ⟨(some 16), .mv (.t 0), none⟩ := idE rfl
@[go_sem] theorem g_slices_reverseRangeCmpFunc_int_4_1 : gAt l_slices_reverseRangeCmpFunc_int_4 1 = ⟨(some 17), .mv (.t 8), none⟩ := idE rfl
@[go_sem] theorem g_slices_reverseRangeCmpFunc_int_4_2 : gAt l_slices_reverseRangeCmpFunc_int_4 2 = ⟨(some 18), .mv (.t 0), none⟩ := idE rfl
@[go_sem] theorem g_slices_reverseRangeCmpFunc_int_4_3 : gAt l_slices_reverseRangeCmpFunc_int_4 3 = ⟨(some 19), .mv (.t 9), none⟩ := idE rfl
@[go_sem] theorem g_slices_reverseRangeCmpFunc_int_4_4 : gAt l_slices_reverseRangeCmpFunc_int_4 4 = ⟨(some 20), .mv (.t 0), none⟩ := idE rfl
@[go_sem] theorem g_slices_reverseRangeCmpFunc_int_4_5 : gAt l_slices_reverseRangeCmpFunc_int_4 5 = ⟨(some 21), .mv (.t 9), none⟩ := idE rfl
@[go_sem] theorem g_slices_reverseRangeCmpFunc_int_4_6 : gAt l_slices_reverseRangeCmpFunc_int_4 6 = ⟨(some 22), .iaddr (.t 20) (.t 21) 1, none⟩ := idE rfl
@[go_sem] theorem g_slices_reverseRangeCmpFunc_int_4_7 : gAt l_slices_reverseRangeCmpFunc_int_4 7 = ⟨(some 23), .load (.t 22) 1 false, none⟩ := idE rfl
@[go_sem] theorem g_slices_reverseRangeCmpFunc_int_4_8 : gAt l_slices_reverseRangeCmpFunc_int_4 8 = ⟨(some 24), .mv (.t 0), none⟩ := idE rfl
@[go_sem] theorem g_slices_reverseRangeCmpFunc_int_4_9 : gAt l_slices_reverseRangeCmpFunc_int_4 9 = ⟨(some 25), .mv (.t 8), none⟩ := idE rfl
@[go_sem] theorem g_slices_reverseRangeCmpFunc_int_4_10 : gAt l_slices_reverseRangeCmpFunc_int_4 10 = ⟨(some 26), .iaddr (.t 24) (.t 25) 1, none⟩ := idE rfl
@[go_sem] theorem g_slices_reverseRangeCmpFunc_int_4_11 : gAt l_slices_reverseRangeCmpFunc_int_4 11 = ⟨(some 27), .load (.t 26) 1 false, none⟩ := idE rfl
@[go_sem] theorem g_slices_reverseRangeCmpFunc_int_4_12 : gAt l_slices_reverseRangeCmpFunc_int_4 12 = ⟨(some 28), .iaddr (.t 16) (.t 17) 1, none⟩ := idE rfl
@[go_sem] theorem g_slices_reverseRangeCmpFunc_int_4_13 : gAt l_slices_reverseRangeCmpFunc_int_4 13 = ⟨none, .store (.t 28) 1 (.t 23), none⟩ := idE rfl
@[go_sem] theorem g_slices_reverseRangeCmpFunc_int_4_14 : gAt l_slices_reverseRangeCmpFunc_int_4 14 = ⟨(some 29), .iaddr (.t 18) (.t 19) 1, none⟩ := idE rfl
@[go_sem] theorem g_slices_reverseRangeCmpFunc_int_4_15 : gAt l_slices_reverseRangeCmpFunc_int_4 15 = ⟨none, .store (.t 29) 1 (.t 27), none⟩ := idE rfl
def slices_reverseRangeCmpFunc_int_4 : IR := .dops l_slices_reverseRangeCmpFunc_int_4 [(0, []), (1, []), (2, []), (3, []), (4, []), (5, []), (6, []), (7, []), (8, []), (9, []), (10, []), (11, []), (12, []), (13, []), (14, []), (15, [])]
@[go_sem] theorem w_slices_reverseRangeCmpFunc_int_4 : wp P slices_reverseRangeCmpFunc_int_4 Q e H = wpD P l_slices_reverseRangeCmpFunc_int_4 [(0, []), (1, []), (2, []), (3, []), (4, []), (5, []), (6, []), (7, []), (8, []), (9, []), (10, []), (11, []), (12, []), (13, []), (14, []), (15, [])] (Q .normal) e H := idE rfl
@[go_sem] def l_slices_reverseRangeCmpFunc_int_5 : List GOp := [⟨(some 30), .mv (.t 8), none⟩,
    ⟨(some 31), .bin .add (.t 30) (.c (.int .i64 1)), none⟩,
    ⟨(some 8), .mv (.t 31), none⟩]
def slices_reverseRangeCmpFunc_int_5 : IR := .ops l_slices_reverseRangeCmpFunc_int_5
@[go_sem] theorem w_slices_reverseRangeCmpFunc_int_5 : wp P slices_reverseRangeCmpFunc_int_5 Q e H = wpL P l_slices_reverseRangeCmpFunc_int_5 (Q .normal) e H := idE rfl
@[go_sem] def l_slices_reverseRangeCmpFunc_int_6 : List GOp := [⟨(some 32), .mv (.t 9), none⟩,
    ⟨(some 33), .bin .sub (.t 32) (.c (.int .i64 1)), none⟩,
    ⟨(some 9), .mv (.t 33), none⟩]
def slices_reverseRangeCmpFunc_int_6 : IR := .ops l_slices_reverseRangeCmpFunc_int_6
@[go_sem] theorem w_slices_reverseRangeCmpFunc_int_6 : wp P slices_reverseRangeCmpFunc_int_6 Q e H = wpL P l_slices_reverseRangeCmpFunc_int_6 (Q .normal) e H := idE rfl
def slices_reverseRangeCmpFunc_int_7 : IR := .block 1 (.seq slices_reverseRangeCmpFunc_int_4 (.seq slices_reverseRangeCmpFunc_int_5 slices_reverseRangeCmpFunc_int_6))
@[go_sem] theorem w_slices_reverseRangeCmpFunc_int_7 : wp P slices_reverseRangeCmpFunc_int_7 Q e H = wp P (.seq slices_reverseRangeCmpFunc_int_4 (.seq slices_reverseRangeCmpFunc_int_5 slices_reverseRangeCmpFunc_int_6)) (blockQ 1 Q) e H := idE rfl
def slices_reverseRangeCmpFunc_int_8 : IR := .loop (.seq (.seq slices_reverseRangeCmpFunc_int_2 slices_reverseRangeCmpFunc_int_3) slices_reverseRangeCmpFunc_int_7)
def slices_reverseRangeCmpFunc_int_9 : IR := .block 0 slices_reverseRangeCmpFunc_int_8
@[go_sem] theorem w_slices_reverseRangeCmpFunc_int_9 : wp P slices_reverseRangeCmpFunc_int_9 Q e H = wp P slices_reverseRangeCmpFunc_int_8 (blockQ 0 Q) e H := idE rfl
end Go.M2
