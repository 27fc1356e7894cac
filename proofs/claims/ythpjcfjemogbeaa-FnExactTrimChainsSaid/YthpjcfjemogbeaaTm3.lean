/- The functions, turned for the memory: printed by program. -/
import Derived.Test.YthpjcfjemogbeaaTm2
import Derived.Test.YthpjcfjemogbeaaProg
import Derived.KernelRfl
set_option linter.unusedVariables false
set_option linter.unusedSimpArgs false
set_option maxRecDepth 10000
set_option maxHeartbeats 4000000
namespace Go.M2
open Go.Proofs
variable {P : Program} {Q : Post} {e : Env} {H : Heap} {args : List AV} {R : AV → Heap → Prop}
theorem mixed : Try.prog.follows .mixedOrders = true := by kernel_rfl
def n_laws_szIntS : Nat := 91
def n_laws_szIntSS : Nat := 53
def n_laws_szClauses : Nat := 14
def n_laws_szChain : Nat := 54
def n_laws_szChainS : Nat := 15
def n_laws_toIntS : Nat := 94
def n_laws_toIntSS : Nat := 57
def n_laws_toClauses : Nat := 17
def n_laws_toChain : Nat := 58
def n_laws_toChainS : Nat := 18
def n_spec_l1In : Nat := 55
def n_spec_l11Lit : Nat := 105
def n_spec_l11Abs : Nat := 106
def n_spec_ClauseValid : Nat := 71
def n_spec_ClausesValid : Nat := 28
def n_spec_l2Same : Nat := 92
def n_spec_l2Has : Nat := 120
def n_spec_l11Without : Nat := 123
def n_spec_l3Copy : Nat := 88
def n_spec_l11Join : Nat := 122
def n_spec_l11Clause : Nat := 121
def n_spec_Resolved : Nat := 93
def n_spec_l13Step : Nat := 56
def n_spec_CheckChains : Nat := 16
def n_spec_l13Needed : Nat := 80
def n_spec_TrimChains : Nat := 49
def n_impl_in : Nat := 59
def n_impl_atomOf : Nat := 104
def n_impl_ClauseValid : Nat := 70
def n_impl_ClausesValid_1 : Nat := 69
def n_slices_IndexFunc_SSint_Sint : Nat := 103
def n_slices_ContainsFunc_SSint_Sint : Nat := 68
def n_impl_ClausesValid : Nat := 27
def n_slices_Equal_Sint_int : Nat := 60
def n_slices_Index_Sint_int : Nat := 124
def n_slices_Contains_Sint_int : Nat := 95
def n_slices_Clone_Sint_int : Nat := 125
def n_math_bits_Len32 : Nat := 155
def n_math_bits_Len64 : Nat := 156
def n_math_bits_Len : Nat := 140
def n_slices_insertionSortCmpFunc_int : Nat := 147
def n_slices_siftDownCmpFunc_int : Nat := 158
def n_slices_heapSortCmpFunc_int : Nat := 148
def n_slices_nextPowerOfTwo : Nat := 159
def n_slices_xorshift_Next : Nat := 160
def n_slices_breakPatternsCmpFunc_int : Nat := 149
def n_slices_order2CmpFunc_int : Nat := 163
def n_slices_medianCmpFunc_int : Nat := 162
def n_slices_medianAdjacentCmpFunc_int : Nat := 161
def n_slices_choosePivotCmpFunc_int : Nat := 150
def n_slices_reverseRangeCmpFunc_int : Nat := 151
def n_slices_partialInsertionSortCmpFunc_int : Nat := 152
def n_slices_partitionEqualCmpFunc_int : Nat := 153
def n_slices_partitionCmpFunc_int : Nat := 154
def n_slices_pdqsortCmpFunc_int : Nat := 139
def n_slices_SortFunc_Sint_int : Nat := 126
def n_cmp_isNaN_int : Nat := 141
def n_cmp_Compare_int : Nat := 129
def n_cmp_Or_int : Nat := 128
def n_impl_clauseOf_1 : Nat := 127
def n_slices_Compact_Sint_int : Nat := 130
def n_impl_clone_int : Nat := 74
def n_impl_clauseOf : Nat := 96
def n_impl_Resolved : Nat := 61
def n_impl_CheckChains : Nat := 19
def n_impl_neededSteps : Nat := 82
def n_impl_clone_impl_Chain : Nat := 118
def n_impl_trimChains : Nat := 89
def n_impl_TrimChains : Nat := 50
def n_laws_eqIntS : Nat := 32
def n_laws_eqChain : Nat := 62
def n_laws_eqChainS : Nat := 21
def n_laws_eqIntSS : Nat := 36
def n_laws_eqClauses : Nat := 20
def n_laws_markIntS : Nat := 34
def n_laws_markIntSS : Nat := 37
def n_laws_markClauses : Nat := 33
def n_laws_markChainS : Nat := 45
def n_laws_heldIntS : Nat := 35
def n_laws_heldChainS : Nat := 51
def n_laws_FnExactTrimChains : Nat := 12
@[go_sem] def l_laws_szIntS_0 : List GOp := [⟨(some 4), .mv (.c (.int .i64 0)), none⟩]
def laws_szIntS_0 : IR := .ops l_laws_szIntS_0
@[go_sem] theorem w_laws_szIntS_0 : wp P laws_szIntS_0 Q e H = wpL P l_laws_szIntS_0 (Q .normal) e H := idE rfl
@[go_sem] def l_laws_szIntS_1 : List GOp := [⟨(some 5), .mv (.t 1), none⟩,
    ⟨(some 6), .mv (.t 0), none⟩,
    ⟨(some 7), .len (.t 6), none⟩,
    ⟨(some 8), .bin .sub (.t 5) (.t 7), none⟩,
    ⟨(some 1), .mv (.t 8), none⟩]
def laws_szIntS_1 : IR := .ops l_laws_szIntS_1
@[go_sem] theorem w_laws_szIntS_1 : wp P laws_szIntS_1 Q e H = wpL P l_laws_szIntS_1 (Q .normal) e H := idE rfl
@[go_sem] def l_laws_szIntS_2 : List GOp := [⟨(some 9), .mv (.t 1), none⟩,
    ⟨(some 10), .bin .lss (.t 9) (.c (.int .i64 0)), none⟩]
def laws_szIntS_2 : IR := .ops l_laws_szIntS_2
@[go_sem] theorem w_laws_szIntS_2 : wp P laws_szIntS_2 Q e H = wpL P l_laws_szIntS_2 (Q .normal) e H := idE rfl
@[go_sem] def l_laws_szIntS_3 : List GOp := [⟨(some 4), .mv (.c (.int .i64 (-1))), none⟩]
def laws_szIntS_3 : IR := .ops l_laws_szIntS_3
@[go_sem] theorem w_laws_szIntS_3 : wp P laws_szIntS_3 Q e H = wpL P l_laws_szIntS_3 (Q .normal) e H := idE rfl
def laws_szIntS_4 : IR := .cond (.t 10) (.seq laws_szIntS_3 .ret) .skip
@[go_sem] theorem w_laws_szIntS_4 : wp P laws_szIntS_4 Q e H = condW P ((.t 10) : X) (.seq laws_szIntS_3 .ret) .skip Q e H := idE rfl
@[go_sem] def l_laws_szIntS_5 : List GOp := [⟨(some 11), .mv (.t 1), none⟩,
    ⟨(some 4), .mv (.t 11), none⟩]
def laws_szIntS_5 : IR := .ops l_laws_szIntS_5
@[go_sem] theorem w_laws_szIntS_5 : wp P laws_szIntS_5 Q e H = wpL P l_laws_szIntS_5 (Q .normal) e H := idE rfl
def F_laws_szIntS : IFn := ⟨2, 12, [.t 4], (.seq laws_szIntS_0 (.seq laws_szIntS_1 (.seq (.seq laws_szIntS_2 laws_szIntS_4) (.seq laws_szIntS_5 .ret))))⟩
theorem c_laws_szIntS : compFn Try.prog [(0, [], []), (1, [], []), (2, [], []), (3, [], []), (4, [], [])] Try.f91 = some F_laws_szIntS := by kernel_rfl
theorem a_laws_szIntS (hl : args.length = 2) (h : wp Try.prog (.seq laws_szIntS_0 (.seq laws_szIntS_1 (.seq (.seq laws_szIntS_2 laws_szIntS_4) (.seq laws_szIntS_5 .ret)))) (postQ [.t 4] R) (env0 args) H) : ACall Try.prog n_laws_szIntS args H R :=
  acall_of_wp mixed Try.func91 c_laws_szIntS (by kernel_rfl) hl h
@[go_sem] def l_laws_szIntSS_0 : List GOp := [⟨(some 4), .mv (.c (.int .i64 0)), none⟩]
def laws_szIntSS_0 : IR := .ops l_laws_szIntSS_0
@[go_sem] theorem w_laws_szIntSS_0 : wp P laws_szIntSS_0 Q e H = wpL P l_laws_szIntSS_0 (Q .normal) e H := idE rfl
@[go_sem] def l_laws_szIntSS_1 : List GOp := [⟨(some 6), .mv (.t 1), none⟩,
    ⟨(some 7), .mv (.t 0), none⟩,
    ⟨(some 8), .len (.t 7), none⟩,
    ⟨(some 9), .bin .sub (.t 6) (.t 8), none⟩,
    ⟨(some 1), .mv (.t 9), none⟩]
def laws_szIntSS_1 : IR := .ops l_laws_szIntSS_1
@[go_sem] theorem w_laws_szIntSS_1 : wp P laws_szIntSS_1 Q e H = wpL P l_laws_szIntSS_1 (Q .normal) e H := idE rfl
@[go_sem] def l_laws_szIntSS_2 : List GOp := [⟨(some 10), .mv (.t 1), none⟩,
    ⟨(some 11), .bin .lss (.t 10) (.c (.int .i64 0)), none⟩]
def laws_szIntSS_2 : IR := .ops l_laws_szIntSS_2
@[go_sem] theorem w_laws_szIntSS_2 : wp P laws_szIntSS_2 Q e H = wpL P l_laws_szIntSS_2 (Q .normal) e H := idE rfl
@[go_sem] def l_laws_szIntSS_3 : List GOp := [⟨(some 4), .mv (.c (.int .i64 (-1))), none⟩]
def laws_szIntSS_3 : IR := .ops l_laws_szIntSS_3
@[go_sem] theorem w_laws_szIntSS_3 : wp P laws_szIntSS_3 Q e H = wpL P l_laws_szIntSS_3 (Q .normal) e H := idE rfl
def laws_szIntSS_4 : IR := .cond (.t 11) (.seq laws_szIntSS_3 .ret) .skip
@[go_sem] theorem w_laws_szIntSS_4 : wp P laws_szIntSS_4 Q e H = condW P ((.t 11) : X) (.seq laws_szIntSS_3 .ret) .skip Q e H := idE rfl
@[go_sem] def l_laws_szIntSS_5 : List GOp := [⟨(some 5), .mv (.c (.int .i64 0)), none⟩]
def laws_szIntSS_5 : IR := .ops l_laws_szIntSS_5
@[go_sem] theorem w_laws_szIntSS_5 : wp P laws_szIntSS_5 Q e H = wpL P l_laws_szIntSS_5 (Q .normal) e H := idE rfl
@[go_sem] def l_laws_szIntSS_6 : List GOp := [⟨(some 12), .mv (.t 5), none⟩,
    ⟨(some 13), .mv (.t 0), none⟩,
    ⟨(some 14), .len (.t 13), none⟩,
    ⟨(some 15), .bin .lss (.t 12) (.t 14), none⟩]
def laws_szIntSS_6 : IR := .ops l_laws_szIntSS_6
@[go_sem] theorem w_laws_szIntSS_6 : wp P laws_szIntSS_6 Q e H = wpL P l_laws_szIntSS_6 (Q .normal) e H := idE rfl
def laws_szIntSS_7 : IR := .cond (.t 15) .skip (.exit 0)
@[go_sem] theorem w_laws_szIntSS_7 : wp P laws_szIntSS_7 Q e H = condW P ((.t 15) : X) .skip (.exit 0) Q e H := idE rfl
@[go_sem] def l_laws_szIntSS_8 : List GOp := [⟨(some 18), .mv (.t 0), none⟩,
    ⟨(some 19), .mv (.t 5), none⟩,
    ⟨(some 20), .iaddr (.t 18) (.t 19) 1, none⟩,
    ⟨(some 21), .load (.t 20) 1 false, none⟩,
    ⟨(some 22), .mv (.t 1), none⟩,
    ⟨(some 23), .call (n_laws_szIntS) [(.t 21), (.t 22)], none⟩,
    ⟨(some 1), .mv (.t 23), none⟩]
def laws_szIntSS_8 : IR := .ops l_laws_szIntSS_8
@[go_sem] theorem w_laws_szIntSS_8 : wp P laws_szIntSS_8 Q e H = wpL P l_laws_szIntSS_8 (Q .normal) e H := idE rfl
@[go_sem] def l_laws_szIntSS_9 : List GOp := [⟨(some 24), .mv (.t 1), none⟩,
    ⟨(some 25), .bin .lss (.t 24) (.c (.int .i64 0)), none⟩]
def laws_szIntSS_9 : IR := .ops l_laws_szIntSS_9
@[go_sem] theorem w_laws_szIntSS_9 : wp P laws_szIntSS_9 Q e H = wpL P l_laws_szIntSS_9 (Q .normal) e H := idE rfl
@[go_sem] def l_laws_szIntSS_10 : List GOp := [⟨(some 4), .mv (.c (.int .i64 (-1))), none⟩]
def laws_szIntSS_10 : IR := .ops l_laws_szIntSS_10
@[go_sem] theorem w_laws_szIntSS_10 : wp P laws_szIntSS_10 Q e H = wpL P l_laws_szIntSS_10 (Q .normal) e H := idE rfl
def laws_szIntSS_11 : IR := .cond (.t 25) (.seq laws_szIntSS_10 .ret) .skip
@[go_sem] theorem w_laws_szIntSS_11 : wp P laws_szIntSS_11 Q e H = condW P ((.t 25) : X) (.seq laws_szIntSS_10 .ret) .skip Q e H := idE rfl
def laws_szIntSS_12 : IR := .block 1 (.seq laws_szIntSS_8 (.seq laws_szIntSS_9 laws_szIntSS_11))
@[go_sem] theorem w_laws_szIntSS_12 : wp P laws_szIntSS_12 Q e H = wp P (.seq laws_szIntSS_8 (.seq laws_szIntSS_9 laws_szIntSS_11)) (blockQ 1 Q) e H := idE rfl
@[go_sem] def l_laws_szIntSS_13 : List GOp := [⟨(some 16), .mv (.t 5), none⟩,
    ⟨(some 17), .bin .add (.t 16) (.c (.int .i64 1)), none⟩,
    ⟨(some 5), .mv (.t 17), none⟩]
def laws_szIntSS_13 : IR := .ops l_laws_szIntSS_13
@[go_sem] theorem w_laws_szIntSS_13 : wp P laws_szIntSS_13 Q e H = wpL P l_laws_szIntSS_13 (Q .normal) e H := idE rfl
def laws_szIntSS_14 : IR := .loop (.seq (.seq laws_szIntSS_6 laws_szIntSS_7) (.seq laws_szIntSS_12 laws_szIntSS_13))
def laws_szIntSS_15 : IR := .block 0 laws_szIntSS_14
@[go_sem] theorem w_laws_szIntSS_15 : wp P laws_szIntSS_15 Q e H = wp P laws_szIntSS_14 (blockQ 0 Q) e H := idE rfl
@[go_sem] def l_laws_szIntSS_16 : List GOp := [⟨(some 26), .mv (.t 1), none⟩,
    ⟨(some 4), .mv (.t 26), none⟩]
def laws_szIntSS_16 : IR := .ops l_laws_szIntSS_16
@[go_sem] theorem w_laws_szIntSS_16 : wp P laws_szIntSS_16 Q e H = wpL P l_laws_szIntSS_16 (Q .normal) e H := idE rfl
def F_laws_szIntSS : IFn := ⟨2, 27, [.t 4], (.seq laws_szIntSS_0 (.seq laws_szIntSS_1 (.seq (.seq laws_szIntSS_2 laws_szIntSS_4) (.seq (.seq laws_szIntSS_5 laws_szIntSS_15) (.seq laws_szIntSS_16 .ret)))))⟩
theorem c_laws_szIntSS : compFn Try.prog [(0, [], []), (1, [], []), (2, [], []), (3, [], []), (4, [], []), (5, [], []), (7, [], []), (8, [], []), (9, [], []), (6, [], []), (10, [], [])] Try.f53 = some F_laws_szIntSS := by kernel_rfl
theorem a_laws_szIntSS (hl : args.length = 2) (h : wp Try.prog (.seq laws_szIntSS_0 (.seq laws_szIntSS_1 (.seq (.seq laws_szIntSS_2 laws_szIntSS_4) (.seq (.seq laws_szIntSS_5 laws_szIntSS_15) (.seq laws_szIntSS_16 .ret))))) (postQ [.t 4] R) (env0 args) H) : ACall Try.prog n_laws_szIntSS args H R :=
  acall_of_wp mixed Try.func53 c_laws_szIntSS (by kernel_rfl) hl h
@[go_sem] def l_laws_szClauses_0 : List GOp := [⟨(some 2), .box (.t 0), none⟩,
    ⟨(some 4), .mv (.c (.int .i64 0)), none⟩]
def laws_szClauses_0 : IR := .ops l_laws_szClauses_0
@[go_sem] theorem w_laws_szClauses_0 : wp P laws_szClauses_0 Q e H = wpL P l_laws_szClauses_0 (Q .normal) e H := idE rfl
@[go_sem] def l_laws_szClauses_1 : List GOp := [⟨(some 5), .faddr (.t 2) 1, none⟩,
    ⟨(some 6), .load (.t 5) 1 false, none⟩,
    ⟨(some 7), .mv (.t 1), none⟩,
    ⟨(some 8), .call (n_laws_szIntSS) [(.t 6), (.t 7)], none⟩,
    ⟨(some 1), .mv (.t 8), none⟩]
def laws_szClauses_1 : IR := .ops l_laws_szClauses_1
@[go_sem] theorem w_laws_szClauses_1 : wp P laws_szClauses_1 Q e H = wpL P l_laws_szClauses_1 (Q .normal) e H := idE rfl
@[go_sem] def l_laws_szClauses_2 : List GOp := [⟨(some 9), .mv (.t 1), none⟩,
    ⟨(some 10), .bin .lss (.t 9) (.c (.int .i64 0)), none⟩]
def laws_szClauses_2 : IR := .ops l_laws_szClauses_2
@[go_sem] theorem w_laws_szClauses_2 : wp P laws_szClauses_2 Q e H = wpL P l_laws_szClauses_2 (Q .normal) e H := idE rfl
@[go_sem] def l_laws_szClauses_3 : List GOp := [⟨(some 4), .mv (.c (.int .i64 (-1))), none⟩]
def laws_szClauses_3 : IR := .ops l_laws_szClauses_3
@[go_sem] theorem w_laws_szClauses_3 : wp P laws_szClauses_3 Q e H = wpL P l_laws_szClauses_3 (Q .normal) e H := idE rfl
def laws_szClauses_4 : IR := .cond (.t 10) (.seq laws_szClauses_3 .ret) .skip
@[go_sem] theorem w_laws_szClauses_4 : wp P laws_szClauses_4 Q e H = condW P ((.t 10) : X) (.seq laws_szClauses_3 .ret) .skip Q e H := idE rfl
@[go_sem] def l_laws_szClauses_5 : List GOp := [⟨(some 11), .mv (.t 1), none⟩,
    ⟨(some 4), .mv (.t 11), none⟩]
def laws_szClauses_5 : IR := .ops l_laws_szClauses_5
@[go_sem] theorem w_laws_szClauses_5 : wp P laws_szClauses_5 Q e H = wpL P l_laws_szClauses_5 (Q .normal) e H := idE rfl
def F_laws_szClauses : IFn := ⟨2, 12, [.t 4], (.seq laws_szClauses_0 (.seq laws_szClauses_1 (.seq (.seq laws_szClauses_2 laws_szClauses_4) (.seq laws_szClauses_5 .ret))))⟩
theorem c_laws_szClauses : compFn Try.prog [(0, [], []), (1, [], []), (2, [], []), (3, [], []), (4, [], [])] Try.f14 = some F_laws_szClauses := by kernel_rfl
theorem a_laws_szClauses (hl : args.length = 2) (h : wp Try.prog (.seq laws_szClauses_0 (.seq laws_szClauses_1 (.seq (.seq laws_szClauses_2 laws_szClauses_4) (.seq laws_szClauses_5 .ret)))) (postQ [.t 4] R) (env0 args) H) : ACall Try.prog n_laws_szClauses args H R :=
  acall_of_wp mixed Try.func14 c_laws_szClauses (by kernel_rfl) hl h
@[go_sem] def l_laws_szChain_0 : List GOp := [⟨(some 2), .box (.t 0), none⟩,
    ⟨(some 4), .mv (.c (.int .i64 0)), none⟩]
def laws_szChain_0 : IR := .ops l_laws_szChain_0
@[go_sem] theorem w_laws_szChain_0 : wp P laws_szChain_0 Q e H = wpL P l_laws_szChain_0 (Q .normal) e H := idE rfl
@[go_sem] def l_laws_szChain_1 : List GOp := [⟨(some 5), .faddr (.t 2) 4, none⟩,
    ⟨(some 6), .load (.t 5) 1 false, none⟩,
    ⟨(some 7), .mv (.t 1), none⟩,
    ⟨(some 8), .call (n_laws_szIntS) [(.t 6), (.t 7)], none⟩,
    ⟨(some 1), .mv (.t 8), none⟩]
def laws_szChain_1 : IR := .ops l_laws_szChain_1
@[go_sem] theorem w_laws_szChain_1 : wp P laws_szChain_1 Q e H = wpL P l_laws_szChain_1 (Q .normal) e H := idE rfl
@[go_sem] def l_laws_szChain_2 : List GOp := [⟨(some 9), .mv (.t 1), none⟩,
    ⟨(some 10), .bin .lss (.t 9) (.c (.int .i64 0)), none⟩]
def laws_szChain_2 : IR := .ops l_laws_szChain_2
@[go_sem] theorem w_laws_szChain_2 : wp P laws_szChain_2 Q e H = wpL P l_laws_szChain_2 (Q .normal) e H := idE rfl
@[go_sem] def l_laws_szChain_3 : List GOp := [⟨(some 4), .mv (.c (.int .i64 (-1))), none⟩]
def laws_szChain_3 : IR := .ops l_laws_szChain_3
@[go_sem] theorem w_laws_szChain_3 : wp P laws_szChain_3 Q e H = wpL P l_laws_szChain_3 (Q .normal) e H := idE rfl
def laws_szChain_4 : IR := .cond (.t 10) (.seq laws_szChain_3 .ret) .skip
@[go_sem] theorem w_laws_szChain_4 : wp P laws_szChain_4 Q e H = condW P ((.t 10) : X) (.seq laws_szChain_3 .ret) .skip Q e H := idE rfl
@[go_sem] def l_laws_szChain_5 : List GOp := [⟨(some 11), .mv (.t 1), none⟩,
    ⟨(some 4), .mv (.t 11), none⟩]
def laws_szChain_5 : IR := .ops l_laws_szChain_5
@[go_sem] theorem w_laws_szChain_5 : wp P laws_szChain_5 Q e H = wpL P l_laws_szChain_5 (Q .normal) e H := idE rfl
def F_laws_szChain : IFn := ⟨2, 12, [.t 4], (.seq laws_szChain_0 (.seq laws_szChain_1 (.seq (.seq laws_szChain_2 laws_szChain_4) (.seq laws_szChain_5 .ret))))⟩
theorem c_laws_szChain : compFn Try.prog [(0, [], []), (1, [], []), (2, [], []), (3, [], []), (4, [], [])] Try.f54 = some F_laws_szChain := by kernel_rfl
theorem a_laws_szChain (hl : args.length = 2) (h : wp Try.prog (.seq laws_szChain_0 (.seq laws_szChain_1 (.seq (.seq laws_szChain_2 laws_szChain_4) (.seq laws_szChain_5 .ret)))) (postQ [.t 4] R) (env0 args) H) : ACall Try.prog n_laws_szChain args H R :=
  acall_of_wp mixed Try.func54 c_laws_szChain (by kernel_rfl) hl h
@[go_sem] def l_laws_szChainS_0 : List GOp := [⟨(some 4), .mv (.c (.int .i64 0)), none⟩]
def laws_szChainS_0 : IR := .ops l_laws_szChainS_0
@[go_sem] theorem w_laws_szChainS_0 : wp P laws_szChainS_0 Q e H = wpL P l_laws_szChainS_0 (Q .normal) e H := idE rfl
@[go_sem] def l_laws_szChainS_1 : List GOp := [⟨(some 6), .mv (.t 1), none⟩,
    ⟨(some 7), .mv (.t 0), none⟩,
    ⟨(some 8), .len (.t 7), none⟩,
    ⟨(some 9), .bin .sub (.t 6) (.t 8), none⟩,
    ⟨(some 1), .mv (.t 9), none⟩]
def laws_szChainS_1 : IR := .ops l_laws_szChainS_1
@[go_sem] theorem w_laws_szChainS_1 : wp P laws_szChainS_1 Q e H = wpL P l_laws_szChainS_1 (Q .normal) e H := idE rfl
@[go_sem] def l_laws_szChainS_2 : List GOp := [⟨(some 10), .mv (.t 1), none⟩,
    ⟨(some 11), .bin .lss (.t 10) (.c (.int .i64 0)), none⟩]
def laws_szChainS_2 : IR := .ops l_laws_szChainS_2
@[go_sem] theorem w_laws_szChainS_2 : wp P laws_szChainS_2 Q e H = wpL P l_laws_szChainS_2 (Q .normal) e H := idE rfl
@[go_sem] def l_laws_szChainS_3 : List GOp := [⟨(some 4), .mv (.c (.int .i64 (-1))), none⟩]
def laws_szChainS_3 : IR := .ops l_laws_szChainS_3
@[go_sem] theorem w_laws_szChainS_3 : wp P laws_szChainS_3 Q e H = wpL P l_laws_szChainS_3 (Q .normal) e H := idE rfl
def laws_szChainS_4 : IR := .cond (.t 11) (.seq laws_szChainS_3 .ret) .skip
@[go_sem] theorem w_laws_szChainS_4 : wp P laws_szChainS_4 Q e H = condW P ((.t 11) : X) (.seq laws_szChainS_3 .ret) .skip Q e H := idE rfl
@[go_sem] def l_laws_szChainS_5 : List GOp := [⟨(some 5), .mv (.c (.int .i64 0)), none⟩]
def laws_szChainS_5 : IR := .ops l_laws_szChainS_5
@[go_sem] theorem w_laws_szChainS_5 : wp P laws_szChainS_5 Q e H = wpL P l_laws_szChainS_5 (Q .normal) e H := idE rfl
@[go_sem] def l_laws_szChainS_6 : List GOp := [⟨(some 12), .mv (.t 5), none⟩,
    ⟨(some 13), .mv (.t 0), none⟩,
    ⟨(some 14), .len (.t 13), none⟩,
    ⟨(some 15), .bin .lss (.t 12) (.t 14), none⟩]
def laws_szChainS_6 : IR := .ops l_laws_szChainS_6
@[go_sem] theorem w_laws_szChainS_6 : wp P laws_szChainS_6 Q e H = wpL P l_laws_szChainS_6 (Q .normal) e H := idE rfl
def laws_szChainS_7 : IR := .cond (.t 15) .skip (.exit 0)
@[go_sem] theorem w_laws_szChainS_7 : wp P laws_szChainS_7 Q e H = condW P ((.t 15) : X) .skip (.exit 0) Q e H := idE rfl
@[go_sem] def l_laws_szChainS_8 : List GOp := [⟨(some 18), .mv (.t 0), none⟩,
    ⟨(some 19), .mv (.t 5), none⟩,
    ⟨(some 20), .iaddr (.t 18) (.t 19) 5, none⟩,
    ⟨(some 21), .load (.t 20) 5 true, none⟩,
    ⟨(some 22), .mv (.t 1), none⟩,
    ⟨(some 23), .call (n_laws_szChain) [(.t 21), (.t 22)], none⟩,
    ⟨(some 1), .mv (.t 23), none⟩]
def laws_szChainS_8 : IR := .ops l_laws_szChainS_8
@[go_sem] theorem w_laws_szChainS_8 : wp P laws_szChainS_8 Q e H = wpL P l_laws_szChainS_8 (Q .normal) e H := idE rfl
@[go_sem] def l_laws_szChainS_9 : List GOp := [⟨(some 24), .mv (.t 1), none⟩,
    ⟨(some 25), .bin .lss (.t 24) (.c (.int .i64 0)), none⟩]
def laws_szChainS_9 : IR := .ops l_laws_szChainS_9
@[go_sem] theorem w_laws_szChainS_9 : wp P laws_szChainS_9 Q e H = wpL P l_laws_szChainS_9 (Q .normal) e H := idE rfl
@[go_sem] def l_laws_szChainS_10 : List GOp := [⟨(some 4), .mv (.c (.int .i64 (-1))), none⟩]
def laws_szChainS_10 : IR := .ops l_laws_szChainS_10
@[go_sem] theorem w_laws_szChainS_10 : wp P laws_szChainS_10 Q e H = wpL P l_laws_szChainS_10 (Q .normal) e H := idE rfl
def laws_szChainS_11 : IR := .cond (.t 25) (.seq laws_szChainS_10 .ret) .skip
@[go_sem] theorem w_laws_szChainS_11 : wp P laws_szChainS_11 Q e H = condW P ((.t 25) : X) (.seq laws_szChainS_10 .ret) .skip Q e H := idE rfl
def laws_szChainS_12 : IR := .block 1 (.seq laws_szChainS_8 (.seq laws_szChainS_9 laws_szChainS_11))
@[go_sem] theorem w_laws_szChainS_12 : wp P laws_szChainS_12 Q e H = wp P (.seq laws_szChainS_8 (.seq laws_szChainS_9 laws_szChainS_11)) (blockQ 1 Q) e H := idE rfl
@[go_sem] def l_laws_szChainS_13 : List GOp := [⟨(some 16), .mv (.t 5), none⟩,
    ⟨(some 17), .bin .add (.t 16) (.c (.int .i64 1)), none⟩,
    ⟨(some 5), .mv (.t 17), none⟩]
def laws_szChainS_13 : IR := .ops l_laws_szChainS_13
@[go_sem] theorem w_laws_szChainS_13 : wp P laws_szChainS_13 Q e H = wpL P l_laws_szChainS_13 (Q .normal) e H := idE rfl
def laws_szChainS_14 : IR := .loop (.seq (.seq laws_szChainS_6 laws_szChainS_7) (.seq laws_szChainS_12 laws_szChainS_13))
def laws_szChainS_15 : IR := .block 0 laws_szChainS_14
@[go_sem] theorem w_laws_szChainS_15 : wp P laws_szChainS_15 Q e H = wp P laws_szChainS_14 (blockQ 0 Q) e H := idE rfl
@[go_sem] def l_laws_szChainS_16 : List GOp := [⟨(some 26), .mv (.t 1), none⟩,
    ⟨(some 4), .mv (.t 26), none⟩]
def laws_szChainS_16 : IR := .ops l_laws_szChainS_16
@[go_sem] theorem w_laws_szChainS_16 : wp P laws_szChainS_16 Q e H = wpL P l_laws_szChainS_16 (Q .normal) e H := idE rfl
def F_laws_szChainS : IFn := ⟨2, 27, [.t 4], (.seq laws_szChainS_0 (.seq laws_szChainS_1 (.seq (.seq laws_szChainS_2 laws_szChainS_4) (.seq (.seq laws_szChainS_5 laws_szChainS_15) (.seq laws_szChainS_16 .ret)))))⟩
theorem c_laws_szChainS : compFn Try.prog [(0, [], []), (1, [], []), (2, [], []), (3, [], []), (4, [], []), (5, [], []), (7, [], []), (8, [], []), (9, [], []), (6, [], []), (10, [], [])] Try.f15 = some F_laws_szChainS := by kernel_rfl
theorem a_laws_szChainS (hl : args.length = 2) (h : wp Try.prog (.seq laws_szChainS_0 (.seq laws_szChainS_1 (.seq (.seq laws_szChainS_2 laws_szChainS_4) (.seq (.seq laws_szChainS_5 laws_szChainS_15) (.seq laws_szChainS_16 .ret))))) (postQ [.t 4] R) (env0 args) H) : ACall Try.prog n_laws_szChainS args H R :=
  acall_of_wp mixed Try.func15 c_laws_szChainS (by kernel_rfl) hl h
@[go_sem] def l_laws_toIntS_0 : List GOp := [⟨(some 2), .mv (.c (.sl none 0 0 true 0)), none⟩]
def laws_toIntS_0 : IR := .ops l_laws_toIntS_0
@[go_sem] theorem w_laws_toIntS_0 : wp P laws_toIntS_0 Q e H = wpL P l_laws_toIntS_0 (Q .normal) e H := idE rfl
@[go_sem] def l_laws_toIntS_1 : List GOp := [⟨(some 5), .mv (.t 0), none⟩,
    ⟨(some 6), .len (.t 5), none⟩,
    ⟨(some 7), .mks [(.int .i64 0)] 8 (.t 6), none⟩,
    ⟨(some 3), .mv (.t 7), none⟩]
def laws_toIntS_1 : IR := .ops l_laws_toIntS_1
@[go_sem] theorem w_laws_toIntS_1 : wp P laws_toIntS_1 Q e H = wpL P l_laws_toIntS_1 (Q .normal) e H := idE rfl
@[go_sem] def l_laws_toIntS_2 : List GOp := [⟨(some 4), .mv (.c (.int .i64 0)), none⟩]
def laws_toIntS_2 : IR := .ops l_laws_toIntS_2
@[go_sem] theorem w_laws_toIntS_2 : wp P laws_toIntS_2 Q e H = wpL P l_laws_toIntS_2 (Q .normal) e H := idE rfl
@[go_sem] def l_laws_toIntS_3 : List GOp := [⟨(some 8), .mv (.t 4), none⟩,
    ⟨(some 9), .mv (.t 0), none⟩,
    ⟨(some 10), .len (.t 9), none⟩,
    ⟨(some 11), .bin .lss (.t 8) (.t 10), none⟩]
def laws_toIntS_3 : IR := .ops l_laws_toIntS_3
@[go_sem] theorem w_laws_toIntS_3 : wp P laws_toIntS_3 Q e H = wpL P l_laws_toIntS_3 (Q .normal) e H := idE rfl
def laws_toIntS_4 : IR := .cond (.t 11) .skip (.exit 0)
@[go_sem] theorem w_laws_toIntS_4 : wp P laws_toIntS_4 Q e H = condW P ((.t 11) : X) .skip (.exit 0) Q e H := idE rfl
@[go_sem] def l_laws_toIntS_5 : List GOp := [⟨(some 14), .mv (.t 3), none⟩,
    ⟨(some 15), .mv (.t 4), none⟩,
    ⟨(some 16), .mv (.t 0), none⟩,
    ⟨(some 17), .mv (.t 4), none⟩,
    ⟨(some 18), .iaddr (.t 16) (.t 17) 1, none⟩,
    ⟨(some 19), .load (.t 18) 1 false, none⟩,
    ⟨(some 20), .iaddr (.t 14) (.t 15) 1, none⟩,
    ⟨none, .store (.t 20) 1 (.t 19), none⟩]
def laws_toIntS_5 : IR := .ops l_laws_toIntS_5
@[go_sem] theorem w_laws_toIntS_5 : wp P laws_toIntS_5 Q e H = wpL P l_laws_toIntS_5 (Q .normal) e H := idE rfl
def laws_toIntS_6 : IR := .block 1 laws_toIntS_5
@[go_sem] theorem w_laws_toIntS_6 : wp P laws_toIntS_6 Q e H = wp P laws_toIntS_5 (blockQ 1 Q) e H := idE rfl
@[go_sem] def l_laws_toIntS_7 : List GOp := [⟨(some 12), .mv (.t 4), none⟩,
    ⟨(some 13), .bin .add (.t 12) (.c (.int .i64 1)), none⟩,
    ⟨(some 4), .mv (.t 13), none⟩]
def laws_toIntS_7 : IR := .ops l_laws_toIntS_7
@[go_sem] theorem w_laws_toIntS_7 : wp P laws_toIntS_7 Q e H = wpL P l_laws_toIntS_7 (Q .normal) e H := idE rfl
def laws_toIntS_8 : IR := .loop (.seq (.seq laws_toIntS_3 laws_toIntS_4) (.seq laws_toIntS_6 laws_toIntS_7))
def laws_toIntS_9 : IR := .block 0 laws_toIntS_8
@[go_sem] theorem w_laws_toIntS_9 : wp P laws_toIntS_9 Q e H = wp P laws_toIntS_8 (blockQ 0 Q) e H := idE rfl
@[go_sem] def l_laws_toIntS_10 : List GOp := [⟨(some 21), .mv (.t 3), none⟩,
    ⟨(some 2), .mv (.t 21), none⟩]
def laws_toIntS_10 : IR := .ops l_laws_toIntS_10
@[go_sem] theorem w_laws_toIntS_10 : wp P laws_toIntS_10 Q e H = wpL P l_laws_toIntS_10 (Q .normal) e H := idE rfl
def F_laws_toIntS : IFn := ⟨1, 22, [.t 2], (.seq laws_toIntS_0 (.seq laws_toIntS_1 (.seq (.seq laws_toIntS_2 laws_toIntS_9) (.seq laws_toIntS_10 .ret))))⟩
theorem c_laws_toIntS : compFn Try.prog [(0, [], []), (1, [], []), (2, [], []), (3, [], []), (5, [], []), (4, [], []), (6, [], [])] Try.f94 = some F_laws_toIntS := by kernel_rfl
theorem a_laws_toIntS (hl : args.length = 1) (h : wp Try.prog (.seq laws_toIntS_0 (.seq laws_toIntS_1 (.seq (.seq laws_toIntS_2 laws_toIntS_9) (.seq laws_toIntS_10 .ret)))) (postQ [.t 2] R) (env0 args) H) : ACall Try.prog n_laws_toIntS args H R :=
  acall_of_wp mixed Try.func94 c_laws_toIntS (by kernel_rfl) hl h
@[go_sem] def l_laws_toIntSS_0 : List GOp := [⟨(some 2), .mv (.c (.sl none 0 0 true 0)), none⟩]
def laws_toIntSS_0 : IR := .ops l_laws_toIntSS_0
@[go_sem] theorem w_laws_toIntSS_0 : wp P laws_toIntSS_0 Q e H = wpL P l_laws_toIntSS_0 (Q .normal) e H := idE rfl
@[go_sem] def l_laws_toIntSS_1 : List GOp := [⟨(some 5), .mv (.t 0), none⟩,
    ⟨(some 6), .len (.t 5), none⟩,
    ⟨(some 7), .mks [(.sl none 0 0 true 0)] 24 (.t 6), none⟩,
    ⟨(some 3), .mv (.t 7), none⟩]
def laws_toIntSS_1 : IR := .ops l_laws_toIntSS_1
@[go_sem] theorem w_laws_toIntSS_1 : wp P laws_toIntSS_1 Q e H = wpL P l_laws_toIntSS_1 (Q .normal) e H := idE rfl
@[go_sem] def l_laws_toIntSS_2 : List GOp := [⟨(some 4), .mv (.c (.int .i64 0)), none⟩]
def laws_toIntSS_2 : IR := .ops l_laws_toIntSS_2
@[go_sem] theorem w_laws_toIntSS_2 : wp P laws_toIntSS_2 Q e H = wpL P l_laws_toIntSS_2 (Q .normal) e H := idE rfl
@[go_sem] def l_laws_toIntSS_3 : List GOp := [⟨(some 8), .mv (.t 4), none⟩,
    ⟨(some 9), .mv (.t 0), none⟩,
    ⟨(some 10), .len (.t 9), none⟩,
    ⟨(some 11), .bin .lss (.t 8) (.t 10), none⟩]
def laws_toIntSS_3 : IR := .ops l_laws_toIntSS_3
@[go_sem] theorem w_laws_toIntSS_3 : wp P laws_toIntSS_3 Q e H = wpL P l_laws_toIntSS_3 (Q .normal) e H := idE rfl
def laws_toIntSS_4 : IR := .cond (.t 11) .skip (.exit 0)
@[go_sem] theorem w_laws_toIntSS_4 : wp P laws_toIntSS_4 Q e H = condW P ((.t 11) : X) .skip (.exit 0) Q e H := idE rfl
@[go_sem] def l_laws_toIntSS_5 : List GOp := [⟨(some 14), .mv (.t 3), none⟩,
    ⟨(some 15), .mv (.t 4), none⟩,
    ⟨(some 16), .mv (.t 0), none⟩,
    ⟨(some 17), .mv (.t 4), none⟩,
    ⟨(some 18), .iaddr (.t 16) (.t 17) 1, none⟩,
    ⟨(some 19), .load (.t 18) 1 false, none⟩,
    ⟨(some 20), .call (n_laws_toIntS) [(.t 19)], none⟩,
    ⟨(some 21), .iaddr (.t 14) (.t 15) 1, none⟩,
    ⟨none, .store (.t 21) 1 (.t 20), none⟩]
def laws_toIntSS_5 : IR := .ops l_laws_toIntSS_5
@[go_sem] theorem w_laws_toIntSS_5 : wp P laws_toIntSS_5 Q e H = wpL P l_laws_toIntSS_5 (Q .normal) e H := idE rfl
def laws_toIntSS_6 : IR := .block 1 laws_toIntSS_5
@[go_sem] theorem w_laws_toIntSS_6 : wp P laws_toIntSS_6 Q e H = wp P laws_toIntSS_5 (blockQ 1 Q) e H := idE rfl
@[go_sem] def l_laws_toIntSS_7 : List GOp := [⟨(some 12), .mv (.t 4), none⟩,
    ⟨(some 13), .bin .add (.t 12) (.c (.int .i64 1)), none⟩,
    ⟨(some 4), .mv (.t 13), none⟩]
def laws_toIntSS_7 : IR := .ops l_laws_toIntSS_7
@[go_sem] theorem w_laws_toIntSS_7 : wp P laws_toIntSS_7 Q e H = wpL P l_laws_toIntSS_7 (Q .normal) e H := idE rfl
def laws_toIntSS_8 : IR := .loop (.seq (.seq laws_toIntSS_3 laws_toIntSS_4) (.seq laws_toIntSS_6 laws_toIntSS_7))
def laws_toIntSS_9 : IR := .block 0 laws_toIntSS_8
@[go_sem] theorem w_laws_toIntSS_9 : wp P laws_toIntSS_9 Q e H = wp P laws_toIntSS_8 (blockQ 0 Q) e H := idE rfl
@[go_sem] def l_laws_toIntSS_10 : List GOp := [⟨(some 22), .mv (.t 3), none⟩,
    ⟨(some 2), .mv (.t 22), none⟩]
def laws_toIntSS_10 : IR := .ops l_laws_toIntSS_10
@[go_sem] theorem w_laws_toIntSS_10 : wp P laws_toIntSS_10 Q e H = wpL P l_laws_toIntSS_10 (Q .normal) e H := idE rfl
def F_laws_toIntSS : IFn := ⟨1, 23, [.t 2], (.seq laws_toIntSS_0 (.seq laws_toIntSS_1 (.seq (.seq laws_toIntSS_2 laws_toIntSS_9) (.seq laws_toIntSS_10 .ret))))⟩
theorem c_laws_toIntSS : compFn Try.prog [(0, [], []), (1, [], []), (2, [], []), (3, [], []), (5, [], []), (4, [], []), (6, [], [])] Try.f57 = some F_laws_toIntSS := by kernel_rfl
theorem a_laws_toIntSS (hl : args.length = 1) (h : wp Try.prog (.seq laws_toIntSS_0 (.seq laws_toIntSS_1 (.seq (.seq laws_toIntSS_2 laws_toIntSS_9) (.seq laws_toIntSS_10 .ret)))) (postQ [.t 2] R) (env0 args) H) : ACall Try.prog n_laws_toIntSS args H R :=
  acall_of_wp mixed Try.func57 c_laws_toIntSS (by kernel_rfl) hl h
@[go_sem] def l_laws_toClauses_0 : List GOp := [⟨(some 1), .box (.t 0), none⟩,
    ⟨(some 2), .alloc [(.int .i64 0), (.sl none 0 0 true 0)], none⟩]
def laws_toClauses_0 : IR := .ops l_laws_toClauses_0
@[go_sem] theorem w_laws_toClauses_0 : wp P laws_toClauses_0 Q e H = wpL P l_laws_toClauses_0 (Q .normal) e H := idE rfl
@[go_sem] def l_laws_toClauses_1 : List GOp := [⟨(some 3), .alloc [(.int .i64 0), (.sl none 0 0 true 0)], none⟩]
def laws_toClauses_1 : IR := .ops l_laws_toClauses_1
@[go_sem] theorem w_laws_toClauses_1 : wp P laws_toClauses_1 Q e H = wpL P l_laws_toClauses_1 (Q .normal) e H := idE rfl
@[go_sem] def l_laws_toClauses_2 : List GOp := [⟨(some 4), .faddr (.t 1) 0, none⟩,
    ⟨(some 5), .load (.t 4) 1 false, none⟩,
    ⟨(some 6), .faddr (.t 3) 0, none⟩,
    ⟨none, .store (.t 6) 1 (.t 5), none⟩]
def laws_toClauses_2 : IR := .ops l_laws_toClauses_2
@[go_sem] theorem w_laws_toClauses_2 : wp P laws_toClauses_2 Q e H = wpL P l_laws_toClauses_2 (Q .normal) e H := idE rfl
@[go_sem] def l_laws_toClauses_3 : List GOp := [⟨(some 7), .faddr (.t 1) 1, none⟩,
    ⟨(some 8), .load (.t 7) 1 false, none⟩,
    ⟨(some 9), .call (n_laws_toIntSS) [(.t 8)], none⟩,
    ⟨(some 10), .faddr (.t 3) 1, none⟩,
    ⟨none, .store (.t 10) 1 (.t 9), none⟩]
def laws_toClauses_3 : IR := .ops l_laws_toClauses_3
@[go_sem] theorem w_laws_toClauses_3 : wp P laws_toClauses_3 Q e H = wpL P l_laws_toClauses_3 (Q .normal) e H := idE rfl
@[go_sem] def l_laws_toClauses_4 : List GOp := [⟨(some 11), .load (.t 3) 2 true, none⟩,
    ⟨none, .store (.t 2) 2 (.t 11), none⟩]
def laws_toClauses_4 : IR := .ops l_laws_toClauses_4
@[go_sem] theorem w_laws_toClauses_4 : wp P laws_toClauses_4 Q e H = wpL P l_laws_toClauses_4 (Q .normal) e H := idE rfl
def F_laws_toClauses : IFn := ⟨1, 12, [.c 2 2 true], (.seq laws_toClauses_0 (.seq laws_toClauses_1 (.seq laws_toClauses_2 (.seq laws_toClauses_3 (.seq laws_toClauses_4 .ret)))))⟩
theorem c_laws_toClauses : compFn Try.prog [(0, [], []), (1, [], []), (2, [], []), (3, [], []), (4, [], [])] Try.f17 = some F_laws_toClauses := by kernel_rfl
theorem a_laws_toClauses (hl : args.length = 1) (h : wp Try.prog (.seq laws_toClauses_0 (.seq laws_toClauses_1 (.seq laws_toClauses_2 (.seq laws_toClauses_3 (.seq laws_toClauses_4 .ret))))) (postQ [.c 2 2 true] R) (env0 args) H) : ACall Try.prog n_laws_toClauses args H R :=
  acall_of_wp mixed Try.func17 c_laws_toClauses (by kernel_rfl) hl h
@[go_sem] def l_laws_toChain_0 : List GOp := [⟨(some 1), .box (.t 0), none⟩,
    ⟨(some 2), .alloc [(.int .i64 0), (.int .i64 0), (.int .i64 0), (.int .i64 0), (.sl none 0 0 true 0)], none⟩]
def laws_toChain_0 : IR := .ops l_laws_toChain_0
@[go_sem] theorem w_laws_toChain_0 : wp P laws_toChain_0 Q e H = wpL P l_laws_toChain_0 (Q .normal) e H := idE rfl
@[go_sem] def l_laws_toChain_1 : List GOp := [⟨(some 3), .alloc [(.int .i64 0), (.int .i64 0), (.int .i64 0), (.int .i64 0), (.sl none 0 0 true 0)], none⟩]
def laws_toChain_1 : IR := .ops l_laws_toChain_1
@[go_sem] theorem w_laws_toChain_1 : wp P laws_toChain_1 Q e H = wpL P l_laws_toChain_1 (Q .normal) e H := idE rfl
@[go_sem] def l_laws_toChain_2 : List GOp := [⟨(some 4), .faddr (.t 1) 0, none⟩,
    ⟨(some 5), .load (.t 4) 1 false, none⟩,
    ⟨(some 6), .faddr (.t 3) 0, none⟩,
    ⟨none, .store (.t 6) 1 (.t 5), none⟩]
def laws_toChain_2 : IR := .ops l_laws_toChain_2
@[go_sem] theorem w_laws_toChain_2 : wp P laws_toChain_2 Q e H = wpL P l_laws_toChain_2 (Q .normal) e H := idE rfl
@[go_sem] def l_laws_toChain_3 : List GOp := [⟨(some 7), .faddr (.t 1) 1, none⟩,
    ⟨(some 8), .load (.t 7) 1 false, none⟩,
    ⟨(some 9), .faddr (.t 3) 1, none⟩,
    ⟨none, .store (.t 9) 1 (.t 8), none⟩]
def laws_toChain_3 : IR := .ops l_laws_toChain_3
@[go_sem] theorem w_laws_toChain_3 : wp P laws_toChain_3 Q e H = wpL P l_laws_toChain_3 (Q .normal) e H := idE rfl
@[go_sem] def l_laws_toChain_4 : List GOp := [⟨(some 10), .faddr (.t 1) 2, none⟩,
    ⟨(some 11), .load (.t 10) 1 false, none⟩,
    ⟨(some 12), .faddr (.t 3) 2, none⟩,
    ⟨none, .store (.t 12) 1 (.t 11), none⟩]
def laws_toChain_4 : IR := .ops l_laws_toChain_4
@[go_sem] theorem w_laws_toChain_4 : wp P laws_toChain_4 Q e H = wpL P l_laws_toChain_4 (Q .normal) e H := idE rfl
@[go_sem] def l_laws_toChain_5 : List GOp := [⟨(some 13), .faddr (.t 1) 3, none⟩,
    ⟨(some 14), .load (.t 13) 1 false, none⟩,
    ⟨(some 15), .faddr (.t 3) 3, none⟩,
    ⟨none, .store (.t 15) 1 (.t 14), none⟩]
def laws_toChain_5 : IR := .ops l_laws_toChain_5
@[go_sem] theorem w_laws_toChain_5 : wp P laws_toChain_5 Q e H = wpL P l_laws_toChain_5 (Q .normal) e H := idE rfl
@[go_sem] def l_laws_toChain_6 : List GOp := [⟨(some 16), .faddr (.t 1) 4, none⟩,
    ⟨(some 17), .load (.t 16) 1 false, none⟩,
    ⟨(some 18), .call (n_laws_toIntS) [(.t 17)], none⟩,
    ⟨(some 19), .faddr (.t 3) 4, none⟩,
    ⟨none, .store (.t 19) 1 (.t 18), none⟩]
def laws_toChain_6 : IR := .ops l_laws_toChain_6
@[go_sem] theorem w_laws_toChain_6 : wp P laws_toChain_6 Q e H = wpL P l_laws_toChain_6 (Q .normal) e H := idE rfl
@[go_sem] def l_laws_toChain_7 : List GOp := [⟨(some 20), .load (.t 3) 5 true, none⟩,
    ⟨none, .store (.t 2) 5 (.t 20), none⟩]
def laws_toChain_7 : IR := .ops l_laws_toChain_7
@[go_sem] theorem w_laws_toChain_7 : wp P laws_toChain_7 Q e H = wpL P l_laws_toChain_7 (Q .normal) e H := idE rfl
def F_laws_toChain : IFn := ⟨1, 21, [.c 2 5 true], (.seq laws_toChain_0 (.seq laws_toChain_1 (.seq laws_toChain_2 (.seq laws_toChain_3 (.seq laws_toChain_4 (.seq laws_toChain_5 (.seq laws_toChain_6 (.seq laws_toChain_7 .ret))))))))⟩
theorem c_laws_toChain : compFn Try.prog [(0, [], []), (1, [], []), (2, [], []), (3, [], []), (4, [], []), (5, [], []), (6, [], []), (7, [], [])] Try.f58 = some F_laws_toChain := by kernel_rfl
theorem a_laws_toChain (hl : args.length = 1) (h : wp Try.prog (.seq laws_toChain_0 (.seq laws_toChain_1 (.seq laws_toChain_2 (.seq laws_toChain_3 (.seq laws_toChain_4 (.seq laws_toChain_5 (.seq laws_toChain_6 (.seq laws_toChain_7 .ret)))))))) (postQ [.c 2 5 true] R) (env0 args) H) : ACall Try.prog n_laws_toChain args H R :=
  acall_of_wp mixed Try.func58 c_laws_toChain (by kernel_rfl) hl h
@[go_sem] def l_laws_toChainS_0 : List GOp := [⟨(some 2), .mv (.c (.sl none 0 0 true 0)), none⟩]
def laws_toChainS_0 : IR := .ops l_laws_toChainS_0
@[go_sem] theorem w_laws_toChainS_0 : wp P laws_toChainS_0 Q e H = wpL P l_laws_toChainS_0 (Q .normal) e H := idE rfl
@[go_sem] def l_laws_toChainS_1 : List GOp := [⟨(some 5), .mv (.t 0), none⟩,
    ⟨(some 6), .len (.t 5), none⟩,
    ⟨(some 7), .mks [(.int .i64 0), (.int .i64 0), (.int .i64 0), (.int .i64 0), (.sl none 0 0 true 0)] 56 (.t 6), none⟩,
    ⟨(some 3), .mv (.t 7), none⟩]
def laws_toChainS_1 : IR := .ops l_laws_toChainS_1
@[go_sem] theorem w_laws_toChainS_1 : wp P laws_toChainS_1 Q e H = wpL P l_laws_toChainS_1 (Q .normal) e H := idE rfl
@[go_sem] def l_laws_toChainS_2 : List GOp := [⟨(some 4), .mv (.c (.int .i64 0)), none⟩]
def laws_toChainS_2 : IR := .ops l_laws_toChainS_2
@[go_sem] theorem w_laws_toChainS_2 : wp P laws_toChainS_2 Q e H = wpL P l_laws_toChainS_2 (Q .normal) e H := idE rfl
@[go_sem] def l_laws_toChainS_3 : List GOp := [⟨(some 8), .mv (.t 4), none⟩,
    ⟨(some 9), .mv (.t 0), none⟩,
    ⟨(some 10), .len (.t 9), none⟩,
    ⟨(some 11), .bin .lss (.t 8) (.t 10), none⟩]
def laws_toChainS_3 : IR := .ops l_laws_toChainS_3
@[go_sem] theorem w_laws_toChainS_3 : wp P laws_toChainS_3 Q e H = wpL P l_laws_toChainS_3 (Q .normal) e H := idE rfl
def laws_toChainS_4 : IR := .cond (.t 11) .skip (.exit 0)
@[go_sem] theorem w_laws_toChainS_4 : wp P laws_toChainS_4 Q e H = condW P ((.t 11) : X) .skip (.exit 0) Q e H := idE rfl
@[go_sem] def l_laws_toChainS_5 : List GOp := [⟨(some 14), .mv (.t 3), none⟩,
    ⟨(some 15), .mv (.t 4), none⟩,
    ⟨(some 16), .mv (.t 0), none⟩,
    ⟨(some 17), .mv (.t 4), none⟩,
    ⟨(some 18), .iaddr (.t 16) (.t 17) 5, none⟩,
    ⟨(some 19), .load (.t 18) 5 true, none⟩,
    ⟨(some 20), .call (n_laws_toChain) [(.t 19)], none⟩,
    ⟨(some 21), .iaddr (.t 14) (.t 15) 5, none⟩,
    ⟨none, .store (.t 21) 5 (.t 20), none⟩]
def laws_toChainS_5 : IR := .ops l_laws_toChainS_5
@[go_sem] theorem w_laws_toChainS_5 : wp P laws_toChainS_5 Q e H = wpL P l_laws_toChainS_5 (Q .normal) e H := idE rfl
def laws_toChainS_6 : IR := .block 1 laws_toChainS_5
@[go_sem] theorem w_laws_toChainS_6 : wp P laws_toChainS_6 Q e H = wp P laws_toChainS_5 (blockQ 1 Q) e H := idE rfl
@[go_sem] def l_laws_toChainS_7 : List GOp := [⟨(some 12), .mv (.t 4), none⟩,
    ⟨(some 13), .bin .add (.t 12) (.c (.int .i64 1)), none⟩,
    ⟨(some 4), .mv (.t 13), none⟩]
def laws_toChainS_7 : IR := .ops l_laws_toChainS_7
@[go_sem] theorem w_laws_toChainS_7 : wp P laws_toChainS_7 Q e H = wpL P l_laws_toChainS_7 (Q .normal) e H := idE rfl
def laws_toChainS_8 : IR := .loop (.seq (.seq laws_toChainS_3 laws_toChainS_4) (.seq laws_toChainS_6 laws_toChainS_7))
def laws_toChainS_9 : IR := .block 0 laws_toChainS_8
@[go_sem] theorem w_laws_toChainS_9 : wp P laws_toChainS_9 Q e H = wp P laws_toChainS_8 (blockQ 0 Q) e H := idE rfl
@[go_sem] def l_laws_toChainS_10 : List GOp := [⟨(some 22), .mv (.t 3), none⟩,
    ⟨(some 2), .mv (.t 22), none⟩]
def laws_toChainS_10 : IR := .ops l_laws_toChainS_10
@[go_sem] theorem w_laws_toChainS_10 : wp P laws_toChainS_10 Q e H = wpL P l_laws_toChainS_10 (Q .normal) e H := idE rfl
def F_laws_toChainS : IFn := ⟨1, 23, [.t 2], (.seq laws_toChainS_0 (.seq laws_toChainS_1 (.seq (.seq laws_toChainS_2 laws_toChainS_9) (.seq laws_toChainS_10 .ret))))⟩
theorem c_laws_toChainS : compFn Try.prog [(0, [], []), (1, [], []), (2, [], []), (3, [], []), (5, [], []), (4, [], []), (6, [], [])] Try.f18 = some F_laws_toChainS := by kernel_rfl
theorem a_laws_toChainS (hl : args.length = 1) (h : wp Try.prog (.seq laws_toChainS_0 (.seq laws_toChainS_1 (.seq (.seq laws_toChainS_2 laws_toChainS_9) (.seq laws_toChainS_10 .ret)))) (postQ [.t 2] R) (env0 args) H) : ACall Try.prog n_laws_toChainS args H R :=
  acall_of_wp mixed Try.func18 c_laws_toChainS (by kernel_rfl) hl h
@[go_sem] def l_spec_l1In_0 : List GOp := [⟨(some 6), .mv (.c (.bool false)), none⟩]
def spec_l1In_0 : IR := .ops l_spec_l1In_0
@[go_sem] theorem w_spec_l1In_0 : wp P spec_l1In_0 Q e H = wpL P l_spec_l1In_0 (Q .normal) e H := idE rfl
@[go_sem] def l_spec_l1In_1 : List GOp := [⟨(some 7), .mv (.t 0), none⟩,
    ⟨(some 8), .mv (.t 1), none⟩,
    ⟨(some 9), .bin .geq (.t 7) (.t 8), none⟩,
    ⟨(some 10), .mv (.t 9), none⟩,
    ⟨(some 11), .mv (.t 0), (some (10, true))⟩,
    ⟨(some 12), .mv (.t 2), (some (10, true))⟩,
    ⟨(some 13), .bin .leq (.t 11) (.t 12), (some (10, true))⟩,
    ⟨(some 14), .pick (.t 10) (.t 13) (.c (.bool false)), none⟩,
    ⟨(some 6), .mv (.t 14), none⟩]
def spec_l1In_1 : IR := .ops l_spec_l1In_1
@[go_sem] theorem w_spec_l1In_1 : wp P spec_l1In_1 Q e H = wpL P l_spec_l1In_1 (Q .normal) e H := idE rfl
def F_spec_l1In : IFn := ⟨3, 15, [.t 6], (.seq spec_l1In_0 (.seq spec_l1In_1 .ret))⟩
theorem c_spec_l1In : compFn Try.prog [(0, [], []), (1, [], [])] Try.f55 = some F_spec_l1In := by kernel_rfl
theorem a_spec_l1In (hl : args.length = 3) (h : wp Try.prog (.seq spec_l1In_0 (.seq spec_l1In_1 .ret)) (postQ [.t 6] R) (env0 args) H) : ACall Try.prog n_spec_l1In args H R :=
  acall_of_wp mixed Try.func55 c_spec_l1In (by kernel_rfl) hl h
@[go_sem] def l_spec_l11Lit_0 : List GOp := [⟨(some 4), .mv (.c (.bool false)), none⟩]
def spec_l11Lit_0 : IR := .ops l_spec_l11Lit_0
@[go_sem] theorem w_spec_l11Lit_0 : wp P spec_l11Lit_0 Q e H = wpL P l_spec_l11Lit_0 (Q .normal) e H := idE rfl
@[go_sem] def l_spec_l11Lit_1 : List GOp := [⟨(some 5), .mv (.t 0), none⟩,
    ⟨(some 6), .bin .neq (.t 5) (.c (.int .i64 0)), none⟩,
    ⟨(some 7), .mv (.t 6), none⟩,
    ⟨(some 8), .mv (.t 0), (some (7, true))⟩,
    ⟨(some 9), .mv (.t 1), (some (7, true))⟩,
    ⟨(some 10), .un .neg (.t 9), (some (7, true))⟩,
    ⟨(some 11), .mv (.t 1), (some (7, true))⟩,
    ⟨(some 12), .call (n_spec_l1In) [(.t 8), (.t 10), (.t 11)], (some (7, true))⟩,
    ⟨(some 13), .pick (.t 7) (.t 12) (.c (.bool false)), none⟩,
    ⟨(some 4), .mv (.t 13), none⟩]
def spec_l11Lit_1 : IR := .ops l_spec_l11Lit_1
@[go_sem] theorem w_spec_l11Lit_1 : wp P spec_l11Lit_1 Q e H = wpL P l_spec_l11Lit_1 (Q .normal) e H := idE rfl
def F_spec_l11Lit : IFn := ⟨2, 14, [.t 4], (.seq spec_l11Lit_0 (.seq spec_l11Lit_1 .ret))⟩
theorem c_spec_l11Lit : compFn Try.prog [(0, [], []), (1, [], [])] Try.f105 = some F_spec_l11Lit := by kernel_rfl
theorem a_spec_l11Lit (hl : args.length = 2) (h : wp Try.prog (.seq spec_l11Lit_0 (.seq spec_l11Lit_1 .ret)) (postQ [.t 4] R) (env0 args) H) : ACall Try.prog n_spec_l11Lit args H R :=
  acall_of_wp mixed Try.func105 c_spec_l11Lit (by kernel_rfl) hl h
@[go_sem] def l_spec_l11Abs_0 : List GOp := [⟨(some 2), .mv (.c (.int .i64 0)), none⟩]
def spec_l11Abs_0 : IR := .ops l_spec_l11Abs_0
@[go_sem] theorem w_spec_l11Abs_0 : wp P spec_l11Abs_0 Q e H = wpL P l_spec_l11Abs_0 (Q .normal) e H := idE rfl
@[go_sem] def l_spec_l11Abs_1 : List GOp := [⟨(some 3), .mv (.t 0), none⟩,
    ⟨(some 4), .bin .lss (.t 3) (.c (.int .i64 0)), none⟩]
def spec_l11Abs_1 : IR := .ops l_spec_l11Abs_1
@[go_sem] theorem w_spec_l11Abs_1 : wp P spec_l11Abs_1 Q e H = wpL P l_spec_l11Abs_1 (Q .normal) e H := idE rfl
@[go_sem] def l_spec_l11Abs_2 : List GOp := [⟨(some 5), .mv (.t 0), none⟩,
    ⟨(some 6), .un .neg (.t 5), none⟩,
    ⟨(some 2), .mv (.t 6), none⟩]
def spec_l11Abs_2 : IR := .ops l_spec_l11Abs_2
@[go_sem] theorem w_spec_l11Abs_2 : wp P spec_l11Abs_2 Q e H = wpL P l_spec_l11Abs_2 (Q .normal) e H := idE rfl
def spec_l11Abs_3 : IR := .cond (.t 4) (.seq spec_l11Abs_2 .ret) .skip
@[go_sem] theorem w_spec_l11Abs_3 : wp P spec_l11Abs_3 Q e H = condW P ((.t 4) : X) (.seq spec_l11Abs_2 .ret) .skip Q e H := idE rfl
@[go_sem] def l_spec_l11Abs_4 : List GOp := [⟨(some 7), .mv (.t 0), none⟩,
    ⟨(some 2), .mv (.t 7), none⟩]
def spec_l11Abs_4 : IR := .ops l_spec_l11Abs_4
@[go_sem] theorem w_spec_l11Abs_4 : wp P spec_l11Abs_4 Q e H = wpL P l_spec_l11Abs_4 (Q .normal) e H := idE rfl
def F_spec_l11Abs : IFn := ⟨1, 8, [.t 2], (.seq spec_l11Abs_0 (.seq (.seq spec_l11Abs_1 spec_l11Abs_3) (.seq spec_l11Abs_4 .ret)))⟩
theorem c_spec_l11Abs : compFn Try.prog [(0, [], []), (1, [], []), (2, [], []), (3, [], [])] Try.f106 = some F_spec_l11Abs := by kernel_rfl
theorem a_spec_l11Abs (hl : args.length = 1) (h : wp Try.prog (.seq spec_l11Abs_0 (.seq (.seq spec_l11Abs_1 spec_l11Abs_3) (.seq spec_l11Abs_4 .ret))) (postQ [.t 2] R) (env0 args) H) : ACall Try.prog n_spec_l11Abs args H R :=
  acall_of_wp mixed Try.func106 c_spec_l11Abs (by kernel_rfl) hl h
@[go_sem] def l_spec_ClauseValid_0 : List GOp := [⟨(some 4), .mv (.c (.bool false)), none⟩]
def spec_ClauseValid_0 : IR := .ops l_spec_ClauseValid_0
@[go_sem] theorem w_spec_ClauseValid_0 : wp P spec_ClauseValid_0 Q e H = wpL P l_spec_ClauseValid_0 (Q .normal) e H := idE rfl
@[go_sem] def l_spec_ClauseValid_1 : List GOp := [⟨(some 5), .mv (.c (.int .i64 0)), none⟩]
def spec_ClauseValid_1 : IR := .ops l_spec_ClauseValid_1
@[go_sem] theorem w_spec_ClauseValid_1 : wp P spec_ClauseValid_1 Q e H = wpL P l_spec_ClauseValid_1 (Q .normal) e H := idE rfl
@[go_sem] def l_spec_ClauseValid_2 : List GOp := [⟨(some 6), .mv (.t 5), none⟩,
    ⟨(some 7), .mv (.t 0), none⟩,
    ⟨(some 8), .len (.t 7), none⟩,
    ⟨(some 9), .bin .lss (.t 6) (.t 8), none⟩]
def spec_ClauseValid_2 : IR := .ops l_spec_ClauseValid_2
@[go_sem] theorem w_spec_ClauseValid_2 : wp P spec_ClauseValid_2 Q e H = wpL P l_spec_ClauseValid_2 (Q .normal) e H := idE rfl
def spec_ClauseValid_3 : IR := .cond (.t 9) .skip (.exit 0)
@[go_sem] theorem w_spec_ClauseValid_3 : wp P spec_ClauseValid_3 Q e H = condW P ((.t 9) : X) .skip (.exit 0) Q e H := idE rfl
def l_spec_ClauseValid_4 : List GOp := [⟨(some 12), .mv (.t 0), none⟩,
    ⟨(some 13), .mv (.t 5), none⟩,
    ⟨(some 14), .iaddr (.t 12) (.t 13) 1, none⟩,
    ⟨(some 15), .load (.t 14) 1 false, none⟩,
    ⟨(some 16), .mv (.t 1), none⟩,
    ⟨(some 17), .call (n_spec_l11Lit) [(.t 15), (.t 16)], none⟩,
    ⟨(some 18), .un .not (.t 17), none⟩,
    ⟨(some 19), .mv (.t 18), none⟩,
    ⟨(some 20), .mv (.t 5), (some (19, false))⟩,
    ⟨(some 21), .bin .gtr (.t 20) (.c (.int .i64 0)), (some (19, false))⟩,
    ⟨(some 22), .mv (.t 21), (some (19, false))⟩,
    ⟨(some 23), .mv (.t 0), (some (22, true))⟩,
    ⟨(some 24), .mv (.t 5), (some (22, true))⟩,
    ⟨(some 25), .iaddr (.t 23) (.t 24) 1, (some (22, true))⟩,
    ⟨(some 26), .load (.t 25) 1 false, (some (22, true))⟩,
    ⟨(some 27), .call (n_spec_l11Abs) [(.t 26)], (some (22, true))⟩,
    ⟨(some 28), .mv (.t 0), (some (22, true))⟩,
    ⟨(some 29), .mv (.t 5), (some (22, true))⟩,
    ⟨(some 30), .bin .sub (.t 29) (.c (.int .i64 1)), (some (22, true))⟩,
    ⟨(some 31), .iaddr (.t 28) (.t 30) 1, (some (22, true))⟩,
    ⟨(some 32), .load (.t 31) 1 false, (some (22, true))⟩,
    ⟨(some 33), .call (n_spec_l11Abs) [(.t 32)], (some (22, true))⟩,
    ⟨(some 34), .bin .leq (.t 27) (.t 33), (some (22, true))⟩,
    ⟨(some 35), .pick (.t 22) (.t 34) (.c (.bool false)), (some (19, false))⟩,
    ⟨(some 36), .pick (.t 19) (.c (.bool true)) (.t 35), none⟩]
@[go_sem] theorem g_spec_ClauseValid_4_0 : gAt l_spec_ClauseValid_4 0 = ⟨(some 12), .mv (.t 0), none⟩ := idE rfl
@[go_sem] theorem g_spec_ClauseValid_4_1 : gAt l_spec_ClauseValid_4 1 = ⟨(some 13), .mv (.t 5), none⟩ := idE rfl
@[go_sem] theorem g_spec_ClauseValid_4_2 : gAt l_spec_ClauseValid_4 2 = ⟨(some 14), .iaddr (.t 12) (.t 13) 1, none⟩ := idE rfl
@[go_sem] theorem g_spec_ClauseValid_4_3 : gAt l_spec_ClauseValid_4 3 = ⟨(some 15), .load (.t 14) 1 false, none⟩ := idE rfl
@[go_sem] theorem g_spec_ClauseValid_4_4 : gAt l_spec_ClauseValid_4 4 = ⟨(some 16), .mv (.t 1), none⟩ := idE rfl
@[go_sem] theorem g_spec_ClauseValid_4_5 : gAt l_spec_ClauseValid_4 5 = ⟨(some 17), .call (n_spec_l11Lit) [(.t 15), (.t 16)], none⟩ := idE rfl
@[go_sem] theorem g_spec_ClauseValid_4_6 : gAt l_spec_ClauseValid_4 6 = ⟨(some 18), .un .not (.t 17), none⟩ := idE rfl
@[go_sem] theorem g_spec_ClauseValid_4_7 : gAt l_spec_ClauseValid_4 7 = ⟨(some 19), .mv (.t 18), none⟩ := idE rfl
@[go_sem] theorem g_spec_ClauseValid_4_8 : gAt l_spec_ClauseValid_4 8 = ⟨(some 20), .mv (.t 5), (some (19, false))⟩ := idE rfl
@[go_sem] theorem g_spec_ClauseValid_4_9 : gAt l_spec_ClauseValid_4 9 = ⟨(some 21), .bin .gtr (.t 20) (.c (.int .i64 0)), (some (19, false))⟩ := idE rfl
@[go_sem] theorem g_spec_ClauseValid_4_10 : gAt l_spec_ClauseValid_4 10 = ⟨(some 22), .mv (.t 21), (some (19, false))⟩ := idE rfl
@[go_sem] theorem g_spec_ClauseValid_4_11 : gAt l_spec_ClauseValid_4 11 = ⟨(some 23), .mv (.t 0), (some (22, true))⟩ := idE rfl
@[go_sem] theorem g_spec_ClauseValid_4_12 : gAt l_spec_ClauseValid_4 12 = ⟨(some 24), .mv (.t 5), (some (22, true))⟩ := idE rfl
@[go_sem] theorem g_spec_ClauseValid_4_13 : gAt l_spec_ClauseValid_4 13 = ⟨(some 25), .iaddr (.t 23) (.t 24) 1, (some (22, true))⟩ := idE rfl
@[go_sem] theorem g_spec_ClauseValid_4_14 : gAt l_spec_ClauseValid_4 14 = ⟨(some 26), .load (.t 25) 1 false, (some (22, true))⟩ := idE rfl
@[go_sem] theorem g_spec_ClauseValid_4_15 : gAt l_spec_ClauseValid_4 15 = ⟨(some 27), .call (n_spec_l11Abs) [(.t 26)], (some (22, true))⟩ := idE rfl
@[go_sem] theorem g_spec_ClauseValid_4_16 : gAt l_spec_ClauseValid_4 16 = ⟨(some 28), .mv (.t 0), (some (22, true))⟩ := idE rfl
@[go_sem] theorem g_spec_ClauseValid_4_17 : gAt l_spec_ClauseValid_4 17 = ⟨(some 29), .mv (.t 5), (some (22, true))⟩ := idE rfl
@[go_sem] theorem g_spec_ClauseValid_4_18 : gAt l_spec_ClauseValid_4 18 = ⟨(some 30), .bin .sub (.t 29) (.c (.int .i64 1)), (some (22, true))⟩ := idE rfl
@[go_sem] theorem g_spec_ClauseValid_4_19 : gAt l_spec_ClauseValid_4 19 = ⟨(some 31), .iaddr (.t 28) (.t 30) 1, (some (22, true))⟩ := idE rfl
@[go_sem] theorem g_spec_ClauseValid_4_20 : gAt l_spec_ClauseValid_4 20 = ⟨(some 32), .load (.t 31) 1 false, (some (22, true))⟩ := idE rfl
@[go_sem] theorem g_spec_ClauseValid_4_21 : gAt l_spec_ClauseValid_4 21 = ⟨(some 33), .call (n_spec_l11Abs) [(.t 32)], (some (22, true))⟩ := idE rfl
@[go_sem] theorem g_spec_ClauseValid_4_22 : gAt l_spec_ClauseValid_4 22 = ⟨(some 34), .bin .leq (.t 27) (.t 33), (some (22, true))⟩ := idE rfl
@[go_sem] theorem g_spec_ClauseValid_4_23 : gAt l_spec_ClauseValid_4 23 = ⟨(some 35), .pick (.t 22) (.t 34) (.c (.bool false)), (some (19, false))⟩ := idE rfl
@[go_sem] theorem g_spec_ClauseValid_4_24 : gAt l_spec_ClauseValid_4 24 = ⟨(some 36), .pick (.t 19) (.c (.bool true)) (.t 35), none⟩ := idE rfl
def spec_ClauseValid_4 : IR := .dops l_spec_ClauseValid_4 [(0, []), (1, []), (2, []), (3, []), (4, []), (5, []), (6, []), (7, []), (8, []), (9, []), (10, []), (11, []), (12, []), (13, []), (14, []), (16, []), (17, []), (18, []), (19, []), (20, []), (15, [20]), (21, []), (22, []), (23, []), (24, [])]
@[go_sem] theorem w_spec_ClauseValid_4 : wp P spec_ClauseValid_4 Q e H = wpD P l_spec_ClauseValid_4 [(0, []), (1, []), (2, []), (3, []), (4, []), (5, []), (6, []), (7, []), (8, []), (9, []), (10, []), (11, []), (12, []), (13, []), (14, []), (16, []), (17, []), (18, []), (19, []), (20, []), (15, [20]), (21, []), (22, []), (23, []), (24, [])] (Q .normal) e H := idE rfl
@[go_sem] def l_spec_ClauseValid_5 : List GOp := [⟨(some 4), .mv (.c (.bool false)), none⟩]
def spec_ClauseValid_5 : IR := .ops l_spec_ClauseValid_5
@[go_sem] theorem w_spec_ClauseValid_5 : wp P spec_ClauseValid_5 Q e H = wpL P l_spec_ClauseValid_5 (Q .normal) e H := idE rfl
def spec_ClauseValid_6 : IR := .cond (.t 36) (.seq spec_ClauseValid_5 .ret) .skip
@[go_sem] theorem w_spec_ClauseValid_6 : wp P spec_ClauseValid_6 Q e H = condW P ((.t 36) : X) (.seq spec_ClauseValid_5 .ret) .skip Q e H := idE rfl
def spec_ClauseValid_7 : IR := .block 1 (.seq spec_ClauseValid_4 spec_ClauseValid_6)
@[go_sem] theorem w_spec_ClauseValid_7 : wp P spec_ClauseValid_7 Q e H = wp P (.seq spec_ClauseValid_4 spec_ClauseValid_6) (blockQ 1 Q) e H := idE rfl
@[go_sem] def l_spec_ClauseValid_8 : List GOp := [⟨(some 10), .mv (.t 5), none⟩,
    ⟨(some 11), .bin .add (.t 10) (.c (.int .i64 1)), none⟩,
    ⟨(some 5), .mv (.t 11), none⟩]
def spec_ClauseValid_8 : IR := .ops l_spec_ClauseValid_8
@[go_sem] theorem w_spec_ClauseValid_8 : wp P spec_ClauseValid_8 Q e H = wpL P l_spec_ClauseValid_8 (Q .normal) e H := idE rfl
def spec_ClauseValid_9 : IR := .loop (.seq (.seq spec_ClauseValid_2 spec_ClauseValid_3) (.seq spec_ClauseValid_7 spec_ClauseValid_8))
def spec_ClauseValid_10 : IR := .block 0 spec_ClauseValid_9
@[go_sem] theorem w_spec_ClauseValid_10 : wp P spec_ClauseValid_10 Q e H = wp P spec_ClauseValid_9 (blockQ 0 Q) e H := idE rfl
@[go_sem] def l_spec_ClauseValid_11 : List GOp := [⟨(some 37), .mv (.t 1), none⟩,
    ⟨(some 38), .call (n_spec_l1In) [(.t 37), (.c (.int .i64 0)), (.c (.int .i64 700))], none⟩,
    ⟨(some 4), .mv (.t 38), none⟩]
def spec_ClauseValid_11 : IR := .ops l_spec_ClauseValid_11
@[go_sem] theorem w_spec_ClauseValid_11 : wp P spec_ClauseValid_11 Q e H = wpL P l_spec_ClauseValid_11 (Q .normal) e H := idE rfl
def F_spec_ClauseValid : IFn := ⟨2, 39, [.t 4], (.seq spec_ClauseValid_0 (.seq (.seq spec_ClauseValid_1 spec_ClauseValid_10) (.seq spec_ClauseValid_11 .ret)))⟩
theorem c_spec_ClauseValid : compFn Try.prog [(0, [], []), (1, [], []), (2, [], []), (4, [(0, []), (1, []), (2, []), (3, []), (4, []), (5, []), (6, []), (7, []), (8, []), (9, []), (10, []), (11, []), (12, []), (13, []), (14, []), (16, []), (17, []), (18, []), (19, []), (20, []), (15, [20]), (21, []), (22, []), (23, []), (24, [])], []), (5, [], []), (3, [], []), (6, [], [])] Try.f71 = some F_spec_ClauseValid := by kernel_rfl
theorem a_spec_ClauseValid (hl : args.length = 2) (h : wp Try.prog (.seq spec_ClauseValid_0 (.seq (.seq spec_ClauseValid_1 spec_ClauseValid_10) (.seq spec_ClauseValid_11 .ret))) (postQ [.t 4] R) (env0 args) H) : ACall Try.prog n_spec_ClauseValid args H R :=
  acall_of_wp mixed Try.func71 c_spec_ClauseValid (by kernel_rfl) hl h
@[go_sem] def l_spec_ClausesValid_0 : List GOp := [⟨(some 1), .box (.t 0), none⟩,
    ⟨(some 2), .mv (.c (.bool false)), none⟩]
def spec_ClausesValid_0 : IR := .ops l_spec_ClausesValid_0
@[go_sem] theorem w_spec_ClausesValid_0 : wp P spec_ClausesValid_0 Q e H = wpL P l_spec_ClausesValid_0 (Q .normal) e H := idE rfl
@[go_sem] def l_spec_ClausesValid_1 : List GOp := [⟨(some 4), .faddr (.t 1) 0, none⟩,
    ⟨(some 5), .load (.t 4) 1 false, none⟩,
    ⟨(some 6), .call (n_spec_l1In) [(.t 5), (.c (.int .i64 0)), (.c (.int .i64 700))], none⟩,
    ⟨(some 7), .un .not (.t 6), none⟩,
    ⟨(some 8), .mv (.t 7), none⟩,
    ⟨(some 9), .faddr (.t 1) 1, (some (8, false))⟩,
    ⟨(some 10), .load (.t 9) 1 false, (some (8, false))⟩,
    ⟨(some 11), .len (.t 10), (some (8, false))⟩,
    ⟨(some 12), .bin .gtr (.t 11) (.c (.int .i64 2500)), (some (8, false))⟩,
    ⟨(some 13), .pick (.t 8) (.c (.bool true)) (.t 12), none⟩]
def spec_ClausesValid_1 : IR := .ops l_spec_ClausesValid_1
@[go_sem] theorem w_spec_ClausesValid_1 : wp P spec_ClausesValid_1 Q e H = wpL P l_spec_ClausesValid_1 (Q .normal) e H := idE rfl
@[go_sem] def l_spec_ClausesValid_2 : List GOp := [⟨(some 2), .mv (.c (.bool false)), none⟩]
def spec_ClausesValid_2 : IR := .ops l_spec_ClausesValid_2
@[go_sem] theorem w_spec_ClausesValid_2 : wp P spec_ClausesValid_2 Q e H = wpL P l_spec_ClausesValid_2 (Q .normal) e H := idE rfl
def spec_ClausesValid_3 : IR := .cond (.t 13) (.seq spec_ClausesValid_2 .ret) .skip
@[go_sem] theorem w_spec_ClausesValid_3 : wp P spec_ClausesValid_3 Q e H = condW P ((.t 13) : X) (.seq spec_ClausesValid_2 .ret) .skip Q e H := idE rfl
@[go_sem] def l_spec_ClausesValid_4 : List GOp := [⟨(some 3), .mv (.c (.int .i64 0)), none⟩]
def spec_ClausesValid_4 : IR := .ops l_spec_ClausesValid_4
@[go_sem] theorem w_spec_ClausesValid_4 : wp P spec_ClausesValid_4 Q e H = wpL P l_spec_ClausesValid_4 (Q .normal) e H := idE rfl
@[go_sem] def l_spec_ClausesValid_5 : List GOp := [⟨(some 14), .mv (.t 3), none⟩,
    ⟨(some 15), .faddr (.t 1) 1, none⟩,
    ⟨(some 16), .load (.t 15) 1 false, none⟩,
    ⟨(some 17), .len (.t 16), none⟩,
    ⟨(some 18), .bin .lss (.t 14) (.t 17), none⟩]
def spec_ClausesValid_5 : IR := .ops l_spec_ClausesValid_5
@[go_sem] theorem w_spec_ClausesValid_5 : wp P spec_ClausesValid_5 Q e H = wpL P l_spec_ClausesValid_5 (Q .normal) e H := idE rfl
def spec_ClausesValid_6 : IR := .cond (.t 18) .skip (.exit 0)
@[go_sem] theorem w_spec_ClausesValid_6 : wp P spec_ClausesValid_6 Q e H = condW P ((.t 18) : X) .skip (.exit 0) Q e H := idE rfl
def l_spec_ClausesValid_7 : List GOp := [⟨(some 21), .faddr (.t 1) 1, none⟩,
    ⟨(some 22), .load (.t 21) 1 false, none⟩,
    ⟨(some 23), .mv (.t 3), none⟩,
    ⟨(some 24), .iaddr (.t 22) (.t 23) 1, none⟩,
    ⟨(some 25), .load (.t 24) 1 false, none⟩,
    ⟨(some 26), .faddr (.t 1) 0, none⟩,
    ⟨(some 27), .load (.t 26) 1 false, none⟩,
    ⟨(some 28), .call (n_spec_ClauseValid) [(.t 25), (.t 27)], none⟩,
    ⟨(some 29), .un .not (.t 28), none⟩]
@[go_sem] theorem g_spec_ClausesValid_7_0 : gAt l_spec_ClausesValid_7 0 = ⟨(some 21), .faddr (.t 1) 1, none⟩ := idE rfl
@[go_sem] theorem g_spec_ClausesValid_7_1 : gAt l_spec_ClausesValid_7 1 = ⟨(some 22), .load (.t 21) 1 false, none⟩ := idE rfl
@[go_sem] theorem g_spec_ClausesValid_7_2 : gAt l_spec_ClausesValid_7 2 = ⟨(some 23), .mv (.t 3), none⟩ := idE rfl
@[go_sem] theorem g_spec_ClausesValid_7_3 : gAt l_spec_ClausesValid_7 3 = ⟨(some 24), .iaddr (.t 22) (.t 23) 1, none⟩ := idE rfl
@[go_sem] theorem g_spec_ClausesValid_7_4 : gAt l_spec_ClausesValid_7 4 = ⟨(some 25), .load (.t 24) 1 false, none⟩ := idE rfl
@[go_sem] theorem g_spec_ClausesValid_7_5 : gAt l_spec_ClausesValid_7 5 = ⟨(some 26), .faddr (.t 1) 0, none⟩ := idE rfl
@[go_sem] theorem g_spec_ClausesValid_7_6 : gAt l_spec_ClausesValid_7 6 = ⟨(some 27), .load (.t 26) 1 false, none⟩ := idE rfl
@[go_sem] theorem g_spec_ClausesValid_7_7 : gAt l_spec_ClausesValid_7 7 = ⟨(some 28), .call (n_spec_ClauseValid) [(.t 25), (.t 27)], none⟩ := idE rfl
@[go_sem] theorem g_spec_ClausesValid_7_8 : gAt l_spec_ClausesValid_7 8 = ⟨(some 29), .un .not (.t 28), none⟩ := idE rfl
def spec_ClausesValid_7 : IR := .dops l_spec_ClausesValid_7 [(0, []), (1, []), (2, []), (3, []), (4, []), (5, []), (6, []), (7, []), (8, [])]
@[go_sem] theorem w_spec_ClausesValid_7 : wp P spec_ClausesValid_7 Q e H = wpD P l_spec_ClausesValid_7 [(0, []), (1, []), (2, []), (3, []), (4, []), (5, []), (6, []), (7, []), (8, [])] (Q .normal) e H := idE rfl
@[go_sem] def l_spec_ClausesValid_8 : List GOp := [⟨(some 2), .mv (.c (.bool false)), none⟩]
def spec_ClausesValid_8 : IR := .ops l_spec_ClausesValid_8
@[go_sem] theorem w_spec_ClausesValid_8 : wp P spec_ClausesValid_8 Q e H = wpL P l_spec_ClausesValid_8 (Q .normal) e H := idE rfl
def spec_ClausesValid_9 : IR := .cond (.t 29) (.seq spec_ClausesValid_8 .ret) .skip
@[go_sem] theorem w_spec_ClausesValid_9 : wp P spec_ClausesValid_9 Q e H = condW P ((.t 29) : X) (.seq spec_ClausesValid_8 .ret) .skip Q e H := idE rfl
def spec_ClausesValid_10 : IR := .block 1 (.seq spec_ClausesValid_7 spec_ClausesValid_9)
@[go_sem] theorem w_spec_ClausesValid_10 : wp P spec_ClausesValid_10 Q e H = wp P (.seq spec_ClausesValid_7 spec_ClausesValid_9) (blockQ 1 Q) e H := idE rfl
@[go_sem] def l_spec_ClausesValid_11 : List GOp := [⟨(some 19), .mv (.t 3), none⟩,
    ⟨(some 20), .bin .add (.t 19) (.c (.int .i64 1)), none⟩,
    ⟨(some 3), .mv (.t 20), none⟩]
def spec_ClausesValid_11 : IR := .ops l_spec_ClausesValid_11
@[go_sem] theorem w_spec_ClausesValid_11 : wp P spec_ClausesValid_11 Q e H = wpL P l_spec_ClausesValid_11 (Q .normal) e H := idE rfl
def spec_ClausesValid_12 : IR := .loop (.seq (.seq spec_ClausesValid_5 spec_ClausesValid_6) (.seq spec_ClausesValid_10 spec_ClausesValid_11))
def spec_ClausesValid_13 : IR := .block 0 spec_ClausesValid_12
@[go_sem] theorem w_spec_ClausesValid_13 : wp P spec_ClausesValid_13 Q e H = wp P spec_ClausesValid_12 (blockQ 0 Q) e H := idE rfl
@[go_sem] def l_spec_ClausesValid_14 : List GOp := [⟨(some 2), .mv (.c (.bool true)), none⟩]
def spec_ClausesValid_14 : IR := .ops l_spec_ClausesValid_14
@[go_sem] theorem w_spec_ClausesValid_14 : wp P spec_ClausesValid_14 Q e H = wpL P l_spec_ClausesValid_14 (Q .normal) e H := idE rfl
def F_spec_ClausesValid : IFn := ⟨1, 30, [.t 2], (.seq spec_ClausesValid_0 (.seq (.seq spec_ClausesValid_1 spec_ClausesValid_3) (.seq (.seq spec_ClausesValid_4 spec_ClausesValid_13) (.seq spec_ClausesValid_14 .ret))))⟩
theorem c_spec_ClausesValid : compFn Try.prog [(0, [], []), (1, [], []), (2, [], []), (3, [], []), (4, [], []), (6, [(0, []), (1, []), (2, []), (3, []), (4, []), (5, []), (6, []), (7, []), (8, [])], []), (7, [], []), (5, [], []), (8, [], [])] Try.f28 = some F_spec_ClausesValid := by kernel_rfl
theorem a_spec_ClausesValid (hl : args.length = 1) (h : wp Try.prog (.seq spec_ClausesValid_0 (.seq (.seq spec_ClausesValid_1 spec_ClausesValid_3) (.seq (.seq spec_ClausesValid_4 spec_ClausesValid_13) (.seq spec_ClausesValid_14 .ret)))) (postQ [.t 2] R) (env0 args) H) : ACall Try.prog n_spec_ClausesValid args H R :=
  acall_of_wp mixed Try.func28 c_spec_ClausesValid (by kernel_rfl) hl h
@[go_sem] def l_spec_l2Same_0 : List GOp := [⟨(some 4), .mv (.c (.bool false)), none⟩]
def spec_l2Same_0 : IR := .ops l_spec_l2Same_0
@[go_sem] theorem w_spec_l2Same_0 : wp P spec_l2Same_0 Q e H = wpL P l_spec_l2Same_0 (Q .normal) e H := idE rfl
@[go_sem] def l_spec_l2Same_1 : List GOp := [⟨(some 6), .mv (.t 0), none⟩,
    ⟨(some 7), .len (.t 6), none⟩,
    ⟨(some 8), .mv (.t 1), none⟩,
    ⟨(some 9), .len (.t 8), none⟩,
    ⟨(some 10), .bin .neq (.t 7) (.t 9), none⟩]
def spec_l2Same_1 : IR := .ops l_spec_l2Same_1
@[go_sem] theorem w_spec_l2Same_1 : wp P spec_l2Same_1 Q e H = wpL P l_spec_l2Same_1 (Q .normal) e H := idE rfl
@[go_sem] def l_spec_l2Same_2 : List GOp := [⟨(some 4), .mv (.c (.bool false)), none⟩]
def spec_l2Same_2 : IR := .ops l_spec_l2Same_2
@[go_sem] theorem w_spec_l2Same_2 : wp P spec_l2Same_2 Q e H = wpL P l_spec_l2Same_2 (Q .normal) e H := idE rfl
def spec_l2Same_3 : IR := .cond (.t 10) (.seq spec_l2Same_2 .ret) .skip
@[go_sem] theorem w_spec_l2Same_3 : wp P spec_l2Same_3 Q e H = condW P ((.t 10) : X) (.seq spec_l2Same_2 .ret) .skip Q e H := idE rfl
@[go_sem] def l_spec_l2Same_4 : List GOp := [⟨(some 5), .mv (.c (.int .i64 0)), none⟩]
def spec_l2Same_4 : IR := .ops l_spec_l2Same_4
@[go_sem] theorem w_spec_l2Same_4 : wp P spec_l2Same_4 Q e H = wpL P l_spec_l2Same_4 (Q .normal) e H := idE rfl
@[go_sem] def l_spec_l2Same_5 : List GOp := [⟨(some 11), .mv (.t 5), none⟩,
    ⟨(some 12), .mv (.t 0), none⟩,
    ⟨(some 13), .len (.t 12), none⟩,
    ⟨(some 14), .bin .lss (.t 11) (.t 13), none⟩]
def spec_l2Same_5 : IR := .ops l_spec_l2Same_5
@[go_sem] theorem w_spec_l2Same_5 : wp P spec_l2Same_5 Q e H = wpL P l_spec_l2Same_5 (Q .normal) e H := idE rfl
def spec_l2Same_6 : IR := .cond (.t 14) .skip (.exit 0)
@[go_sem] theorem w_spec_l2Same_6 : wp P spec_l2Same_6 Q e H = condW P ((.t 14) : X) .skip (.exit 0) Q e H := idE rfl
def l_spec_l2Same_7 : List GOp := [⟨(some 17), .mv (.t 0), none⟩,
    ⟨(some 18), .mv (.t 5), none⟩,
    ⟨(some 19), .iaddr (.t 17) (.t 18) 1, none⟩,
    ⟨(some 20), .load (.t 19) 1 false, none⟩,
    ⟨(some 21), .mv (.t 1), none⟩,
    ⟨(some 22), .mv (.t 5), none⟩,
    ⟨(some 23), .iaddr (.t 21) (.t 22) 1, none⟩,
    ⟨(some 24), .load (.t 23) 1 false, none⟩,
    ⟨(some 25), .bin .neq (.t 20) (.t 24), none⟩]
@[go_sem] theorem g_spec_l2Same_7_0 : gAt l_spec_l2Same_7 0 = ⟨(some 17), .mv (.t 0), none⟩ := idE rfl
@[go_sem] theorem g_spec_l2Same_7_1 : gAt l_spec_l2Same_7 1 = ⟨(some 18), .mv (.t 5), none⟩ := idE rfl
@[go_sem] theorem g_spec_l2Same_7_2 : gAt l_spec_l2Same_7 2 = ⟨(some 19), .iaddr (.t 17) (.t 18) 1, none⟩ := idE rfl
@[go_sem] theorem g_spec_l2Same_7_3 : gAt l_spec_l2Same_7 3 = ⟨(some 20), .load (.t 19) 1 false, none⟩ := idE rfl
@[go_sem] theorem g_spec_l2Same_7_4 : gAt l_spec_l2Same_7 4 = ⟨(some 21), .mv (.t 1), none⟩ := idE rfl
@[go_sem] theorem g_spec_l2Same_7_5 : gAt l_spec_l2Same_7 5 = ⟨(some 22), .mv (.t 5), none⟩ := idE rfl
@[go_sem] theorem g_spec_l2Same_7_6 : gAt l_spec_l2Same_7 6 = ⟨(some 23), .iaddr (.t 21) (.t 22) 1, none⟩ := idE rfl
@[go_sem] theorem g_spec_l2Same_7_7 : gAt l_spec_l2Same_7 7 = ⟨(some 24), .load (.t 23) 1 false, none⟩ := idE rfl
@[go_sem] theorem g_spec_l2Same_7_8 : gAt l_spec_l2Same_7 8 = ⟨(some 25), .bin .neq (.t 20) (.t 24), none⟩ := idE rfl
def spec_l2Same_7 : IR := .dops l_spec_l2Same_7 [(0, []), (1, []), (2, []), (3, []), (4, []), (5, []), (6, []), (7, []), (8, [])]
@[go_sem] theorem w_spec_l2Same_7 : wp P spec_l2Same_7 Q e H = wpD P l_spec_l2Same_7 [(0, []), (1, []), (2, []), (3, []), (4, []), (5, []), (6, []), (7, []), (8, [])] (Q .normal) e H := idE rfl
@[go_sem] def l_spec_l2Same_8 : List GOp := [⟨(some 4), .mv (.c (.bool false)), none⟩]
def spec_l2Same_8 : IR := .ops l_spec_l2Same_8
@[go_sem] theorem w_spec_l2Same_8 : wp P spec_l2Same_8 Q e H = wpL P l_spec_l2Same_8 (Q .normal) e H := idE rfl
def spec_l2Same_9 : IR := .cond (.t 25) (.seq spec_l2Same_8 .ret) .skip
@[go_sem] theorem w_spec_l2Same_9 : wp P spec_l2Same_9 Q e H = condW P ((.t 25) : X) (.seq spec_l2Same_8 .ret) .skip Q e H := idE rfl
def spec_l2Same_10 : IR := .block 1 (.seq spec_l2Same_7 spec_l2Same_9)
@[go_sem] theorem w_spec_l2Same_10 : wp P spec_l2Same_10 Q e H = wp P (.seq spec_l2Same_7 spec_l2Same_9) (blockQ 1 Q) e H := idE rfl
@[go_sem] def l_spec_l2Same_11 : List GOp := [⟨(some 15), .mv (.t 5), none⟩,
    ⟨(some 16), .bin .add (.t 15) (.c (.int .i64 1)), none⟩,
    ⟨(some 5), .mv (.t 16), none⟩]
def spec_l2Same_11 : IR := .ops l_spec_l2Same_11
@[go_sem] theorem w_spec_l2Same_11 : wp P spec_l2Same_11 Q e H = wpL P l_spec_l2Same_11 (Q .normal) e H := idE rfl
def spec_l2Same_12 : IR := .loop (.seq (.seq spec_l2Same_5 spec_l2Same_6) (.seq spec_l2Same_10 spec_l2Same_11))
def spec_l2Same_13 : IR := .block 0 spec_l2Same_12
@[go_sem] theorem w_spec_l2Same_13 : wp P spec_l2Same_13 Q e H = wp P spec_l2Same_12 (blockQ 0 Q) e H := idE rfl
@[go_sem] def l_spec_l2Same_14 : List GOp := [⟨(some 4), .mv (.c (.bool true)), none⟩]
def spec_l2Same_14 : IR := .ops l_spec_l2Same_14
@[go_sem] theorem w_spec_l2Same_14 : wp P spec_l2Same_14 Q e H = wpL P l_spec_l2Same_14 (Q .normal) e H := idE rfl
def F_spec_l2Same : IFn := ⟨2, 26, [.t 4], (.seq spec_l2Same_0 (.seq (.seq spec_l2Same_1 spec_l2Same_3) (.seq (.seq spec_l2Same_4 spec_l2Same_13) (.seq spec_l2Same_14 .ret))))⟩
theorem c_spec_l2Same : compFn Try.prog [(0, [], []), (1, [], []), (2, [], []), (3, [], []), (4, [], []), (6, [(0, []), (1, []), (2, []), (3, []), (4, []), (5, []), (6, []), (7, []), (8, [])], []), (7, [], []), (5, [], []), (8, [], [])] Try.f92 = some F_spec_l2Same := by kernel_rfl
theorem a_spec_l2Same (hl : args.length = 2) (h : wp Try.prog (.seq spec_l2Same_0 (.seq (.seq spec_l2Same_1 spec_l2Same_3) (.seq (.seq spec_l2Same_4 spec_l2Same_13) (.seq spec_l2Same_14 .ret)))) (postQ [.t 4] R) (env0 args) H) : ACall Try.prog n_spec_l2Same args H R :=
  acall_of_wp mixed Try.func92 c_spec_l2Same (by kernel_rfl) hl h
@[go_sem] def l_spec_l2Has_0 : List GOp := [⟨(some 4), .mv (.c (.bool false)), none⟩]
def spec_l2Has_0 : IR := .ops l_spec_l2Has_0
@[go_sem] theorem w_spec_l2Has_0 : wp P spec_l2Has_0 Q e H = wpL P l_spec_l2Has_0 (Q .normal) e H := idE rfl
@[go_sem] def l_spec_l2Has_1 : List GOp := [⟨(some 5), .mv (.c (.int .i64 0)), none⟩]
def spec_l2Has_1 : IR := .ops l_spec_l2Has_1
@[go_sem] theorem w_spec_l2Has_1 : wp P spec_l2Has_1 Q e H = wpL P l_spec_l2Has_1 (Q .normal) e H := idE rfl
@[go_sem] def l_spec_l2Has_2 : List GOp := [⟨(some 6), .mv (.t 5), none⟩,
    ⟨(some 7), .mv (.t 0), none⟩,
    ⟨(some 8), .len (.t 7), none⟩,
    ⟨(some 9), .bin .lss (.t 6) (.t 8), none⟩]
def spec_l2Has_2 : IR := .ops l_spec_l2Has_2
@[go_sem] theorem w_spec_l2Has_2 : wp P spec_l2Has_2 Q e H = wpL P l_spec_l2Has_2 (Q .normal) e H := idE rfl
def spec_l2Has_3 : IR := .cond (.t 9) .skip (.exit 0)
@[go_sem] theorem w_spec_l2Has_3 : wp P spec_l2Has_3 Q e H = condW P ((.t 9) : X) .skip (.exit 0) Q e H := idE rfl
@[go_sem] def l_spec_l2Has_4 : List GOp := [⟨(some 12), .mv (.t 0), none⟩,
    ⟨(some 13), .mv (.t 5), none⟩,
    ⟨(some 14), .iaddr (.t 12) (.t 13) 1, none⟩,
    ⟨(some 15), .load (.t 14) 1 false, none⟩,
    ⟨(some 16), .mv (.t 1), none⟩,
    ⟨(some 17), .bin .eql (.t 15) (.t 16), none⟩]
def spec_l2Has_4 : IR := .ops l_spec_l2Has_4
@[go_sem] theorem w_spec_l2Has_4 : wp P spec_l2Has_4 Q e H = wpL P l_spec_l2Has_4 (Q .normal) e H := idE rfl
@[go_sem] def l_spec_l2Has_5 : List GOp := [⟨(some 4), .mv (.c (.bool true)), none⟩]
def spec_l2Has_5 : IR := .ops l_spec_l2Has_5
@[go_sem] theorem w_spec_l2Has_5 : wp P spec_l2Has_5 Q e H = wpL P l_spec_l2Has_5 (Q .normal) e H := idE rfl
def spec_l2Has_6 : IR := .cond (.t 17) (.seq spec_l2Has_5 .ret) .skip
@[go_sem] theorem w_spec_l2Has_6 : wp P spec_l2Has_6 Q e H = condW P ((.t 17) : X) (.seq spec_l2Has_5 .ret) .skip Q e H := idE rfl
def spec_l2Has_7 : IR := .block 1 (.seq spec_l2Has_4 spec_l2Has_6)
@[go_sem] theorem w_spec_l2Has_7 : wp P spec_l2Has_7 Q e H = wp P (.seq spec_l2Has_4 spec_l2Has_6) (blockQ 1 Q) e H := idE rfl
@[go_sem] def l_spec_l2Has_8 : List GOp := [⟨(some 10), .mv (.t 5), none⟩,
    ⟨(some 11), .bin .add (.t 10) (.c (.int .i64 1)), none⟩,
    ⟨(some 5), .mv (.t 11), none⟩]
def spec_l2Has_8 : IR := .ops l_spec_l2Has_8
@[go_sem] theorem w_spec_l2Has_8 : wp P spec_l2Has_8 Q e H = wpL P l_spec_l2Has_8 (Q .normal) e H := idE rfl
def spec_l2Has_9 : IR := .loop (.seq (.seq spec_l2Has_2 spec_l2Has_3) (.seq spec_l2Has_7 spec_l2Has_8))
def spec_l2Has_10 : IR := .block 0 spec_l2Has_9
@[go_sem] theorem w_spec_l2Has_10 : wp P spec_l2Has_10 Q e H = wp P spec_l2Has_9 (blockQ 0 Q) e H := idE rfl
@[go_sem] def l_spec_l2Has_11 : List GOp := [⟨(some 4), .mv (.c (.bool false)), none⟩]
def spec_l2Has_11 : IR := .ops l_spec_l2Has_11
@[go_sem] theorem w_spec_l2Has_11 : wp P spec_l2Has_11 Q e H = wpL P l_spec_l2Has_11 (Q .normal) e H := idE rfl
def F_spec_l2Has : IFn := ⟨2, 18, [.t 4], (.seq spec_l2Has_0 (.seq (.seq spec_l2Has_1 spec_l2Has_10) (.seq spec_l2Has_11 .ret)))⟩
theorem c_spec_l2Has : compFn Try.prog [(0, [], []), (1, [], []), (2, [], []), (4, [], []), (5, [], []), (3, [], []), (6, [], [])] Try.f120 = some F_spec_l2Has := by kernel_rfl
theorem a_spec_l2Has (hl : args.length = 2) (h : wp Try.prog (.seq spec_l2Has_0 (.seq (.seq spec_l2Has_1 spec_l2Has_10) (.seq spec_l2Has_11 .ret))) (postQ [.t 4] R) (env0 args) H) : ACall Try.prog n_spec_l2Has args H R :=
  acall_of_wp mixed Try.func120 c_spec_l2Has (by kernel_rfl) hl h
@[go_sem] def l_spec_l11Without_0 : List GOp := [⟨(some 4), .mv (.c (.sl none 0 0 true 0)), none⟩]
def spec_l11Without_0 : IR := .ops l_spec_l11Without_0
@[go_sem] theorem w_spec_l11Without_0 : wp P spec_l11Without_0 Q e H = wpL P l_spec_l11Without_0 (Q .normal) e H := idE rfl
@[go_sem] def l_spec_l11Without_1 : List GOp := [⟨(some 7), .bslc 1 0 [(.int .i64 0)] [], none⟩,
    ⟨(some 5), .mv (.t 7), none⟩]
def spec_l11Without_1 : IR := .ops l_spec_l11Without_1
@[go_sem] theorem w_spec_l11Without_1 : wp P spec_l11Without_1 Q e H = wpL P l_spec_l11Without_1 (Q .normal) e H := idE rfl
@[go_sem] def l_spec_l11Without_2 : List GOp := [⟨(some 6), .mv (.c (.int .i64 0)), none⟩]
def spec_l11Without_2 : IR := .ops l_spec_l11Without_2
@[go_sem] theorem w_spec_l11Without_2 : wp P spec_l11Without_2 Q e H = wpL P l_spec_l11Without_2 (Q .normal) e H := idE rfl
@[go_sem] def l_spec_l11Without_3 : List GOp := [⟨(some 8), .mv (.t 6), none⟩,
    ⟨(some 9), .mv (.t 0), none⟩,
    ⟨(some 10), .len (.t 9), none⟩,
    ⟨(some 11), .bin .lss (.t 8) (.t 10), none⟩]
def spec_l11Without_3 : IR := .ops l_spec_l11Without_3
@[go_sem] theorem w_spec_l11Without_3 : wp P spec_l11Without_3 Q e H = wpL P l_spec_l11Without_3 (Q .normal) e H := idE rfl
def spec_l11Without_4 : IR := .cond (.t 11) .skip (.exit 0)
@[go_sem] theorem w_spec_l11Without_4 : wp P spec_l11Without_4 Q e H = condW P ((.t 11) : X) .skip (.exit 0) Q e H := idE rfl
@[go_sem] def l_spec_l11Without_5 : List GOp := [⟨(some 14), .mv (.t 0), none⟩,
    ⟨(some 15), .mv (.t 6), none⟩,
    ⟨(some 16), .iaddr (.t 14) (.t 15) 1, none⟩,
    ⟨(some 17), .load (.t 16) 1 false, none⟩,
    ⟨(some 18), .mv (.t 1), none⟩,
    ⟨(some 19), .bin .neq (.t 17) (.t 18), none⟩]
def spec_l11Without_5 : IR := .ops l_spec_l11Without_5
@[go_sem] theorem w_spec_l11Without_5 : wp P spec_l11Without_5 Q e H = wpL P l_spec_l11Without_5 (Q .normal) e H := idE rfl
@[go_sem] def l_spec_l11Without_6 : List GOp := [⟨(some 20), .mv (.t 5), none⟩,
    ⟨(some 21), .mv (.t 0), none⟩,
    ⟨(some 22), .mv (.t 6), none⟩,
    ⟨(some 23), .iaddr (.t 21) (.t 22) 1, none⟩,
    ⟨(some 24), .load (.t 23) 1 false, none⟩,
    ⟨(some 25), .bslc 1 1 [(.int .i64 0)] [(0, (.t 24))], none⟩,
    ⟨(some 26), .app 1 8 (.t 20) (.t 25), none⟩,
    ⟨(some 5), .mv (.t 26), none⟩]
def spec_l11Without_6 : IR := .ops l_spec_l11Without_6
@[go_sem] theorem w_spec_l11Without_6 : wp P spec_l11Without_6 Q e H = wpL P l_spec_l11Without_6 (Q .normal) e H := idE rfl
def spec_l11Without_7 : IR := .cond (.t 19) spec_l11Without_6 .skip
@[go_sem] theorem w_spec_l11Without_7 : wp P spec_l11Without_7 Q e H = condW P ((.t 19) : X) spec_l11Without_6 .skip Q e H := idE rfl
def spec_l11Without_8 : IR := .block 1 (.seq spec_l11Without_5 spec_l11Without_7)
@[go_sem] theorem w_spec_l11Without_8 : wp P spec_l11Without_8 Q e H = wp P (.seq spec_l11Without_5 spec_l11Without_7) (blockQ 1 Q) e H := idE rfl
@[go_sem] def l_spec_l11Without_9 : List GOp := [⟨(some 12), .mv (.t 6), none⟩,
    ⟨(some 13), .bin .add (.t 12) (.c (.int .i64 1)), none⟩,
    ⟨(some 6), .mv (.t 13), none⟩]
def spec_l11Without_9 : IR := .ops l_spec_l11Without_9
@[go_sem] theorem w_spec_l11Without_9 : wp P spec_l11Without_9 Q e H = wpL P l_spec_l11Without_9 (Q .normal) e H := idE rfl
def spec_l11Without_10 : IR := .loop (.seq (.seq spec_l11Without_3 spec_l11Without_4) (.seq spec_l11Without_8 spec_l11Without_9))
def spec_l11Without_11 : IR := .block 0 spec_l11Without_10
@[go_sem] theorem w_spec_l11Without_11 : wp P spec_l11Without_11 Q e H = wp P spec_l11Without_10 (blockQ 0 Q) e H := idE rfl
@[go_sem] def l_spec_l11Without_12 : List GOp := [⟨(some 27), .mv (.t 5), none⟩,
    ⟨(some 4), .mv (.t 27), none⟩]
def spec_l11Without_12 : IR := .ops l_spec_l11Without_12
@[go_sem] theorem w_spec_l11Without_12 : wp P spec_l11Without_12 Q e H = wpL P l_spec_l11Without_12 (Q .normal) e H := idE rfl
def F_spec_l11Without : IFn := ⟨2, 28, [.t 4], (.seq spec_l11Without_0 (.seq spec_l11Without_1 (.seq (.seq spec_l11Without_2 spec_l11Without_11) (.seq spec_l11Without_12 .ret))))⟩
theorem c_spec_l11Without : compFn Try.prog [(0, [], []), (1, [], []), (2, [], []), (3, [], []), (5, [], []), (6, [], []), (4, [], []), (7, [], [])] Try.f123 = some F_spec_l11Without := by kernel_rfl
theorem a_spec_l11Without (hl : args.length = 2) (h : wp Try.prog (.seq spec_l11Without_0 (.seq spec_l11Without_1 (.seq (.seq spec_l11Without_2 spec_l11Without_11) (.seq spec_l11Without_12 .ret)))) (postQ [.t 4] R) (env0 args) H) : ACall Try.prog n_spec_l11Without args H R :=
  acall_of_wp mixed Try.func123 c_spec_l11Without (by kernel_rfl) hl h
@[go_sem] def l_spec_l3Copy_0 : List GOp := [⟨(some 2), .mv (.c (.sl none 0 0 true 0)), none⟩]
def spec_l3Copy_0 : IR := .ops l_spec_l3Copy_0
@[go_sem] theorem w_spec_l3Copy_0 : wp P spec_l3Copy_0 Q e H = wpL P l_spec_l3Copy_0 (Q .normal) e H := idE rfl
@[go_sem] def l_spec_l3Copy_1 : List GOp := [⟨(some 5), .bslc 1 0 [(.int .i64 0)] [], none⟩,
    ⟨(some 3), .mv (.t 5), none⟩]
def spec_l3Copy_1 : IR := .ops l_spec_l3Copy_1
@[go_sem] theorem w_spec_l3Copy_1 : wp P spec_l3Copy_1 Q e H = wpL P l_spec_l3Copy_1 (Q .normal) e H := idE rfl
@[go_sem] def l_spec_l3Copy_2 : List GOp := [⟨(some 4), .mv (.c (.int .i64 0)), none⟩]
def spec_l3Copy_2 : IR := .ops l_spec_l3Copy_2
@[go_sem] theorem w_spec_l3Copy_2 : wp P spec_l3Copy_2 Q e H = wpL P l_spec_l3Copy_2 (Q .normal) e H := idE rfl
@[go_sem] def l_spec_l3Copy_3 : List GOp := [⟨(some 6), .mv (.t 4), none⟩,
    ⟨(some 7), .mv (.t 0), none⟩,
    ⟨(some 8), .len (.t 7), none⟩,
    ⟨(some 9), .bin .lss (.t 6) (.t 8), none⟩]
def spec_l3Copy_3 : IR := .ops l_spec_l3Copy_3
@[go_sem] theorem w_spec_l3Copy_3 : wp P spec_l3Copy_3 Q e H = wpL P l_spec_l3Copy_3 (Q .normal) e H := idE rfl
def spec_l3Copy_4 : IR := .cond (.t 9) .skip (.exit 0)
@[go_sem] theorem w_spec_l3Copy_4 : wp P spec_l3Copy_4 Q e H = condW P ((.t 9) : X) .skip (.exit 0) Q e H := idE rfl
@[go_sem] def l_spec_l3Copy_5 : List GOp := [⟨(some 12), .mv (.t 3), none⟩,
    ⟨(some 13), .mv (.t 0), none⟩,
    ⟨(some 14), .mv (.t 4), none⟩,
    ⟨(some 15), .iaddr (.t 13) (.t 14) 1, none⟩,
    ⟨(some 16), .load (.t 15) 1 false, none⟩,
    ⟨(some 17), .bslc 1 1 [(.int .i64 0)] [(0, (.t 16))], none⟩,
    ⟨(some 18), .app 1 8 (.t 12) (.t 17), none⟩,
    ⟨(some 3), .mv (.t 18), none⟩]
def spec_l3Copy_5 : IR := .ops l_spec_l3Copy_5
@[go_sem] theorem w_spec_l3Copy_5 : wp P spec_l3Copy_5 Q e H = wpL P l_spec_l3Copy_5 (Q .normal) e H := idE rfl
def spec_l3Copy_6 : IR := .block 1 spec_l3Copy_5
@[go_sem] theorem w_spec_l3Copy_6 : wp P spec_l3Copy_6 Q e H = wp P spec_l3Copy_5 (blockQ 1 Q) e H := idE rfl
@[go_sem] def l_spec_l3Copy_7 : List GOp := [⟨(some 10), .mv (.t 4), none⟩,
    ⟨(some 11), .bin .add (.t 10) (.c (.int .i64 1)), none⟩,
    ⟨(some 4), .mv (.t 11), none⟩]
def spec_l3Copy_7 : IR := .ops l_spec_l3Copy_7
@[go_sem] theorem w_spec_l3Copy_7 : wp P spec_l3Copy_7 Q e H = wpL P l_spec_l3Copy_7 (Q .normal) e H := idE rfl
def spec_l3Copy_8 : IR := .loop (.seq (.seq spec_l3Copy_3 spec_l3Copy_4) (.seq spec_l3Copy_6 spec_l3Copy_7))
def spec_l3Copy_9 : IR := .block 0 spec_l3Copy_8
@[go_sem] theorem w_spec_l3Copy_9 : wp P spec_l3Copy_9 Q e H = wp P spec_l3Copy_8 (blockQ 0 Q) e H := idE rfl
@[go_sem] def l_spec_l3Copy_10 : List GOp := [⟨(some 19), .mv (.t 3), none⟩,
    ⟨(some 2), .mv (.t 19), none⟩]
def spec_l3Copy_10 : IR := .ops l_spec_l3Copy_10
@[go_sem] theorem w_spec_l3Copy_10 : wp P spec_l3Copy_10 Q e H = wpL P l_spec_l3Copy_10 (Q .normal) e H := idE rfl
def F_spec_l3Copy : IFn := ⟨1, 20, [.t 2], (.seq spec_l3Copy_0 (.seq spec_l3Copy_1 (.seq (.seq spec_l3Copy_2 spec_l3Copy_9) (.seq spec_l3Copy_10 .ret))))⟩
theorem c_spec_l3Copy : compFn Try.prog [(0, [], []), (1, [], []), (2, [], []), (3, [], []), (5, [], []), (4, [], []), (6, [], [])] Try.f88 = some F_spec_l3Copy := by kernel_rfl
theorem a_spec_l3Copy (hl : args.length = 1) (h : wp Try.prog (.seq spec_l3Copy_0 (.seq spec_l3Copy_1 (.seq (.seq spec_l3Copy_2 spec_l3Copy_9) (.seq spec_l3Copy_10 .ret)))) (postQ [.t 2] R) (env0 args) H) : ACall Try.prog n_spec_l3Copy args H R :=
  acall_of_wp mixed Try.func88 c_spec_l3Copy (by kernel_rfl) hl h
@[go_sem] def l_spec_l11Join_0 : List GOp := [⟨(some 4), .mv (.c (.sl none 0 0 true 0)), none⟩]
def spec_l11Join_0 : IR := .ops l_spec_l11Join_0
@[go_sem] theorem w_spec_l11Join_0 : wp P spec_l11Join_0 Q e H = wpL P l_spec_l11Join_0 (Q .normal) e H := idE rfl
@[go_sem] def l_spec_l11Join_1 : List GOp := [⟨(some 7), .mv (.t 0), none⟩,
    ⟨(some 8), .call (n_spec_l3Copy) [(.t 7)], none⟩,
    ⟨(some 5), .mv (.t 8), none⟩]
def spec_l11Join_1 : IR := .ops l_spec_l11Join_1
@[go_sem] theorem w_spec_l11Join_1 : wp P spec_l11Join_1 Q e H = wpL P l_spec_l11Join_1 (Q .normal) e H := idE rfl
@[go_sem] def l_spec_l11Join_2 : List GOp := [⟨(some 6), .mv (.c (.int .i64 0)), none⟩]
def spec_l11Join_2 : IR := .ops l_spec_l11Join_2
@[go_sem] theorem w_spec_l11Join_2 : wp P spec_l11Join_2 Q e H = wpL P l_spec_l11Join_2 (Q .normal) e H := idE rfl
@[go_sem] def l_spec_l11Join_3 : List GOp := [⟨(some 9), .mv (.t 6), none⟩,
    ⟨(some 10), .mv (.t 1), none⟩,
    ⟨(some 11), .len (.t 10), none⟩,
    ⟨(some 12), .bin .lss (.t 9) (.t 11), none⟩]
def spec_l11Join_3 : IR := .ops l_spec_l11Join_3
@[go_sem] theorem w_spec_l11Join_3 : wp P spec_l11Join_3 Q e H = wpL P l_spec_l11Join_3 (Q .normal) e H := idE rfl
def spec_l11Join_4 : IR := .cond (.t 12) .skip (.exit 0)
@[go_sem] theorem w_spec_l11Join_4 : wp P spec_l11Join_4 Q e H = condW P ((.t 12) : X) .skip (.exit 0) Q e H := idE rfl
@[go_sem] def l_spec_l11Join_5 : List GOp := [⟨(some 15), .mv (.t 5), none⟩,
    ⟨(some 16), .mv (.t 1), none⟩,
    ⟨(some 17), .mv (.t 6), none⟩,
    ⟨(some 18), .iaddr (.t 16) (.t 17) 1, none⟩,
    ⟨(some 19), .load (.t 18) 1 false, none⟩,
    ⟨(some 20), .bslc 1 1 [(.int .i64 0)] [(0, (.t 19))], none⟩,
    ⟨(some 21), .app 1 8 (.t 15) (.t 20), none⟩,
    ⟨(some 5), .mv (.t 21), none⟩]
def spec_l11Join_5 : IR := .ops l_spec_l11Join_5
@[go_sem] theorem w_spec_l11Join_5 : wp P spec_l11Join_5 Q e H = wpL P l_spec_l11Join_5 (Q .normal) e H := idE rfl
def spec_l11Join_6 : IR := .block 1 spec_l11Join_5
@[go_sem] theorem w_spec_l11Join_6 : wp P spec_l11Join_6 Q e H = wp P spec_l11Join_5 (blockQ 1 Q) e H := idE rfl
@[go_sem] def l_spec_l11Join_7 : List GOp := [⟨(some 13), .mv (.t 6), none⟩,
    ⟨(some 14), .bin .add (.t 13) (.c (.int .i64 1)), none⟩,
    ⟨(some 6), .mv (.t 14), none⟩]
def spec_l11Join_7 : IR := .ops l_spec_l11Join_7
@[go_sem] theorem w_spec_l11Join_7 : wp P spec_l11Join_7 Q e H = wpL P l_spec_l11Join_7 (Q .normal) e H := idE rfl
def spec_l11Join_8 : IR := .loop (.seq (.seq spec_l11Join_3 spec_l11Join_4) (.seq spec_l11Join_6 spec_l11Join_7))
def spec_l11Join_9 : IR := .block 0 spec_l11Join_8
@[go_sem] theorem w_spec_l11Join_9 : wp P spec_l11Join_9 Q e H = wp P spec_l11Join_8 (blockQ 0 Q) e H := idE rfl
@[go_sem] def l_spec_l11Join_10 : List GOp := [⟨(some 22), .mv (.t 5), none⟩,
    ⟨(some 4), .mv (.t 22), none⟩]
def spec_l11Join_10 : IR := .ops l_spec_l11Join_10
@[go_sem] theorem w_spec_l11Join_10 : wp P spec_l11Join_10 Q e H = wpL P l_spec_l11Join_10 (Q .normal) e H := idE rfl
def F_spec_l11Join : IFn := ⟨2, 23, [.t 4], (.seq spec_l11Join_0 (.seq spec_l11Join_1 (.seq (.seq spec_l11Join_2 spec_l11Join_9) (.seq spec_l11Join_10 .ret))))⟩
theorem c_spec_l11Join : compFn Try.prog [(0, [], []), (1, [], []), (2, [], []), (3, [], []), (5, [], []), (4, [], []), (6, [], [])] Try.f122 = some F_spec_l11Join := by kernel_rfl
theorem a_spec_l11Join (hl : args.length = 2) (h : wp Try.prog (.seq spec_l11Join_0 (.seq spec_l11Join_1 (.seq (.seq spec_l11Join_2 spec_l11Join_9) (.seq spec_l11Join_10 .ret)))) (postQ [.t 4] R) (env0 args) H) : ACall Try.prog n_spec_l11Join args H R :=
  acall_of_wp mixed Try.func122 c_spec_l11Join (by kernel_rfl) hl h
@[go_sem] def l_spec_l11Clause_0 : List GOp := [⟨(some 4), .mv (.c (.sl none 0 0 true 0)), none⟩,
    ⟨(some 5), .mv (.c (.bool false)), none⟩]
def spec_l11Clause_0 : IR := .ops l_spec_l11Clause_0
@[go_sem] theorem w_spec_l11Clause_0 : wp P spec_l11Clause_0 Q e H = wpL P l_spec_l11Clause_0 (Q .normal) e H := idE rfl
@[go_sem] def l_spec_l11Clause_1 : List GOp := [⟨(some 11), .mv (.t 1), none⟩,
    ⟨(some 12), .bin .add (.t 11) (.c (.int .i64 1)), none⟩,
    ⟨(some 13), .mks [(.int .i64 0)] 8 (.t 12), none⟩,
    ⟨(some 6), .mv (.t 13), none⟩]
def spec_l11Clause_1 : IR := .ops l_spec_l11Clause_1
@[go_sem] theorem w_spec_l11Clause_1 : wp P spec_l11Clause_1 Q e H = wpL P l_spec_l11Clause_1 (Q .normal) e H := idE rfl
@[go_sem] def l_spec_l11Clause_2 : List GOp := [⟨(some 7), .mv (.c (.int .i64 0)), none⟩]
def spec_l11Clause_2 : IR := .ops l_spec_l11Clause_2
@[go_sem] theorem w_spec_l11Clause_2 : wp P spec_l11Clause_2 Q e H = wpL P l_spec_l11Clause_2 (Q .normal) e H := idE rfl
@[go_sem] def l_spec_l11Clause_3 : List GOp := [⟨(some 14), .mv (.t 7), none⟩,
    ⟨(some 15), .mv (.t 0), none⟩,
    ⟨(some 16), .len (.t 15), none⟩,
    ⟨(some 17), .bin .lss (.t 14) (.t 16), none⟩]
def spec_l11Clause_3 : IR := .ops l_spec_l11Clause_3
@[go_sem] theorem w_spec_l11Clause_3 : wp P spec_l11Clause_3 Q e H = wpL P l_spec_l11Clause_3 (Q .normal) e H := idE rfl
def spec_l11Clause_4 : IR := .cond (.t 17) .skip (.exit 0)
@[go_sem] theorem w_spec_l11Clause_4 : wp P spec_l11Clause_4 Q e H = condW P ((.t 17) : X) .skip (.exit 0) Q e H := idE rfl
@[go_sem] def l_spec_l11Clause_5 : List GOp := [⟨(some 20), .mv (.t 0), none⟩,
    ⟨(some 21), .mv (.t 7), none⟩,
    ⟨(some 22), .iaddr (.t 20) (.t 21) 1, none⟩,
    ⟨(some 23), .load (.t 22) 1 false, none⟩,
    ⟨(some 24), .call (n_spec_l11Abs) [(.t 23)], none⟩,
    ⟨(some 8), .mv (.t 24), none⟩]
def spec_l11Clause_5 : IR := .ops l_spec_l11Clause_5
@[go_sem] theorem w_spec_l11Clause_5 : wp P spec_l11Clause_5 Q e H = wpL P l_spec_l11Clause_5 (Q .normal) e H := idE rfl
def l_spec_l11Clause_6 : List GOp := [⟨(some 25), .mv (.t 6), none⟩,
    ⟨(some 26), .mv (.t 8), none⟩,
    ⟨(some 27), .iaddr (.t 25) (.t 26) 1, none⟩,
    ⟨(some 28), .load (.t 27) 1 false, none⟩,
    ⟨(some 29), .bin .neq (.t 28) (.c (.int .i64 0)), none⟩,
    ⟨(some 30), .mv (.t 29), none⟩,
    ⟨(some 31), .mv (.t 6), (some (30, true))⟩,
    ⟨(some 32), .mv (.t 8), (some (30, true))⟩,
    ⟨(some 33), .iaddr (.t 31) (.t 32) 1, (some (30, true))⟩,
    ⟨(some 34), .load (.t 33) 1 false, (some (30, true))⟩,
    ⟨(some 35), .mv (.t 0), (some (30, true))⟩,
    ⟨(some 36), .mv (.t 7), (some (30, true))⟩,
    ⟨(some 37), .iaddr (.t 35) (.t 36) 1, (some (30, true))⟩,
    ⟨(some 38), .load (.t 37) 1 false, (some (30, true))⟩,
    ⟨(some 39), .bin .neq (.t 34) (.t 38), (some (30, true))⟩,
    ⟨(some 40), .pick (.t 30) (.t 39) (.c (.bool false)), none⟩]
@[go_sem] theorem g_spec_l11Clause_6_0 : gAt l_spec_l11Clause_6 0 = ⟨(some 25), .mv (.t 6), none⟩ := idE rfl
@[go_sem] theorem g_spec_l11Clause_6_1 : gAt l_spec_l11Clause_6 1 = ⟨(some 26), .mv (.t 8), none⟩ := idE rfl
@[go_sem] theorem g_spec_l11Clause_6_2 : gAt l_spec_l11Clause_6 2 = ⟨(some 27), .iaddr (.t 25) (.t 26) 1, none⟩ := idE rfl
@[go_sem] theorem g_spec_l11Clause_6_3 : gAt l_spec_l11Clause_6 3 = ⟨(some 28), .load (.t 27) 1 false, none⟩ := idE rfl
@[go_sem] theorem g_spec_l11Clause_6_4 : gAt l_spec_l11Clause_6 4 = ⟨(some 29), .bin .neq (.t 28) (.c (.int .i64 0)), none⟩ := idE rfl
@[go_sem] theorem g_spec_l11Clause_6_5 : gAt l_spec_l11Clause_6 5 = ⟨(some 30), .mv (.t 29), none⟩ := idE rfl
@[go_sem] theorem g_spec_l11Clause_6_6 : gAt l_spec_l11Clause_6 6 = ⟨(some 31), .mv (.t 6), (some (30, true))⟩ := idE rfl
@[go_sem] theorem g_spec_l11Clause_6_7 : gAt l_spec_l11Clause_6 7 = ⟨(some 32), .mv (.t 8), (some (30, true))⟩ := idE rfl
@[go_sem] theorem g_spec_l11Clause_6_8 : gAt l_spec_l11Clause_6 8 = ⟨(some 33), .iaddr (.t 31) (.t 32) 1, (some (30, true))⟩ := idE rfl
@[go_sem] theorem g_spec_l11Clause_6_9 : gAt l_spec_l11Clause_6 9 = ⟨(some 34), .load (.t 33) 1 false, (some (30, true))⟩ := idE rfl
@[go_sem] theorem g_spec_l11Clause_6_10 : gAt l_spec_l11Clause_6 10 = ⟨(some 35), .mv (.t 0), (some (30, true))⟩ := idE rfl
@[go_sem] theorem g_spec_l11Clause_6_11 : gAt l_spec_l11Clause_6 11 = ⟨(some 36), .mv (.t 7), (some (30, true))⟩ := idE rfl
@[go_sem] theorem g_spec_l11Clause_6_12 : gAt l_spec_l11Clause_6 12 = ⟨(some 37), .iaddr (.t 35) (.t 36) 1, (some (30, true))⟩ := idE rfl
@[go_sem] theorem g_spec_l11Clause_6_13 : gAt l_spec_l11Clause_6 13 = ⟨(some 38), .load (.t 37) 1 false, (some (30, true))⟩ := idE rfl
@[go_sem] theorem g_spec_l11Clause_6_14 : gAt l_spec_l11Clause_6 14 = ⟨(some 39), .bin .neq (.t 34) (.t 38), (some (30, true))⟩ := idE rfl
@[go_sem] theorem g_spec_l11Clause_6_15 : gAt l_spec_l11Clause_6 15 = ⟨(some 40), .pick (.t 30) (.t 39) (.c (.bool false)), none⟩ := idE rfl
def spec_l11Clause_6 : IR := .dops l_spec_l11Clause_6 [(0, []), (1, []), (2, []), (3, []), (4, []), (5, []), (6, []), (7, []), (8, []), (9, []), (10, []), (11, []), (12, []), (13, []), (14, []), (15, [])]
@[go_sem] theorem w_spec_l11Clause_6 : wp P spec_l11Clause_6 Q e H = wpD P l_spec_l11Clause_6 [(0, []), (1, []), (2, []), (3, []), (4, []), (5, []), (6, []), (7, []), (8, []), (9, []), (10, []), (11, []), (12, []), (13, []), (14, []), (15, [])] (Q .normal) e H := idE rfl
@[go_sem] def l_spec_l11Clause_7 : List GOp := [⟨(some 4), .mv (.c (.sl none 0 0 true 0)), none⟩,
    ⟨(some 5), .mv (.c (.bool false)), none⟩]
def spec_l11Clause_7 : IR := .ops l_spec_l11Clause_7
@[go_sem] theorem w_spec_l11Clause_7 : wp P spec_l11Clause_7 Q e H = wpL P l_spec_l11Clause_7 (Q .normal) e H := idE rfl
def spec_l11Clause_8 : IR := .cond (.t 40) (.seq spec_l11Clause_7 .ret) .skip
@[go_sem] theorem w_spec_l11Clause_8 : wp P spec_l11Clause_8 Q e H = condW P ((.t 40) : X) (.seq spec_l11Clause_7 .ret) .skip Q e H := idE rfl
@[go_sem] def l_spec_l11Clause_9 : List GOp := [⟨(some 41), .mv (.t 6), none⟩,
    ⟨(some 42), .mv (.t 8), none⟩,
    ⟨(some 43), .mv (.t 0), none⟩,
    ⟨(some 44), .mv (.t 7), none⟩,
    ⟨(some 45), .iaddr (.t 43) (.t 44) 1, none⟩,
    ⟨(some 46), .load (.t 45) 1 false, none⟩,
    ⟨(some 47), .iaddr (.t 41) (.t 42) 1, none⟩,
    ⟨none, .store (.t 47) 1 (.t 46), none⟩]
def spec_l11Clause_9 : IR := .ops l_spec_l11Clause_9
@[go_sem] theorem w_spec_l11Clause_9 : wp P spec_l11Clause_9 Q e H = wpL P l_spec_l11Clause_9 (Q .normal) e H := idE rfl
def spec_l11Clause_10 : IR := .block 1 (.seq spec_l11Clause_5 (.seq (.seq spec_l11Clause_6 spec_l11Clause_8) spec_l11Clause_9))
@[go_sem] theorem w_spec_l11Clause_10 : wp P spec_l11Clause_10 Q e H = wp P (.seq spec_l11Clause_5 (.seq (.seq spec_l11Clause_6 spec_l11Clause_8) spec_l11Clause_9)) (blockQ 1 Q) e H := idE rfl
@[go_sem] def l_spec_l11Clause_11 : List GOp := [⟨(some 18), .mv (.t 7), none⟩,
    ⟨(some 19), .bin .add (.t 18) (.c (.int .i64 1)), none⟩,
    ⟨(some 7), .mv (.t 19), none⟩]
def spec_l11Clause_11 : IR := .ops l_spec_l11Clause_11
@[go_sem] theorem w_spec_l11Clause_11 : wp P spec_l11Clause_11 Q e H = wpL P l_spec_l11Clause_11 (Q .normal) e H := idE rfl
def spec_l11Clause_12 : IR := .loop (.seq (.seq spec_l11Clause_3 spec_l11Clause_4) (.seq spec_l11Clause_10 spec_l11Clause_11))
def spec_l11Clause_13 : IR := .block 0 spec_l11Clause_12
@[go_sem] theorem w_spec_l11Clause_13 : wp P spec_l11Clause_13 Q e H = wp P spec_l11Clause_12 (blockQ 0 Q) e H := idE rfl
@[go_sem] def l_spec_l11Clause_14 : List GOp := [⟨(some 48), .bslc 1 0 [(.int .i64 0)] [], none⟩,
    ⟨(some 9), .mv (.t 48), none⟩]
def spec_l11Clause_14 : IR := .ops l_spec_l11Clause_14
@[go_sem] theorem w_spec_l11Clause_14 : wp P spec_l11Clause_14 Q e H = wpL P l_spec_l11Clause_14 (Q .normal) e H := idE rfl
@[go_sem] def l_spec_l11Clause_15 : List GOp := [⟨(some 10), .mv (.c (.int .i64 1)), none⟩]
def spec_l11Clause_15 : IR := .ops l_spec_l11Clause_15
@[go_sem] theorem w_spec_l11Clause_15 : wp P spec_l11Clause_15 Q e H = wpL P l_spec_l11Clause_15 (Q .normal) e H := idE rfl
@[go_sem] def l_spec_l11Clause_16 : List GOp := [⟨(some 49), .mv (.t 10), none⟩,
    ⟨(some 50), .mv (.t 1), none⟩,
    ⟨(some 51), .bin .leq (.t 49) (.t 50), none⟩]
def spec_l11Clause_16 : IR := .ops l_spec_l11Clause_16
@[go_sem] theorem w_spec_l11Clause_16 : wp P spec_l11Clause_16 Q e H = wpL P l_spec_l11Clause_16 (Q .normal) e H := idE rfl
def spec_l11Clause_17 : IR := .cond (.t 51) .skip (.exit 2)
@[go_sem] theorem w_spec_l11Clause_17 : wp P spec_l11Clause_17 Q e H = condW P ((.t 51) : X) .skip (.exit 2) Q e H := idE rfl
@[go_sem] def l_spec_l11Clause_18 : List GOp := [⟨(some 54), .mv (.t 6), none⟩,
    ⟨(some 55), .mv (.t 10), none⟩,
    ⟨(some 56), .iaddr (.t 54) (.t 55) 1, none⟩,
    ⟨(some 57), .load (.t 56) 1 false, none⟩,
    ⟨(some 58), .bin .neq (.t 57) (.c (.int .i64 0)), none⟩]
def spec_l11Clause_18 : IR := .ops l_spec_l11Clause_18
@[go_sem] theorem w_spec_l11Clause_18 : wp P spec_l11Clause_18 Q e H = wpL P l_spec_l11Clause_18 (Q .normal) e H := idE rfl
@[go_sem] def l_spec_l11Clause_19 : List GOp := [⟨(some 59), .mv (.t 9), none⟩,
    ⟨(some 60), .mv (.t 6), none⟩,
    ⟨(some 61), .mv (.t 10), none⟩,
    ⟨(some 62), .iaddr (.t 60) (.t 61) 1, none⟩,
    ⟨(some 63), .load (.t 62) 1 false, none⟩,
    ⟨(some 64), .bslc 1 1 [(.int .i64 0)] [(0, (.t 63))], none⟩,
    ⟨(some 65), .app 1 8 (.t 59) (.t 64), none⟩,
    ⟨(some 9), .mv (.t 65), none⟩]
def spec_l11Clause_19 : IR := .ops l_spec_l11Clause_19
@[go_sem] theorem w_spec_l11Clause_19 : wp P spec_l11Clause_19 Q e H = wpL P l_spec_l11Clause_19 (Q .normal) e H := idE rfl
def spec_l11Clause_20 : IR := .cond (.t 58) spec_l11Clause_19 .skip
@[go_sem] theorem w_spec_l11Clause_20 : wp P spec_l11Clause_20 Q e H = condW P ((.t 58) : X) spec_l11Clause_19 .skip Q e H := idE rfl
def spec_l11Clause_21 : IR := .block 3 (.seq spec_l11Clause_18 spec_l11Clause_20)
@[go_sem] theorem w_spec_l11Clause_21 : wp P spec_l11Clause_21 Q e H = wp P (.seq spec_l11Clause_18 spec_l11Clause_20) (blockQ 3 Q) e H := idE rfl
@[go_sem] def l_spec_l11Clause_22 : List GOp := [⟨(some 52), .mv (.t 10), none⟩,
    ⟨(some 53), .bin .add (.t 52) (.c (.int .i64 1)), none⟩,
    ⟨(some 10), .mv (.t 53), none⟩]
def spec_l11Clause_22 : IR := .ops l_spec_l11Clause_22
@[go_sem] theorem w_spec_l11Clause_22 : wp P spec_l11Clause_22 Q e H = wpL P l_spec_l11Clause_22 (Q .normal) e H := idE rfl
def spec_l11Clause_23 : IR := .loop (.seq (.seq spec_l11Clause_16 spec_l11Clause_17) (.seq spec_l11Clause_21 spec_l11Clause_22))
def spec_l11Clause_24 : IR := .block 2 spec_l11Clause_23
@[go_sem] theorem w_spec_l11Clause_24 : wp P spec_l11Clause_24 Q e H = wp P spec_l11Clause_23 (blockQ 2 Q) e H := idE rfl
@[go_sem] def l_spec_l11Clause_25 : List GOp := [⟨(some 66), .mv (.t 9), none⟩,
    ⟨(some 4), .mv (.t 66), none⟩,
    ⟨(some 5), .mv (.c (.bool true)), none⟩]
def spec_l11Clause_25 : IR := .ops l_spec_l11Clause_25
@[go_sem] theorem w_spec_l11Clause_25 : wp P spec_l11Clause_25 Q e H = wpL P l_spec_l11Clause_25 (Q .normal) e H := idE rfl
def F_spec_l11Clause : IFn := ⟨2, 67, [.t 4, .t 5], (.seq spec_l11Clause_0 (.seq spec_l11Clause_1 (.seq (.seq spec_l11Clause_2 spec_l11Clause_13) (.seq spec_l11Clause_14 (.seq (.seq spec_l11Clause_15 spec_l11Clause_24) (.seq spec_l11Clause_25 .ret))))))⟩
theorem c_spec_l11Clause : compFn Try.prog [(0, [], []), (1, [], []), (2, [], []), (3, [], []), (5, [], []), (6, [(0, []), (1, []), (2, []), (3, []), (4, []), (5, []), (6, []), (7, []), (8, []), (9, []), (10, []), (11, []), (12, []), (13, []), (14, []), (15, [])], []), (7, [], []), (8, [], []), (4, [], []), (9, [], []), (10, [], []), (11, [], []), (13, [], []), (14, [], []), (12, [], []), (15, [], [])] Try.f121 = some F_spec_l11Clause := by kernel_rfl
theorem a_spec_l11Clause (hl : args.length = 2) (h : wp Try.prog (.seq spec_l11Clause_0 (.seq spec_l11Clause_1 (.seq (.seq spec_l11Clause_2 spec_l11Clause_13) (.seq spec_l11Clause_14 (.seq (.seq spec_l11Clause_15 spec_l11Clause_24) (.seq spec_l11Clause_25 .ret)))))) (postQ [.t 4, .t 5] R) (env0 args) H) : ACall Try.prog n_spec_l11Clause args H R :=
  acall_of_wp mixed Try.func121 c_spec_l11Clause (by kernel_rfl) hl h
@[go_sem] def l_spec_Resolved_0 : List GOp := [⟨(some 6), .mv (.c (.sl none 0 0 true 0)), none⟩,
    ⟨(some 7), .mv (.c (.bool false)), none⟩]
def spec_Resolved_0 : IR := .ops l_spec_Resolved_0
@[go_sem] theorem w_spec_Resolved_0 : wp P spec_Resolved_0 Q e H = wpL P l_spec_Resolved_0 (Q .normal) e H := idE rfl
@[go_sem] def l_spec_Resolved_1 : List GOp := [⟨(some 8), .mv (.t 0), none⟩,
    ⟨(some 9), .call (n_spec_ClauseValid) [(.t 8), (.c (.int .i64 700))], none⟩,
    ⟨(some 10), .un .not (.t 9), none⟩,
    ⟨(some 11), .mv (.t 10), none⟩,
    ⟨(some 12), .mv (.t 1), (some (11, false))⟩,
    ⟨(some 13), .call (n_spec_ClauseValid) [(.t 12), (.c (.int .i64 700))], (some (11, false))⟩,
    ⟨(some 14), .un .not (.t 13), (some (11, false))⟩,
    ⟨(some 15), .pick (.t 11) (.c (.bool true)) (.t 14), none⟩,
    ⟨(some 16), .mv (.t 15), none⟩,
    ⟨(some 17), .mv (.t 2), (some (16, false))⟩,
    ⟨(some 18), .bin .lss (.t 17) (.c (.int .i64 1)), (some (16, false))⟩,
    ⟨(some 19), .pick (.t 16) (.c (.bool true)) (.t 18), none⟩,
    ⟨(some 20), .mv (.t 19), none⟩,
    ⟨(some 21), .mv (.t 0), (some (20, false))⟩,
    ⟨(some 22), .mv (.t 2), (some (20, false))⟩,
    ⟨(some 23), .call (n_spec_l2Has) [(.t 21), (.t 22)], (some (20, false))⟩,
    ⟨(some 24), .un .not (.t 23), (some (20, false))⟩,
    ⟨(some 25), .pick (.t 20) (.c (.bool true)) (.t 24), none⟩,
    ⟨(some 26), .mv (.t 25), none⟩,
    ⟨(some 27), .mv (.t 1), (some (26, false))⟩,
    ⟨(some 28), .mv (.t 2), (some (26, false))⟩,
    ⟨(some 29), .un .neg (.t 28), (some (26, false))⟩,
    ⟨(some 30), .call (n_spec_l2Has) [(.t 27), (.t 29)], (some (26, false))⟩,
    ⟨(some 31), .un .not (.t 30), (some (26, false))⟩,
    ⟨(some 32), .pick (.t 26) (.c (.bool true)) (.t 31), none⟩]
def spec_Resolved_1 : IR := .ops l_spec_Resolved_1
@[go_sem] theorem w_spec_Resolved_1 : wp P spec_Resolved_1 Q e H = wpL P l_spec_Resolved_1 (Q .normal) e H := idE rfl
@[go_sem] def l_spec_Resolved_2 : List GOp := [⟨(some 6), .mv (.c (.sl none 0 0 true 0)), none⟩,
    ⟨(some 7), .mv (.c (.bool false)), none⟩]
def spec_Resolved_2 : IR := .ops l_spec_Resolved_2
@[go_sem] theorem w_spec_Resolved_2 : wp P spec_Resolved_2 Q e H = wpL P l_spec_Resolved_2 (Q .normal) e H := idE rfl
def spec_Resolved_3 : IR := .cond (.t 32) (.seq spec_Resolved_2 .ret) .skip
@[go_sem] theorem w_spec_Resolved_3 : wp P spec_Resolved_3 Q e H = condW P ((.t 32) : X) (.seq spec_Resolved_2 .ret) .skip Q e H := idE rfl
@[go_sem] def l_spec_Resolved_4 : List GOp := [⟨(some 33), .mv (.t 0), none⟩,
    ⟨(some 34), .mv (.t 2), none⟩,
    ⟨(some 35), .call (n_spec_l11Without) [(.t 33), (.t 34)], none⟩,
    ⟨(some 36), .mv (.t 1), none⟩,
    ⟨(some 37), .mv (.t 2), none⟩,
    ⟨(some 38), .un .neg (.t 37), none⟩,
    ⟨(some 39), .call (n_spec_l11Without) [(.t 36), (.t 38)], none⟩,
    ⟨(some 40), .call (n_spec_l11Join) [(.t 35), (.t 39)], none⟩,
    ⟨(some 41), .call (n_spec_l11Clause) [(.t 40), (.c (.int .i64 700))], none⟩,
    ⟨(some 42), .ext (.t 41) 0, none⟩,
    ⟨(some 43), .ext (.t 41) 1, none⟩,
    ⟨(some 6), .mv (.t 42), none⟩,
    ⟨(some 7), .mv (.t 43), none⟩]
def spec_Resolved_4 : IR := .ops l_spec_Resolved_4
@[go_sem] theorem w_spec_Resolved_4 : wp P spec_Resolved_4 Q e H = wpL P l_spec_Resolved_4 (Q .normal) e H := idE rfl
def F_spec_Resolved : IFn := ⟨3, 44, [.t 6, .t 7], (.seq spec_Resolved_0 (.seq (.seq spec_Resolved_1 spec_Resolved_3) (.seq spec_Resolved_4 .ret)))⟩
theorem c_spec_Resolved : compFn Try.prog [(0, [], []), (1, [], []), (2, [], []), (3, [], [])] Try.f93 = some F_spec_Resolved := by kernel_rfl
theorem a_spec_Resolved (hl : args.length = 3) (h : wp Try.prog (.seq spec_Resolved_0 (.seq (.seq spec_Resolved_1 spec_Resolved_3) (.seq spec_Resolved_4 .ret))) (postQ [.t 6, .t 7] R) (env0 args) H) : ACall Try.prog n_spec_Resolved args H R :=
  acall_of_wp mixed Try.func93 c_spec_Resolved (by kernel_rfl) hl h
@[go_sem] def l_spec_l13Step_0 : List GOp := [⟨(some 3), .box (.t 0), none⟩,
    ⟨(some 6), .mv (.c (.bool false)), none⟩]
def spec_l13Step_0 : IR := .ops l_spec_l13Step_0
@[go_sem] theorem w_spec_l13Step_0 : wp P spec_l13Step_0 Q e H = wpL P l_spec_l13Step_0 (Q .normal) e H := idE rfl
@[go_sem] def l_spec_l13Step_1 : List GOp := [⟨(some 10), .mv (.t 1), none⟩,
    ⟨(some 11), .mv (.t 2), none⟩,
    ⟨(some 12), .iaddr (.t 10) (.t 11) 5, none⟩,
    ⟨(some 13), .load (.t 12) 5 true, none⟩,
    ⟨(some 7), .alloc [(.int .i64 0), (.int .i64 0), (.int .i64 0), (.int .i64 0), (.sl none 0 0 true 0)], none⟩,
    ⟨none, .store (.t 7) 5 (.t 13), none⟩]
def spec_l13Step_1 : IR := .ops l_spec_l13Step_1
@[go_sem] theorem w_spec_l13Step_1 : wp P spec_l13Step_1 Q e H = wpL P l_spec_l13Step_1 (Q .normal) e H := idE rfl
@[go_sem] def l_spec_l13Step_2 : List GOp := [⟨(some 14), .faddr (.t 7) 0, none⟩,
    ⟨(some 15), .load (.t 14) 1 false, none⟩,
    ⟨(some 16), .bin .geq (.t 15) (.c (.int .i64 0)), none⟩]
def spec_l13Step_2 : IR := .ops l_spec_l13Step_2
@[go_sem] theorem w_spec_l13Step_2 : wp P spec_l13Step_2 Q e H = wpL P l_spec_l13Step_2 (Q .normal) e H := idE rfl
def l_spec_l13Step_3 : List GOp := [⟨(some 17), .faddr (.t 7) 0, none⟩,
    ⟨(some 18), .load (.t 17) 1 false, none⟩,
    ⟨(some 19), .faddr (.t 3) 1, none⟩,
    ⟨(some 20), .load (.t 19) 1 false, none⟩,
    ⟨(some 21), .len (.t 20), none⟩,
    ⟨(some 22), .bin .lss (.t 18) (.t 21), none⟩,
    ⟨(some 23), .mv (.t 22), none⟩,
    ⟨(some 24), .faddr (.t 7) 1, (some (23, true))⟩,
    ⟨(some 25), .load (.t 24) 1 false, (some (23, true))⟩,
    ⟨(some 26), .bin .eql (.t 25) (.c (.int .i64 (-1))), (some (23, true))⟩,
    ⟨(some 27), .pick (.t 23) (.t 26) (.c (.bool false)), none⟩,
    ⟨(some 28), .mv (.t 27), none⟩,
    ⟨(some 29), .faddr (.t 7) 2, (some (28, true))⟩,
    ⟨(some 30), .load (.t 29) 1 false, (some (28, true))⟩,
    ⟨(some 31), .bin .eql (.t 30) (.c (.int .i64 (-1))), (some (28, true))⟩,
    ⟨(some 32), .pick (.t 28) (.t 31) (.c (.bool false)), none⟩,
    ⟨(some 33), .mv (.t 32), none⟩,
    ⟨(some 34), .faddr (.t 7) 3, (some (33, true))⟩,
    ⟨(some 35), .load (.t 34) 1 false, (some (33, true))⟩,
    ⟨(some 36), .bin .eql (.t 35) (.c (.int .i64 0)), (some (33, true))⟩,
    ⟨(some 37), .pick (.t 33) (.t 36) (.c (.bool false)), none⟩,
    ⟨(some 38), .mv (.t 37), none⟩,
    ⟨(some 39), .faddr (.t 7) 4, (some (38, true))⟩,
    ⟨(some 40), .load (.t 39) 1 false, (some (38, true))⟩,
    ⟨(some 41), .faddr (.t 3) 1, (some (38, true))⟩,
    ⟨(some 42), .load (.t 41) 1 false, (some (38, true))⟩,
    ⟨(some 43), .faddr (.t 7) 0, (some (38, true))⟩,
    ⟨(some 44), .load (.t 43) 1 false, (some (38, true))⟩,
    ⟨(some 45), .iaddr (.t 42) (.t 44) 1, (some (38, true))⟩,
    ⟨(some 46), .load (.t 45) 1 false, (some (38, true))⟩,
    ⟨(some 47), .call (n_spec_l2Same) [(.t 40), (.t 46)], (some (38, true))⟩,
    ⟨(some 48), .pick (.t 38) (.t 47) (.c (.bool false)), none⟩,
    ⟨(some 6), .mv (.t 48), none⟩]
@[go_sem] theorem g_spec_l13Step_3_0 : gAt l_spec_l13Step_3 0 = ⟨(some 17), .faddr (.t 7) 0, none⟩ := idE rfl
@[go_sem] theorem g_spec_l13Step_3_1 : gAt l_spec_l13Step_3 1 = ⟨(some 18), .load (.t 17) 1 false, none⟩ := idE rfl
@[go_sem] theorem g_spec_l13Step_3_2 : gAt l_spec_l13Step_3 2 = ⟨(some 19), .faddr (.t 3) 1, none⟩ := idE rfl
@[go_sem] theorem g_spec_l13Step_3_3 : gAt l_spec_l13Step_3 3 = ⟨(some 20), .load (.t 19) 1 false, none⟩ := idE rfl
@[go_sem] theorem g_spec_l13Step_3_4 : gAt l_spec_l13Step_3 4 = ⟨(some 21), .len (.t 20), none⟩ := idE rfl
@[go_sem] theorem g_spec_l13Step_3_5 : gAt l_spec_l13Step_3 5 = ⟨(some 22), .bin .lss (.t 18) (.t 21), none⟩ := idE rfl
@[go_sem] theorem g_spec_l13Step_3_6 : gAt l_spec_l13Step_3 6 = ⟨(some 23), .mv (.t 22), none⟩ := idE rfl
@[go_sem] theorem g_spec_l13Step_3_7 : gAt l_spec_l13Step_3 7 = ⟨(some 24), .faddr (.t 7) 1, (some (23, true))⟩ := idE rfl
@[go_sem] theorem g_spec_l13Step_3_8 : gAt l_spec_l13Step_3 8 = ⟨(some 25), .load (.t 24) 1 false, (some (23, true))⟩ := idE rfl
@[go_sem] theorem g_spec_l13Step_3_9 : gAt l_spec_l13Step_3 9 = ⟨(some 26), .bin .eql (.t 25) (.c (.int .i64 (-1))), (some (23, true))⟩ := idE rfl
@[go_sem] theorem g_spec_l13Step_3_10 : gAt l_spec_l13Step_3 10 = ⟨(some 27), .pick (.t 23) (.t 26) (.c (.bool false)), none⟩ := idE rfl
@[go_sem] theorem g_spec_l13Step_3_11 : gAt l_spec_l13Step_3 11 = ⟨(some 28), .mv (.t 27), none⟩ := idE rfl
@[go_sem] theorem g_spec_l13Step_3_12 : gAt l_spec_l13Step_3 12 = ⟨(some 29), .faddr (.t 7) 2, (some (28, true))⟩ := idE rfl
@[go_sem] theorem g_spec_l13Step_3_13 : gAt l_spec_l13Step_3 13 = ⟨(some 30), .load (.t 29) 1 false, (some (28, true))⟩ := idE rfl
@[go_sem] theorem g_spec_l13Step_3_14 : gAt l_spec_l13Step_3 14 = ⟨(some 31), .bin .eql (.t 30) (.c (.int .i64 (-1))), (some (28, true))⟩ := idE rfl
@[go_sem] theorem g_spec_l13Step_3_15 : gAt l_spec_l13Step_3 15 = ⟨(some 32), .pick (.t 28) (.t 31) (.c (.bool false)), none⟩ := idE rfl
@[go_sem] theorem g_spec_l13Step_3_16 : gAt l_spec_l13Step_3 16 = ⟨(some 33), .mv (.t 32), none⟩ := idE rfl
@[go_sem] theorem g_spec_l13Step_3_17 : gAt l_spec_l13Step_3 17 = ⟨(some 34), .faddr (.t 7) 3, (some (33, true))⟩ := idE rfl
@[go_sem] theorem g_spec_l13Step_3_18 : gAt l_spec_l13Step_3 18 = ⟨(some 35), .load (.t 34) 1 false, (some (33, true))⟩ := idE rfl
@[go_sem] theorem g_spec_l13Step_3_19 : gAt l_spec_l13Step_3 19 = ⟨(some 36), .bin .eql (.t 35) (.c (.int .i64 0)), (some (33, true))⟩ := idE rfl
@[go_sem] theorem g_spec_l13Step_3_20 : gAt l_spec_l13Step_3 20 = ⟨(some 37), .pick (.t 33) (.t 36) (.c (.bool false)), none⟩ := idE rfl
@[go_sem] theorem g_spec_l13Step_3_21 : gAt l_spec_l13Step_3 21 = ⟨(some 38), .mv (.t 37), none⟩ := idE rfl
@[go_sem] theorem g_spec_l13Step_3_22 : gAt l_spec_l13Step_3 22 = ⟨(some 39), .faddr (.t 7) 4, (some (38, true))⟩ := idE rfl
@[go_sem] theorem g_spec_l13Step_3_23 : gAt l_spec_l13Step_3 23 = ⟨(some 40), .load (.t 39) 1 false, (some (38, true))⟩ := idE rfl
@[go_sem] theorem g_spec_l13Step_3_24 : gAt l_spec_l13Step_3 24 = ⟨(some 41), .faddr (.t 3) 1, (some (38, true))⟩ := idE rfl
@[go_sem] theorem g_spec_l13Step_3_25 : gAt l_spec_l13Step_3 25 = ⟨(some 42), .load (.t 41) 1 false, (some (38, true))⟩ := idE rfl
@[go_sem] theorem g_spec_l13Step_3_26 : gAt l_spec_l13Step_3 26 = ⟨(some 43), .faddr (.t 7) 0, (some (38, true))⟩ := idE rfl
@[go_sem] theorem g_spec_l13Step_3_27 : gAt l_spec_l13Step_3 27 = ⟨(some 44), .load (.t 43) 1 false, (some (38, true))⟩ := idE rfl
@[go_sem] theorem g_spec_l13Step_3_28 : gAt l_spec_l13Step_3 28 = ⟨(some 45), .iaddr (.t 42) (.t 44) 1, (some (38, true))⟩ := idE rfl
@[go_sem] theorem g_spec_l13Step_3_29 : gAt l_spec_l13Step_3 29 = ⟨(some 46), .load (.t 45) 1 false, (some (38, true))⟩ := idE rfl
@[go_sem] theorem g_spec_l13Step_3_30 : gAt l_spec_l13Step_3 30 = ⟨(some 47), .call (n_spec_l2Same) [(.t 40), (.t 46)], (some (38, true))⟩ := idE rfl
@[go_sem] theorem g_spec_l13Step_3_31 : gAt l_spec_l13Step_3 31 = ⟨(some 48), .pick (.t 38) (.t 47) (.c (.bool false)), none⟩ := idE rfl
@[go_sem] theorem g_spec_l13Step_3_32 : gAt l_spec_l13Step_3 32 = ⟨(some 6), .mv (.t 48), none⟩ := idE rfl
def spec_l13Step_3 : IR := .dops l_spec_l13Step_3 [(0, []), (1, []), (2, []), (3, []), (4, []), (5, []), (6, []), (7, []), (8, []), (9, []), (10, []), (11, []), (12, []), (13, []), (14, []), (15, []), (16, []), (17, []), (18, []), (19, []), (20, []), (21, []), (22, []), (23, []), (24, []), (25, []), (26, []), (27, []), (28, []), (29, []), (30, []), (31, []), (32, [])]
@[go_sem] theorem w_spec_l13Step_3 : wp P spec_l13Step_3 Q e H = wpD P l_spec_l13Step_3 [(0, []), (1, []), (2, []), (3, []), (4, []), (5, []), (6, []), (7, []), (8, []), (9, []), (10, []), (11, []), (12, []), (13, []), (14, []), (15, []), (16, []), (17, []), (18, []), (19, []), (20, []), (21, []), (22, []), (23, []), (24, []), (25, []), (26, []), (27, []), (28, []), (29, []), (30, []), (31, []), (32, [])] (Q .normal) e H := idE rfl
def spec_l13Step_4 : IR := .cond (.t 16) (.seq spec_l13Step_3 .ret) .skip
@[go_sem] theorem w_spec_l13Step_4 : wp P spec_l13Step_4 Q e H = condW P ((.t 16) : X) (.seq spec_l13Step_3 .ret) .skip Q e H := idE rfl
@[go_sem] def l_spec_l13Step_5 : List GOp := [⟨(some 49), .faddr (.t 7) 0, none⟩,
    ⟨(some 50), .load (.t 49) 1 false, none⟩,
    ⟨(some 51), .bin .neq (.t 50) (.c (.int .i64 (-1))), none⟩,
    ⟨(some 52), .mv (.t 51), none⟩,
    ⟨(some 53), .faddr (.t 7) 1, (some (52, false))⟩,
    ⟨(some 54), .load (.t 53) 1 false, (some (52, false))⟩,
    ⟨(some 55), .mv (.t 2), (some (52, false))⟩,
    ⟨(some 56), .bin .sub (.t 55) (.c (.int .i64 1)), (some (52, false))⟩,
    ⟨(some 57), .call (n_spec_l1In) [(.t 54), (.c (.int .i64 0)), (.t 56)], (some (52, false))⟩,
    ⟨(some 58), .un .not (.t 57), (some (52, false))⟩,
    ⟨(some 59), .pick (.t 52) (.c (.bool true)) (.t 58), none⟩,
    ⟨(some 60), .mv (.t 59), none⟩,
    ⟨(some 61), .faddr (.t 7) 2, (some (60, false))⟩,
    ⟨(some 62), .load (.t 61) 1 false, (some (60, false))⟩,
    ⟨(some 63), .mv (.t 2), (some (60, false))⟩,
    ⟨(some 64), .bin .sub (.t 63) (.c (.int .i64 1)), (some (60, false))⟩,
    ⟨(some 65), .call (n_spec_l1In) [(.t 62), (.c (.int .i64 0)), (.t 64)], (some (60, false))⟩,
    ⟨(some 66), .un .not (.t 65), (some (60, false))⟩,
    ⟨(some 67), .pick (.t 60) (.c (.bool true)) (.t 66), none⟩]
def spec_l13Step_5 : IR := .ops l_spec_l13Step_5
@[go_sem] theorem w_spec_l13Step_5 : wp P spec_l13Step_5 Q e H = wpL P l_spec_l13Step_5 (Q .normal) e H := idE rfl
@[go_sem] def l_spec_l13Step_6 : List GOp := [⟨(some 6), .mv (.c (.bool false)), none⟩]
def spec_l13Step_6 : IR := .ops l_spec_l13Step_6
@[go_sem] theorem w_spec_l13Step_6 : wp P spec_l13Step_6 Q e H = wpL P l_spec_l13Step_6 (Q .normal) e H := idE rfl
def spec_l13Step_7 : IR := .cond (.t 67) (.seq spec_l13Step_6 .ret) .skip
@[go_sem] theorem w_spec_l13Step_7 : wp P spec_l13Step_7 Q e H = condW P ((.t 67) : X) (.seq spec_l13Step_6 .ret) .skip Q e H := idE rfl
def l_spec_l13Step_8 : List GOp := [⟨(some 69), .mv (.t 1), none⟩,
    ⟨(some 70), .faddr (.t 7) 1, none⟩,
    ⟨(some 71), .load (.t 70) 1 false, none⟩,
    ⟨(some 72), .iaddr (.t 69) (.t 71) 5, none⟩,
    ⟨(some 73), .faddr (.t 72) 4, none⟩,
    ⟨(some 74), .load (.t 73) 1 false, none⟩,
    ⟨(some 75), .mv (.t 1), none⟩,
    ⟨(some 76), .faddr (.t 7) 2, none⟩,
    ⟨(some 77), .load (.t 76) 1 false, none⟩,
    ⟨(some 78), .iaddr (.t 75) (.t 77) 5, none⟩,
    ⟨(some 79), .faddr (.t 78) 4, none⟩,
    ⟨(some 80), .load (.t 79) 1 false, none⟩,
    ⟨(some 81), .faddr (.t 7) 3, none⟩,
    ⟨(some 82), .load (.t 81) 1 false, none⟩,
    ⟨(some 83), .call (n_spec_Resolved) [(.t 74), (.t 80), (.t 82)], none⟩,
    ⟨(some 68), .mv (.t 83), none⟩,
    ⟨(some 84), .ext (.t 68) 0, none⟩,
    ⟨(some 85), .ext (.t 68) 1, none⟩,
    ⟨(some 8), .mv (.t 84), none⟩,
    ⟨(some 9), .mv (.t 85), none⟩]
@[go_sem] theorem g_spec_l13Step_8_0 : gAt l_spec_l13Step_8 0 = ⟨(some 69), .mv (.t 1), none⟩ := idE rfl
@[go_sem] theorem g_spec_l13Step_8_1 : gAt l_spec_l13Step_8 1 = ⟨(some 70), .faddr (.t 7) 1, none⟩ := idE rfl
@[go_sem] theorem g_spec_l13Step_8_2 : gAt l_spec_l13Step_8 2 = ⟨(some 71), .load (.t 70) 1 false, none⟩ := idE rfl
@[go_sem] theorem g_spec_l13Step_8_3 : gAt l_spec_l13Step_8 3 = ⟨(some 72), .iaddr (.t 69) (.t 71) 5, none⟩ := idE rfl
@[go_sem] theorem g_spec_l13Step_8_4 : gAt l_spec_l13Step_8 4 = ⟨(some 73), .faddr (.t 72) 4, none⟩ := idE rfl
@[go_sem] theorem g_spec_l13Step_8_5 : gAt l_spec_l13Step_8 5 = ⟨(some 74), .load (.t 73) 1 false, none⟩ := idE rfl
@[go_sem] theorem g_spec_l13Step_8_6 : gAt l_spec_l13Step_8 6 = ⟨(some 75), .mv (.t 1), none⟩ := idE rfl
@[go_sem] theorem g_spec_l13Step_8_7 : gAt l_spec_l13Step_8 7 = ⟨(some 76), .faddr (.t 7) 2, none⟩ := idE rfl
@[go_sem] theorem g_spec_l13Step_8_8 : gAt l_spec_l13Step_8 8 = ⟨(some 77), .load (.t 76) 1 false, none⟩ := idE rfl
@[go_sem] theorem g_spec_l13Step_8_9 : gAt l_spec_l13Step_8 9 = ⟨(some 78), .iaddr (.t 75) (.t 77) 5, none⟩ := idE rfl
@[go_sem] theorem g_spec_l13Step_8_10 : gAt l_spec_l13Step_8 10 = ⟨(some 79), .faddr (.t 78) 4, none⟩ := idE rfl
@[go_sem] theorem g_spec_l13Step_8_11 : gAt l_spec_l13Step_8 11 = ⟨(some 80), .load (.t 79) 1 false, none⟩ := idE rfl
@[go_sem] theorem g_spec_l13Step_8_12 : gAt l_spec_l13Step_8 12 = ⟨(some 81), .faddr (.t 7) 3, none⟩ := idE rfl
@[go_sem] theorem g_spec_l13Step_8_13 : gAt l_spec_l13Step_8 13 = ⟨(some 82), .load (.t 81) 1 false, none⟩ := idE rfl
@[go_sem] theorem g_spec_l13Step_8_14 : gAt l_spec_l13Step_8 14 = ⟨(some 83), .call (n_spec_Resolved) [(.t 74), (.t 80), (.t 82)], none⟩ := idE rfl
@[go_sem] theorem g_spec_l13Step_8_15 : gAt l_spec_l13Step_8 15 = ⟨(some 68), .mv (.t 83), none⟩ := idE rfl
@[go_sem] theorem g_spec_l13Step_8_16 : gAt l_spec_l13Step_8 16 = ⟨(some 84), .ext (.t 68) 0, none⟩ := idE rfl
@[go_sem] theorem g_spec_l13Step_8_17 : gAt l_spec_l13Step_8 17 = ⟨(some 85), .ext (.t 68) 1, none⟩ := idE rfl
@[go_sem] theorem g_spec_l13Step_8_18 : gAt l_spec_l13Step_8 18 = ⟨(some 8), .mv (.t 84), none⟩ := idE rfl
@[go_sem] theorem g_spec_l13Step_8_19 : gAt l_spec_l13Step_8 19 = ⟨(some 9), .mv (.t 85), none⟩ := idE rfl
def spec_l13Step_8 : IR := .dops l_spec_l13Step_8 [(0, []), (1, []), (2, []), (3, []), (4, []), (5, []), (6, []), (7, []), (8, []), (9, []), (10, []), (11, []), (12, []), (13, []), (14, []), (15, []), (16, []), (17, []), (18, []), (19, [])]
@[go_sem] theorem w_spec_l13Step_8 : wp P spec_l13Step_8 Q e H = wpD P l_spec_l13Step_8 [(0, []), (1, []), (2, []), (3, []), (4, []), (5, []), (6, []), (7, []), (8, []), (9, []), (10, []), (11, []), (12, []), (13, []), (14, []), (15, []), (16, []), (17, []), (18, []), (19, [])] (Q .normal) e H := idE rfl
@[go_sem] def l_spec_l13Step_9 : List GOp := [⟨(some 86), .mv (.t 9), none⟩,
    ⟨(some 87), .mv (.t 86), none⟩,
    ⟨(some 88), .faddr (.t 7) 4, (some (87, true))⟩,
    ⟨(some 89), .load (.t 88) 1 false, (some (87, true))⟩,
    ⟨(some 90), .mv (.t 8), (some (87, true))⟩,
    ⟨(some 91), .call (n_spec_l2Same) [(.t 89), (.t 90)], (some (87, true))⟩,
    ⟨(some 92), .pick (.t 87) (.t 91) (.c (.bool false)), none⟩,
    ⟨(some 6), .mv (.t 92), none⟩]
def spec_l13Step_9 : IR := .ops l_spec_l13Step_9
@[go_sem] theorem w_spec_l13Step_9 : wp P spec_l13Step_9 Q e H = wpL P l_spec_l13Step_9 (Q .normal) e H := idE rfl
def F_spec_l13Step : IFn := ⟨3, 93, [.t 6], (.seq spec_l13Step_0 (.seq spec_l13Step_1 (.seq (.seq spec_l13Step_2 spec_l13Step_4) (.seq (.seq spec_l13Step_5 spec_l13Step_7) (.seq spec_l13Step_8 (.seq spec_l13Step_9 .ret))))))⟩
theorem c_spec_l13Step : compFn Try.prog [(0, [], []), (1, [], []), (2, [], []), (3, [(0, []), (1, []), (2, []), (3, []), (4, []), (5, []), (6, []), (7, []), (8, []), (9, []), (10, []), (11, []), (12, []), (13, []), (14, []), (15, []), (16, []), (17, []), (18, []), (19, []), (20, []), (21, []), (22, []), (23, []), (24, []), (25, []), (26, []), (27, []), (28, []), (29, []), (30, []), (31, []), (32, [])], []), (4, [], []), (5, [], []), (6, [(0, []), (1, []), (2, []), (3, []), (4, []), (5, []), (6, []), (7, []), (8, []), (9, []), (10, []), (11, []), (12, []), (13, []), (14, []), (15, []), (16, []), (17, []), (18, []), (19, [])], []), (7, [], [])] Try.f56 = some F_spec_l13Step := by kernel_rfl
theorem a_spec_l13Step (hl : args.length = 3) (h : wp Try.prog (.seq spec_l13Step_0 (.seq spec_l13Step_1 (.seq (.seq spec_l13Step_2 spec_l13Step_4) (.seq (.seq spec_l13Step_5 spec_l13Step_7) (.seq spec_l13Step_8 (.seq spec_l13Step_9 .ret)))))) (postQ [.t 6] R) (env0 args) H) : ACall Try.prog n_spec_l13Step args H R :=
  acall_of_wp mixed Try.func56 c_spec_l13Step (by kernel_rfl) hl h
@[go_sem] def l_spec_CheckChains_0 : List GOp := [⟨(some 2), .box (.t 0), none⟩,
    ⟨(some 4), .mv (.c (.bool false)), none⟩]
def spec_CheckChains_0 : IR := .ops l_spec_CheckChains_0
@[go_sem] theorem w_spec_CheckChains_0 : wp P spec_CheckChains_0 Q e H = wpL P l_spec_CheckChains_0 (Q .normal) e H := idE rfl
@[go_sem] def l_spec_CheckChains_1 : List GOp := [⟨(some 6), .load (.t 2) 2 true, none⟩,
    ⟨(some 7), .call (n_spec_ClausesValid) [(.t 6)], none⟩,
    ⟨(some 8), .un .not (.t 7), none⟩,
    ⟨(some 9), .mv (.t 8), none⟩,
    ⟨(some 10), .mv (.t 1), (some (9, false))⟩,
    ⟨(some 11), .len (.t 10), (some (9, false))⟩,
    ⟨(some 12), .call (n_spec_l1In) [(.t 11), (.c (.int .i64 1)), (.c (.int .i64 3000))], (some (9, false))⟩,
    ⟨(some 13), .un .not (.t 12), (some (9, false))⟩,
    ⟨(some 14), .pick (.t 9) (.c (.bool true)) (.t 13), none⟩]
def spec_CheckChains_1 : IR := .ops l_spec_CheckChains_1
@[go_sem] theorem w_spec_CheckChains_1 : wp P spec_CheckChains_1 Q e H = wpL P l_spec_CheckChains_1 (Q .normal) e H := idE rfl
@[go_sem] def l_spec_CheckChains_2 : List GOp := [⟨(some 4), .mv (.c (.bool false)), none⟩]
def spec_CheckChains_2 : IR := .ops l_spec_CheckChains_2
@[go_sem] theorem w_spec_CheckChains_2 : wp P spec_CheckChains_2 Q e H = wpL P l_spec_CheckChains_2 (Q .normal) e H := idE rfl
def spec_CheckChains_3 : IR := .cond (.t 14) (.seq spec_CheckChains_2 .ret) .skip
@[go_sem] theorem w_spec_CheckChains_3 : wp P spec_CheckChains_3 Q e H = condW P ((.t 14) : X) (.seq spec_CheckChains_2 .ret) .skip Q e H := idE rfl
@[go_sem] def l_spec_CheckChains_4 : List GOp := [⟨(some 5), .mv (.c (.int .i64 0)), none⟩]
def spec_CheckChains_4 : IR := .ops l_spec_CheckChains_4
@[go_sem] theorem w_spec_CheckChains_4 : wp P spec_CheckChains_4 Q e H = wpL P l_spec_CheckChains_4 (Q .normal) e H := idE rfl
@[go_sem] def l_spec_CheckChains_5 : List GOp := [⟨(some 15), .mv (.t 5), none⟩,
    ⟨(some 16), .mv (.t 1), none⟩,
    ⟨(some 17), .len (.t 16), none⟩,
    ⟨(some 18), .bin .lss (.t 15) (.t 17), none⟩]
def spec_CheckChains_5 : IR := .ops l_spec_CheckChains_5
@[go_sem] theorem w_spec_CheckChains_5 : wp P spec_CheckChains_5 Q e H = wpL P l_spec_CheckChains_5 (Q .normal) e H := idE rfl
def spec_CheckChains_6 : IR := .cond (.t 18) .skip (.exit 0)
@[go_sem] theorem w_spec_CheckChains_6 : wp P spec_CheckChains_6 Q e H = condW P ((.t 18) : X) .skip (.exit 0) Q e H := idE rfl
@[go_sem] def l_spec_CheckChains_7 : List GOp := [⟨(some 21), .load (.t 2) 2 true, none⟩,
    ⟨(some 22), .mv (.t 1), none⟩,
    ⟨(some 23), .mv (.t 5), none⟩,
    ⟨(some 24), .call (n_spec_l13Step) [(.t 21), (.t 22), (.t 23)], none⟩,
    ⟨(some 25), .un .not (.t 24), none⟩]
def spec_CheckChains_7 : IR := .ops l_spec_CheckChains_7
@[go_sem] theorem w_spec_CheckChains_7 : wp P spec_CheckChains_7 Q e H = wpL P l_spec_CheckChains_7 (Q .normal) e H := idE rfl
@[go_sem] def l_spec_CheckChains_8 : List GOp := [⟨(some 4), .mv (.c (.bool false)), none⟩]
def spec_CheckChains_8 : IR := .ops l_spec_CheckChains_8
@[go_sem] theorem w_spec_CheckChains_8 : wp P spec_CheckChains_8 Q e H = wpL P l_spec_CheckChains_8 (Q .normal) e H := idE rfl
def spec_CheckChains_9 : IR := .cond (.t 25) (.seq spec_CheckChains_8 .ret) .skip
@[go_sem] theorem w_spec_CheckChains_9 : wp P spec_CheckChains_9 Q e H = condW P ((.t 25) : X) (.seq spec_CheckChains_8 .ret) .skip Q e H := idE rfl
def spec_CheckChains_10 : IR := .block 1 (.seq spec_CheckChains_7 spec_CheckChains_9)
@[go_sem] theorem w_spec_CheckChains_10 : wp P spec_CheckChains_10 Q e H = wp P (.seq spec_CheckChains_7 spec_CheckChains_9) (blockQ 1 Q) e H := idE rfl
@[go_sem] def l_spec_CheckChains_11 : List GOp := [⟨(some 19), .mv (.t 5), none⟩,
    ⟨(some 20), .bin .add (.t 19) (.c (.int .i64 1)), none⟩,
    ⟨(some 5), .mv (.t 20), none⟩]
def spec_CheckChains_11 : IR := .ops l_spec_CheckChains_11
@[go_sem] theorem w_spec_CheckChains_11 : wp P spec_CheckChains_11 Q e H = wpL P l_spec_CheckChains_11 (Q .normal) e H := idE rfl
def spec_CheckChains_12 : IR := .loop (.seq (.seq spec_CheckChains_5 spec_CheckChains_6) (.seq spec_CheckChains_10 spec_CheckChains_11))
def spec_CheckChains_13 : IR := .block 0 spec_CheckChains_12
@[go_sem] theorem w_spec_CheckChains_13 : wp P spec_CheckChains_13 Q e H = wp P spec_CheckChains_12 (blockQ 0 Q) e H := idE rfl
@[go_sem] def l_spec_CheckChains_14 : List GOp := [⟨(some 26), .mv (.t 1), none⟩,
    ⟨(some 27), .mv (.t 1), none⟩,
    ⟨(some 28), .len (.t 27), none⟩,
    ⟨(some 29), .bin .sub (.t 28) (.c (.int .i64 1)), none⟩,
    ⟨(some 30), .iaddr (.t 26) (.t 29) 5, none⟩,
    ⟨(some 31), .faddr (.t 30) 4, none⟩,
    ⟨(some 32), .load (.t 31) 1 false, none⟩,
    ⟨(some 33), .len (.t 32), none⟩,
    ⟨(some 34), .bin .eql (.t 33) (.c (.int .i64 0)), none⟩,
    ⟨(some 4), .mv (.t 34), none⟩]
def spec_CheckChains_14 : IR := .ops l_spec_CheckChains_14
@[go_sem] theorem w_spec_CheckChains_14 : wp P spec_CheckChains_14 Q e H = wpL P l_spec_CheckChains_14 (Q .normal) e H := idE rfl
def F_spec_CheckChains : IFn := ⟨2, 35, [.t 4], (.seq spec_CheckChains_0 (.seq (.seq spec_CheckChains_1 spec_CheckChains_3) (.seq (.seq spec_CheckChains_4 spec_CheckChains_13) (.seq spec_CheckChains_14 .ret))))⟩
theorem c_spec_CheckChains : compFn Try.prog [(0, [], []), (1, [], []), (2, [], []), (3, [], []), (4, [], []), (6, [], []), (7, [], []), (5, [], []), (8, [], [])] Try.f16 = some F_spec_CheckChains := by kernel_rfl
theorem a_spec_CheckChains (hl : args.length = 2) (h : wp Try.prog (.seq spec_CheckChains_0 (.seq (.seq spec_CheckChains_1 spec_CheckChains_3) (.seq (.seq spec_CheckChains_4 spec_CheckChains_13) (.seq spec_CheckChains_14 .ret)))) (postQ [.t 4] R) (env0 args) H) : ACall Try.prog n_spec_CheckChains args H R :=
  acall_of_wp mixed Try.func16 c_spec_CheckChains (by kernel_rfl) hl h
@[go_sem] def l_spec_l13Needed_0 : List GOp := [⟨(some 2), .mv (.c (.sl none 0 0 true 0)), none⟩]
def spec_l13Needed_0 : IR := .ops l_spec_l13Needed_0
@[go_sem] theorem w_spec_l13Needed_0 : wp P spec_l13Needed_0 Q e H = wpL P l_spec_l13Needed_0 (Q .normal) e H := idE rfl
@[go_sem] def l_spec_l13Needed_1 : List GOp := [⟨(some 5), .mv (.t 0), none⟩,
    ⟨(some 6), .len (.t 5), none⟩,
    ⟨(some 7), .mks [(.bool false)] 1 (.t 6), none⟩,
    ⟨(some 3), .mv (.t 7), none⟩]
def spec_l13Needed_1 : IR := .ops l_spec_l13Needed_1
@[go_sem] theorem w_spec_l13Needed_1 : wp P spec_l13Needed_1 Q e H = wpL P l_spec_l13Needed_1 (Q .normal) e H := idE rfl
@[go_sem] def l_spec_l13Needed_2 : List GOp := [⟨(some 8), .mv (.t 3), none⟩,
    ⟨(some 9), .mv (.t 0), none⟩,
    ⟨(some 10), .len (.t 9), none⟩,
    ⟨(some 11), .bin .sub (.t 10) (.c (.int .i64 1)), none⟩,
    ⟨(some 12), .iaddr (.t 8) (.t 11) 1, none⟩,
    ⟨none, .store (.t 12) 1 (.c (.bool true)), none⟩]
def spec_l13Needed_2 : IR := .ops l_spec_l13Needed_2
@[go_sem] theorem w_spec_l13Needed_2 : wp P spec_l13Needed_2 Q e H = wpL P l_spec_l13Needed_2 (Q .normal) e H := idE rfl
@[go_sem] def l_spec_l13Needed_3 : List GOp := [⟨(some 13), .mv (.t 0), none⟩,
    ⟨(some 14), .len (.t 13), none⟩,
    ⟨(some 15), .bin .sub (.t 14) (.c (.int .i64 1)), none⟩,
    ⟨(some 4), .mv (.t 15), none⟩]
def spec_l13Needed_3 : IR := .ops l_spec_l13Needed_3
@[go_sem] theorem w_spec_l13Needed_3 : wp P spec_l13Needed_3 Q e H = wpL P l_spec_l13Needed_3 (Q .normal) e H := idE rfl
@[go_sem] def l_spec_l13Needed_4 : List GOp := [⟨(some 16), .mv (.t 4), none⟩,
    ⟨(some 17), .bin .geq (.t 16) (.c (.int .i64 0)), none⟩]
def spec_l13Needed_4 : IR := .ops l_spec_l13Needed_4
@[go_sem] theorem w_spec_l13Needed_4 : wp P spec_l13Needed_4 Q e H = wpL P l_spec_l13Needed_4 (Q .normal) e H := idE rfl
def spec_l13Needed_5 : IR := .cond (.t 17) .skip (.exit 0)
@[go_sem] theorem w_spec_l13Needed_5 : wp P spec_l13Needed_5 Q e H = condW P ((.t 17) : X) .skip (.exit 0) Q e H := idE rfl
@[go_sem] def l_spec_l13Needed_6 : List GOp := [⟨(some 20), .mv (.t 3), none⟩,
    ⟨(some 21), .mv (.t 4), none⟩,
    ⟨(some 22), .iaddr (.t 20) (.t 21) 1, none⟩,
    ⟨(some 23), .load (.t 22) 1 false, none⟩,
    ⟨(some 24), .mv (.t 23), none⟩,
    ⟨(some 25), .mv (.t 0), (some (24, true))⟩,
    ⟨(some 26), .mv (.t 4), (some (24, true))⟩,
    ⟨(some 27), .iaddr (.t 25) (.t 26) 5, (some (24, true))⟩,
    ⟨(some 28), .faddr (.t 27) 0, (some (24, true))⟩,
    ⟨(some 29), .load (.t 28) 1 false, (some (24, true))⟩,
    ⟨(some 30), .bin .lss (.t 29) (.c (.int .i64 0)), (some (24, true))⟩,
    ⟨(some 31), .pick (.t 24) (.t 30) (.c (.bool false)), none⟩]
def spec_l13Needed_6 : IR := .ops l_spec_l13Needed_6
@[go_sem] theorem w_spec_l13Needed_6 : wp P spec_l13Needed_6 Q e H = wpL P l_spec_l13Needed_6 (Q .normal) e H := idE rfl
@[go_sem] def l_spec_l13Needed_7 : List GOp := [⟨(some 32), .mv (.t 3), none⟩,
    ⟨(some 33), .mv (.t 0), none⟩,
    ⟨(some 34), .mv (.t 4), none⟩,
    ⟨(some 35), .iaddr (.t 33) (.t 34) 5, none⟩,
    ⟨(some 36), .faddr (.t 35) 1, none⟩,
    ⟨(some 37), .load (.t 36) 1 false, none⟩,
    ⟨(some 38), .iaddr (.t 32) (.t 37) 1, none⟩,
    ⟨none, .store (.t 38) 1 (.c (.bool true)), none⟩]
def spec_l13Needed_7 : IR := .ops l_spec_l13Needed_7
@[go_sem] theorem w_spec_l13Needed_7 : wp P spec_l13Needed_7 Q e H = wpL P l_spec_l13Needed_7 (Q .normal) e H := idE rfl
@[go_sem] def l_spec_l13Needed_8 : List GOp := [⟨(some 39), .mv (.t 3), none⟩,
    ⟨(some 40), .mv (.t 0), none⟩,
    ⟨(some 41), .mv (.t 4), none⟩,
    ⟨(some 42), .iaddr (.t 40) (.t 41) 5, none⟩,
    ⟨(some 43), .faddr (.t 42) 2, none⟩,
    ⟨(some 44), .load (.t 43) 1 false, none⟩,
    ⟨(some 45), .iaddr (.t 39) (.t 44) 1, none⟩,
    ⟨none, .store (.t 45) 1 (.c (.bool true)), none⟩]
def spec_l13Needed_8 : IR := .ops l_spec_l13Needed_8
@[go_sem] theorem w_spec_l13Needed_8 : wp P spec_l13Needed_8 Q e H = wpL P l_spec_l13Needed_8 (Q .normal) e H := idE rfl
def spec_l13Needed_9 : IR := .cond (.t 31) (.seq spec_l13Needed_7 spec_l13Needed_8) .skip
@[go_sem] theorem w_spec_l13Needed_9 : wp P spec_l13Needed_9 Q e H = condW P ((.t 31) : X) (.seq spec_l13Needed_7 spec_l13Needed_8) .skip Q e H := idE rfl
def spec_l13Needed_10 : IR := .block 1 (.seq spec_l13Needed_6 spec_l13Needed_9)
@[go_sem] theorem w_spec_l13Needed_10 : wp P spec_l13Needed_10 Q e H = wp P (.seq spec_l13Needed_6 spec_l13Needed_9) (blockQ 1 Q) e H := idE rfl
@[go_sem] def l_spec_l13Needed_11 : List GOp := [⟨(some 18), .mv (.t 4), none⟩,
    ⟨(some 19), .bin .sub (.t 18) (.c (.int .i64 1)), none⟩,
    ⟨(some 4), .mv (.t 19), none⟩]
def spec_l13Needed_11 : IR := .ops l_spec_l13Needed_11
@[go_sem] theorem w_spec_l13Needed_11 : wp P spec_l13Needed_11 Q e H = wpL P l_spec_l13Needed_11 (Q .normal) e H := idE rfl
def spec_l13Needed_12 : IR := .loop (.seq (.seq spec_l13Needed_4 spec_l13Needed_5) (.seq spec_l13Needed_10 spec_l13Needed_11))
def spec_l13Needed_13 : IR := .block 0 spec_l13Needed_12
@[go_sem] theorem w_spec_l13Needed_13 : wp P spec_l13Needed_13 Q e H = wp P spec_l13Needed_12 (blockQ 0 Q) e H := idE rfl
@[go_sem] def l_spec_l13Needed_14 : List GOp := [⟨(some 46), .mv (.t 3), none⟩,
    ⟨(some 2), .mv (.t 46), none⟩]
def spec_l13Needed_14 : IR := .ops l_spec_l13Needed_14
@[go_sem] theorem w_spec_l13Needed_14 : wp P spec_l13Needed_14 Q e H = wpL P l_spec_l13Needed_14 (Q .normal) e H := idE rfl
def F_spec_l13Needed : IFn := ⟨1, 47, [.t 2], (.seq spec_l13Needed_0 (.seq spec_l13Needed_1 (.seq spec_l13Needed_2 (.seq (.seq spec_l13Needed_3 spec_l13Needed_13) (.seq spec_l13Needed_14 .ret)))))⟩
theorem c_spec_l13Needed : compFn Try.prog [(0, [], []), (1, [], []), (2, [], []), (3, [], []), (4, [], []), (6, [], []), (7, [], []), (8, [], []), (5, [], []), (9, [], [])] Try.f80 = some F_spec_l13Needed := by kernel_rfl
theorem a_spec_l13Needed (hl : args.length = 1) (h : wp Try.prog (.seq spec_l13Needed_0 (.seq spec_l13Needed_1 (.seq spec_l13Needed_2 (.seq (.seq spec_l13Needed_3 spec_l13Needed_13) (.seq spec_l13Needed_14 .ret))))) (postQ [.t 2] R) (env0 args) H) : ACall Try.prog n_spec_l13Needed args H R :=
  acall_of_wp mixed Try.func80 c_spec_l13Needed (by kernel_rfl) hl h
@[go_sem] def l_spec_TrimChains_0 : List GOp := [⟨(some 2), .box (.t 0), none⟩,
    ⟨(some 4), .mv (.c (.sl none 0 0 true 0)), none⟩]
def spec_TrimChains_0 : IR := .ops l_spec_TrimChains_0
@[go_sem] theorem w_spec_TrimChains_0 : wp P spec_TrimChains_0 Q e H = wpL P l_spec_TrimChains_0 (Q .normal) e H := idE rfl
@[go_sem] def l_spec_TrimChains_1 : List GOp := [⟨(some 10), .load (.t 2) 2 true, none⟩,
    ⟨(some 11), .mv (.t 1), none⟩,
    ⟨(some 12), .call (n_spec_CheckChains) [(.t 10), (.t 11)], none⟩,
    ⟨(some 13), .un .not (.t 12), none⟩]
def spec_TrimChains_1 : IR := .ops l_spec_TrimChains_1
@[go_sem] theorem w_spec_TrimChains_1 : wp P spec_TrimChains_1 Q e H = wpL P l_spec_TrimChains_1 (Q .normal) e H := idE rfl
@[go_sem] def l_spec_TrimChains_2 : List GOp := [⟨(some 4), .mv (.c (.sl none 0 0 true 0)), none⟩]
def spec_TrimChains_2 : IR := .ops l_spec_TrimChains_2
@[go_sem] theorem w_spec_TrimChains_2 : wp P spec_TrimChains_2 Q e H = wpL P l_spec_TrimChains_2 (Q .normal) e H := idE rfl
def spec_TrimChains_3 : IR := .cond (.t 13) (.seq spec_TrimChains_2 .ret) .skip
@[go_sem] theorem w_spec_TrimChains_3 : wp P spec_TrimChains_3 Q e H = condW P ((.t 13) : X) (.seq spec_TrimChains_2 .ret) .skip Q e H := idE rfl
@[go_sem] def l_spec_TrimChains_4 : List GOp := [⟨(some 14), .mv (.t 1), none⟩,
    ⟨(some 15), .call (n_spec_l13Needed) [(.t 14)], none⟩,
    ⟨(some 5), .mv (.t 15), none⟩]
def spec_TrimChains_4 : IR := .ops l_spec_TrimChains_4
@[go_sem] theorem w_spec_TrimChains_4 : wp P spec_TrimChains_4 Q e H = wpL P l_spec_TrimChains_4 (Q .normal) e H := idE rfl
@[go_sem] def l_spec_TrimChains_5 : List GOp := [⟨(some 16), .mv (.t 1), none⟩,
    ⟨(some 17), .len (.t 16), none⟩,
    ⟨(some 18), .mks [(.int .i64 0)] 8 (.t 17), none⟩,
    ⟨(some 6), .mv (.t 18), none⟩]
def spec_TrimChains_5 : IR := .ops l_spec_TrimChains_5
@[go_sem] theorem w_spec_TrimChains_5 : wp P spec_TrimChains_5 Q e H = wpL P l_spec_TrimChains_5 (Q .normal) e H := idE rfl
@[go_sem] def l_spec_TrimChains_6 : List GOp := [⟨(some 19), .bslc 5 0 [(.int .i64 0), (.int .i64 0), (.int .i64 0), (.int .i64 0), (.sl none 0 0 true 0)] [], none⟩,
    ⟨(some 7), .mv (.t 19), none⟩]
def spec_TrimChains_6 : IR := .ops l_spec_TrimChains_6
@[go_sem] theorem w_spec_TrimChains_6 : wp P spec_TrimChains_6 Q e H = wpL P l_spec_TrimChains_6 (Q .normal) e H := idE rfl
@[go_sem] def l_spec_TrimChains_7 : List GOp := [⟨(some 8), .mv (.c (.int .i64 0)), none⟩]
def spec_TrimChains_7 : IR := .ops l_spec_TrimChains_7
@[go_sem] theorem w_spec_TrimChains_7 : wp P spec_TrimChains_7 Q e H = wpL P l_spec_TrimChains_7 (Q .normal) e H := idE rfl
@[go_sem] def l_spec_TrimChains_8 : List GOp := [⟨(some 20), .mv (.t 8), none⟩,
    ⟨(some 21), .mv (.t 1), none⟩,
    ⟨(some 22), .len (.t 21), none⟩,
    ⟨(some 23), .bin .lss (.t 20) (.t 22), none⟩]
def spec_TrimChains_8 : IR := .ops l_spec_TrimChains_8
@[go_sem] theorem w_spec_TrimChains_8 : wp P spec_TrimChains_8 Q e H = wpL P l_spec_TrimChains_8 (Q .normal) e H := idE rfl
def spec_TrimChains_9 : IR := .cond (.t 23) .skip (.exit 0)
@[go_sem] theorem w_spec_TrimChains_9 : wp P spec_TrimChains_9 Q e H = condW P ((.t 23) : X) .skip (.exit 0) Q e H := idE rfl
@[go_sem] def l_spec_TrimChains_10 : List GOp := [⟨(some 26), .mv (.t 5), none⟩,
    ⟨(some 27), .mv (.t 8), none⟩,
    ⟨(some 28), .iaddr (.t 26) (.t 27) 1, none⟩,
    ⟨(some 29), .load (.t 28) 1 false, none⟩]
def spec_TrimChains_10 : IR := .ops l_spec_TrimChains_10
@[go_sem] theorem w_spec_TrimChains_10 : wp P spec_TrimChains_10 Q e H = wpL P l_spec_TrimChains_10 (Q .normal) e H := idE rfl
@[go_sem] def l_spec_TrimChains_11 : List GOp := [⟨(some 30), .mv (.t 1), none⟩,
    ⟨(some 31), .mv (.t 8), none⟩,
    ⟨(some 32), .iaddr (.t 30) (.t 31) 5, none⟩,
    ⟨(some 33), .load (.t 32) 5 true, none⟩,
    ⟨(some 9), .alloc [(.int .i64 0), (.int .i64 0), (.int .i64 0), (.int .i64 0), (.sl none 0 0 true 0)], none⟩,
    ⟨none, .store (.t 9) 5 (.t 33), none⟩]
def spec_TrimChains_11 : IR := .ops l_spec_TrimChains_11
@[go_sem] theorem w_spec_TrimChains_11 : wp P spec_TrimChains_11 Q e H = wpL P l_spec_TrimChains_11 (Q .normal) e H := idE rfl
@[go_sem] def l_spec_TrimChains_12 : List GOp := [⟨(some 34), .faddr (.t 9) 4, none⟩,
    ⟨(some 35), .load (.t 34) 1 false, none⟩,
    ⟨(some 36), .call (n_spec_l3Copy) [(.t 35)], none⟩,
    ⟨(some 37), .faddr (.t 9) 4, none⟩,
    ⟨none, .store (.t 37) 1 (.t 36), none⟩]
def spec_TrimChains_12 : IR := .ops l_spec_TrimChains_12
@[go_sem] theorem w_spec_TrimChains_12 : wp P spec_TrimChains_12 Q e H = wpL P l_spec_TrimChains_12 (Q .normal) e H := idE rfl
@[go_sem] def l_spec_TrimChains_13 : List GOp := [⟨(some 38), .faddr (.t 9) 0, none⟩,
    ⟨(some 39), .load (.t 38) 1 false, none⟩,
    ⟨(some 40), .bin .lss (.t 39) (.c (.int .i64 0)), none⟩]
def spec_TrimChains_13 : IR := .ops l_spec_TrimChains_13
@[go_sem] theorem w_spec_TrimChains_13 : wp P spec_TrimChains_13 Q e H = wpL P l_spec_TrimChains_13 (Q .normal) e H := idE rfl
@[go_sem] def l_spec_TrimChains_14 : List GOp := [⟨(some 41), .mv (.t 6), none⟩,
    ⟨(some 42), .faddr (.t 9) 1, none⟩,
    ⟨(some 43), .load (.t 42) 1 false, none⟩,
    ⟨(some 44), .iaddr (.t 41) (.t 43) 1, none⟩,
    ⟨(some 45), .load (.t 44) 1 false, none⟩,
    ⟨(some 46), .faddr (.t 9) 1, none⟩,
    ⟨none, .store (.t 46) 1 (.t 45), none⟩]
def spec_TrimChains_14 : IR := .ops l_spec_TrimChains_14
@[go_sem] theorem w_spec_TrimChains_14 : wp P spec_TrimChains_14 Q e H = wpL P l_spec_TrimChains_14 (Q .normal) e H := idE rfl
@[go_sem] def l_spec_TrimChains_15 : List GOp := [⟨(some 47), .mv (.t 6), none⟩,
    ⟨(some 48), .faddr (.t 9) 2, none⟩,
    ⟨(some 49), .load (.t 48) 1 false, none⟩,
    ⟨(some 50), .iaddr (.t 47) (.t 49) 1, none⟩,
    ⟨(some 51), .load (.t 50) 1 false, none⟩,
    ⟨(some 52), .faddr (.t 9) 2, none⟩,
    ⟨none, .store (.t 52) 1 (.t 51), none⟩]
def spec_TrimChains_15 : IR := .ops l_spec_TrimChains_15
@[go_sem] theorem w_spec_TrimChains_15 : wp P spec_TrimChains_15 Q e H = wpL P l_spec_TrimChains_15 (Q .normal) e H := idE rfl
def spec_TrimChains_16 : IR := .cond (.t 40) (.seq spec_TrimChains_14 spec_TrimChains_15) .skip
@[go_sem] theorem w_spec_TrimChains_16 : wp P spec_TrimChains_16 Q e H = condW P ((.t 40) : X) (.seq spec_TrimChains_14 spec_TrimChains_15) .skip Q e H := idE rfl
@[go_sem] def l_spec_TrimChains_17 : List GOp := [⟨(some 53), .mv (.t 6), none⟩,
    ⟨(some 54), .mv (.t 8), none⟩,
    ⟨(some 55), .mv (.t 7), none⟩,
    ⟨(some 56), .len (.t 55), none⟩,
    ⟨(some 57), .iaddr (.t 53) (.t 54) 1, none⟩,
    ⟨none, .store (.t 57) 1 (.t 56), none⟩]
def spec_TrimChains_17 : IR := .ops l_spec_TrimChains_17
@[go_sem] theorem w_spec_TrimChains_17 : wp P spec_TrimChains_17 Q e H = wpL P l_spec_TrimChains_17 (Q .normal) e H := idE rfl
@[go_sem] def l_spec_TrimChains_18 : List GOp := [⟨(some 58), .mv (.t 7), none⟩,
    ⟨(some 59), .load (.t 9) 5 true, none⟩,
    ⟨(some 60), .bslc 5 1 [(.int .i64 0), (.int .i64 0), (.int .i64 0), (.int .i64 0), (.sl none 0 0 true 0)] [(0, (.t 59))], none⟩,
    ⟨(some 61), .app 5 56 (.t 58) (.t 60), none⟩,
    ⟨(some 7), .mv (.t 61), none⟩]
def spec_TrimChains_18 : IR := .ops l_spec_TrimChains_18
@[go_sem] theorem w_spec_TrimChains_18 : wp P spec_TrimChains_18 Q e H = wpL P l_spec_TrimChains_18 (Q .normal) e H := idE rfl
def spec_TrimChains_19 : IR := .cond (.t 29) (.seq spec_TrimChains_11 (.seq spec_TrimChains_12 (.seq (.seq spec_TrimChains_13 spec_TrimChains_16) (.seq spec_TrimChains_17 spec_TrimChains_18)))) .skip
@[go_sem] theorem w_spec_TrimChains_19 : wp P spec_TrimChains_19 Q e H = condW P ((.t 29) : X) (.seq spec_TrimChains_11 (.seq spec_TrimChains_12 (.seq (.seq spec_TrimChains_13 spec_TrimChains_16) (.seq spec_TrimChains_17 spec_TrimChains_18)))) .skip Q e H := idE rfl
def spec_TrimChains_20 : IR := .block 1 (.seq spec_TrimChains_10 spec_TrimChains_19)
@[go_sem] theorem w_spec_TrimChains_20 : wp P spec_TrimChains_20 Q e H = wp P (.seq spec_TrimChains_10 spec_TrimChains_19) (blockQ 1 Q) e H := idE rfl
@[go_sem] def l_spec_TrimChains_21 : List GOp := [⟨(some 24), .mv (.t 8), none⟩,
    ⟨(some 25), .bin .add (.t 24) (.c (.int .i64 1)), none⟩,
    ⟨(some 8), .mv (.t 25), none⟩]
def spec_TrimChains_21 : IR := .ops l_spec_TrimChains_21
@[go_sem] theorem w_spec_TrimChains_21 : wp P spec_TrimChains_21 Q e H = wpL P l_spec_TrimChains_21 (Q .normal) e H := idE rfl
def spec_TrimChains_22 : IR := .loop (.seq (.seq spec_TrimChains_8 spec_TrimChains_9) (.seq spec_TrimChains_20 spec_TrimChains_21))
def spec_TrimChains_23 : IR := .block 0 spec_TrimChains_22
@[go_sem] theorem w_spec_TrimChains_23 : wp P spec_TrimChains_23 Q e H = wp P spec_TrimChains_22 (blockQ 0 Q) e H := idE rfl
@[go_sem] def l_spec_TrimChains_24 : List GOp := [⟨(some 62), .mv (.t 7), none⟩,
    ⟨(some 4), .mv (.t 62), none⟩]
def spec_TrimChains_24 : IR := .ops l_spec_TrimChains_24
@[go_sem] theorem w_spec_TrimChains_24 : wp P spec_TrimChains_24 Q e H = wpL P l_spec_TrimChains_24 (Q .normal) e H := idE rfl
def F_spec_TrimChains : IFn := ⟨2, 63, [.t 4], (.seq spec_TrimChains_0 (.seq (.seq spec_TrimChains_1 spec_TrimChains_3) (.seq spec_TrimChains_4 (.seq spec_TrimChains_5 (.seq spec_TrimChains_6 (.seq (.seq spec_TrimChains_7 spec_TrimChains_23) (.seq spec_TrimChains_24 .ret)))))))⟩
theorem c_spec_TrimChains : compFn Try.prog [(0, [], []), (1, [], []), (2, [], []), (3, [], []), (4, [], []), (5, [], []), (6, [], []), (7, [], []), (9, [], []), (10, [], []), (11, [], []), (12, [], []), (13, [], []), (14, [], []), (15, [], []), (16, [], []), (8, [], []), (17, [], [])] Try.f49 = some F_spec_TrimChains := by kernel_rfl
theorem a_spec_TrimChains (hl : args.length = 2) (h : wp Try.prog (.seq spec_TrimChains_0 (.seq (.seq spec_TrimChains_1 spec_TrimChains_3) (.seq spec_TrimChains_4 (.seq spec_TrimChains_5 (.seq spec_TrimChains_6 (.seq (.seq spec_TrimChains_7 spec_TrimChains_23) (.seq spec_TrimChains_24 .ret))))))) (postQ [.t 4] R) (env0 args) H) : ACall Try.prog n_spec_TrimChains args H R :=
  acall_of_wp mixed Try.func49 c_spec_TrimChains (by kernel_rfl) hl h
@[go_sem] def l_impl_in_0 : List GOp := [⟨(some 6), .mv (.c (.bool false)), none⟩]
def impl_in_0 : IR := .ops l_impl_in_0
@[go_sem] theorem w_impl_in_0 : wp P impl_in_0 Q e H = wpL P l_impl_in_0 (Q .normal) e H := idE rfl
@[go_sem] def l_impl_in_1 : List GOp := [⟨(some 7), .mv (.t 0), none⟩,
    ⟨(some 8), .mv (.t 1), none⟩,
    ⟨(some 9), .bin .geq (.t 7) (.t 8), none⟩,
    ⟨(some 10), .mv (.t 9), none⟩,
    ⟨(some 11), .mv (.t 0), (some (10, true))⟩,
    ⟨(some 12), .mv (.t 2), (some (10, true))⟩,
    ⟨(some 13), .bin .leq (.t 11) (.t 12), (some (10, true))⟩,
    ⟨(some 14), .pick (.t 10) (.t 13) (.c (.bool false)), none⟩,
    ⟨(some 6), .mv (.t 14), none⟩]
def impl_in_1 : IR := .ops l_impl_in_1
@[go_sem] theorem w_impl_in_1 : wp P impl_in_1 Q e H = wpL P l_impl_in_1 (Q .normal) e H := idE rfl
def F_impl_in : IFn := ⟨3, 15, [.t 6], (.seq impl_in_0 (.seq impl_in_1 .ret))⟩
theorem c_impl_in : compFn Try.prog [(0, [], []), (1, [], [])] Try.f59 = some F_impl_in := by kernel_rfl
theorem a_impl_in (hl : args.length = 3) (h : wp Try.prog (.seq impl_in_0 (.seq impl_in_1 .ret)) (postQ [.t 6] R) (env0 args) H) : ACall Try.prog n_impl_in args H R :=
  acall_of_wp mixed Try.func59 c_impl_in (by kernel_rfl) hl h
@[go_sem] def l_impl_atomOf_0 : List GOp := [⟨(some 2), .mv (.c (.int .i64 0)), none⟩]
def impl_atomOf_0 : IR := .ops l_impl_atomOf_0
@[go_sem] theorem w_impl_atomOf_0 : wp P impl_atomOf_0 Q e H = wpL P l_impl_atomOf_0 (Q .normal) e H := idE rfl
@[go_sem] def l_impl_atomOf_1 : List GOp := [⟨(some 3), .mv (.t 0), none⟩,
    ⟨(some 4), .mv (.t 0), none⟩,
    ⟨(some 5), .un .neg (.t 4), none⟩,
    ⟨(some 6), .mnx true (.t 3) (.t 5), none⟩,
    ⟨(some 2), .mv (.t 6), none⟩]
def impl_atomOf_1 : IR := .ops l_impl_atomOf_1
@[go_sem] theorem w_impl_atomOf_1 : wp P impl_atomOf_1 Q e H = wpL P l_impl_atomOf_1 (Q .normal) e H := idE rfl
def F_impl_atomOf : IFn := ⟨1, 7, [.t 2], (.seq impl_atomOf_0 (.seq impl_atomOf_1 .ret))⟩
theorem c_impl_atomOf : compFn Try.prog [(0, [], []), (1, [], [])] Try.f104 = some F_impl_atomOf := by kernel_rfl
theorem a_impl_atomOf (hl : args.length = 1) (h : wp Try.prog (.seq impl_atomOf_0 (.seq impl_atomOf_1 .ret)) (postQ [.t 2] R) (env0 args) H) : ACall Try.prog n_impl_atomOf args H R :=
  acall_of_wp mixed Try.func104 c_impl_atomOf (by kernel_rfl) hl h
@[go_sem] def l_impl_ClauseValid_0 : List GOp := [⟨(some 4), .mv (.c (.bool false)), none⟩]
def impl_ClauseValid_0 : IR := .ops l_impl_ClauseValid_0
@[go_sem] theorem w_impl_ClauseValid_0 : wp P impl_ClauseValid_0 Q e H = wpL P l_impl_ClauseValid_0 (Q .normal) e H := idE rfl
@[go_sem] def l_impl_ClauseValid_1 : List GOp := [⟨(some 7), .mv (.t 1), none⟩,
    ⟨(some 8), .call (n_impl_in) [(.t 7), (.c (.int .i64 0)), (.c (.int .i64 700))], none⟩,
    ⟨(some 9), .un .not (.t 8), none⟩]
def impl_ClauseValid_1 : IR := .ops l_impl_ClauseValid_1
@[go_sem] theorem w_impl_ClauseValid_1 : wp P impl_ClauseValid_1 Q e H = wpL P l_impl_ClauseValid_1 (Q .normal) e H := idE rfl
@[go_sem] def l_impl_ClauseValid_2 : List GOp := [⟨(some 4), .mv (.c (.bool false)), none⟩]
def impl_ClauseValid_2 : IR := .ops l_impl_ClauseValid_2
@[go_sem] theorem w_impl_ClauseValid_2 : wp P impl_ClauseValid_2 Q e H = wpL P l_impl_ClauseValid_2 (Q .normal) e H := idE rfl
def impl_ClauseValid_3 : IR := .cond (.t 9) (.seq impl_ClauseValid_2 .ret) .skip
@[go_sem] theorem w_impl_ClauseValid_3 : wp P impl_ClauseValid_3 Q e H = condW P ((.t 9) : X) (.seq impl_ClauseValid_2 .ret) .skip Q e H := idE rfl
@[go_sem] def l_impl_ClauseValid_4 : List GOp := [⟨(some 10), .mv (.t 0), none⟩,
    ⟨(some 11), .len (.t 10), none⟩,
    ⟨(some 12), .mv (.c (.int .i64 0)), none⟩]
def impl_ClauseValid_4 : IR := .ops l_impl_ClauseValid_4
@[go_sem] theorem w_impl_ClauseValid_4 : wp P impl_ClauseValid_4 Q e H = wpL P l_impl_ClauseValid_4 (Q .normal) e H := idE rfl
@[go_sem] def l_impl_ClauseValid_5 : List GOp := [⟨(some 13), .bin .lss (.t 12) (.t 11), none⟩]
def impl_ClauseValid_5 : IR := .ops l_impl_ClauseValid_5
@[go_sem] theorem w_impl_ClauseValid_5 : wp P impl_ClauseValid_5 Q e H = wpL P l_impl_ClauseValid_5 (Q .normal) e H := idE rfl
def impl_ClauseValid_6 : IR := .cond (.t 13) .skip (.exit 0)
@[go_sem] theorem w_impl_ClauseValid_6 : wp P impl_ClauseValid_6 Q e H = condW P ((.t 13) : X) .skip (.exit 0) Q e H := idE rfl
@[go_sem] def l_impl_ClauseValid_7 : List GOp := [⟨(some 14), .mv (.t 12), none⟩,
    ⟨(some 15), .iaddr (.t 10) (.t 12) 1, none⟩,
    ⟨(some 16), .load (.t 15) 1 false, none⟩,
    ⟨(some 5), .mv (.t 14), none⟩,
    ⟨(some 6), .mv (.t 16), none⟩]
def impl_ClauseValid_7 : IR := .ops l_impl_ClauseValid_7
@[go_sem] theorem w_impl_ClauseValid_7 : wp P impl_ClauseValid_7 Q e H = wpL P l_impl_ClauseValid_7 (Q .normal) e H := idE rfl
@[go_sem] def l_impl_ClauseValid_8 : List GOp := [⟨(some 17), .mv (.t 6), none⟩,
    ⟨(some 18), .mv (.t 1), none⟩,
    ⟨(some 19), .un .neg (.t 18), none⟩,
    ⟨(some 20), .mv (.t 1), none⟩,
    ⟨(some 21), .call (n_impl_in) [(.t 17), (.t 19), (.t 20)], none⟩,
    ⟨(some 22), .un .not (.t 21), none⟩,
    ⟨(some 23), .mv (.t 22), none⟩,
    ⟨(some 24), .mv (.t 6), (some (23, false))⟩,
    ⟨(some 25), .bin .eql (.t 24) (.c (.int .i64 0)), (some (23, false))⟩,
    ⟨(some 26), .pick (.t 23) (.c (.bool true)) (.t 25), none⟩,
    ⟨(some 27), .mv (.t 26), none⟩,
    ⟨(some 28), .mv (.t 5), (some (27, false))⟩,
    ⟨(some 29), .bin .gtr (.t 28) (.c (.int .i64 0)), (some (27, false))⟩,
    ⟨(some 30), .mv (.t 29), (some (27, false))⟩,
    ⟨(some 31), .mv (.t 0), (some (30, true))⟩,
    ⟨(some 32), .mv (.t 5), (some (30, true))⟩,
    ⟨(some 33), .bin .sub (.t 32) (.c (.int .i64 1)), (some (30, true))⟩,
    ⟨(some 34), .iaddr (.t 31) (.t 33) 1, (some (30, true))⟩,
    ⟨(some 35), .load (.t 34) 1 false, (some (30, true))⟩,
    ⟨(some 36), .call (n_impl_atomOf) [(.t 35)], (some (30, true))⟩,
    ⟨(some 37), .mv (.t 6), (some (30, true))⟩,
    ⟨(some 38), .call (n_impl_atomOf) [(.t 37)], (some (30, true))⟩,
    ⟨(some 39), .bin .geq (.t 36) (.t 38), (some (30, true))⟩,
    ⟨(some 40), .pick (.t 30) (.t 39) (.c (.bool false)), (some (27, false))⟩,
    ⟨(some 41), .pick (.t 27) (.c (.bool true)) (.t 40), none⟩]
def impl_ClauseValid_8 : IR := .ops l_impl_ClauseValid_8
@[go_sem] theorem w_impl_ClauseValid_8 : wp P impl_ClauseValid_8 Q e H = wpL P l_impl_ClauseValid_8 (Q .normal) e H := idE rfl
@[go_sem] def l_impl_ClauseValid_9 : List GOp := [⟨(some 4), .mv (.c (.bool false)), none⟩]
def impl_ClauseValid_9 : IR := .ops l_impl_ClauseValid_9
@[go_sem] theorem w_impl_ClauseValid_9 : wp P impl_ClauseValid_9 Q e H = wpL P l_impl_ClauseValid_9 (Q .normal) e H := idE rfl
def impl_ClauseValid_10 : IR := .cond (.t 41) (.seq impl_ClauseValid_9 .ret) .skip
@[go_sem] theorem w_impl_ClauseValid_10 : wp P impl_ClauseValid_10 Q e H = condW P ((.t 41) : X) (.seq impl_ClauseValid_9 .ret) .skip Q e H := idE rfl
def impl_ClauseValid_11 : IR := .block 1 (.seq impl_ClauseValid_7 (.seq impl_ClauseValid_8 impl_ClauseValid_10))
@[go_sem] theorem w_impl_ClauseValid_11 : wp P impl_ClauseValid_11 Q e H = wp P (.seq impl_ClauseValid_7 (.seq impl_ClauseValid_8 impl_ClauseValid_10)) (blockQ 1 Q) e H := idE rfl
@[go_sem] def l_impl_ClauseValid_12 : List GOp := [⟨(some 42), .bin .add (.t 12) (.c (.int .i64 1)), none⟩,
    ⟨(some 12), .mv (.t 42), none⟩]
def impl_ClauseValid_12 : IR := .ops l_impl_ClauseValid_12
@[go_sem] theorem w_impl_ClauseValid_12 : wp P impl_ClauseValid_12 Q e H = wpL P l_impl_ClauseValid_12 (Q .normal) e H := idE rfl
def impl_ClauseValid_13 : IR := .loop (.seq impl_ClauseValid_5 (.seq impl_ClauseValid_6 (.seq impl_ClauseValid_11 impl_ClauseValid_12)))
def impl_ClauseValid_14 : IR := .block 0 impl_ClauseValid_13
@[go_sem] theorem w_impl_ClauseValid_14 : wp P impl_ClauseValid_14 Q e H = wp P impl_ClauseValid_13 (blockQ 0 Q) e H := idE rfl
@[go_sem] def l_impl_ClauseValid_15 : List GOp := [⟨(some 4), .mv (.c (.bool true)), none⟩]
def impl_ClauseValid_15 : IR := .ops l_impl_ClauseValid_15
@[go_sem] theorem w_impl_ClauseValid_15 : wp P impl_ClauseValid_15 Q e H = wpL P l_impl_ClauseValid_15 (Q .normal) e H := idE rfl
def F_impl_ClauseValid : IFn := ⟨2, 43, [.t 4], (.seq impl_ClauseValid_0 (.seq (.seq impl_ClauseValid_1 impl_ClauseValid_3) (.seq (.seq impl_ClauseValid_4 impl_ClauseValid_14) (.seq impl_ClauseValid_15 .ret))))⟩
theorem c_impl_ClauseValid : compFn Try.prog [(0, [], []), (1, [], []), (2, [], []), (3, [], []), (4, [], []), (5, [], []), (6, [], []), (7, [], []), (8, [], []), (9, [], [])] Try.f70 = some F_impl_ClauseValid := by kernel_rfl
theorem a_impl_ClauseValid (hl : args.length = 2) (h : wp Try.prog (.seq impl_ClauseValid_0 (.seq (.seq impl_ClauseValid_1 impl_ClauseValid_3) (.seq (.seq impl_ClauseValid_4 impl_ClauseValid_14) (.seq impl_ClauseValid_15 .ret)))) (postQ [.t 4] R) (env0 args) H) : ACall Try.prog n_impl_ClauseValid args H R :=
  acall_of_wp mixed Try.func70 c_impl_ClauseValid (by kernel_rfl) hl h
@[go_sem] def l_impl_ClausesValid_1_0 : List GOp := [⟨(some 3), .mv (.c (.bool false)), none⟩]
def impl_ClausesValid_1_0 : IR := .ops l_impl_ClausesValid_1_0
@[go_sem] theorem w_impl_ClausesValid_1_0 : wp P impl_ClausesValid_1_0 Q e H = wpL P l_impl_ClausesValid_1_0 (Q .normal) e H := idE rfl
@[go_sem] def l_impl_ClausesValid_1_1 : List GOp := [⟨(some 4), .mv (.t 0), none⟩,
    ⟨(some 5), .faddr (.t 1) 0, none⟩,
    ⟨(some 6), .load (.t 5) 1 false, none⟩,
    ⟨(some 7), .call (n_impl_ClauseValid) [(.t 4), (.t 6)], none⟩,
    ⟨(some 8), .un .not (.t 7), none⟩,
    ⟨(some 3), .mv (.t 8), none⟩]
def impl_ClausesValid_1_1 : IR := .ops l_impl_ClausesValid_1_1
@[go_sem] theorem w_impl_ClausesValid_1_1 : wp P impl_ClausesValid_1_1 Q e H = wpL P l_impl_ClausesValid_1_1 (Q .normal) e H := idE rfl
def F_impl_ClausesValid_1 : IFn := ⟨2, 9, [.t 3], (.seq impl_ClausesValid_1_0 (.seq impl_ClausesValid_1_1 .ret))⟩
theorem c_impl_ClausesValid_1 : compFn Try.prog [(0, [], []), (1, [], [])] Try.f69 = some F_impl_ClausesValid_1 := by kernel_rfl
theorem a_impl_ClausesValid_1 (hl : args.length = 2) (h : wp Try.prog (.seq impl_ClausesValid_1_0 (.seq impl_ClausesValid_1_1 .ret)) (postQ [.t 3] R) (env0 args) H) : ACall Try.prog n_impl_ClausesValid_1 args H R :=
  acall_of_wp mixed Try.func69 c_impl_ClausesValid_1 (by kernel_rfl) hl h
@[go_sem] def l_slices_IndexFunc_SSint_Sint_0 : List GOp := [⟨(some 4), .mv (.c (.int .i64 0)), none⟩]
def slices_IndexFunc_SSint_Sint_0 : IR := .ops l_slices_IndexFunc_SSint_Sint_0
@[go_sem] theorem w_slices_IndexFunc_SSint_Sint_0 : wp P slices_IndexFunc_SSint_Sint_0 Q e H = wpL P l_slices_IndexFunc_SSint_Sint_0 (Q .normal) e H := idE rfl
@[go_sem] def l_slices_IndexFunc_SSint_Sint_1 : List GOp := [⟨(some 6), .mv (.t 0), none⟩,
    ⟨(some 7), .len (.t 6), none⟩,
    ⟨(some 8), .mv (.c (.int .i64 0)), none⟩]
def slices_IndexFunc_SSint_Sint_1 : IR := .ops l_slices_IndexFunc_SSint_Sint_1
@[go_sem] theorem w_slices_IndexFunc_SSint_Sint_1 : wp P slices_IndexFunc_SSint_Sint_1 Q e H = wpL P l_slices_IndexFunc_SSint_Sint_1 (Q .normal) e H := idE rfl
@[go_sem] def l_slices_IndexFunc_SSint_Sint_2 : List GOp := [⟨(some 9), .bin .lss (.t 8) (.t 7), none⟩]
def slices_IndexFunc_SSint_Sint_2 : IR := .ops l_slices_IndexFunc_SSint_Sint_2
@[go_sem] theorem w_slices_IndexFunc_SSint_Sint_2 : wp P slices_IndexFunc_SSint_Sint_2 Q e H = wpL P l_slices_IndexFunc_SSint_Sint_2 (Q .normal) e H := idE rfl
def slices_IndexFunc_SSint_Sint_3 : IR := .cond (.t 9) .skip (.exit 0)
@[go_sem] theorem w_slices_IndexFunc_SSint_Sint_3 : wp P slices_IndexFunc_SSint_Sint_3 Q e H = condW P ((.t 9) : X) .skip (.exit 0) Q e H := idE rfl
@[go_sem] def l_slices_IndexFunc_SSint_Sint_4 : List GOp := [⟨(some 10), .mv (.t 8), none⟩,
    ⟨(some 5), .mv (.t 10), none⟩]
def slices_IndexFunc_SSint_Sint_4 : IR := .ops l_slices_IndexFunc_SSint_Sint_4
@[go_sem] theorem w_slices_IndexFunc_SSint_Sint_4 : wp P slices_IndexFunc_SSint_Sint_4 Q e H = wpL P l_slices_IndexFunc_SSint_Sint_4 (Q .normal) e H := idE rfl
@[go_sem] def l_slices_IndexFunc_SSint_Sint_5 : List GOp := [⟨(some 11), .mv (.t 1), none⟩,
    ⟨(some 12), .mv (.t 0), none⟩,
    ⟨(some 13), .mv (.t 5), none⟩,
    ⟨(some 14), .iaddr (.t 12) (.t 13) 1, none⟩,
    ⟨(some 15), .load (.t 14) 1 false, none⟩,
    ⟨(some 16), .callv (.t 11) [(.t 15)], none⟩]
def slices_IndexFunc_SSint_Sint_5 : IR := .ops l_slices_IndexFunc_SSint_Sint_5
@[go_sem] theorem w_slices_IndexFunc_SSint_Sint_5 : wp P slices_IndexFunc_SSint_Sint_5 Q e H = wpL P l_slices_IndexFunc_SSint_Sint_5 (Q .normal) e H := idE rfl
@[go_sem] def l_slices_IndexFunc_SSint_Sint_6 : List GOp := [⟨(some 17), .mv (.t 5), none⟩,
    ⟨(some 4), .mv (.t 17), none⟩]
def slices_IndexFunc_SSint_Sint_6 : IR := .ops l_slices_IndexFunc_SSint_Sint_6
@[go_sem] theorem w_slices_IndexFunc_SSint_Sint_6 : wp P slices_IndexFunc_SSint_Sint_6 Q e H = wpL P l_slices_IndexFunc_SSint_Sint_6 (Q .normal) e H := idE rfl
def slices_IndexFunc_SSint_Sint_7 : IR := .cond (.t 16) (.seq slices_IndexFunc_SSint_Sint_6 .ret) .skip
@[go_sem] theorem w_slices_IndexFunc_SSint_Sint_7 : wp P slices_IndexFunc_SSint_Sint_7 Q e H = condW P ((.t 16) : X) (.seq slices_IndexFunc_SSint_Sint_6 .ret) .skip Q e H := idE rfl
def slices_IndexFunc_SSint_Sint_8 : IR := .block 1 (.seq slices_IndexFunc_SSint_Sint_4 (.seq slices_IndexFunc_SSint_Sint_5 slices_IndexFunc_SSint_Sint_7))
@[go_sem] theorem w_slices_IndexFunc_SSint_Sint_8 : wp P slices_IndexFunc_SSint_Sint_8 Q e H = wp P (.seq slices_IndexFunc_SSint_Sint_4 (.seq slices_IndexFunc_SSint_Sint_5 slices_IndexFunc_SSint_Sint_7)) (blockQ 1 Q) e H := idE rfl
@[go_sem] def l_slices_IndexFunc_SSint_Sint_9 : List GOp := [⟨(some 18), .bin .add (.t 8) (.c (.int .i64 1)), none⟩,
    ⟨(some 8), .mv (.t 18), none⟩]
def slices_IndexFunc_SSint_Sint_9 : IR := .ops l_slices_IndexFunc_SSint_Sint_9
@[go_sem] theorem w_slices_IndexFunc_SSint_Sint_9 : wp P slices_IndexFunc_SSint_Sint_9 Q e H = wpL P l_slices_IndexFunc_SSint_Sint_9 (Q .normal) e H := idE rfl
def slices_IndexFunc_SSint_Sint_10 : IR := .loop (.seq slices_IndexFunc_SSint_Sint_2 (.seq slices_IndexFunc_SSint_Sint_3 (.seq slices_IndexFunc_SSint_Sint_8 slices_IndexFunc_SSint_Sint_9)))
def slices_IndexFunc_SSint_Sint_11 : IR := .block 0 slices_IndexFunc_SSint_Sint_10
@[go_sem] theorem w_slices_IndexFunc_SSint_Sint_11 : wp P slices_IndexFunc_SSint_Sint_11 Q e H = wp P slices_IndexFunc_SSint_Sint_10 (blockQ 0 Q) e H := idE rfl
@[go_sem] def l_slices_IndexFunc_SSint_Sint_12 : List GOp := [⟨(some 4), .mv (.c (.int .i64 (-1))), none⟩]
def slices_IndexFunc_SSint_Sint_12 : IR := .ops l_slices_IndexFunc_SSint_Sint_12
@[go_sem] theorem w_slices_IndexFunc_SSint_Sint_12 : wp P slices_IndexFunc_SSint_Sint_12 Q e H = wpL P l_slices_IndexFunc_SSint_Sint_12 (Q .normal) e H := idE rfl
def F_slices_IndexFunc_SSint_Sint : IFn := ⟨2, 19, [.t 4], (.seq slices_IndexFunc_SSint_Sint_0 (.seq (.seq slices_IndexFunc_SSint_Sint_1 slices_IndexFunc_SSint_Sint_11) (.seq slices_IndexFunc_SSint_Sint_12 .ret)))⟩
theorem c_slices_IndexFunc_SSint_Sint : compFn Try.prog [(0, [], []), (1, [], []), (2, [], []), (3, [], []), (4, [], []), (5, [], []), (6, [], []), (7, [], [])] Try.f103 = some F_slices_IndexFunc_SSint_Sint := by kernel_rfl
theorem a_slices_IndexFunc_SSint_Sint (hl : args.length = 2) (h : wp Try.prog (.seq slices_IndexFunc_SSint_Sint_0 (.seq (.seq slices_IndexFunc_SSint_Sint_1 slices_IndexFunc_SSint_Sint_11) (.seq slices_IndexFunc_SSint_Sint_12 .ret))) (postQ [.t 4] R) (env0 args) H) : ACall Try.prog n_slices_IndexFunc_SSint_Sint args H R :=
  acall_of_wp mixed Try.func103 c_slices_IndexFunc_SSint_Sint (by kernel_rfl) hl h
@[go_sem] def l_slices_ContainsFunc_SSint_Sint_0 : List GOp := [⟨(some 4), .mv (.c (.bool false)), none⟩]
def slices_ContainsFunc_SSint_Sint_0 : IR := .ops l_slices_ContainsFunc_SSint_Sint_0
@[go_sem] theorem w_slices_ContainsFunc_SSint_Sint_0 : wp P slices_ContainsFunc_SSint_Sint_0 Q e H = wpL P l_slices_ContainsFunc_SSint_Sint_0 (Q .normal) e H := idE rfl
@[go_sem] def l_slices_ContainsFunc_SSint_Sint_1 : List GOp := [⟨(some 5), .mv (.t 0), none⟩,
    ⟨(some 6), .mv (.t 1), none⟩,
    ⟨(some 7), .call (n_slices_IndexFunc_SSint_Sint) [(.t 5), (.t 6)], none⟩,
    ⟨(some 8), .bin .geq (.t 7) (.c (.int .i64 0)), none⟩,
    ⟨(some 4), .mv (.t 8), none⟩]
def slices_ContainsFunc_SSint_Sint_1 : IR := .ops l_slices_ContainsFunc_SSint_Sint_1
@[go_sem] theorem w_slices_ContainsFunc_SSint_Sint_1 : wp P slices_ContainsFunc_SSint_Sint_1 Q e H = wpL P l_slices_ContainsFunc_SSint_Sint_1 (Q .normal) e H := idE rfl
def F_slices_ContainsFunc_SSint_Sint : IFn := ⟨2, 9, [.t 4], (.seq slices_ContainsFunc_SSint_Sint_0 (.seq slices_ContainsFunc_SSint_Sint_1 .ret))⟩
theorem c_slices_ContainsFunc_SSint_Sint : compFn Try.prog [(0, [], []), (1, [], [])] Try.f68 = some F_slices_ContainsFunc_SSint_Sint := by kernel_rfl
theorem a_slices_ContainsFunc_SSint_Sint (hl : args.length = 2) (h : wp Try.prog (.seq slices_ContainsFunc_SSint_Sint_0 (.seq slices_ContainsFunc_SSint_Sint_1 .ret)) (postQ [.t 4] R) (env0 args) H) : ACall Try.prog n_slices_ContainsFunc_SSint_Sint args H R :=
  acall_of_wp mixed Try.func68 c_slices_ContainsFunc_SSint_Sint (by kernel_rfl) hl h
@[go_sem] def l_impl_ClausesValid_0 : List GOp := [⟨(some 1), .box (.t 0), none⟩,
    ⟨(some 2), .mv (.c (.bool false)), none⟩]
def impl_ClausesValid_0 : IR := .ops l_impl_ClausesValid_0
@[go_sem] theorem w_impl_ClausesValid_0 : wp P impl_ClausesValid_0 Q e H = wpL P l_impl_ClausesValid_0 (Q .normal) e H := idE rfl
@[go_sem] def l_impl_ClausesValid_1 : List GOp := [⟨(some 3), .faddr (.t 1) 0, none⟩,
    ⟨(some 4), .load (.t 3) 1 false, none⟩,
    ⟨(some 5), .call (n_impl_in) [(.t 4), (.c (.int .i64 0)), (.c (.int .i64 700))], none⟩,
    ⟨(some 6), .mv (.t 5), none⟩,
    ⟨(some 7), .faddr (.t 1) 1, (some (6, true))⟩,
    ⟨(some 8), .load (.t 7) 1 false, (some (6, true))⟩,
    ⟨(some 9), .len (.t 8), (some (6, true))⟩,
    ⟨(some 10), .bin .leq (.t 9) (.c (.int .i64 2500)), (some (6, true))⟩,
    ⟨(some 11), .pick (.t 6) (.t 10) (.c (.bool false)), none⟩,
    ⟨(some 12), .mv (.t 11), none⟩,
    ⟨(some 13), .faddr (.t 1) 1, (some (12, true))⟩,
    ⟨(some 14), .load (.t 13) 1 false, (some (12, true))⟩,
    ⟨(some 15), .mkfn (n_impl_ClausesValid_1) [(.t 1)], (some (12, true))⟩,
    ⟨(some 16), .call (n_slices_ContainsFunc_SSint_Sint) [(.t 14), (.t 15)], (some (12, true))⟩,
    ⟨(some 17), .un .not (.t 16), (some (12, true))⟩,
    ⟨(some 18), .pick (.t 12) (.t 17) (.c (.bool false)), none⟩,
    ⟨(some 2), .mv (.t 18), none⟩]
def impl_ClausesValid_1 : IR := .ops l_impl_ClausesValid_1
@[go_sem] theorem w_impl_ClausesValid_1 : wp P impl_ClausesValid_1 Q e H = wpL P l_impl_ClausesValid_1 (Q .normal) e H := idE rfl
def F_impl_ClausesValid : IFn := ⟨1, 19, [.t 2], (.seq impl_ClausesValid_0 (.seq impl_ClausesValid_1 .ret))⟩
theorem c_impl_ClausesValid : compFn Try.prog [(0, [], []), (1, [], [])] Try.f27 = some F_impl_ClausesValid := by kernel_rfl
theorem a_impl_ClausesValid (hl : args.length = 1) (h : wp Try.prog (.seq impl_ClausesValid_0 (.seq impl_ClausesValid_1 .ret)) (postQ [.t 2] R) (env0 args) H) : ACall Try.prog n_impl_ClausesValid args H R :=
  acall_of_wp mixed Try.func27 c_impl_ClausesValid (by kernel_rfl) hl h
@[go_sem] def l_slices_Equal_Sint_int_0 : List GOp := [⟨(some 4), .mv (.c (.bool false)), none⟩]
def slices_Equal_Sint_int_0 : IR := .ops l_slices_Equal_Sint_int_0
@[go_sem] theorem w_slices_Equal_Sint_int_0 : wp P slices_Equal_Sint_int_0 Q e H = wpL P l_slices_Equal_Sint_int_0 (Q .normal) e H := idE rfl
@[go_sem] def l_slices_Equal_Sint_int_1 : List GOp := [⟨(some 6), .mv (.t 0), none⟩,
    ⟨(some 7), .len (.t 6), none⟩,
    ⟨(some 8), .mv (.t 1), none⟩,
    ⟨(some 9), .len (.t 8), none⟩,
    ⟨(some 10), .bin .neq (.t 7) (.t 9), none⟩]
def slices_Equal_Sint_int_1 : IR := .ops l_slices_Equal_Sint_int_1
@[go_sem] theorem w_slices_Equal_Sint_int_1 : wp P slices_Equal_Sint_int_1 Q e H = wpL P l_slices_Equal_Sint_int_1 (Q .normal) e H := idE rfl
@[go_sem] def l_slices_Equal_Sint_int_2 : List GOp := [⟨(some 4), .mv (.c (.bool false)), none⟩]
def slices_Equal_Sint_int_2 : IR := .ops l_slices_Equal_Sint_int_2
@[go_sem] theorem w_slices_Equal_Sint_int_2 : wp P slices_Equal_Sint_int_2 Q e H = wpL P l_slices_Equal_Sint_int_2 (Q .normal) e H := idE rfl
def slices_Equal_Sint_int_3 : IR := .cond (.t 10) (.seq slices_Equal_Sint_int_2 .ret) .skip
@[go_sem] theorem w_slices_Equal_Sint_int_3 : wp P slices_Equal_Sint_int_3 Q e H = condW P ((.t 10) : X) (.seq slices_Equal_Sint_int_2 .ret) .skip Q e H := idE rfl
@[go_sem] def l_slices_Equal_Sint_int_4 : List GOp := [⟨(some 11), .mv (.t 0), none⟩,
    ⟨(some 12), .len (.t 11), none⟩,
    ⟨(some 13), .mv (.c (.int .i64 0)), none⟩]
def slices_Equal_Sint_int_4 : IR := .ops l_slices_Equal_Sint_int_4
@[go_sem] theorem w_slices_Equal_Sint_int_4 : wp P slices_Equal_Sint_int_4 Q e H = wpL P l_slices_Equal_Sint_int_4 (Q .normal) e H := idE rfl
@[go_sem] def l_slices_Equal_Sint_int_5 : List GOp := [⟨(some 14), .bin .lss (.t 13) (.t 12), none⟩]
def slices_Equal_Sint_int_5 : IR := .ops l_slices_Equal_Sint_int_5
@[go_sem] theorem w_slices_Equal_Sint_int_5 : wp P slices_Equal_Sint_int_5 Q e H = wpL P l_slices_Equal_Sint_int_5 (Q .normal) e H := idE rfl
def slices_Equal_Sint_int_6 : IR := .cond (.t 14) .skip (.exit 0)
@[go_sem] theorem w_slices_Equal_Sint_int_6 : wp P slices_Equal_Sint_int_6 Q e H = condW P ((.t 14) : X) .skip (.exit 0) Q e H := idE rfl
@[go_sem] def l_slices_Equal_Sint_int_7 : List GOp := [⟨(some 15), .mv (.t 13), none⟩,
    ⟨(some 5), .mv (.t 15), none⟩]
def slices_Equal_Sint_int_7 : IR := .ops l_slices_Equal_Sint_int_7
@[go_sem] theorem w_slices_Equal_Sint_int_7 : wp P slices_Equal_Sint_int_7 Q e H = wpL P l_slices_Equal_Sint_int_7 (Q .normal) e H := idE rfl
def l_slices_Equal_Sint_int_8 : List GOp := [⟨(some 16), .mv (.t 0), none⟩,
    ⟨(some 17), .mv (.t 5), none⟩,
    ⟨(some 18), .iaddr (.t 16) (.t 17) 1, none⟩,
    ⟨(some 19), .load (.t 18) 1 false, none⟩,
    ⟨(some 20), .mv (.t 1), none⟩,
    ⟨(some 21), .mv (.t 5), none⟩,
    ⟨(some 22), .iaddr (.t 20) (.t 21) 1, none⟩,
    ⟨(some 23), .load (.t 22) 1 false, none⟩,
    ⟨(some 24), .bin .neq (.t 19) (.t 23), none⟩]
@[go_sem] theorem g_slices_Equal_Sint_int_8_0 : gAt l_slices_Equal_Sint_int_8 0 = ⟨(some 16), .mv (.t 0), none⟩ := idE rfl
@[go_sem] theorem g_slices_Equal_Sint_int_8_1 : gAt l_slices_Equal_Sint_int_8 1 = ⟨(some 17), .mv (.t 5), none⟩ := idE rfl
@[go_sem] theorem g_slices_Equal_Sint_int_8_2 : gAt l_slices_Equal_Sint_int_8 2 = ⟨(some 18), .iaddr (.t 16) (.t 17) 1, none⟩ := idE rfl
@[go_sem] theorem g_slices_Equal_Sint_int_8_3 : gAt l_slices_Equal_Sint_int_8 3 = ⟨(some 19), .load (.t 18) 1 false, none⟩ := idE rfl
@[go_sem] theorem g_slices_Equal_Sint_int_8_4 : gAt l_slices_Equal_Sint_int_8 4 = ⟨(some 20), .mv (.t 1), none⟩ := idE rfl
@[go_sem] theorem g_slices_Equal_Sint_int_8_5 : gAt l_slices_Equal_Sint_int_8 5 = ⟨(some 21), .mv (.t 5), none⟩ := idE rfl
@[go_sem] theorem g_slices_Equal_Sint_int_8_6 : gAt l_slices_Equal_Sint_int_8 6 = ⟨(some 22), .iaddr (.t 20) (.t 21) 1, none⟩ := idE rfl
@[go_sem] theorem g_slices_Equal_Sint_int_8_7 : gAt l_slices_Equal_Sint_int_8 7 = ⟨(some 23), .load (.t 22) 1 false, none⟩ := idE rfl
@[go_sem] theorem g_slices_Equal_Sint_int_8_8 : gAt l_slices_Equal_Sint_int_8 8 = ⟨(some 24), .bin .neq (.t 19) (.t 23), none⟩ := idE rfl
def slices_Equal_Sint_int_8 : IR := .dops l_slices_Equal_Sint_int_8 [(0, []), (1, []), (2, []), (3, []), (4, []), (5, []), (6, []), (7, []), (8, [])]
@[go_sem] theorem w_slices_Equal_Sint_int_8 : wp P slices_Equal_Sint_int_8 Q e H = wpD P l_slices_Equal_Sint_int_8 [(0, []), (1, []), (2, []), (3, []), (4, []), (5, []), (6, []), (7, []), (8, [])] (Q .normal) e H := idE rfl
@[go_sem] def l_slices_Equal_Sint_int_9 : List GOp := [⟨(some 4), .mv (.c (.bool false)), none⟩]
def slices_Equal_Sint_int_9 : IR := .ops l_slices_Equal_Sint_int_9
@[go_sem] theorem w_slices_Equal_Sint_int_9 : wp P slices_Equal_Sint_int_9 Q e H = wpL P l_slices_Equal_Sint_int_9 (Q .normal) e H := idE rfl
def slices_Equal_Sint_int_10 : IR := .cond (.t 24) (.seq slices_Equal_Sint_int_9 .ret) .skip
@[go_sem] theorem w_slices_Equal_Sint_int_10 : wp P slices_Equal_Sint_int_10 Q e H = condW P ((.t 24) : X) (.seq slices_Equal_Sint_int_9 .ret) .skip Q e H := idE rfl
def slices_Equal_Sint_int_11 : IR := .block 1 (.seq slices_Equal_Sint_int_7 (.seq slices_Equal_Sint_int_8 slices_Equal_Sint_int_10))
@[go_sem] theorem w_slices_Equal_Sint_int_11 : wp P slices_Equal_Sint_int_11 Q e H = wp P (.seq slices_Equal_Sint_int_7 (.seq slices_Equal_Sint_int_8 slices_Equal_Sint_int_10)) (blockQ 1 Q) e H := idE rfl
@[go_sem] def l_slices_Equal_Sint_int_12 : List GOp := [⟨(some 25), .bin .add (.t 13) (.c (.int .i64 1)), none⟩,
    ⟨(some 13), .mv (.t 25), none⟩]
def slices_Equal_Sint_int_12 : IR := .ops l_slices_Equal_Sint_int_12
@[go_sem] theorem w_slices_Equal_Sint_int_12 : wp P slices_Equal_Sint_int_12 Q e H = wpL P l_slices_Equal_Sint_int_12 (Q .normal) e H := idE rfl
def slices_Equal_Sint_int_13 : IR := .loop (.seq slices_Equal_Sint_int_5 (.seq slices_Equal_Sint_int_6 (.seq slices_Equal_Sint_int_11 slices_Equal_Sint_int_12)))
def slices_Equal_Sint_int_14 : IR := .block 0 slices_Equal_Sint_int_13
@[go_sem] theorem w_slices_Equal_Sint_int_14 : wp P slices_Equal_Sint_int_14 Q e H = wp P slices_Equal_Sint_int_13 (blockQ 0 Q) e H := idE rfl
@[go_sem] def l_slices_Equal_Sint_int_15 : List GOp := [⟨(some 4), .mv (.c (.bool true)), none⟩]
def slices_Equal_Sint_int_15 : IR := .ops l_slices_Equal_Sint_int_15
@[go_sem] theorem w_slices_Equal_Sint_int_15 : wp P slices_Equal_Sint_int_15 Q e H = wpL P l_slices_Equal_Sint_int_15 (Q .normal) e H := idE rfl
def F_slices_Equal_Sint_int : IFn := ⟨2, 26, [.t 4], (.seq slices_Equal_Sint_int_0 (.seq (.seq slices_Equal_Sint_int_1 slices_Equal_Sint_int_3) (.seq (.seq slices_Equal_Sint_int_4 slices_Equal_Sint_int_14) (.seq slices_Equal_Sint_int_15 .ret))))⟩
theorem c_slices_Equal_Sint_int : compFn Try.prog [(0, [], []), (1, [], []), (2, [], []), (3, [], []), (4, [], []), (5, [], []), (6, [(0, []), (1, []), (2, []), (3, []), (4, []), (5, []), (6, []), (7, []), (8, [])], []), (7, [], []), (8, [], []), (9, [], [])] Try.f60 = some F_slices_Equal_Sint_int := by kernel_rfl
theorem a_slices_Equal_Sint_int (hl : args.length = 2) (h : wp Try.prog (.seq slices_Equal_Sint_int_0 (.seq (.seq slices_Equal_Sint_int_1 slices_Equal_Sint_int_3) (.seq (.seq slices_Equal_Sint_int_4 slices_Equal_Sint_int_14) (.seq slices_Equal_Sint_int_15 .ret)))) (postQ [.t 4] R) (env0 args) H) : ACall Try.prog n_slices_Equal_Sint_int args H R :=
  acall_of_wp mixed Try.func60 c_slices_Equal_Sint_int (by kernel_rfl) hl h
@[go_sem] def l_slices_Index_Sint_int_0 : List GOp := [⟨(some 4), .mv (.c (.int .i64 0)), none⟩]
def slices_Index_Sint_int_0 : IR := .ops l_slices_Index_Sint_int_0
@[go_sem] theorem w_slices_Index_Sint_int_0 : wp P slices_Index_Sint_int_0 Q e H = wpL P l_slices_Index_Sint_int_0 (Q .normal) e H := idE rfl
@[go_sem] def l_slices_Index_Sint_int_1 : List GOp := [⟨(some 6), .mv (.t 0), none⟩,
    ⟨(some 7), .len (.t 6), none⟩,
    ⟨(some 8), .mv (.c (.int .i64 0)), none⟩]
def slices_Index_Sint_int_1 : IR := .ops l_slices_Index_Sint_int_1
@[go_sem] theorem w_slices_Index_Sint_int_1 : wp P slices_Index_Sint_int_1 Q e H = wpL P l_slices_Index_Sint_int_1 (Q .normal) e H := idE rfl
@[go_sem] def l_slices_Index_Sint_int_2 : List GOp := [⟨(some 9), .bin .lss (.t 8) (.t 7), none⟩]
def slices_Index_Sint_int_2 : IR := .ops l_slices_Index_Sint_int_2
@[go_sem] theorem w_slices_Index_Sint_int_2 : wp P slices_Index_Sint_int_2 Q e H = wpL P l_slices_Index_Sint_int_2 (Q .normal) e H := idE rfl
def slices_Index_Sint_int_3 : IR := .cond (.t 9) .skip (.exit 0)
@[go_sem] theorem w_slices_Index_Sint_int_3 : wp P slices_Index_Sint_int_3 Q e H = condW P ((.t 9) : X) .skip (.exit 0) Q e H := idE rfl
@[go_sem] def l_slices_Index_Sint_int_4 : List GOp := [⟨(some 10), .mv (.t 8), none⟩,
    ⟨(some 5), .mv (.t 10), none⟩]
def slices_Index_Sint_int_4 : IR := .ops l_slices_Index_Sint_int_4
@[go_sem] theorem w_slices_Index_Sint_int_4 : wp P slices_Index_Sint_int_4 Q e H = wpL P l_slices_Index_Sint_int_4 (Q .normal) e H := idE rfl
@[go_sem] def l_slices_Index_Sint_int_5 : List GOp := [⟨(some 11), .mv (.t 1), none⟩,
    ⟨(some 12), .mv (.t 0), none⟩,
    ⟨(some 13), .mv (.t 5), none⟩,
    ⟨(some 14), .iaddr (.t 12) (.t 13) 1, none⟩,
    ⟨(some 15), .load (.t 14) 1 false, none⟩,
    ⟨(some 16), .bin .eql (.t 11) (.t 15), none⟩]
def slices_Index_Sint_int_5 : IR := .ops l_slices_Index_Sint_int_5
@[go_sem] theorem w_slices_Index_Sint_int_5 : wp P slices_Index_Sint_int_5 Q e H = wpL P l_slices_Index_Sint_int_5 (Q .normal) e H := idE rfl
@[go_sem] def l_slices_Index_Sint_int_6 : List GOp := [⟨(some 17), .mv (.t 5), none⟩,
    ⟨(some 4), .mv (.t 17), none⟩]
def slices_Index_Sint_int_6 : IR := .ops l_slices_Index_Sint_int_6
@[go_sem] theorem w_slices_Index_Sint_int_6 : wp P slices_Index_Sint_int_6 Q e H = wpL P l_slices_Index_Sint_int_6 (Q .normal) e H := idE rfl
def slices_Index_Sint_int_7 : IR := .cond (.t 16) (.seq slices_Index_Sint_int_6 .ret) .skip
@[go_sem] theorem w_slices_Index_Sint_int_7 : wp P slices_Index_Sint_int_7 Q e H = condW P ((.t 16) : X) (.seq slices_Index_Sint_int_6 .ret) .skip Q e H := idE rfl
def slices_Index_Sint_int_8 : IR := .block 1 (.seq slices_Index_Sint_int_4 (.seq slices_Index_Sint_int_5 slices_Index_Sint_int_7))
@[go_sem] theorem w_slices_Index_Sint_int_8 : wp P slices_Index_Sint_int_8 Q e H = wp P (.seq slices_Index_Sint_int_4 (.seq slices_Index_Sint_int_5 slices_Index_Sint_int_7)) (blockQ 1 Q) e H := idE rfl
@[go_sem] def l_slices_Index_Sint_int_9 : List GOp := [⟨(some 18), .bin .add (.t 8) (.c (.int .i64 1)), none⟩,
    ⟨(some 8), .mv (.t 18), none⟩]
def slices_Index_Sint_int_9 : IR := .ops l_slices_Index_Sint_int_9
@[go_sem] theorem w_slices_Index_Sint_int_9 : wp P slices_Index_Sint_int_9 Q e H = wpL P l_slices_Index_Sint_int_9 (Q .normal) e H := idE rfl
def slices_Index_Sint_int_10 : IR := .loop (.seq slices_Index_Sint_int_2 (.seq slices_Index_Sint_int_3 (.seq slices_Index_Sint_int_8 slices_Index_Sint_int_9)))
def slices_Index_Sint_int_11 : IR := .block 0 slices_Index_Sint_int_10
@[go_sem] theorem w_slices_Index_Sint_int_11 : wp P slices_Index_Sint_int_11 Q e H = wp P slices_Index_Sint_int_10 (blockQ 0 Q) e H := idE rfl
@[go_sem] def l_slices_Index_Sint_int_12 : List GOp := [⟨(some 4), .mv (.c (.int .i64 (-1))), none⟩]
def slices_Index_Sint_int_12 : IR := .ops l_slices_Index_Sint_int_12
@[go_sem] theorem w_slices_Index_Sint_int_12 : wp P slices_Index_Sint_int_12 Q e H = wpL P l_slices_Index_Sint_int_12 (Q .normal) e H := idE rfl
def F_slices_Index_Sint_int : IFn := ⟨2, 19, [.t 4], (.seq slices_Index_Sint_int_0 (.seq (.seq slices_Index_Sint_int_1 slices_Index_Sint_int_11) (.seq slices_Index_Sint_int_12 .ret)))⟩
theorem c_slices_Index_Sint_int : compFn Try.prog [(0, [], []), (1, [], []), (2, [], []), (3, [], []), (4, [], []), (5, [], []), (6, [], []), (7, [], [])] Try.f124 = some F_slices_Index_Sint_int := by kernel_rfl
theorem a_slices_Index_Sint_int (hl : args.length = 2) (h : wp Try.prog (.seq slices_Index_Sint_int_0 (.seq (.seq slices_Index_Sint_int_1 slices_Index_Sint_int_11) (.seq slices_Index_Sint_int_12 .ret))) (postQ [.t 4] R) (env0 args) H) : ACall Try.prog n_slices_Index_Sint_int args H R :=
  acall_of_wp mixed Try.func124 c_slices_Index_Sint_int (by kernel_rfl) hl h
@[go_sem] def l_slices_Contains_Sint_int_0 : List GOp := [⟨(some 4), .mv (.c (.bool false)), none⟩]
def slices_Contains_Sint_int_0 : IR := .ops l_slices_Contains_Sint_int_0
@[go_sem] theorem w_slices_Contains_Sint_int_0 : wp P slices_Contains_Sint_int_0 Q e H = wpL P l_slices_Contains_Sint_int_0 (Q .normal) e H := idE rfl
@[go_sem] def l_slices_Contains_Sint_int_1 : List GOp := [⟨(some 5), .mv (.t 0), none⟩,
    ⟨(some 6), .mv (.t 1), none⟩,
    ⟨(some 7), .call (n_slices_Index_Sint_int) [(.t 5), (.t 6)], none⟩,
    ⟨(some 8), .bin .geq (.t 7) (.c (.int .i64 0)), none⟩,
    ⟨(some 4), .mv (.t 8), none⟩]
def slices_Contains_Sint_int_1 : IR := .ops l_slices_Contains_Sint_int_1
@[go_sem] theorem w_slices_Contains_Sint_int_1 : wp P slices_Contains_Sint_int_1 Q e H = wpL P l_slices_Contains_Sint_int_1 (Q .normal) e H := idE rfl
def F_slices_Contains_Sint_int : IFn := ⟨2, 9, [.t 4], (.seq slices_Contains_Sint_int_0 (.seq slices_Contains_Sint_int_1 .ret))⟩
theorem c_slices_Contains_Sint_int : compFn Try.prog [(0, [], []), (1, [], [])] Try.f95 = some F_slices_Contains_Sint_int := by kernel_rfl
theorem a_slices_Contains_Sint_int (hl : args.length = 2) (h : wp Try.prog (.seq slices_Contains_Sint_int_0 (.seq slices_Contains_Sint_int_1 .ret)) (postQ [.t 4] R) (env0 args) H) : ACall Try.prog n_slices_Contains_Sint_int args H R :=
  acall_of_wp mixed Try.func95 c_slices_Contains_Sint_int (by kernel_rfl) hl h
@[go_sem] def l_slices_Clone_Sint_int_0 : List GOp := [⟨(some 2), .mv (.c (.sl none 0 0 true 0)), none⟩]
def slices_Clone_Sint_int_0 : IR := .ops l_slices_Clone_Sint_int_0
@[go_sem] theorem w_slices_Clone_Sint_int_0 : wp P slices_Clone_Sint_int_0 Q e H = wpL P l_slices_Clone_Sint_int_0 (Q .normal) e H := idE rfl
@[go_sem] def l_slices_Clone_Sint_int_1 : List GOp := [⟨(some 3), .mv (.t 0), none⟩,
    ⟨(some 4), .eqn false .sl (.t 3), none⟩]
def slices_Clone_Sint_int_1 : IR := .ops l_slices_Clone_Sint_int_1
@[go_sem] theorem w_slices_Clone_Sint_int_1 : wp P slices_Clone_Sint_int_1 Q e H = wpL P l_slices_Clone_Sint_int_1 (Q .normal) e H := idE rfl
@[go_sem] def l_slices_Clone_Sint_int_2 : List GOp := [⟨(some 2), .mv (.c (.sl none 0 0 true 0)), none⟩]
def slices_Clone_Sint_int_2 : IR := .ops l_slices_Clone_Sint_int_2
@[go_sem] theorem w_slices_Clone_Sint_int_2 : wp P slices_Clone_Sint_int_2 Q e H = wpL P l_slices_Clone_Sint_int_2 (Q .normal) e H := idE rfl
def slices_Clone_Sint_int_3 : IR := .cond (.t 4) (.seq slices_Clone_Sint_int_2 .ret) .skip
@[go_sem] theorem w_slices_Clone_Sint_int_3 : wp P slices_Clone_Sint_int_3 Q e H = condW P ((.t 4) : X) (.seq slices_Clone_Sint_int_2 .ret) .skip Q e H := idE rfl
@[go_sem] def l_slices_Clone_Sint_int_4 : List GOp := [⟨(some 5), .bslc 1 0 [(.int .i64 0)] [], none⟩,
    ⟨(some 6), .mv (.t 0), none⟩,
    ⟨(some 7), .app 1 8 (.t 5) (.t 6), none⟩,
    ⟨(some 2), .mv (.t 7), none⟩]
def slices_Clone_Sint_int_4 : IR := .ops l_slices_Clone_Sint_int_4
@[go_sem] theorem w_slices_Clone_Sint_int_4 : wp P slices_Clone_Sint_int_4 Q e H = wpL P l_slices_Clone_Sint_int_4 (Q .normal) e H := idE rfl
def F_slices_Clone_Sint_int : IFn := ⟨1, 8, [.t 2], (.seq slices_Clone_Sint_int_0 (.seq (.seq slices_Clone_Sint_int_1 slices_Clone_Sint_int_3) (.seq slices_Clone_Sint_int_4 .ret)))⟩
theorem c_slices_Clone_Sint_int : compFn Try.prog [(0, [], []), (1, [], []), (2, [], []), (3, [], [])] Try.f125 = some F_slices_Clone_Sint_int := by kernel_rfl
theorem a_slices_Clone_Sint_int (hl : args.length = 1) (h : wp Try.prog (.seq slices_Clone_Sint_int_0 (.seq (.seq slices_Clone_Sint_int_1 slices_Clone_Sint_int_3) (.seq slices_Clone_Sint_int_4 .ret))) (postQ [.t 2] R) (env0 args) H) : ACall Try.prog n_slices_Clone_Sint_int args H R :=
  acall_of_wp mixed Try.func125 c_slices_Clone_Sint_int (by kernel_rfl) hl h
@[go_sem] def l_math_bits_Len32_0 : List GOp := [⟨(some 2), .mv (.c (.int .i64 0)), none⟩]
def math_bits_Len32_0 : IR := .ops l_math_bits_Len32_0
@[go_sem] theorem w_math_bits_Len32_0 : wp P math_bits_Len32_0 Q e H = wpL P l_math_bits_Len32_0 (Q .normal) e H := idE rfl
@[go_sem] def l_math_bits_Len32_1 : List GOp := [⟨(some 3), .mv (.t 0), none⟩,
    ⟨(some 4), .bin .geq (.t 3) (.c (.int .u32 65536)), none⟩]
def math_bits_Len32_1 : IR := .ops l_math_bits_Len32_1
@[go_sem] theorem w_math_bits_Len32_1 : wp P math_bits_Len32_1 Q e H = wpL P l_math_bits_Len32_1 (Q .normal) e H := idE rfl
@[go_sem] def l_math_bits_Len32_2 : List GOp := [⟨(some 5), .mv (.t 0), none⟩,
    ⟨(some 6), .bin .shr (.t 5) (.c (.int .u64 16)), none⟩,
    ⟨(some 0), .mv (.t 6), none⟩]
def math_bits_Len32_2 : IR := .ops l_math_bits_Len32_2
@[go_sem] theorem w_math_bits_Len32_2 : wp P math_bits_Len32_2 Q e H = wpL P l_math_bits_Len32_2 (Q .normal) e H := idE rfl
@[go_sem] def l_math_bits_Len32_3 : List GOp := [⟨(some 2), .mv (.c (.int .i64 16)), none⟩]
def math_bits_Len32_3 : IR := .ops l_math_bits_Len32_3
@[go_sem] theorem w_math_bits_Len32_3 : wp P math_bits_Len32_3 Q e H = wpL P l_math_bits_Len32_3 (Q .normal) e H := idE rfl
def math_bits_Len32_4 : IR := .cond (.t 4) (.seq math_bits_Len32_2 math_bits_Len32_3) .skip
@[go_sem] theorem w_math_bits_Len32_4 : wp P math_bits_Len32_4 Q e H = condW P ((.t 4) : X) (.seq math_bits_Len32_2 math_bits_Len32_3) .skip Q e H := idE rfl
@[go_sem] def l_math_bits_Len32_5 : List GOp := [⟨(some 7), .mv (.t 0), none⟩,
    ⟨(some 8), .bin .geq (.t 7) (.c (.int .u32 256)), none⟩]
def math_bits_Len32_5 : IR := .ops l_math_bits_Len32_5
@[go_sem] theorem w_math_bits_Len32_5 : wp P math_bits_Len32_5 Q e H = wpL P l_math_bits_Len32_5 (Q .normal) e H := idE rfl
@[go_sem] def l_math_bits_Len32_6 : List GOp := [⟨(some 9), .mv (.t 0), none⟩,
    ⟨(some 10), .bin .shr (.t 9) (.c (.int .u64 8)), none⟩,
    ⟨(some 0), .mv (.t 10), none⟩]
def math_bits_Len32_6 : IR := .ops l_math_bits_Len32_6
@[go_sem] theorem w_math_bits_Len32_6 : wp P math_bits_Len32_6 Q e H = wpL P l_math_bits_Len32_6 (Q .normal) e H := idE rfl
@[go_sem] def l_math_bits_Len32_7 : List GOp := [⟨(some 11), .mv (.t 2), none⟩,
    ⟨(some 12), .bin .add (.t 11) (.c (.int .i64 8)), none⟩,
    ⟨(some 2), .mv (.t 12), none⟩]
def math_bits_Len32_7 : IR := .ops l_math_bits_Len32_7
@[go_sem] theorem w_math_bits_Len32_7 : wp P math_bits_Len32_7 Q e H = wpL P l_math_bits_Len32_7 (Q .normal) e H := idE rfl
def math_bits_Len32_8 : IR := .cond (.t 8) (.seq math_bits_Len32_6 math_bits_Len32_7) .skip
@[go_sem] theorem w_math_bits_Len32_8 : wp P math_bits_Len32_8 Q e H = condW P ((.t 8) : X) (.seq math_bits_Len32_6 math_bits_Len32_7) .skip Q e H := idE rfl
@[go_sem] def l_math_bits_Len32_9 : List GOp := [⟨(some 13), .mv (.t 2), none⟩,
    ⟨(some 14), .mv (.t 0), none⟩,
    ⟨(some 15), .cvi .u8 (.t 14), none⟩,
    ⟨(some 16), .sidx (.c (.str ⟨#[0, 1, 2, 2, 3, 3, 3, 3, 4, 4, 4, 4, 4, 4, 4, 4, 5, 5, 5, 5, 5, 5, 5, 5, 5, 5, 5, 5, 5, 5, 5, 5, 6, 6, 6, 6, 6, 6, 6, 6, 6, 6, 6, 6, 6, 6, 6, 6, 6, 6, 6, 6, 6, 6, 6, 6, 6, 6, 6, 6, 6, 6, 6, 6, 7, 7, 7, 7, 7, 7, 7, 7, 7, 7, 7, 7, 7, 7, 7, 7, 7, 7, 7, 7, 7, 7, 7, 7, 7, 7, 7, 7, 7, 7, 7, 7, 7, 7, 7, 7, 7, 7, 7, 7, 7, 7, 7, 7, 7, 7, 7, 7, 7, 7, 7, 7, 7, 7, 7, 7, 7, 7, 7, 7, 7, 7, 7, 7, 8, 8, 8, 8, 8, 8, 8, 8, 8, 8, 8, 8, 8, 8, 8, 8, 8, 8, 8, 8, 8, 8, 8, 8, 8, 8, 8, 8, 8, 8, 8, 8, 8, 8, 8, 8, 8, 8, 8, 8, 8, 8, 8, 8, 8, 8, 8, 8, 8, 8, 8, 8, 8, 8, 8, 8, 8, 8, 8, 8, 8, 8, 8, 8, 8, 8, 8, 8, 8, 8, 8, 8, 8, 8, 8, 8, 8, 8, 8, 8, 8, 8, 8, 8, 8, 8, 8, 8, 8, 8, 8, 8, 8, 8, 8, 8, 8, 8, 8, 8, 8, 8, 8, 8, 8, 8, 8, 8, 8, 8, 8, 8, 8, 8, 8, 8, 8, 8, 8, 8, 8, 8, 8, 8, 8, 8, 8, 8]⟩)) (.t 15), none⟩,
    ⟨(some 17), .cvi .i64 (.t 16), none⟩,
    ⟨(some 18), .bin .add (.t 13) (.t 17), none⟩,
    ⟨(some 2), .mv (.t 18), none⟩]
def math_bits_Len32_9 : IR := .ops l_math_bits_Len32_9
@[go_sem] theorem w_math_bits_Len32_9 : wp P math_bits_Len32_9 Q e H = wpL P l_math_bits_Len32_9 (Q .normal) e H := idE rfl
@[go_sem] def l_math_bits_Len64_0 : List GOp := [⟨(some 2), .mv (.c (.int .i64 0)), none⟩]
def math_bits_Len64_0 : IR := .ops l_math_bits_Len64_0
@[go_sem] theorem w_math_bits_Len64_0 : wp P math_bits_Len64_0 Q e H = wpL P l_math_bits_Len64_0 (Q .normal) e H := idE rfl
@[go_sem] def l_math_bits_Len64_1 : List GOp := [⟨(some 3), .mv (.t 0), none⟩,
    ⟨(some 4), .bin .geq (.t 3) (.c (.int .u64 4294967296)), none⟩]
def math_bits_Len64_1 : IR := .ops l_math_bits_Len64_1
@[go_sem] theorem w_math_bits_Len64_1 : wp P math_bits_Len64_1 Q e H = wpL P l_math_bits_Len64_1 (Q .normal) e H := idE rfl
@[go_sem] def l_math_bits_Len64_2 : List GOp := [⟨(some 5), .mv (.t 0), none⟩,
    ⟨(some 6), .bin .shr (.t 5) (.c (.int .u64 32)), none⟩,
    ⟨(some 0), .mv (.t 6), none⟩]
def math_bits_Len64_2 : IR := .ops l_math_bits_Len64_2
@[go_sem] theorem w_math_bits_Len64_2 : wp P math_bits_Len64_2 Q e H = wpL P l_math_bits_Len64_2 (Q .normal) e H := idE rfl
@[go_sem] def l_math_bits_Len64_3 : List GOp := [⟨(some 2), .mv (.c (.int .i64 32)), none⟩]
def math_bits_Len64_3 : IR := .ops l_math_bits_Len64_3
@[go_sem] theorem w_math_bits_Len64_3 : wp P math_bits_Len64_3 Q e H = wpL P l_math_bits_Len64_3 (Q .normal) e H := idE rfl
def math_bits_Len64_4 : IR := .cond (.t 4) (.seq math_bits_Len64_2 math_bits_Len64_3) .skip
@[go_sem] theorem w_math_bits_Len64_4 : wp P math_bits_Len64_4 Q e H = condW P ((.t 4) : X) (.seq math_bits_Len64_2 math_bits_Len64_3) .skip Q e H := idE rfl
@[go_sem] def l_math_bits_Len64_5 : List GOp := [⟨(some 7), .mv (.t 0), none⟩,
    ⟨(some 8), .bin .geq (.t 7) (.c (.int .u64 65536)), none⟩]
def math_bits_Len64_5 : IR := .ops l_math_bits_Len64_5
@[go_sem] theorem w_math_bits_Len64_5 : wp P math_bits_Len64_5 Q e H = wpL P l_math_bits_Len64_5 (Q .normal) e H := idE rfl
@[go_sem] def l_math_bits_Len64_6 : List GOp := [⟨(some 9), .mv (.t 0), none⟩,
    ⟨(some 10), .bin .shr (.t 9) (.c (.int .u64 16)), none⟩,
    ⟨(some 0), .mv (.t 10), none⟩]
def math_bits_Len64_6 : IR := .ops l_math_bits_Len64_6
@[go_sem] theorem w_math_bits_Len64_6 : wp P math_bits_Len64_6 Q e H = wpL P l_math_bits_Len64_6 (Q .normal) e H := idE rfl
@[go_sem] def l_math_bits_Len64_7 : List GOp := [⟨(some 11), .mv (.t 2), none⟩,
    ⟨(some 12), .bin .add (.t 11) (.c (.int .i64 16)), none⟩,
    ⟨(some 2), .mv (.t 12), none⟩]
def math_bits_Len64_7 : IR := .ops l_math_bits_Len64_7
@[go_sem] theorem w_math_bits_Len64_7 : wp P math_bits_Len64_7 Q e H = wpL P l_math_bits_Len64_7 (Q .normal) e H := idE rfl
def math_bits_Len64_8 : IR := .cond (.t 8) (.seq math_bits_Len64_6 math_bits_Len64_7) .skip
@[go_sem] theorem w_math_bits_Len64_8 : wp P math_bits_Len64_8 Q e H = condW P ((.t 8) : X) (.seq math_bits_Len64_6 math_bits_Len64_7) .skip Q e H := idE rfl
@[go_sem] def l_math_bits_Len64_9 : List GOp := [⟨(some 13), .mv (.t 0), none⟩,
    ⟨(some 14), .bin .geq (.t 13) (.c (.int .u64 256)), none⟩]
def math_bits_Len64_9 : IR := .ops l_math_bits_Len64_9
@[go_sem] theorem w_math_bits_Len64_9 : wp P math_bits_Len64_9 Q e H = wpL P l_math_bits_Len64_9 (Q .normal) e H := idE rfl
@[go_sem] def l_math_bits_Len64_10 : List GOp := [⟨(some 15), .mv (.t 0), none⟩,
    ⟨(some 16), .bin .shr (.t 15) (.c (.int .u64 8)), none⟩,
    ⟨(some 0), .mv (.t 16), none⟩]
def math_bits_Len64_10 : IR := .ops l_math_bits_Len64_10
@[go_sem] theorem w_math_bits_Len64_10 : wp P math_bits_Len64_10 Q e H = wpL P l_math_bits_Len64_10 (Q .normal) e H := idE rfl
@[go_sem] def l_math_bits_Len64_11 : List GOp := [⟨(some 17), .mv (.t 2), none⟩,
    ⟨(some 18), .bin .add (.t 17) (.c (.int .i64 8)), none⟩,
    ⟨(some 2), .mv (.t 18), none⟩]
def math_bits_Len64_11 : IR := .ops l_math_bits_Len64_11
@[go_sem] theorem w_math_bits_Len64_11 : wp P math_bits_Len64_11 Q e H = wpL P l_math_bits_Len64_11 (Q .normal) e H := idE rfl
def math_bits_Len64_12 : IR := .cond (.t 14) (.seq math_bits_Len64_10 math_bits_Len64_11) .skip
@[go_sem] theorem w_math_bits_Len64_12 : wp P math_bits_Len64_12 Q e H = condW P ((.t 14) : X) (.seq math_bits_Len64_10 math_bits_Len64_11) .skip Q e H := idE rfl
@[go_sem] def l_math_bits_Len64_13 : List GOp := [⟨(some 19), .mv (.t 2), none⟩,
    ⟨(some 20), .mv (.t 0), none⟩,
    ⟨(some 21), .cvi .u8 (.t 20), none⟩,
    ⟨(some 22), .sidx (.c (.str ⟨#[0, 1, 2, 2, 3, 3, 3, 3, 4, 4, 4, 4, 4, 4, 4, 4, 5, 5, 5, 5, 5, 5, 5, 5, 5, 5, 5, 5, 5, 5, 5, 5, 6, 6, 6, 6, 6, 6, 6, 6, 6, 6, 6, 6, 6, 6, 6, 6, 6, 6, 6, 6, 6, 6, 6, 6, 6, 6, 6, 6, 6, 6, 6, 6, 7, 7, 7, 7, 7, 7, 7, 7, 7, 7, 7, 7, 7, 7, 7, 7, 7, 7, 7, 7, 7, 7, 7, 7, 7, 7, 7, 7, 7, 7, 7, 7, 7, 7, 7, 7, 7, 7, 7, 7, 7, 7, 7, 7, 7, 7, 7, 7, 7, 7, 7, 7, 7, 7, 7, 7, 7, 7, 7, 7, 7, 7, 7, 7, 8, 8, 8, 8, 8, 8, 8, 8, 8, 8, 8, 8, 8, 8, 8, 8, 8, 8, 8, 8, 8, 8, 8, 8, 8, 8, 8, 8, 8, 8, 8, 8, 8, 8, 8, 8, 8, 8, 8, 8, 8, 8, 8, 8, 8, 8, 8, 8, 8, 8, 8, 8, 8, 8, 8, 8, 8, 8, 8, 8, 8, 8, 8, 8, 8, 8, 8, 8, 8, 8, 8, 8, 8, 8, 8, 8, 8, 8, 8, 8, 8, 8, 8, 8, 8, 8, 8, 8, 8, 8, 8, 8, 8, 8, 8, 8, 8, 8, 8, 8, 8, 8, 8, 8, 8, 8, 8, 8, 8, 8, 8, 8, 8, 8, 8, 8, 8, 8, 8, 8, 8, 8, 8, 8, 8, 8, 8, 8]⟩)) (.t 21), none⟩,
    ⟨(some 23), .cvi .i64 (.t 22), none⟩,
    ⟨(some 24), .bin .add (.t 19) (.t 23), none⟩,
    ⟨(some 2), .mv (.t 24), none⟩]
def math_bits_Len64_13 : IR := .ops l_math_bits_Len64_13
@[go_sem] theorem w_math_bits_Len64_13 : wp P math_bits_Len64_13 Q e H = wpL P l_math_bits_Len64_13 (Q .normal) e H := idE rfl
@[go_sem] def l_math_bits_Len_0 : List GOp := [⟨(some 2), .mv (.c (.int .i64 0)), none⟩]
def math_bits_Len_0 : IR := .ops l_math_bits_Len_0
@[go_sem] theorem w_math_bits_Len_0 : wp P math_bits_Len_0 Q e H = wpL P l_math_bits_Len_0 (Q .normal) e H := idE rfl
@[go_sem] def l_math_bits_Len_1 : List GOp := [⟨(some 3), .mv (.t 0), none⟩,
    ⟨(some 4), .cvi .u32 (.t 3), none⟩,
    ⟨(some 5), .call (n_math_bits_Len32) [(.t 4)], none⟩,
    ⟨(some 2), .mv (.t 5), none⟩]
def math_bits_Len_1 : IR := .ops l_math_bits_Len_1
@[go_sem] theorem w_math_bits_Len_1 : wp P math_bits_Len_1 Q e H = wpL P l_math_bits_Len_1 (Q .normal) e H := idE rfl
def math_bits_Len_2 : IR := .cond (.c (.bool false)) (.seq math_bits_Len_1 .ret) .skip
@[go_sem] theorem w_math_bits_Len_2 : wp P math_bits_Len_2 Q e H = condW P ((.c (.bool false)) : X) (.seq math_bits_Len_1 .ret) .skip Q e H := idE rfl
@[go_sem] def l_math_bits_Len_3 : List GOp := [⟨(some 6), .mv (.t 0), none⟩,
    ⟨(some 7), .call (n_math_bits_Len64) [(.t 6)], none⟩,
    ⟨(some 2), .mv (.t 7), none⟩]
def math_bits_Len_3 : IR := .ops l_math_bits_Len_3
@[go_sem] theorem w_math_bits_Len_3 : wp P math_bits_Len_3 Q e H = wpL P l_math_bits_Len_3 (Q .normal) e H := idE rfl
@[go_sem] def l_slices_insertionSortCmpFunc_int_0 : List GOp := [⟨(some 10), .mv (.t 1), none⟩,
    ⟨(some 11), .bin .add (.t 10) (.c (.int .i64 1)), none⟩,
    ⟨(some 8), .mv (.t 11), none⟩]
def slices_insertionSortCmpFunc_int_0 : IR := .ops l_slices_insertionSortCmpFunc_int_0
@[go_sem] theorem w_slices_insertionSortCmpFunc_int_0 : wp P slices_insertionSortCmpFunc_int_0 Q e H = wpL P l_slices_insertionSortCmpFunc_int_0 (Q .normal) e H := idE rfl
@[go_sem] def l_slices_insertionSortCmpFunc_int_1 : List GOp := [⟨(some 12), .mv (.t 8), none⟩,
    ⟨(some 13), .mv (.t 2), none⟩,
    ⟨(some 14), .bin .lss (.t 12) (.t 13), none⟩]
def slices_insertionSortCmpFunc_int_1 : IR := .ops l_slices_insertionSortCmpFunc_int_1
@[go_sem] theorem w_slices_insertionSortCmpFunc_int_1 : wp P slices_insertionSortCmpFunc_int_1 Q e H = wpL P l_slices_insertionSortCmpFunc_int_1 (Q .normal) e H := idE rfl
def slices_insertionSortCmpFunc_int_2 : IR := .cond (.t 14) .skip (.exit 0)
@[go_sem] theorem w_slices_insertionSortCmpFunc_int_2 : wp P slices_insertionSortCmpFunc_int_2 Q e H = condW P ((.t 14) : X) .skip (.exit 0) Q e H := idE rfl
@[go_sem] def l_slices_insertionSortCmpFunc_int_3 : List GOp := [⟨(some 17), .mv (.t 8), none⟩,
    ⟨(some 9), .mv (.t 17), none⟩]
def slices_insertionSortCmpFunc_int_3 : IR := .ops l_slices_insertionSortCmpFunc_int_3
@[go_sem] theorem w_slices_insertionSortCmpFunc_int_3 : wp P slices_insertionSortCmpFunc_int_3 Q e H = wpL P l_slices_insertionSortCmpFunc_int_3 (Q .normal) e H := idE rfl
def l_slices_insertionSortCmpFunc_int_4 : List GOp := [⟨(some 18), .mv (.t 9), none⟩,
    ⟨(some 19), .mv (.t 1), none⟩,
    ⟨(some 20), .bin .gtr (.t 18) (.t 19), none⟩,
    ⟨(some 21), .mv (.t 20), none⟩,
    ⟨(some 22), .mv (.t 3), (some (21, true))⟩,
    ⟨(some 23), .mv (.t 0), (some (21, true))⟩,
    ⟨(some 24), .mv (.t 9), (some (21, true))⟩,
    ⟨(some 25), .iaddr (.t 23) (.t 24) 1, (some (21, true))⟩,
    ⟨(some 26), .load (.t 25) 1 false, (some (21, true))⟩,
    ⟨(some 27), .mv (.t 0), (some (21, true))⟩,
    ⟨(some 28), .mv (.t 9), (some (21, true))⟩,
    ⟨(some 29), .bin .sub (.t 28) (.c (.int .i64 1)), (some (21, true))⟩,
    ⟨(some 30), .iaddr (.t 27) (.t 29) 1, (some (21, true))⟩,
    ⟨(some 31), .load (.t 30) 1 false, (some (21, true))⟩,
    ⟨(some 32), .callv (.t 22) [(.t 26), (.t 31)], (some (21, true))⟩,
    ⟨(some 33), .bin .lss (.t 32) (.c (.int .i64 0)), (some (21, true))⟩,
    ⟨(some 34), .pick (.t 21) (.t 33) (.c (.bool false)), none⟩]
@[go_sem] theorem g_slices_insertionSortCmpFunc_int_4_0 : gAt l_slices_insertionSortCmpFunc_int_4 0 = ⟨(some 18), .mv (.t 9), none⟩ := idE rfl
@[go_sem] theorem g_slices_insertionSortCmpFunc_int_4_1 : gAt l_slices_insertionSortCmpFunc_int_4 1 = ⟨(some 19), .mv (.t 1), none⟩ := idE rfl
@[go_sem] theorem g_slices_insertionSortCmpFunc_int_4_2 : gAt l_slices_insertionSortCmpFunc_int_4 2 = ⟨(some 20), .bin .gtr (.t 18) (.t 19), none⟩ := idE rfl
@[go_sem] theorem g_slices_insertionSortCmpFunc_int_4_3 : gAt l_slices_insertionSortCmpFunc_int_4 3 = ⟨(some 21), .mv (.t 20), none⟩ := idE rfl
@[go_sem] theorem g_slices_insertionSortCmpFunc_int_4_4 : gAt l_slices_insertionSortCmpFunc_int_4 4 = ⟨(some 22), .mv (.t 3), (some (21, true))⟩ := idE rfl
@[go_sem] theorem g_slices_insertionSortCmpFunc_int_4_5 : gAt l_slices_insertionSortCmpFunc_int_4 5 = ⟨(some 23), .mv (.t 0), (some (21, true))⟩ := idE rfl
@[go_sem] theorem g_slices_insertionSortCmpFunc_int_4_6 : gAt l_slices_insertionSortCmpFunc_int_4 6 = ⟨(some 24), .mv (.t 9), (some (21, true))⟩ := idE rfl
@[go_sem] theorem g_slices_insertionSortCmpFunc_int_4_7 : gAt l_slices_insertionSortCmpFunc_int_4 7 = ⟨(some 25), .iaddr (.t 23) (.t 24) 1, (some (21, true))⟩ := idE rfl
@[go_sem] theorem g_slices_insertionSortCmpFunc_int_4_8 : gAt l_slices_insertionSortCmpFunc_int_4 8 = ⟨(some 26), .load (.t 25) 1 false, (some (21, true))⟩ := idE rfl
@[go_sem] theorem g_slices_insertionSortCmpFunc_int_4_9 : gAt l_slices_insertionSortCmpFunc_int_4 9 = ⟨(some 27), .mv (.t 0), (some (21, true))⟩ := idE rfl
@[go_sem] theorem g_slices_insertionSortCmpFunc_int_4_10 : gAt l_slices_insertionSortCmpFunc_int_4 10 = ⟨(some 28), .mv (.t 9), (some (21, true))⟩ := idE rfl
@[go_sem] theorem g_slices_insertionSortCmpFunc_int_4_11 : gAt l_slices_insertionSortCmpFunc_int_4 11 = ⟨(some 29), .bin .sub (.t 28) (.c (.int .i64 1)), (some (21, true))⟩ := idE rfl
@[go_sem] theorem g_slices_insertionSortCmpFunc_int_4_12 : gAt l_slices_insertionSortCmpFunc_int_4 12 = ⟨(some 30), .iaddr (.t 27) (.t 29) 1, (some (21, true))⟩ := idE rfl
@[go_sem] theorem g_slices_insertionSortCmpFunc_int_4_13 : gAt l_slices_insertionSortCmpFunc_int_4 13 = ⟨(some 31), .load (.t 30) 1 false, (some (21, true))⟩ := idE rfl
@[go_sem] theorem g_slices_insertionSortCmpFunc_int_4_14 : gAt l_slices_insertionSortCmpFunc_int_4 14 = ⟨(some 32), .callv (.t 22) [(.t 26), (.t 31)], (some (21, true))⟩ := idE rfl
@[go_sem] theorem g_slices_insertionSortCmpFunc_int_4_15 : gAt l_slices_insertionSortCmpFunc_int_4 15 = ⟨(some 33), .bin .lss (.t 32) (.c (.int .i64 0)), (some (21, true))⟩ := idE rfl
@[go_sem] theorem g_slices_insertionSortCmpFunc_int_4_16 : gAt l_slices_insertionSortCmpFunc_int_4 16 = ⟨(some 34), .pick (.t 21) (.t 33) (.c (.bool false)), none⟩ := idE rfl
def slices_insertionSortCmpFunc_int_4 : IR := .dops l_slices_insertionSortCmpFunc_int_4 [(0, []), (1, []), (2, []), (3, []), (4, []), (5, []), (6, []), (7, []), (8, []), (9, []), (10, []), (11, []), (12, []), (13, []), (14, []), (15, []), (16, [])]
@[go_sem] theorem w_slices_insertionSortCmpFunc_int_4 : wp P slices_insertionSortCmpFunc_int_4 Q e H = wpD P l_slices_insertionSortCmpFunc_int_4 [(0, []), (1, []), (2, []), (3, []), (4, []), (5, []), (6, []), (7, []), (8, []), (9, []), (10, []), (11, []), (12, []), (13, []), (14, []), (15, []), (16, [])] (Q .normal) e H := idE rfl
def slices_insertionSortCmpFunc_int_5 : IR := .cond (.t 34) .skip (.exit 2)
@[go_sem] theorem w_slices_insertionSortCmpFunc_int_5 : wp P slices_insertionSortCmpFunc_int_5 Q e H = condW P ((.t 34) : X) .skip (.exit 2) Q e H := idE rfl
def l_slices_insertionSortCmpFunc_int_6 : List GOp := [⟨(some 37), .mv (.t 0), none⟩,
    ⟨(some 38), .mv (.t 9), none⟩,
    ⟨(some 39), .mv (.t 0), none⟩,
    ⟨(some 40), .mv (.t 9), none⟩,
    ⟨(some 41), .bin .sub (.t 40) (.c (.int .i64 1)), none⟩,
    ⟨(some 42), .mv (.t 0), none⟩,
    ⟨(some 43), .mv (.t 9), none⟩,
    ⟨(some 44), .bin .sub (.t 43) (.c (.int .i64 1)), none⟩,
    ⟨(some 45), .iaddr (.t 42) (.t 44) 1, none⟩,
    ⟨(some 46), .load (.t 45) 1 false, none⟩,
    ⟨(some 47), .mv (.t 0), none⟩,
    ⟨(some 48), .mv (.t 9), none⟩,
    ⟨(some 49), .iaddr (.t 47) (.t 48) 1, none⟩,
    ⟨(some 50), .load (.t 49) 1 false, none⟩,
    ⟨(some 51), .iaddr (.t 37) (.t 38) 1, none⟩,
    ⟨none, .store (.t 51) 1 (.t 46), none⟩,
    ⟨(some 52), .iaddr (.t 39) (.t 41) 1, none⟩,
    ⟨none, .store (.t 52) 1 (.t 50), none⟩]
@[go_sem] theorem g_slices_insertionSortCmpFunc_int_6_0 : gAt l_slices_insertionSortCmpFunc_int_6 0 = ⟨(some 37), .mv (.t 0), none⟩ := idE rfl
@[go_sem] theorem g_slices_insertionSortCmpFunc_int_6_1 : gAt l_slices_insertionSortCmpFunc_int_6 1 = ⟨(some 38), .mv (.t 9), none⟩ := idE rfl
@[go_sem] theorem g_slices_insertionSortCmpFunc_int_6_2 : gAt l_slices_insertionSortCmpFunc_int_6 2 = ⟨(some 39), .mv (.t 0), none⟩ := idE rfl
@[go_sem] theorem g_slices_insertionSortCmpFunc_int_6_3 : gAt l_slices_insertionSortCmpFunc_int_6 3 = ⟨(some 40), .mv (.t 9), none⟩ := idE rfl
@[go_sem] theorem g_slices_insertionSortCmpFunc_int_6_4 : gAt l_slices_insertionSortCmpFunc_int_6 4 = ⟨(some 41), .bin .sub (.t 40) (.c (.int .i64 1)), none⟩ := idE rfl
@[go_sem] theorem g_slices_insertionSortCmpFunc_int_6_5 : gAt l_slices_insertionSortCmpFunc_int_6 5 = ⟨(some 42), .mv (.t 0), none⟩ := idE rfl
@[go_sem] theorem g_slices_insertionSortCmpFunc_int_6_6 : gAt l_slices_insertionSortCmpFunc_int_6 6 = ⟨(some 43), .mv (.t 9), none⟩ := idE rfl
@[go_sem] theorem g_slices_insertionSortCmpFunc_int_6_7 : gAt l_slices_insertionSortCmpFunc_int_6 7 = ⟨(some 44), .bin .sub (.t 43) (.c (.int .i64 1)), none⟩ := idE rfl
@[go_sem] theorem g_slices_insertionSortCmpFunc_int_6_8 : gAt l_slices_insertionSortCmpFunc_int_6 8 = ⟨(some 45), .iaddr (.t 42) (.t 44) 1, none⟩ := idE rfl
@[go_sem] theorem g_slices_insertionSortCmpFunc_int_6_9 : gAt l_slices_insertionSortCmpFunc_int_6 9 = ⟨(some 46), .load (.t 45) 1 false, none⟩ := idE rfl
@[go_sem] theorem g_slices_insertionSortCmpFunc_int_6_10 : gAt l_slices_insertionSortCmpFunc_int_6 10 = ⟨(some 47), .mv (.t 0), none⟩ := idE rfl
@[go_sem] theorem g_slices_insertionSortCmpFunc_int_6_11 : gAt l_slices_insertionSortCmpFunc_int_6 11 = ⟨(some 48), .mv (.t 9), none⟩ := idE rfl
@[go_sem] theorem g_slices_insertionSortCmpFunc_int_6_12 : gAt l_slices_insertionSortCmpFunc_int_6 12 = ⟨(some 49), .iaddr (.t 47) (.t 48) 1, none⟩ := idE rfl
@[go_sem] theorem g_slices_insertionSortCmpFunc_int_6_13 : gAt l_slices_insertionSortCmpFunc_int_6 13 = ⟨(some 50), .load (.t 49) 1 false, none⟩ := idE rfl
@[go_sem] theorem g_slices_insertionSortCmpFunc_int_6_14 : gAt l_slices_insertionSortCmpFunc_int_6 14 = ⟨(some 51), .iaddr (.t 37) (.t 38) 1, none⟩ := idE rfl
@[go_sem] theorem g_slices_insertionSortCmpFunc_int_6_15 : gAt l_slices_insertionSortCmpFunc_int_6 15 = ⟨none, .store (.t 51) 1 (.t 46), none⟩ := idE rfl
@[go_sem] theorem g_slices_insertionSortCmpFunc_int_6_16 : gAt l_slices_insertionSortCmpFunc_int_6 16 = ⟨(some 52), .iaddr (.t 39) (.t 41) 1, none⟩ := idE rfl
@[go_sem] theorem g_slices_insertionSortCmpFunc_int_6_17 : gAt l_slices_insertionSortCmpFunc_int_6 17 = ⟨none, .store (.t 52) 1 (.t 50), none⟩ := idE rfl
def slices_insertionSortCmpFunc_int_6 : IR := .dops l_slices_insertionSortCmpFunc_int_6 [(0, []), (1, []), (2, []), (3, []), (4, []), (5, []), (6, []), (7, []), (8, []), (9, []), (10, []), (11, []), (12, []), (13, []), (14, []), (15, []), (16, []), (17, [])]
@[go_sem] theorem w_slices_insertionSortCmpFunc_int_6 : wp P slices_insertionSortCmpFunc_int_6 Q e H = wpD P l_slices_insertionSortCmpFunc_int_6 [(0, []), (1, []), (2, []), (3, []), (4, []), (5, []), (6, []), (7, []), (8, []), (9, []), (10, []), (11, []), (12, []), (13, []), (14, []), (15, []), (16, []), (17, [])] (Q .normal) e H := idE rfl
def slices_insertionSortCmpFunc_int_7 : IR := .block 3 slices_insertionSortCmpFunc_int_6
@[go_sem] theorem w_slices_insertionSortCmpFunc_int_7 : wp P slices_insertionSortCmpFunc_int_7 Q e H = wp P slices_insertionSortCmpFunc_int_6 (blockQ 3 Q) e H := idE rfl
@[go_sem] def l_slices_insertionSortCmpFunc_int_8 : List GOp := [⟨(some 35), .mv (.t 9), none⟩,
    ⟨(some 36), .bin .sub (.t 35) (.c (.int .i64 1)), none⟩,
    ⟨(some 9), .mv (.t 36), none⟩]
def slices_insertionSortCmpFunc_int_8 : IR := .ops l_slices_insertionSortCmpFunc_int_8
@[go_sem] theorem w_slices_insertionSortCmpFunc_int_8 : wp P slices_insertionSortCmpFunc_int_8 Q e H = wpL P l_slices_insertionSortCmpFunc_int_8 (Q .normal) e H := idE rfl
def slices_insertionSortCmpFunc_int_9 : IR := .loop (.seq (.seq slices_insertionSortCmpFunc_int_4 slices_insertionSortCmpFunc_int_5) (.seq slices_insertionSortCmpFunc_int_7 slices_insertionSortCmpFunc_int_8))
def slices_insertionSortCmpFunc_int_10 : IR := .block 2 slices_insertionSortCmpFunc_int_9
@[go_sem] theorem w_slices_insertionSortCmpFunc_int_10 : wp P slices_insertionSortCmpFunc_int_10 Q e H = wp P slices_insertionSortCmpFunc_int_9 (blockQ 2 Q) e H := idE rfl
def slices_insertionSortCmpFunc_int_11 : IR := .block 1 (.seq slices_insertionSortCmpFunc_int_3 slices_insertionSortCmpFunc_int_10)
@[go_sem] theorem w_slices_insertionSortCmpFunc_int_11 : wp P slices_insertionSortCmpFunc_int_11 Q e H = wp P (.seq slices_insertionSortCmpFunc_int_3 slices_insertionSortCmpFunc_int_10) (blockQ 1 Q) e H := idE rfl
@[go_sem] def l_slices_insertionSortCmpFunc_int_12 : List GOp := [⟨(some 15), .mv (.t 8), none⟩,
    ⟨(some 16), .bin .add (.t 15) (.c (.int .i64 1)), none⟩,
    ⟨(some 8), .mv (.t 16), none⟩]
def slices_insertionSortCmpFunc_int_12 : IR := .ops l_slices_insertionSortCmpFunc_int_12
@[go_sem] theorem w_slices_insertionSortCmpFunc_int_12 : wp P slices_insertionSortCmpFunc_int_12 Q e H = wpL P l_slices_insertionSortCmpFunc_int_12 (Q .normal) e H := idE rfl
def slices_insertionSortCmpFunc_int_13 : IR := .loop (.seq (.seq slices_insertionSortCmpFunc_int_1 slices_insertionSortCmpFunc_int_2) (.seq slices_insertionSortCmpFunc_int_11 slices_insertionSortCmpFunc_int_12))
def slices_insertionSortCmpFunc_int_14 : IR := .block 0 slices_insertionSortCmpFunc_int_13
@[go_sem] theorem w_slices_insertionSortCmpFunc_int_14 : wp P slices_insertionSortCmpFunc_int_14 Q e H = wp P slices_insertionSortCmpFunc_int_13 (blockQ 0 Q) e H := idE rfl
@[go_sem] def l_slices_siftDownCmpFunc_int_0 : List GOp := [⟨(some 12), .mv (.t 1), none⟩,
    ⟨(some 10), .mv (.t 12), none⟩]
def slices_siftDownCmpFunc_int_0 : IR := .ops l_slices_siftDownCmpFunc_int_0
@[go_sem] theorem w_slices_siftDownCmpFunc_int_0 : wp P slices_siftDownCmpFunc_int_0 Q e H = wpL P l_slices_siftDownCmpFunc_int_0 (Q .normal) e H := idE rfl
@[go_sem] def l_slices_siftDownCmpFunc_int_1 : List GOp := [⟨(some 13), .mv (.t 10), none⟩,
    ⟨(some 14), .bin .mul (.c (.int .i64 2)) (.t 13), none⟩,
    ⟨(some 15), .bin .add (.t 14) (.c (.int .i64 1)), none⟩,
    ⟨(some 11), .mv (.t 15), none⟩]
def slices_siftDownCmpFunc_int_1 : IR := .ops l_slices_siftDownCmpFunc_int_1
@[go_sem] theorem w_slices_siftDownCmpFunc_int_1 : wp P slices_siftDownCmpFunc_int_1 Q e H = wpL P l_slices_siftDownCmpFunc_int_1 (Q .normal) e H := idE rfl
@[go_sem] def l_slices_siftDownCmpFunc_int_2 : List GOp := [⟨(some 16), .mv (.t 11), none⟩,
    ⟨(some 17), .mv (.t 2), none⟩,
    ⟨(some 18), .bin .geq (.t 16) (.t 17), none⟩]
def slices_siftDownCmpFunc_int_2 : IR := .ops l_slices_siftDownCmpFunc_int_2
@[go_sem] theorem w_slices_siftDownCmpFunc_int_2 : wp P slices_siftDownCmpFunc_int_2 Q e H = wpL P l_slices_siftDownCmpFunc_int_2 (Q .normal) e H := idE rfl
def slices_siftDownCmpFunc_int_3 : IR := .cond (.t 18) (.exit 0) .skip
@[go_sem] theorem w_slices_siftDownCmpFunc_int_3 : wp P slices_siftDownCmpFunc_int_3 Q e H = condW P ((.t 18) : X) (.exit 0) .skip Q e H := idE rfl
def l_slices_siftDownCmpFunc_int_4 : List GOp := [⟨(some 19), .mv (.t 11), none⟩,
    ⟨(some 20), .bin .add (.t 19) (.c (.int .i64 1)), none⟩,
    ⟨(some 21), .mv (.t 2), none⟩,
    ⟨(some 22), .bin .lss (.t 20) (.t 21), none⟩,
    ⟨(some 23), .mv (.t 22), none⟩,
    ⟨(some 24), .mv (.t 4), (some (23, true))⟩,
    ⟨(some 25), .mv (.t 0), (some (23, true))⟩,
    ⟨(some 26), .mv (.t 3), (some (23, true))⟩,
    ⟨(some 27), .mv (.t 11), (some (23, true))⟩,
    ⟨(some 28), .bin .add (.t 26) (.t 27), (some (23, true))⟩,
    ⟨(some 29), .iaddr (.t 25) (.t 28) 1, (some (23, true))⟩,
    ⟨(some 30), .load (.t 29) 1 false, (some (23, true))⟩,
    ⟨(some 31), .mv (.t 0), (some (23, true))⟩,
    ⟨(some 32), .mv (.t 3), (some (23, true))⟩,
    ⟨(some 33), .mv (.t 11), (some (23, true))⟩,
    ⟨(some 34), .bin .add (.t 32) (.t 33), (some (23, true))⟩,
    ⟨(some 35), .bin .add (.t 34) (.c (.int .i64 1)), (some (23, true))⟩,
    ⟨(some 36), .iaddr (.t 31) (.t 35) 1, (some (23, true))⟩,
    ⟨(some 37), .load (.t 36) 1 false, (some (23, true))⟩,
    ⟨(some 38), .callv (.t 24) [(.t 30), (.t 37)], (some (23, true))⟩,
    ⟨(some 39), .bin .lss (.t 38) (.c (.int .i64 0)), (some (23, true))⟩,
    ⟨(some 40), .pick (.t 23) (.t 39) (.c (.bool false)), none⟩]
@[go_sem] theorem g_slices_siftDownCmpFunc_int_4_0 : gAt l_slices_siftDownCmpFunc_int_4 0 = ⟨(some 19), .mv (.t 11), none⟩ := idE rfl
@[go_sem] theorem g_slices_siftDownCmpFunc_int_4_1 : gAt l_slices_siftDownCmpFunc_int_4 1 = ⟨(some 20), .bin .add (.t 19) (.c (.int .i64 1)), none⟩ := idE rfl
@[go_sem] theorem g_slices_siftDownCmpFunc_int_4_2 : gAt l_slices_siftDownCmpFunc_int_4 2 = ⟨(some 21), .mv (.t 2), none⟩ := idE rfl
@[go_sem] theorem g_slices_siftDownCmpFunc_int_4_3 : gAt l_slices_siftDownCmpFunc_int_4 3 = ⟨(some 22), .bin .lss (.t 20) (.t 21), none⟩ := idE rfl
@[go_sem] theorem g_slices_siftDownCmpFunc_int_4_4 : gAt l_slices_siftDownCmpFunc_int_4 4 = ⟨(some 23), .mv (.t 22), none⟩ := idE rfl
@[go_sem] theorem g_slices_siftDownCmpFunc_int_4_5 : gAt l_slices_siftDownCmpFunc_int_4 5 = ⟨(some 24), .mv (.t 4), (some (23, true))⟩ := idE rfl
@[go_sem] theorem g_slices_siftDownCmpFunc_int_4_6 : gAt l_slices_siftDownCmpFunc_int_4 6 = ⟨(some 25), .mv (.t 0), (some (23, true))⟩ := idE rfl
@[go_sem] theorem g_slices_siftDownCmpFunc_int_4_7 : gAt l_slices_siftDownCmpFunc_int_4 7 = ⟨(some 26), .mv (.t 3), (some (23, true))⟩ := idE rfl
@[go_sem] theorem g_slices_siftDownCmpFunc_int_4_8 : gAt l_slices_siftDownCmpFunc_int_4 8 = ⟨(some 27), .mv (.t 11), (some (23, true))⟩ := idE rfl
@[go_sem] theorem g_slices_siftDownCmpFunc_int_4_9 : gAt l_slices_siftDownCmpFunc_int_4 9 = ⟨(some 28), .bin .add (.t 26) (.t 27), (some (23, true))⟩ := idE rfl
@[go_sem] theorem g_slices_siftDownCmpFunc_int_4_10 : gAt l_slices_siftDownCmpFunc_int_4 10 = ⟨(some 29), .iaddr (.t 25) (.t 28) 1, (some (23, true))⟩ := idE rfl
@[go_sem] theorem g_slices_siftDownCmpFunc_int_4_11 : gAt l_slices_siftDownCmpFunc_int_4 11 = ⟨(some 30), .load (.t 29) 1 false, (some (23, true))⟩ := idE rfl
@[go_sem] theorem g_slices_siftDownCmpFunc_int_4_12 : gAt l_slices_siftDownCmpFunc_int_4 12 = ⟨(some 31), .mv (.t 0), (some (23, true))⟩ := idE rfl
@[go_sem] theorem g_slices_siftDownCmpFunc_int_4_13 : gAt l_slices_siftDownCmpFunc_int_4 13 = ⟨(some 32), .mv (.t 3), (some (23, true))⟩ := idE rfl
@[go_sem] theorem g_slices_siftDownCmpFunc_int_4_14 : gAt l_slices_siftDownCmpFunc_int_4 14 = ⟨(some 33), .mv (.t 11), (some (23, true))⟩ := idE rfl
@[go_sem] theorem g_slices_siftDownCmpFunc_int_4_15 : gAt l_slices_siftDownCmpFunc_int_4 15 = ⟨(some 34), .bin .add (.t 32) (.t 33), (some (23, true))⟩ := idE rfl
@[go_sem] theorem g_slices_siftDownCmpFunc_int_4_16 : gAt l_slices_siftDownCmpFunc_int_4 16 = ⟨(some 35), .bin .add (.t 34) (.c (.int .i64 1)), (some (23, true))⟩ := idE rfl
@[go_sem] theorem g_slices_siftDownCmpFunc_int_4_17 : gAt l_slices_siftDownCmpFunc_int_4 17 = ⟨(some 36), .iaddr (.t 31) (.t 35) 1, (some (23, true))⟩ := idE rfl
@[go_sem] theorem g_slices_siftDownCmpFunc_int_4_18 : gAt l_slices_siftDownCmpFunc_int_4 18 = ⟨(some 37), .load (.t 36) 1 false, (some (23, true))⟩ := idE rfl
@[go_sem] theorem g_slices_siftDownCmpFunc_int_4_19 : gAt l_slices_siftDownCmpFunc_int_4 19 = ⟨(some 38), .callv (.t 24) [(.t 30), (.t 37)], (some (23, true))⟩ := idE rfl
@[go_sem] theorem g_slices_siftDownCmpFunc_int_4_20 : gAt l_slices_siftDownCmpFunc_int_4 20 = ⟨(some 39), .bin .lss (.t 38) (.c (.int .i64 0)), (some (23, true))⟩ := idE rfl
@[go_sem] theorem g_slices_siftDownCmpFunc_int_4_21 : gAt l_slices_siftDownCmpFunc_int_4 21 = ⟨(some 40), .pick (.t 23) (.t 39) (.c (.bool false)), none⟩ := idE rfl
def slices_siftDownCmpFunc_int_4 : IR := .dops l_slices_siftDownCmpFunc_int_4 [(0, []), (1, []), (2, []), (3, []), (4, []), (5, []), (6, []), (7, []), (8, []), (9, []), (10, []), (11, []), (12, []), (13, []), (14, []), (15, []), (16, []), (17, []), (18, []), (19, []), (20, []), (21, [])]
@[go_sem] theorem w_slices_siftDownCmpFunc_int_4 : wp P slices_siftDownCmpFunc_int_4 Q e H = wpD P l_slices_siftDownCmpFunc_int_4 [(0, []), (1, []), (2, []), (3, []), (4, []), (5, []), (6, []), (7, []), (8, []), (9, []), (10, []), (11, []), (12, []), (13, []), (14, []), (15, []), (16, []), (17, []), (18, []), (19, []), (20, []), (21, [])] (Q .normal) e H := idE rfl
@[go_sem] def l_slices_siftDownCmpFunc_int_5 : List GOp := [⟨(some 41), .mv (.t 11), none⟩,
    ⟨(some 42), .bin .add (.t 41) (.c (.int .i64 1)), none⟩,
    ⟨(some 11), .mv (.t 42), none⟩]
def slices_siftDownCmpFunc_int_5 : IR := .ops l_slices_siftDownCmpFunc_int_5
@[go_sem] theorem w_slices_siftDownCmpFunc_int_5 : wp P slices_siftDownCmpFunc_int_5 Q e H = wpL P l_slices_siftDownCmpFunc_int_5 (Q .normal) e H := idE rfl
def slices_siftDownCmpFunc_int_6 : IR := .cond (.t 40) slices_siftDownCmpFunc_int_5 .skip
@[go_sem] theorem w_slices_siftDownCmpFunc_int_6 : wp P slices_siftDownCmpFunc_int_6 Q e H = condW P ((.t 40) : X) slices_siftDownCmpFunc_int_5 .skip Q e H := idE rfl
def l_slices_siftDownCmpFunc_int_7 : List GOp := [⟨(some 43), .mv (.t 4), none⟩,
    ⟨(some 44), .mv (.t 0), none⟩,
    ⟨(some 45), .mv (.t 3), none⟩,
    ⟨(some 46), .mv (.t 10), none⟩,
    ⟨(some 47), .bin .add (.t 45) (.t 46), none⟩,
    ⟨(some 48), .iaddr (.t 44) (.t 47) 1, none⟩,
    ⟨(some 49), .load (.t 48) 1 false, none⟩,
    ⟨(some 50), .mv (.t 0), none⟩,
    ⟨(some 51), .mv (.t 3), none⟩,
    ⟨(some 52), .mv (.t 11), none⟩,
    ⟨(some 53), .bin .add (.t 51) (.t 52), none⟩,
    ⟨(some 54), .iaddr (.t 50) (.t 53) 1, none⟩,
    ⟨(some 55), .load (.t 54) 1 false, none⟩,
    ⟨(some 56), .callv (.t 43) [(.t 49), (.t 55)], none⟩,
    ⟨(some 57), .bin .lss (.t 56) (.c (.int .i64 0)), none⟩,
    ⟨(some 58), .un .not (.t 57), none⟩]
@[go_sem] theorem g_slices_siftDownCmpFunc_int_7_0 : gAt l_slices_siftDownCmpFunc_int_7 0 = ⟨(some 43), .mv (.t 4), none⟩ := idE rfl
@[go_sem] theorem g_slices_siftDownCmpFunc_int_7_1 : gAt l_slices_siftDownCmpFunc_int_7 1 = ⟨(some 44), .mv (.t 0), none⟩ := idE rfl
@[go_sem] theorem g_slices_siftDownCmpFunc_int_7_2 : gAt l_slices_siftDownCmpFunc_int_7 2 = ⟨(some 45), .mv (.t 3), none⟩ := idE rfl
@[go_sem] theorem g_slices_siftDownCmpFunc_int_7_3 : gAt l_slices_siftDownCmpFunc_int_7 3 = ⟨(some 46), .mv (.t 10), none⟩ := idE rfl
@[go_sem] theorem g_slices_siftDownCmpFunc_int_7_4 : gAt l_slices_siftDownCmpFunc_int_7 4 = ⟨(some 47), .bin .add (.t 45) (.t 46), none⟩ := idE rfl
@[go_sem] theorem g_slices_siftDownCmpFunc_int_7_5 : gAt l_slices_siftDownCmpFunc_int_7 5 = ⟨(some 48), .iaddr (.t 44) (.t 47) 1, none⟩ := idE rfl
@[go_sem] theorem g_slices_siftDownCmpFunc_int_7_6 : gAt l_slices_siftDownCmpFunc_int_7 6 = ⟨(some 49), .load (.t 48) 1 false, none⟩ := idE rfl
@[go_sem] theorem g_slices_siftDownCmpFunc_int_7_7 : gAt l_slices_siftDownCmpFunc_int_7 7 = ⟨(some 50), .mv (.t 0), none⟩ := idE rfl
@[go_sem] theorem g_slices_siftDownCmpFunc_int_7_8 : gAt l_slices_siftDownCmpFunc_int_7 8 = ⟨(some 51), .mv (.t 3), none⟩ := idE rfl
@[go_sem] theorem g_slices_siftDownCmpFunc_int_7_9 : gAt l_slices_siftDownCmpFunc_int_7 9 = ⟨(some 52), .mv (.t 11), none⟩ := idE rfl
@[go_sem] theorem g_slices_siftDownCmpFunc_int_7_10 : gAt l_slices_siftDownCmpFunc_int_7 10 = ⟨(some 53), .bin .add (.t 51) (.t 52), none⟩ := idE rfl
@[go_sem] theorem g_slices_siftDownCmpFunc_int_7_11 : gAt l_slices_siftDownCmpFunc_int_7 11 = ⟨(some 54), .iaddr (.t 50) (.t 53) 1, none⟩ := idE rfl
@[go_sem] theorem g_slices_siftDownCmpFunc_int_7_12 : gAt l_slices_siftDownCmpFunc_int_7 12 = ⟨(some 55), .load (.t 54) 1 false, none⟩ := idE rfl
@[go_sem] theorem g_slices_siftDownCmpFunc_int_7_13 : gAt l_slices_siftDownCmpFunc_int_7 13 = ⟨(some 56), .callv (.t 43) [(.t 49), (.t 55)], none⟩ := idE rfl
@[go_sem] theorem g_slices_siftDownCmpFunc_int_7_14 : gAt l_slices_siftDownCmpFunc_int_7 14 = ⟨(some 57), .bin .lss (.t 56) (.c (.int .i64 0)), none⟩ := idE rfl
@[go_sem] theorem g_slices_siftDownCmpFunc_int_7_15 : gAt l_slices_siftDownCmpFunc_int_7 15 = ⟨(some 58), .un .not (.t 57), none⟩ := idE rfl
def slices_siftDownCmpFunc_int_7 : IR := .dops l_slices_siftDownCmpFunc_int_7 [(0, []), (1, []), (2, []), (3, []), (4, []), (5, []), (6, []), (7, []), (8, []), (9, []), (10, []), (11, []), (12, []), (13, []), (14, []), (15, [])]
@[go_sem] theorem w_slices_siftDownCmpFunc_int_7 : wp P slices_siftDownCmpFunc_int_7 Q e H = wpD P l_slices_siftDownCmpFunc_int_7 [(0, []), (1, []), (2, []), (3, []), (4, []), (5, []), (6, []), (7, []), (8, []), (9, []), (10, []), (11, []), (12, []), (13, []), (14, []), (15, [])] (Q .normal) e H := idE rfl
def slices_siftDownCmpFunc_int_8 : IR := .cond (.t 58) .ret .skip
@[go_sem] theorem w_slices_siftDownCmpFunc_int_8 : wp P slices_siftDownCmpFunc_int_8 Q e H = condW P ((.t 58) : X) .ret .skip Q e H := idE rfl
def l_slices_siftDownCmpFunc_int_9 : List GOp := [⟨(some 59), .mv (.t 0), none⟩,
    ⟨(some 60), .mv (.t 3), none⟩,
    ⟨(some 61), .mv (.t 10), none⟩,
    ⟨(some 62), .bin .add (.t 60) (.t 61), none⟩,
    ⟨(some 63), .mv (.t 0), none⟩,
    ⟨(some 64), .mv (.t 3), none⟩,
    ⟨(some 65), .mv (.t 11), none⟩,
    ⟨(some 66), .bin .add (.t 64) (.t 65), none⟩,
    ⟨(some 67), .mv (.t 0), none⟩,
    ⟨(some 68), .mv (.t 3), none⟩,
    ⟨(some 69), .mv (.t 11), none⟩,
    ⟨(some 70), .bin .add (.t 68) (.t 69), none⟩,
    ⟨(some 71), .iaddr (.t 67) (.t 70) 1, none⟩,
    ⟨(some 72), .load (.t 71) 1 false, none⟩,
    ⟨(some 73), .mv (.t 0), none⟩,
    ⟨(some 74), .mv (.t 3), none⟩,
    ⟨(some 75), .mv (.t 10), none⟩,
    ⟨(some 76), .bin .add (.t 74) (.t 75), none⟩,
    ⟨(some 77), .iaddr (.t 73) (.t 76) 1, none⟩,
    ⟨(some 78), .load (.t 77) 1 false, none⟩,
    ⟨(some 79), .iaddr (.t 59) (.t 62) 1, none⟩,
    ⟨none, .store (.t 79) 1 (.t 72), none⟩,
    ⟨(some 80), .iaddr (.t 63) (.t 66) 1, none⟩,
    ⟨none, .store (.t 80) 1 (.t 78), none⟩]
@[go_sem] theorem g_slices_siftDownCmpFunc_int_9_0 : gAt l_slices_siftDownCmpFunc_int_9 0 = ⟨(some 59), .mv (.t 0), none⟩ := idE rfl
@[go_sem] theorem g_slices_siftDownCmpFunc_int_9_1 : gAt l_slices_siftDownCmpFunc_int_9 1 = ⟨(some 60), .mv (.t 3), none⟩ := idE rfl
@[go_sem] theorem g_slices_siftDownCmpFunc_int_9_2 : gAt l_slices_siftDownCmpFunc_int_9 2 = ⟨(some 61), .mv (.t 10), none⟩ := idE rfl
@[go_sem] theorem g_slices_siftDownCmpFunc_int_9_3 : gAt l_slices_siftDownCmpFunc_int_9 3 = ⟨(some 62), .bin .add (.t 60) (.t 61), none⟩ := idE rfl
@[go_sem] theorem g_slices_siftDownCmpFunc_int_9_4 : gAt l_slices_siftDownCmpFunc_int_9 4 = ⟨(some 63), .mv (.t 0), none⟩ := idE rfl
@[go_sem] theorem g_slices_siftDownCmpFunc_int_9_5 : gAt l_slices_siftDownCmpFunc_int_9 5 = ⟨(some 64), .mv (.t 3), none⟩ := idE rfl
@[go_sem] theorem g_slices_siftDownCmpFunc_int_9_6 : gAt l_slices_siftDownCmpFunc_int_9 6 = ⟨(some 65), .mv (.t 11), none⟩ := idE rfl
@[go_sem] theorem g_slices_siftDownCmpFunc_int_9_7 : gAt l_slices_siftDownCmpFunc_int_9 7 = ⟨(some 66), .bin .add (.t 64) (.t 65), none⟩ := idE rfl
@[go_sem] theorem g_slices_siftDownCmpFunc_int_9_8 : gAt l_slices_siftDownCmpFunc_int_9 8 = ⟨(some 67), .mv (.t 0), none⟩ := idE rfl
@[go_sem] theorem g_slices_siftDownCmpFunc_int_9_9 : gAt l_slices_siftDownCmpFunc_int_9 9 = ⟨(some 68), .mv (.t 3), none⟩ := idE rfl
@[go_sem] theorem g_slices_siftDownCmpFunc_int_9_10 : gAt l_slices_siftDownCmpFunc_int_9 10 = ⟨(some 69), .mv (.t 11), none⟩ := idE rfl
@[go_sem] theorem g_slices_siftDownCmpFunc_int_9_11 : gAt l_slices_siftDownCmpFunc_int_9 11 = ⟨(some 70), .bin .add (.t 68) (.t 69), none⟩ := idE rfl
@[go_sem] theorem g_slices_siftDownCmpFunc_int_9_12 : gAt l_slices_siftDownCmpFunc_int_9 12 = ⟨(some 71), .iaddr (.t 67) (.t 70) 1, none⟩ := idE rfl
@[go_sem] theorem g_slices_siftDownCmpFunc_int_9_13 : gAt l_slices_siftDownCmpFunc_int_9 13 = ⟨(some 72), .load (.t 71) 1 false, none⟩ := idE rfl
@[go_sem] theorem g_slices_siftDownCmpFunc_int_9_14 : gAt l_slices_siftDownCmpFunc_int_9 14 = ⟨(some 73), .mv (.t 0), none⟩ := idE rfl
@[go_sem] theorem g_slices_siftDownCmpFunc_int_9_15 : gAt l_slices_siftDownCmpFunc_int_9 15 = ⟨(some 74), .mv (.t 3), none⟩ := idE rfl
@[go_sem] theorem g_slices_siftDownCmpFunc_int_9_16 : gAt l_slices_siftDownCmpFunc_int_9 16 = ⟨(some 75), .mv (.t 10), none⟩ := idE rfl
@[go_sem] theorem g_slices_siftDownCmpFunc_int_9_17 : gAt l_slices_siftDownCmpFunc_int_9 17 = ⟨(some 76), .bin .add (.t 74) (.t 75), none⟩ := idE rfl
@[go_sem] theorem g_slices_siftDownCmpFunc_int_9_18 : gAt l_slices_siftDownCmpFunc_int_9 18 = ⟨(some 77), .iaddr (.t 73) (.t 76) 1, none⟩ := idE rfl
@[go_sem] theorem g_slices_siftDownCmpFunc_int_9_19 : gAt l_slices_siftDownCmpFunc_int_9 19 = ⟨(some 78), .load (.t 77) 1 false, none⟩ := idE rfl
@[go_sem] theorem g_slices_siftDownCmpFunc_int_9_20 : gAt l_slices_siftDownCmpFunc_int_9 20 = ⟨(some 79), .iaddr (.t 59) (.t 62) 1, none⟩ := idE rfl
@[go_sem] theorem g_slices_siftDownCmpFunc_int_9_21 : gAt l_slices_siftDownCmpFunc_int_9 21 = ⟨none, .store (.t 79) 1 (.t 72), none⟩ := idE rfl
@[go_sem] theorem g_slices_siftDownCmpFunc_int_9_22 : gAt l_slices_siftDownCmpFunc_int_9 22 = ⟨(some 80), .iaddr (.t 63) (.t 66) 1, none⟩ := idE rfl
@[go_sem] theorem g_slices_siftDownCmpFunc_int_9_23 : gAt l_slices_siftDownCmpFunc_int_9 23 = ⟨none, .store (.t 80) 1 (.t 78), none⟩ := idE rfl
def slices_siftDownCmpFunc_int_9 : IR := .dops l_slices_siftDownCmpFunc_int_9 [(0, []), (1, []), (2, []), (3, []), (4, []), (5, []), (6, []), (7, []), (8, []), (9, []), (10, []), (11, []), (12, []), (13, []), (14, []), (15, []), (16, []), (17, []), (18, []), (19, []), (20, []), (21, []), (22, []), (23, [])]
@[go_sem] theorem w_slices_siftDownCmpFunc_int_9 : wp P slices_siftDownCmpFunc_int_9 Q e H = wpD P l_slices_siftDownCmpFunc_int_9 [(0, []), (1, []), (2, []), (3, []), (4, []), (5, []), (6, []), (7, []), (8, []), (9, []), (10, []), (11, []), (12, []), (13, []), (14, []), (15, []), (16, []), (17, []), (18, []), (19, []), (20, []), (21, []), (22, []), (23, [])] (Q .normal) e H := idE rfl
@[go_sem] def l_slices_siftDownCmpFunc_int_10 : List GOp := [⟨(some 81), .mv (.t 11), none⟩,
    ⟨(some 10), .mv (.t 81), none⟩]
def slices_siftDownCmpFunc_int_10 : IR := .ops l_slices_siftDownCmpFunc_int_10
@[go_sem] theorem w_slices_siftDownCmpFunc_int_10 : wp P slices_siftDownCmpFunc_int_10 Q e H = wpL P l_slices_siftDownCmpFunc_int_10 (Q .normal) e H := idE rfl
def slices_siftDownCmpFunc_int_11 : IR := .block 1 (.seq slices_siftDownCmpFunc_int_1 (.seq (.seq slices_siftDownCmpFunc_int_2 slices_siftDownCmpFunc_int_3) (.seq (.seq slices_siftDownCmpFunc_int_4 slices_siftDownCmpFunc_int_6) (.seq (.seq slices_siftDownCmpFunc_int_7 slices_siftDownCmpFunc_int_8) (.seq slices_siftDownCmpFunc_int_9 slices_siftDownCmpFunc_int_10)))))
@[go_sem] theorem w_slices_siftDownCmpFunc_int_11 : wp P slices_siftDownCmpFunc_int_11 Q e H = wp P (.seq slices_siftDownCmpFunc_int_1 (.seq (.seq slices_siftDownCmpFunc_int_2 slices_siftDownCmpFunc_int_3) (.seq (.seq slices_siftDownCmpFunc_int_4 slices_siftDownCmpFunc_int_6) (.seq (.seq slices_siftDownCmpFunc_int_7 slices_siftDownCmpFunc_int_8) (.seq slices_siftDownCmpFunc_int_9 slices_siftDownCmpFunc_int_10))))) (blockQ 1 Q) e H := idE rfl
def slices_siftDownCmpFunc_int_12 : IR := .loop slices_siftDownCmpFunc_int_11
def slices_siftDownCmpFunc_int_13 : IR := .block 0 slices_siftDownCmpFunc_int_12
@[go_sem] theorem w_slices_siftDownCmpFunc_int_13 : wp P slices_siftDownCmpFunc_int_13 Q e H = wp P slices_siftDownCmpFunc_int_12 (blockQ 0 Q) e H := idE rfl
@[go_sem] def l_slices_heapSortCmpFunc_int_0 : List GOp := [⟨(some 13), .mv (.t 1), none⟩,
    ⟨(some 8), .mv (.t 13), none⟩]
def slices_heapSortCmpFunc_int_0 : IR := .ops l_slices_heapSortCmpFunc_int_0
@[go_sem] theorem w_slices_heapSortCmpFunc_int_0 : wp P slices_heapSortCmpFunc_int_0 Q e H = wpL P l_slices_heapSortCmpFunc_int_0 (Q .normal) e H := idE rfl
@[go_sem] def l_slices_heapSortCmpFunc_int_1 : List GOp := [⟨(some 9), .mv (.c (.int .i64 0)), none⟩]
def slices_heapSortCmpFunc_int_1 : IR := .ops l_slices_heapSortCmpFunc_int_1
@[go_sem] theorem w_slices_heapSortCmpFunc_int_1 : wp P slices_heapSortCmpFunc_int_1 Q e H = wpL P l_slices_heapSortCmpFunc_int_1 (Q .normal) e H := idE rfl
@[go_sem] def l_slices_heapSortCmpFunc_int_2 : List GOp := [⟨(some 14), .mv (.t 2), none⟩,
    ⟨(some 15), .mv (.t 1), none⟩,
    ⟨(some 16), .bin .sub (.t 14) (.t 15), none⟩,
    ⟨(some 10), .mv (.t 16), none⟩]
def slices_heapSortCmpFunc_int_2 : IR := .ops l_slices_heapSortCmpFunc_int_2
@[go_sem] theorem w_slices_heapSortCmpFunc_int_2 : wp P slices_heapSortCmpFunc_int_2 Q e H = wpL P l_slices_heapSortCmpFunc_int_2 (Q .normal) e H := idE rfl
@[go_sem] def l_slices_heapSortCmpFunc_int_3 : List GOp := [⟨(some 17), .mv (.t 10), none⟩,
    ⟨(some 18), .bin .sub (.t 17) (.c (.int .i64 1)), none⟩,
    ⟨(some 19), .bin .quo (.t 18) (.c (.int .i64 2)), none⟩,
    ⟨(some 11), .mv (.t 19), none⟩]
def slices_heapSortCmpFunc_int_3 : IR := .ops l_slices_heapSortCmpFunc_int_3
@[go_sem] theorem w_slices_heapSortCmpFunc_int_3 : wp P slices_heapSortCmpFunc_int_3 Q e H = wpL P l_slices_heapSortCmpFunc_int_3 (Q .normal) e H := idE rfl
@[go_sem] def l_slices_heapSortCmpFunc_int_4 : List GOp := [⟨(some 20), .mv (.t 11), none⟩,
    ⟨(some 21), .bin .geq (.t 20) (.c (.int .i64 0)), none⟩]
def slices_heapSortCmpFunc_int_4 : IR := .ops l_slices_heapSortCmpFunc_int_4
@[go_sem] theorem w_slices_heapSortCmpFunc_int_4 : wp P slices_heapSortCmpFunc_int_4 Q e H = wpL P l_slices_heapSortCmpFunc_int_4 (Q .normal) e H := idE rfl
def slices_heapSortCmpFunc_int_5 : IR := .cond (.t 21) .skip (.exit 0)
@[go_sem] theorem w_slices_heapSortCmpFunc_int_5 : wp P slices_heapSortCmpFunc_int_5 Q e H = condW P ((.t 21) : X) .skip (.exit 0) Q e H := idE rfl
@[go_sem] def l_slices_heapSortCmpFunc_int_6 : List GOp := [⟨(some 24), .mv (.t 0), none⟩,
    ⟨(some 25), .mv (.t 11), none⟩,
    ⟨(some 26), .mv (.t 10), none⟩,
    ⟨(some 27), .mv (.t 8), none⟩,
    ⟨(some 28), .mv (.t 3), none⟩,
    ⟨(some 29), .call (n_slices_siftDownCmpFunc_int) [(.t 24), (.t 25), (.t 26), (.t 27), (.t 28)], none⟩]
def slices_heapSortCmpFunc_int_6 : IR := .ops l_slices_heapSortCmpFunc_int_6
@[go_sem] theorem w_slices_heapSortCmpFunc_int_6 : wp P slices_heapSortCmpFunc_int_6 Q e H = wpL P l_slices_heapSortCmpFunc_int_6 (Q .normal) e H := idE rfl
def slices_heapSortCmpFunc_int_7 : IR := .block 1 slices_heapSortCmpFunc_int_6
@[go_sem] theorem w_slices_heapSortCmpFunc_int_7 : wp P slices_heapSortCmpFunc_int_7 Q e H = wp P slices_heapSortCmpFunc_int_6 (blockQ 1 Q) e H := idE rfl
@[go_sem] def l_slices_heapSortCmpFunc_int_8 : List GOp := [⟨(some 22), .mv (.t 11), none⟩,
    ⟨(some 23), .bin .sub (.t 22) (.c (.int .i64 1)), none⟩,
    ⟨(some 11), .mv (.t 23), none⟩]
def slices_heapSortCmpFunc_int_8 : IR := .ops l_slices_heapSortCmpFunc_int_8
@[go_sem] theorem w_slices_heapSortCmpFunc_int_8 : wp P slices_heapSortCmpFunc_int_8 Q e H = wpL P l_slices_heapSortCmpFunc_int_8 (Q .normal) e H := idE rfl
def slices_heapSortCmpFunc_int_9 : IR := .loop (.seq (.seq slices_heapSortCmpFunc_int_4 slices_heapSortCmpFunc_int_5) (.seq slices_heapSortCmpFunc_int_7 slices_heapSortCmpFunc_int_8))
def slices_heapSortCmpFunc_int_10 : IR := .block 0 slices_heapSortCmpFunc_int_9
@[go_sem] theorem w_slices_heapSortCmpFunc_int_10 : wp P slices_heapSortCmpFunc_int_10 Q e H = wp P slices_heapSortCmpFunc_int_9 (blockQ 0 Q) e H := idE rfl
@[go_sem] def l_slices_heapSortCmpFunc_int_11 : List GOp := [⟨(some 30), .mv (.t 10), none⟩,
    ⟨(some 31), .bin .sub (.t 30) (.c (.int .i64 1)), none⟩,
    ⟨(some 12), .mv (.t 31), none⟩]
def slices_heapSortCmpFunc_int_11 : IR := .ops l_slices_heapSortCmpFunc_int_11
@[go_sem] theorem w_slices_heapSortCmpFunc_int_11 : wp P slices_heapSortCmpFunc_int_11 Q e H = wpL P l_slices_heapSortCmpFunc_int_11 (Q .normal) e H := idE rfl
@[go_sem] def l_slices_heapSortCmpFunc_int_12 : List GOp := [⟨(some 32), .mv (.t 12), none⟩,
    ⟨(some 33), .bin .geq (.t 32) (.c (.int .i64 0)), none⟩]
def slices_heapSortCmpFunc_int_12 : IR := .ops l_slices_heapSortCmpFunc_int_12
@[go_sem] theorem w_slices_heapSortCmpFunc_int_12 : wp P slices_heapSortCmpFunc_int_12 Q e H = wpL P l_slices_heapSortCmpFunc_int_12 (Q .normal) e H := idE rfl
def slices_heapSortCmpFunc_int_13 : IR := .cond (.t 33) .skip (.exit 2)
@[go_sem] theorem w_slices_heapSortCmpFunc_int_13 : wp P slices_heapSortCmpFunc_int_13 Q e H = condW P ((.t 33) : X) .skip (.exit 2) Q e H := idE rfl
def l_slices_heapSortCmpFunc_int_14 : List GOp := [⟨(some 36), .mv (.t 0), none⟩,
    ⟨(some 37), .mv (.t 8), none⟩,
    ⟨(some 38), .mv (.t 0), none⟩,
    ⟨(some 39), .mv (.t 8), none⟩,
    ⟨(some 40), .mv (.t 12), none⟩,
    ⟨(some 41), .bin .add (.t 39) (.t 40), none⟩,
    ⟨(some 42), .mv (.t 0), none⟩,
    ⟨(some 43), .mv (.t 8), none⟩,
    ⟨(some 44), .mv (.t 12), none⟩,
    ⟨(some 45), .bin .add (.t 43) (.t 44), none⟩,
    ⟨(some 46), .iaddr (.t 42) (.t 45) 1, none⟩,
    ⟨(some 47), .load (.t 46) 1 false, none⟩,
    ⟨(some 48), .mv (.t 0), none⟩,
    ⟨(some 49), .mv (.t 8), none⟩,
    ⟨(some 50), .iaddr (.t 48) (.t 49) 1, none⟩,
    ⟨(some 51), .load (.t 50) 1 false, none⟩,
    ⟨(some 52), .iaddr (.t 36) (.t 37) 1, none⟩,
    ⟨none, .store (.t 52) 1 (.t 47), none⟩,
    ⟨(some 53), .iaddr (.t 38) (.t 41) 1, none⟩,
    ⟨none, .store (.t 53) 1 (.t 51), none⟩]
@[go_sem] theorem g_slices_heapSortCmpFunc_int_14_0 : gAt l_slices_heapSortCmpFunc_int_14 0 = ⟨(some 36), .mv (.t 0), none⟩ := idE rfl
@[go_sem] theorem g_slices_heapSortCmpFunc_int_14_1 : gAt l_slices_heapSortCmpFunc_int_14 1 = ⟨(some 37), .mv (.t 8), none⟩ := idE rfl
@[go_sem] theorem g_slices_heapSortCmpFunc_int_14_2 : gAt l_slices_heapSortCmpFunc_int_14 2 = ⟨(some 38), .mv (.t 0), none⟩ := idE rfl
@[go_sem] theorem g_slices_heapSortCmpFunc_int_14_3 : gAt l_slices_heapSortCmpFunc_int_14 3 = ⟨(some 39), .mv (.t 8), none⟩ := idE rfl
@[go_sem] theorem g_slices_heapSortCmpFunc_int_14_4 : gAt l_slices_heapSortCmpFunc_int_14 4 = ⟨(some 40), .mv (.t 12), none⟩ := idE rfl
@[go_sem] theorem g_slices_heapSortCmpFunc_int_14_5 : gAt l_slices_heapSortCmpFunc_int_14 5 = ⟨(some 41), .bin .add (.t 39) (.t 40), none⟩ := idE rfl
@[go_sem] theorem g_slices_heapSortCmpFunc_int_14_6 : gAt l_slices_heapSortCmpFunc_int_14 6 = ⟨(some 42), .mv (.t 0), none⟩ := idE rfl
@[go_sem] theorem g_slices_heapSortCmpFunc_int_14_7 : gAt l_slices_heapSortCmpFunc_int_14 7 = ⟨(some 43), .mv (.t 8), none⟩ := idE rfl
@[go_sem] theorem g_slices_heapSortCmpFunc_int_14_8 : gAt l_slices_heapSortCmpFunc_int_14 8 = ⟨(some 44), .mv (.t 12), none⟩ := idE rfl
@[go_sem] theorem g_slices_heapSortCmpFunc_int_14_9 : gAt l_slices_heapSortCmpFunc_int_14 9 = ⟨(some 45), .bin .add (.t 43) (.t 44), none⟩ := idE rfl
@[go_sem] theorem g_slices_heapSortCmpFunc_int_14_10 : gAt l_slices_heapSortCmpFunc_int_14 10 = ⟨(some 46), .iaddr (.t 42) (.t 45) 1, none⟩ := idE rfl
@[go_sem] theorem g_slices_heapSortCmpFunc_int_14_11 : gAt l_slices_heapSortCmpFunc_int_14 11 = ⟨(some 47), .load (.t 46) 1 false, none⟩ := idE rfl
@[go_sem] theorem g_slices_heapSortCmpFunc_int_14_12 : gAt l_slices_heapSortCmpFunc_int_14 12 = ⟨(some 48), .mv (.t 0), none⟩ := idE rfl
@[go_sem] theorem g_slices_heapSortCmpFunc_int_14_13 : gAt l_slices_heapSortCmpFunc_int_14 13 = ⟨(some 49), .mv (.t 8), none⟩ := idE rfl
@[go_sem] theorem g_slices_heapSortCmpFunc_int_14_14 : gAt l_slices_heapSortCmpFunc_int_14 14 = ⟨(some 50), .iaddr (.t 48) (.t 49) 1, none⟩ := idE rfl
@[go_sem] theorem g_slices_heapSortCmpFunc_int_14_15 : gAt l_slices_heapSortCmpFunc_int_14 15 = ⟨(some 51), .load (.t 50) 1 false, none⟩ := idE rfl
@[go_sem] theorem g_slices_heapSortCmpFunc_int_14_16 : gAt l_slices_heapSortCmpFunc_int_14 16 = ⟨(some 52), .iaddr (.t 36) (.t 37) 1, none⟩ := idE rfl
@[go_sem] theorem g_slices_heapSortCmpFunc_int_14_17 : gAt l_slices_heapSortCmpFunc_int_14 17 = ⟨none, .store (.t 52) 1 (.t 47), none⟩ := idE rfl
@[go_sem] theorem g_slices_heapSortCmpFunc_int_14_18 : gAt l_slices_heapSortCmpFunc_int_14 18 = ⟨(some 53), .iaddr (.t 38) (.t 41) 1, none⟩ := idE rfl
@[go_sem] theorem g_slices_heapSortCmpFunc_int_14_19 : gAt l_slices_heapSortCmpFunc_int_14 19 = ⟨none, .store (.t 53) 1 (.t 51), none⟩ := idE rfl
def slices_heapSortCmpFunc_int_14 : IR := .dops l_slices_heapSortCmpFunc_int_14 [(0, []), (1, []), (2, []), (3, []), (4, []), (5, []), (6, []), (7, []), (8, []), (9, []), (10, []), (11, []), (12, []), (13, []), (14, []), (15, []), (16, []), (17, []), (18, []), (19, [])]
@[go_sem] theorem w_slices_heapSortCmpFunc_int_14 : wp P slices_heapSortCmpFunc_int_14 Q e H = wpD P l_slices_heapSortCmpFunc_int_14 [(0, []), (1, []), (2, []), (3, []), (4, []), (5, []), (6, []), (7, []), (8, []), (9, []), (10, []), (11, []), (12, []), (13, []), (14, []), (15, []), (16, []), (17, []), (18, []), (19, [])] (Q .normal) e H := idE rfl
@[go_sem] def l_slices_heapSortCmpFunc_int_15 : List GOp := [⟨(some 54), .mv (.t 0), none⟩,
    ⟨(some 55), .mv (.t 9), none⟩,
    ⟨(some 56), .mv (.t 12), none⟩,
    ⟨(some 57), .mv (.t 8), none⟩,
    ⟨(some 58), .mv (.t 3), none⟩,
    ⟨(some 59), .call (n_slices_siftDownCmpFunc_int) [(.t 54), (.t 55), (.t 56), (.t 57), (.t 58)], none⟩]
def slices_heapSortCmpFunc_int_15 : IR := .ops l_slices_heapSortCmpFunc_int_15
@[go_sem] theorem w_slices_heapSortCmpFunc_int_15 : wp P slices_heapSortCmpFunc_int_15 Q e H = wpL P l_slices_heapSortCmpFunc_int_15 (Q .normal) e H := idE rfl
def slices_heapSortCmpFunc_int_16 : IR := .block 3 (.seq slices_heapSortCmpFunc_int_14 slices_heapSortCmpFunc_int_15)
@[go_sem] theorem w_slices_heapSortCmpFunc_int_16 : wp P slices_heapSortCmpFunc_int_16 Q e H = wp P (.seq slices_heapSortCmpFunc_int_14 slices_heapSortCmpFunc_int_15) (blockQ 3 Q) e H := idE rfl
@[go_sem] def l_slices_heapSortCmpFunc_int_17 : List GOp := [⟨(some 34), .mv (.t 12), none⟩,
    ⟨(some 35), .bin .sub (.t 34) (.c (.int .i64 1)), none⟩,
    ⟨(some 12), .mv (.t 35), none⟩]
def slices_heapSortCmpFunc_int_17 : IR := .ops l_slices_heapSortCmpFunc_int_17
@[go_sem] theorem w_slices_heapSortCmpFunc_int_17 : wp P slices_heapSortCmpFunc_int_17 Q e H = wpL P l_slices_heapSortCmpFunc_int_17 (Q .normal) e H := idE rfl
def slices_heapSortCmpFunc_int_18 : IR := .loop (.seq (.seq slices_heapSortCmpFunc_int_12 slices_heapSortCmpFunc_int_13) (.seq slices_heapSortCmpFunc_int_16 slices_heapSortCmpFunc_int_17))
def slices_heapSortCmpFunc_int_19 : IR := .block 2 slices_heapSortCmpFunc_int_18
@[go_sem] theorem w_slices_heapSortCmpFunc_int_19 : wp P slices_heapSortCmpFunc_int_19 Q e H = wp P slices_heapSortCmpFunc_int_18 (blockQ 2 Q) e H := idE rfl
@[go_sem] def l_slices_nextPowerOfTwo_0 : List GOp := [⟨(some 2), .mv (.c (.int .u64 0)), none⟩]
def slices_nextPowerOfTwo_0 : IR := .ops l_slices_nextPowerOfTwo_0
@[go_sem] theorem w_slices_nextPowerOfTwo_0 : wp P slices_nextPowerOfTwo_0 Q e H = wpL P l_slices_nextPowerOfTwo_0 (Q .normal) e H := idE rfl
@[go_sem] def l_slices_nextPowerOfTwo_1 : List GOp := [⟨(some 3), .mv (.t 0), none⟩,
    ⟨(some 4), .cvi .u64 (.t 3), none⟩,
    ⟨(some 5), .call (n_math_bits_Len) [(.t 4)], none⟩,
    ⟨(some 6), .bin .shl (.c (.int .u64 1)) (.t 5), none⟩,
    ⟨(some 2), .mv (.t 6), none⟩]
def slices_nextPowerOfTwo_1 : IR := .ops l_slices_nextPowerOfTwo_1
@[go_sem] theorem w_slices_nextPowerOfTwo_1 : wp P slices_nextPowerOfTwo_1 Q e H = wpL P l_slices_nextPowerOfTwo_1 (Q .normal) e H := idE rfl
@[go_sem] def l_slices_xorshift_Next_0 : List GOp := [⟨(some 2), .mv (.c (.int .u64 0)), none⟩]
def slices_xorshift_Next_0 : IR := .ops l_slices_xorshift_Next_0
@[go_sem] theorem w_slices_xorshift_Next_0 : wp P slices_xorshift_Next_0 Q e H = wpL P l_slices_xorshift_Next_0 (Q .normal) e H := idE rfl
def l_slices_xorshift_Next_1 : List GOp := [⟨(some 3), .mv (.t 0), none⟩,
    ⟨(some 4), .nilck (.t 3), none⟩,
    ⟨(some 5), .load (.t 4) 1 false, none⟩,
    ⟨(some 6), .mv (.t 0), none⟩,
    ⟨(some 7), .nilck (.t 6), none⟩,
    ⟨(some 8), .load (.t 7) 1 false, none⟩,
    ⟨(some 9), .bin .shl (.t 8) (.c (.int .u64 13)), none⟩,
    ⟨(some 10), .bin .xor (.t 5) (.t 9), none⟩,
    ⟨(some 11), .nilck (.t 3), none⟩,
    ⟨none, .store (.t 11) 1 (.t 10), none⟩]
@[go_sem] theorem g_slices_xorshift_Next_1_0 : gAt l_slices_xorshift_Next_1 0 = ⟨(some 3), .mv (.t 0), none⟩ := idE rfl
@[go_sem] theorem g_slices_xorshift_Next_1_1 : gAt l_slices_xorshift_Next_1 1 = ⟨(some 4), .nilck (.t 3), none⟩ := idE rfl
@[go_sem] theorem g_slices_xorshift_Next_1_2 : gAt l_slices_xorshift_Next_1 2 = ⟨(some 5), .load (.t 4) 1 false, none⟩ := idE rfl
@[go_sem] theorem g_slices_xorshift_Next_1_3 : gAt l_slices_xorshift_Next_1 3 = ⟨(some 6), .mv (.t 0), none⟩ := idE rfl
@[go_sem] theorem g_slices_xorshift_Next_1_4 : gAt l_slices_xorshift_Next_1 4 = ⟨(some 7), .nilck (.t 6), none⟩ := idE rfl
@[go_sem] theorem g_slices_xorshift_Next_1_5 : gAt l_slices_xorshift_Next_1 5 = ⟨(some 8), .load (.t 7) 1 false, none⟩ := idE rfl
@[go_sem] theorem g_slices_xorshift_Next_1_6 : gAt l_slices_xorshift_Next_1 6 = ⟨(some 9), .bin .shl (.t 8) (.c (.int .u64 13)), none⟩ := idE rfl
@[go_sem] theorem g_slices_xorshift_Next_1_7 : gAt l_slices_xorshift_Next_1 7 = ⟨(some 10), .bin .xor (.t 5) (.t 9), none⟩ := idE rfl
@[go_sem] theorem g_slices_xorshift_Next_1_8 : gAt l_slices_xorshift_Next_1 8 = ⟨(some 11), .nilck (.t 3), none⟩ := idE rfl
@[go_sem] theorem g_slices_xorshift_Next_1_9 : gAt l_slices_xorshift_Next_1 9 = ⟨none, .store (.t 11) 1 (.t 10), none⟩ := idE rfl
def slices_xorshift_Next_1 : IR := .dops l_slices_xorshift_Next_1 [(0, []), (1, []), (2, []), (3, []), (4, []), (5, []), (6, []), (7, []), (8, []), (9, [])]
@[go_sem] theorem w_slices_xorshift_Next_1 : wp P slices_xorshift_Next_1 Q e H = wpD P l_slices_xorshift_Next_1 [(0, []), (1, []), (2, []), (3, []), (4, []), (5, []), (6, []), (7, []), (8, []), (9, [])] (Q .normal) e H := idE rfl
def l_slices_xorshift_Next_2 : List GOp := [⟨(some 12), .mv (.t 0), none⟩,
    ⟨(some 13), .nilck (.t 12), none⟩,
    ⟨(some 14), .load (.t 13) 1 false, none⟩,
    ⟨(some 15), .mv (.t 0), none⟩,
    ⟨(some 16), .nilck (.t 15), none⟩,
    ⟨(some 17), .load (.t 16) 1 false, none⟩,
    ⟨(some 18), .bin .shr (.t 17) (.c (.int .u64 7)), none⟩,
    ⟨(some 19), .bin .xor (.t 14) (.t 18), none⟩,
    ⟨(some 20), .nilck (.t 12), none⟩,
    ⟨none, .store (.t 20) 1 (.t 19), none⟩]
@[go_sem] theorem g_slices_xorshift_Next_2_0 : gAt l_slices_xorshift_Next_2 0 = ⟨(some 12), .mv (.t 0), none⟩ := idE rfl
@[go_sem] theorem g_slices_xorshift_Next_2_1 : gAt l_slices_xorshift_Next_2 1 = ⟨(some 13), .nilck (.t 12), none⟩ := idE rfl
@[go_sem] theorem g_slices_xorshift_Next_2_2 : gAt l_slices_xorshift_Next_2 2 = ⟨(some 14), .load (.t 13) 1 false, none⟩ := idE rfl
@[go_sem] theorem g_slices_xorshift_Next_2_3 : gAt l_slices_xorshift_Next_2 3 = ⟨(some 15), .mv (.t 0), none⟩ := idE rfl
@[go_sem] theorem g_slices_xorshift_Next_2_4 : gAt l_slices_xorshift_Next_2 4 = ⟨(some 16), .nilck (.t 15), none⟩ := idE rfl
@[go_sem] theorem g_slices_xorshift_Next_2_5 : gAt l_slices_xorshift_Next_2 5 = ⟨(some 17), .load (.t 16) 1 false, none⟩ := idE rfl
@[go_sem] theorem g_slices_xorshift_Next_2_6 : gAt l_slices_xorshift_Next_2 6 = ⟨(some 18), .bin .shr (.t 17) (.c (.int .u64 7)), none⟩ := idE rfl
@[go_sem] theorem g_slices_xorshift_Next_2_7 : gAt l_slices_xorshift_Next_2 7 = ⟨(some 19), .bin .xor (.t 14) (.t 18), none⟩ := idE rfl
@[go_sem] theorem g_slices_xorshift_Next_2_8 : gAt l_slices_xorshift_Next_2 8 = ⟨(some 20), .nilck (.t 12), none⟩ := idE rfl
@[go_sem] theorem g_slices_xorshift_Next_2_9 : gAt l_slices_xorshift_Next_2 9 = ⟨none, .store (.t 20) 1 (.t 19), none⟩ := idE rfl
def slices_xorshift_Next_2 : IR := .dops l_slices_xorshift_Next_2 [(0, []), (1, []), (2, []), (3, []), (4, []), (5, []), (6, []), (7, []), (8, []), (9, [])]
@[go_sem] theorem w_slices_xorshift_Next_2 : wp P slices_xorshift_Next_2 Q e H = wpD P l_slices_xorshift_Next_2 [(0, []), (1, []), (2, []), (3, []), (4, []), (5, []), (6, []), (7, []), (8, []), (9, [])] (Q .normal) e H := idE rfl
def l_slices_xorshift_Next_3 : List GOp := [⟨(some 21), .mv (.t 0), none⟩,
    ⟨(some 22), .nilck (.t 21), none⟩,
    ⟨(some 23), .load (.t 22) 1 false, none⟩,
    ⟨(some 24), .mv (.t 0), none⟩,
    ⟨(some 25), .nilck (.t 24), none⟩,
    ⟨(some 26), .load (.t 25) 1 false, none⟩,
    ⟨(some 27), .bin .shl (.t 26) (.c (.int .u64 17)), none⟩,
    ⟨(some 28), .bin .xor (.t 23) (.t 27), none⟩,
    ⟨(some 29), .nilck (.t 21), none⟩,
    ⟨none, .store (.t 29) 1 (.t 28), none⟩]
@[go_sem] theorem g_slices_xorshift_Next_3_0 : gAt l_slices_xorshift_Next_3 0 = ⟨(some 21), .mv (.t 0), none⟩ := idE rfl
@[go_sem] theorem g_slices_xorshift_Next_3_1 : gAt l_slices_xorshift_Next_3 1 = ⟨(some 22), .nilck (.t 21), none⟩ := idE rfl
@[go_sem] theorem g_slices_xorshift_Next_3_2 : gAt l_slices_xorshift_Next_3 2 = ⟨(some 23), .load (.t 22) 1 false, none⟩ := idE rfl
@[go_sem] theorem g_slices_xorshift_Next_3_3 : gAt l_slices_xorshift_Next_3 3 = ⟨(some 24), .mv (.t 0), none⟩ := idE rfl
@[go_sem] theorem g_slices_xorshift_Next_3_4 : gAt l_slices_xorshift_Next_3 4 = ⟨(some 25), .nilck (.t 24), none⟩ := idE rfl
@[go_sem] theorem g_slices_xorshift_Next_3_5 : gAt l_slices_xorshift_Next_3 5 = ⟨(some 26), .load (.t 25) 1 false, none⟩ := idE rfl
@[go_sem] theorem g_slices_xorshift_Next_3_6 : gAt l_slices_xorshift_Next_3 6 = ⟨(some 27), .bin .shl (.t 26) (.c (.int .u64 17)), none⟩ := idE rfl
@[go_sem] theorem g_slices_xorshift_Next_3_7 : gAt l_slices_xorshift_Next_3 7 = ⟨(some 28), .bin .xor (.t 23) (.t 27), none⟩ := idE rfl
@[go_sem] theorem g_slices_xorshift_Next_3_8 : gAt l_slices_xorshift_Next_3 8 = ⟨(some 29), .nilck (.t 21), none⟩ := idE rfl
@[go_sem] theorem g_slices_xorshift_Next_3_9 : gAt l_slices_xorshift_Next_3 9 = ⟨none, .store (.t 29) 1 (.t 28), none⟩ := idE rfl
def slices_xorshift_Next_3 : IR := .dops l_slices_xorshift_Next_3 [(0, []), (1, []), (2, []), (3, []), (4, []), (5, []), (6, []), (7, []), (8, []), (9, [])]
@[go_sem] theorem w_slices_xorshift_Next_3 : wp P slices_xorshift_Next_3 Q e H = wpD P l_slices_xorshift_Next_3 [(0, []), (1, []), (2, []), (3, []), (4, []), (5, []), (6, []), (7, []), (8, []), (9, [])] (Q .normal) e H := idE rfl
@[go_sem] def l_slices_xorshift_Next_4 : List GOp := [⟨(some 30), .mv (.t 0), none⟩,
    ⟨(some 31), .nilck (.t 30), none⟩,
    ⟨(some 32), .load (.t 31) 1 false, none⟩,
    ⟨(some 2), .mv (.t 32), none⟩]
def slices_xorshift_Next_4 : IR := .ops l_slices_xorshift_Next_4
@[go_sem] theorem w_slices_xorshift_Next_4 : wp P slices_xorshift_Next_4 Q e H = wpL P l_slices_xorshift_Next_4 (Q .normal) e H := idE rfl
@[go_sem] def l_slices_breakPatternsCmpFunc_int_0 : List GOp := [⟨(some 13), .mv (.t 2), none⟩,
    ⟨(some 14), .mv (.t 1), none⟩,
    ⟨(some 15), .bin .sub (.t 13) (.t 14), none⟩,
    ⟨(some 8), .mv (.t 15), none⟩]
def slices_breakPatternsCmpFunc_int_0 : IR := .ops l_slices_breakPatternsCmpFunc_int_0
@[go_sem] theorem w_slices_breakPatternsCmpFunc_int_0 : wp P slices_breakPatternsCmpFunc_int_0 Q e H = wpL P l_slices_breakPatternsCmpFunc_int_0 (Q .normal) e H := idE rfl
@[go_sem] def l_slices_breakPatternsCmpFunc_int_1 : List GOp := [⟨(some 16), .mv (.t 8), none⟩,
    ⟨(some 17), .bin .geq (.t 16) (.c (.int .i64 8)), none⟩]
def slices_breakPatternsCmpFunc_int_1 : IR := .ops l_slices_breakPatternsCmpFunc_int_1
@[go_sem] theorem w_slices_breakPatternsCmpFunc_int_1 : wp P slices_breakPatternsCmpFunc_int_1 Q e H = wpL P l_slices_breakPatternsCmpFunc_int_1 (Q .normal) e H := idE rfl
@[go_sem] def l_slices_breakPatternsCmpFunc_int_2 : List GOp := [⟨(some 18), .mv (.t 8), none⟩,
    ⟨(some 19), .cvi .u64 (.t 18), none⟩,
    ⟨(some 9), .alloc [(.int .u64 0)], none⟩,
    ⟨none, .store (.t 9) 1 (.t 19), none⟩]
def slices_breakPatternsCmpFunc_int_2 : IR := .ops l_slices_breakPatternsCmpFunc_int_2
@[go_sem] theorem w_slices_breakPatternsCmpFunc_int_2 : wp P slices_breakPatternsCmpFunc_int_2 Q e H = wpL P l_slices_breakPatternsCmpFunc_int_2 (Q .normal) e H := idE rfl
@[go_sem] def l_slices_breakPatternsCmpFunc_int_3 : List GOp := [⟨(some 20), .mv (.t 8), none⟩,
    ⟨(some 21), .call (n_slices_nextPowerOfTwo) [(.t 20)], none⟩,
    ⟨(some 10), .mv (.t 21), none⟩]
def slices_breakPatternsCmpFunc_int_3 : IR := .ops l_slices_breakPatternsCmpFunc_int_3
@[go_sem] theorem w_slices_breakPatternsCmpFunc_int_3 : wp P slices_breakPatternsCmpFunc_int_3 Q e H = wpL P l_slices_breakPatternsCmpFunc_int_3 (Q .normal) e H := idE rfl
@[go_sem] def l_slices_breakPatternsCmpFunc_int_4 : List GOp := [⟨(some 22), .mv (.t 1), none⟩,
    ⟨(some 23), .mv (.t 8), none⟩,
    ⟨(some 24), .bin .quo (.t 23) (.c (.int .i64 4)), none⟩,
    ⟨(some 25), .bin .mul (.t 24) (.c (.int .i64 2)), none⟩,
    ⟨(some 26), .bin .add (.t 22) (.t 25), none⟩,
    ⟨(some 27), .bin .sub (.t 26) (.c (.int .i64 1)), none⟩,
    ⟨(some 11), .mv (.t 27), none⟩]
def slices_breakPatternsCmpFunc_int_4 : IR := .ops l_slices_breakPatternsCmpFunc_int_4
@[go_sem] theorem w_slices_breakPatternsCmpFunc_int_4 : wp P slices_breakPatternsCmpFunc_int_4 Q e H = wpL P l_slices_breakPatternsCmpFunc_int_4 (Q .normal) e H := idE rfl
@[go_sem] def l_slices_breakPatternsCmpFunc_int_5 : List GOp := [⟨(some 28), .mv (.t 11), none⟩,
    ⟨(some 29), .mv (.t 1), none⟩,
    ⟨(some 30), .mv (.t 8), none⟩,
    ⟨(some 31), .bin .quo (.t 30) (.c (.int .i64 4)), none⟩,
    ⟨(some 32), .bin .mul (.t 31) (.c (.int .i64 2)), none⟩,
    ⟨(some 33), .bin .add (.t 29) (.t 32), none⟩,
    ⟨(some 34), .bin .add (.t 33) (.c (.int .i64 1)), none⟩,
    ⟨(some 35), .bin .leq (.t 28) (.t 34), none⟩]
def slices_breakPatternsCmpFunc_int_5 : IR := .ops l_slices_breakPatternsCmpFunc_int_5
@[go_sem] theorem w_slices_breakPatternsCmpFunc_int_5 : wp P slices_breakPatternsCmpFunc_int_5 Q e H = wpL P l_slices_breakPatternsCmpFunc_int_5 (Q .normal) e H := idE rfl
def slices_breakPatternsCmpFunc_int_6 : IR := .cond (.t 35) .skip (.exit 0)
@[go_sem] theorem w_slices_breakPatternsCmpFunc_int_6 : wp P slices_breakPatternsCmpFunc_int_6 Q e H = condW P ((.t 35) : X) .skip (.exit 0) Q e H := idE rfl
@[go_sem] def l_slices_breakPatternsCmpFunc_int_7 : List GOp := [⟨(some 38), .call (n_slices_xorshift_Next) [(.t 9)], none⟩,
    ⟨(some 39), .mv (.t 10), none⟩,
    ⟨(some 40), .bin .sub (.t 39) (.c (.int .u64 1)), none⟩,
    ⟨(some 41), .bin .and (.t 38) (.t 40), none⟩,
    ⟨(some 42), .cvi .i64 (.t 41), none⟩,
    ⟨(some 12), .mv (.t 42), none⟩]
def slices_breakPatternsCmpFunc_int_7 : IR := .ops l_slices_breakPatternsCmpFunc_int_7
@[go_sem] theorem w_slices_breakPatternsCmpFunc_int_7 : wp P slices_breakPatternsCmpFunc_int_7 Q e H = wpL P l_slices_breakPatternsCmpFunc_int_7 (Q .normal) e H := idE rfl
@[go_sem] def l_slices_breakPatternsCmpFunc_int_8 : List GOp := [⟨(some 43), .mv (.t 12), none⟩,
    ⟨(some 44), .mv (.t 8), none⟩,
    ⟨(some 45), .bin .geq (.t 43) (.t 44), none⟩]
def slices_breakPatternsCmpFunc_int_8 : IR := .ops l_slices_breakPatternsCmpFunc_int_8
@[go_sem] theorem w_slices_breakPatternsCmpFunc_int_8 : wp P slices_breakPatternsCmpFunc_int_8 Q e H = wpL P l_slices_breakPatternsCmpFunc_int_8 (Q .normal) e H := idE rfl
@[go_sem] def l_slices_breakPatternsCmpFunc_int_9 : List GOp := [⟨(some 46), .mv (.t 12), none⟩,
    ⟨(some 47), .mv (.t 8), none⟩,
    ⟨(some 48), .bin .sub (.t 46) (.t 47), none⟩,
    ⟨(some 12), .mv (.t 48), none⟩]
def slices_breakPatternsCmpFunc_int_9 : IR := .ops l_slices_breakPatternsCmpFunc_int_9
@[go_sem] theorem w_slices_breakPatternsCmpFunc_int_9 : wp P slices_breakPatternsCmpFunc_int_9 Q e H = wpL P l_slices_breakPatternsCmpFunc_int_9 (Q .normal) e H := idE rfl
def slices_breakPatternsCmpFunc_int_10 : IR := .cond (.t 45) slices_breakPatternsCmpFunc_int_9 .skip
@[go_sem] theorem w_slices_breakPatternsCmpFunc_int_10 : wp P slices_breakPatternsCmpFunc_int_10 Q e H = condW P ((.t 45) : X) slices_breakPatternsCmpFunc_int_9 .skip Q e H := idE rfl
def l_slices_breakPatternsCmpFunc_int_11 : List GOp := [⟨(some 49), .mv (.t 0), none⟩,
    ⟨(some 50), .mv (.t 11), none⟩,
    ⟨(some 51), .mv (.t 0), none⟩,
    ⟨(some 52), .mv (.t 1), none⟩,
    ⟨(some 53), .mv (.t 12), none⟩,
    ⟨(some 54), .bin .add (.t 52) (.t 53), none⟩,
    ⟨(some 55), .mv (.t 0), none⟩,
    ⟨(some 56), .mv (.t 1), none⟩,
    ⟨(some 57), .mv (.t 12), none⟩,
    ⟨(some 58), .bin .add (.t 56) (.t 57), none⟩,
    ⟨(some 59), .iaddr (.t 55) (.t 58) 1, none⟩,
    ⟨(some 60), .load (.t 59) 1 false, none⟩,
    ⟨(some 61), .mv (.t 0), none⟩,
    ⟨(some 62), .mv (.t 11), none⟩,
    ⟨(some 63), .iaddr (.t 61) (.t 62) 1, none⟩,
    ⟨(some 64), .load (.t 63) 1 false, none⟩,
    ⟨(some 65), .iaddr (.t 49) (.t 50) 1, none⟩,
    ⟨none, .store (.t 65) 1 (.t 60), none⟩,
    ⟨(some 66), .iaddr (.t 51) (.t 54) 1, none⟩,
    ⟨none, .store (.t 66) 1 (.t 64), none⟩]
@[go_sem] theorem g_slices_breakPatternsCmpFunc_int_11_0 : gAt l_slices_breakPatternsCmpFunc_int_11 0 = ⟨(some 49), .mv (.t 0), none⟩ := idE rfl
@[go_sem] theorem g_slices_breakPatternsCmpFunc_int_11_1 : gAt l_slices_breakPatternsCmpFunc_int_11 1 = ⟨(some 50), .mv (.t 11), none⟩ := idE rfl
@[go_sem] theorem g_slices_breakPatternsCmpFunc_int_11_2 : gAt l_slices_breakPatternsCmpFunc_int_11 2 = ⟨(some 51), .mv (.t 0), none⟩ := idE rfl
@[go_sem] theorem g_slices_breakPatternsCmpFunc_int_11_3 : gAt l_slices_breakPatternsCmpFunc_int_11 3 = ⟨(some 52), .mv (.t 1), none⟩ := idE rfl
@[go_sem] theorem g_slices_breakPatternsCmpFunc_int_11_4 : gAt l_slices_breakPatternsCmpFunc_int_11 4 = ⟨(some 53), .mv (.t 12), none⟩ := idE rfl
@[go_sem] theorem g_slices_breakPatternsCmpFunc_int_11_5 : gAt l_slices_breakPatternsCmpFunc_int_11 5 = ⟨(some 54), .bin .add (.t 52) (.t 53), none⟩ := idE rfl
@[go_sem] theorem g_slices_breakPatternsCmpFunc_int_11_6 : gAt l_slices_breakPatternsCmpFunc_int_11 6 = ⟨(some 55), .mv (.t 0), none⟩ := idE rfl
@[go_sem] theorem g_slices_breakPatternsCmpFunc_int_11_7 : gAt l_slices_breakPatternsCmpFunc_int_11 7 = ⟨(some 56), .mv (.t 1), none⟩ := idE rfl
@[go_sem] theorem g_slices_breakPatternsCmpFunc_int_11_8 : gAt l_slices_breakPatternsCmpFunc_int_11 8 = ⟨(some 57), .mv (.t 12), none⟩ := idE rfl
@[go_sem] theorem g_slices_breakPatternsCmpFunc_int_11_9 : gAt l_slices_breakPatternsCmpFunc_int_11 9 = ⟨(some 58), .bin .add (.t 56) (.t 57), none⟩ := idE rfl
@[go_sem] theorem g_slices_breakPatternsCmpFunc_int_11_10 : gAt l_slices_breakPatternsCmpFunc_int_11 10 = ⟨(some 59), .iaddr (.t 55) (.t 58) 1, none⟩ := idE rfl
@[go_sem] theorem g_slices_breakPatternsCmpFunc_int_11_11 : gAt l_slices_breakPatternsCmpFunc_int_11 11 = ⟨(some 60), .load (.t 59) 1 false, none⟩ := idE rfl
@[go_sem] theorem g_slices_breakPatternsCmpFunc_int_11_12 : gAt l_slices_breakPatternsCmpFunc_int_11 12 = ⟨(some 61), .mv (.t 0), none⟩ := idE rfl
@[go_sem] theorem g_slices_breakPatternsCmpFunc_int_11_13 : gAt l_slices_breakPatternsCmpFunc_int_11 13 = ⟨(some 62), .mv (.t 11), none⟩ := idE rfl
@[go_sem] theorem g_slices_breakPatternsCmpFunc_int_11_14 : gAt l_slices_breakPatternsCmpFunc_int_11 14 = ⟨(some 63), .iaddr (.t 61) (.t 62) 1, none⟩ := idE rfl
@[go_sem] theorem g_slices_breakPatternsCmpFunc_int_11_15 : gAt l_slices_breakPatternsCmpFunc_int_11 15 = ⟨(some 64), .load (.t 63) 1 false, none⟩ := idE rfl
@[go_sem] theorem g_slices_breakPatternsCmpFunc_int_11_16 : gAt l_slices_breakPatternsCmpFunc_int_11 16 = ⟨(some 65), .iaddr (.t 49) (.t 50) 1, none⟩ := idE rfl
@[go_sem] theorem g_slices_breakPatternsCmpFunc_int_11_17 : gAt l_slices_breakPatternsCmpFunc_int_11 17 = ⟨none, .store (.t 65) 1 (.t 60), none⟩ := idE rfl
@[go_sem] theorem g_slices_breakPatternsCmpFunc_int_11_18 : gAt l_slices_breakPatternsCmpFunc_int_11 18 = ⟨(some 66), .iaddr (.t 51) (.t 54) 1, none⟩ := idE rfl
@[go_sem] theorem g_slices_breakPatternsCmpFunc_int_11_19 : gAt l_slices_breakPatternsCmpFunc_int_11 19 = ⟨none, .store (.t 66) 1 (.t 64), none⟩ := idE rfl
def slices_breakPatternsCmpFunc_int_11 : IR := .dops l_slices_breakPatternsCmpFunc_int_11 [(0, []), (1, []), (2, []), (3, []), (4, []), (5, []), (6, []), (7, []), (8, []), (9, []), (10, []), (11, []), (12, []), (13, []), (14, []), (15, []), (16, []), (17, []), (18, []), (19, [])]
@[go_sem] theorem w_slices_breakPatternsCmpFunc_int_11 : wp P slices_breakPatternsCmpFunc_int_11 Q e H = wpD P l_slices_breakPatternsCmpFunc_int_11 [(0, []), (1, []), (2, []), (3, []), (4, []), (5, []), (6, []), (7, []), (8, []), (9, []), (10, []), (11, []), (12, []), (13, []), (14, []), (15, []), (16, []), (17, []), (18, []), (19, [])] (Q .normal) e H := idE rfl
def slices_breakPatternsCmpFunc_int_12 : IR := .block 1 (.seq slices_breakPatternsCmpFunc_int_7 (.seq (.seq slices_breakPatternsCmpFunc_int_8 slices_breakPatternsCmpFunc_int_10) slices_breakPatternsCmpFunc_int_11))
@[go_sem] theorem w_slices_breakPatternsCmpFunc_int_12 : wp P slices_breakPatternsCmpFunc_int_12 Q e H = wp P (.seq slices_breakPatternsCmpFunc_int_7 (.seq (.seq slices_breakPatternsCmpFunc_int_8 slices_breakPatternsCmpFunc_int_10) slices_breakPatternsCmpFunc_int_11)) (blockQ 1 Q) e H := idE rfl
@[go_sem] def l_slices_breakPatternsCmpFunc_int_13 : List GOp := [⟨(some 36), .mv (.t 11), none⟩,
    ⟨(some 37), .bin .add (.t 36) (.c (.int .i64 1)), none⟩,
    ⟨(some 11), .mv (.t 37), none⟩]
def slices_breakPatternsCmpFunc_int_13 : IR := .ops l_slices_breakPatternsCmpFunc_int_13
@[go_sem] theorem w_slices_breakPatternsCmpFunc_int_13 : wp P slices_breakPatternsCmpFunc_int_13 Q e H = wpL P l_slices_breakPatternsCmpFunc_int_13 (Q .normal) e H := idE rfl
def slices_breakPatternsCmpFunc_int_14 : IR := .loop (.seq (.seq slices_breakPatternsCmpFunc_int_5 slices_breakPatternsCmpFunc_int_6) (.seq slices_breakPatternsCmpFunc_int_12 slices_breakPatternsCmpFunc_int_13))
def slices_breakPatternsCmpFunc_int_15 : IR := .block 0 slices_breakPatternsCmpFunc_int_14
@[go_sem] theorem w_slices_breakPatternsCmpFunc_int_15 : wp P slices_breakPatternsCmpFunc_int_15 Q e H = wp P slices_breakPatternsCmpFunc_int_14 (blockQ 0 Q) e H := idE rfl
def slices_breakPatternsCmpFunc_int_16 : IR := .cond (.t 17) (.seq slices_breakPatternsCmpFunc_int_2 (.seq slices_breakPatternsCmpFunc_int_3 (.seq slices_breakPatternsCmpFunc_int_4 slices_breakPatternsCmpFunc_int_15))) .skip
@[go_sem] theorem w_slices_breakPatternsCmpFunc_int_16 : wp P slices_breakPatternsCmpFunc_int_16 Q e H = condW P ((.t 17) : X) (.seq slices_breakPatternsCmpFunc_int_2 (.seq slices_breakPatternsCmpFunc_int_3 (.seq slices_breakPatternsCmpFunc_int_4 slices_breakPatternsCmpFunc_int_15))) .skip Q e H := idE rfl
@[go_sem] def l_slices_order2CmpFunc_int_0 : List GOp := [⟨(some 10), .mv (.c (.int .i64 0)), none⟩,
    ⟨(some 11), .mv (.c (.int .i64 0)), none⟩]
def slices_order2CmpFunc_int_0 : IR := .ops l_slices_order2CmpFunc_int_0
@[go_sem] theorem w_slices_order2CmpFunc_int_0 : wp P slices_order2CmpFunc_int_0 Q e H = wpL P l_slices_order2CmpFunc_int_0 (Q .normal) e H := idE rfl
def l_slices_order2CmpFunc_int_1 : List GOp := [⟨(some 12), .mv (.t 4), none⟩,
    ⟨(some 13), .mv (.t 0), none⟩,
    ⟨(some 14), .mv (.t 2), none⟩,
    ⟨(some 15), .iaddr (.t 13) (.t 14) 1, none⟩,
    ⟨(some 16), .load (.t 15) 1 false, none⟩,
    ⟨(some 17), .mv (.t 0), none⟩,
    ⟨(some 18), .mv (.t 1), none⟩,
    ⟨(some 19), .iaddr (.t 17) (.t 18) 1, none⟩,
    ⟨(some 20), .load (.t 19) 1 false, none⟩,
    ⟨(some 21), .callv (.t 12) [(.t 16), (.t 20)], none⟩,
    ⟨(some 22), .bin .lss (.t 21) (.c (.int .i64 0)), none⟩]
@[go_sem] theorem g_slices_order2CmpFunc_int_1_0 : gAt l_slices_order2CmpFunc_int_1 0 = ⟨(some 12), .mv (.t 4), none⟩ := idE rfl
@[go_sem] theorem g_slices_order2CmpFunc_int_1_1 : gAt l_slices_order2CmpFunc_int_1 1 = ⟨(some 13), .mv (.t 0), none⟩ := idE rfl
@[go_sem] theorem g_slices_order2CmpFunc_int_1_2 : gAt l_slices_order2CmpFunc_int_1 2 = ⟨(some 14), .mv (.t 2), none⟩ := idE rfl
@[go_sem] theorem g_slices_order2CmpFunc_int_1_3 : gAt l_slices_order2CmpFunc_int_1 3 = ⟨(some 15), .iaddr (.t 13) (.t 14) 1, none⟩ := idE rfl
@[go_sem] theorem g_slices_order2CmpFunc_int_1_4 : gAt l_slices_order2CmpFunc_int_1 4 = ⟨(some 16), .load (.t 15) 1 false, none⟩ := idE rfl
@[go_sem] theorem g_slices_order2CmpFunc_int_1_5 : gAt l_slices_order2CmpFunc_int_1 5 = ⟨(some 17), .mv (.t 0), none⟩ := idE rfl
@[go_sem] theorem g_slices_order2CmpFunc_int_1_6 : gAt l_slices_order2CmpFunc_int_1 6 = ⟨(some 18), .mv (.t 1), none⟩ := idE rfl
@[go_sem] theorem g_slices_order2CmpFunc_int_1_7 : gAt l_slices_order2CmpFunc_int_1 7 = ⟨(some 19), .iaddr (.t 17) (.t 18) 1, none⟩ := idE rfl
@[go_sem] theorem g_slices_order2CmpFunc_int_1_8 : gAt l_slices_order2CmpFunc_int_1 8 = ⟨(some 20), .load (.t 19) 1 false, none⟩ := idE rfl
@[go_sem] theorem g_slices_order2CmpFunc_int_1_9 : gAt l_slices_order2CmpFunc_int_1 9 = ⟨(some 21), .callv (.t 12) [(.t 16), (.t 20)], none⟩ := idE rfl
@[go_sem] theorem g_slices_order2CmpFunc_int_1_10 : gAt l_slices_order2CmpFunc_int_1 10 = ⟨(some 22), .bin .lss (.t 21) (.c (.int .i64 0)), none⟩ := idE rfl
def slices_order2CmpFunc_int_1 : IR := .dops l_slices_order2CmpFunc_int_1 [(0, []), (1, []), (2, []), (3, []), (4, []), (5, []), (6, []), (7, []), (8, []), (9, []), (10, [])]
@[go_sem] theorem w_slices_order2CmpFunc_int_1 : wp P slices_order2CmpFunc_int_1 Q e H = wpD P l_slices_order2CmpFunc_int_1 [(0, []), (1, []), (2, []), (3, []), (4, []), (5, []), (6, []), (7, []), (8, []), (9, []), (10, [])] (Q .normal) e H := idE rfl
@[go_sem] def l_slices_order2CmpFunc_int_2 : List GOp := [⟨(some 23), .mv (.t 3), none⟩,
    ⟨(some 24), .nilck (.t 23), none⟩,
    ⟨(some 25), .load (.t 24) 1 false, none⟩,
    ⟨(some 26), .bin .add (.t 25) (.c (.int .i64 1)), none⟩,
    ⟨(some 27), .nilck (.t 23), none⟩,
    ⟨none, .store (.t 27) 1 (.t 26), none⟩]
def slices_order2CmpFunc_int_2 : IR := .ops l_slices_order2CmpFunc_int_2
@[go_sem] theorem w_slices_order2CmpFunc_int_2 : wp P slices_order2CmpFunc_int_2 Q e H = wpL P l_slices_order2CmpFunc_int_2 (Q .normal) e H := idE rfl
@[go_sem] def l_slices_order2CmpFunc_int_3 : List GOp := [⟨(some 28), .mv (.t 2), none⟩,
    ⟨(some 29), .mv (.t 1), none⟩,
    ⟨(some 10), .mv (.t 28), none⟩,
    ⟨(some 11), .mv (.t 29), none⟩]
def slices_order2CmpFunc_int_3 : IR := .ops l_slices_order2CmpFunc_int_3
@[go_sem] theorem w_slices_order2CmpFunc_int_3 : wp P slices_order2CmpFunc_int_3 Q e H = wpL P l_slices_order2CmpFunc_int_3 (Q .normal) e H := idE rfl
def slices_order2CmpFunc_int_4 : IR := .cond (.t 22) (.seq slices_order2CmpFunc_int_2 (.seq slices_order2CmpFunc_int_3 .ret)) .skip
@[go_sem] theorem w_slices_order2CmpFunc_int_4 : wp P slices_order2CmpFunc_int_4 Q e H = condW P ((.t 22) : X) (.seq slices_order2CmpFunc_int_2 (.seq slices_order2CmpFunc_int_3 .ret)) .skip Q e H := idE rfl
@[go_sem] def l_slices_order2CmpFunc_int_5 : List GOp := [⟨(some 30), .mv (.t 1), none⟩,
    ⟨(some 31), .mv (.t 2), none⟩,
    ⟨(some 10), .mv (.t 30), none⟩,
    ⟨(some 11), .mv (.t 31), none⟩]
def slices_order2CmpFunc_int_5 : IR := .ops l_slices_order2CmpFunc_int_5
@[go_sem] theorem w_slices_order2CmpFunc_int_5 : wp P slices_order2CmpFunc_int_5 Q e H = wpL P l_slices_order2CmpFunc_int_5 (Q .normal) e H := idE rfl
end Go.M2
