/- The functions, turned for the memory: printed by program. -/
import Derived.Test.YthpjcfjemogbeaaTm3
import Derived.Test.YthpjcfjemogbeaaProg
import Derived.KernelRfl
set_option linter.unusedVariables false
set_option linter.unusedSimpArgs false
set_option maxRecDepth 10000
set_option maxHeartbeats 4000000
namespace Go.M2
open Go.Proofs
variable {P : Program} {Q : Post} {e : Env} {H : Heap} {args : List AV} {R : AV → Heap → Prop}
@[go_sem] def l_slices_medianCmpFunc_int_0 : List GOp := [⟨(some 12), .mv (.c (.int .i64 0)), none⟩]
def slices_medianCmpFunc_int_0 : IR := .ops l_slices_medianCmpFunc_int_0
@[go_sem] theorem w_slices_medianCmpFunc_int_0 : wp P slices_medianCmpFunc_int_0 Q e H = wpL P l_slices_medianCmpFunc_int_0 (Q .normal) e H := idE rfl
@[go_sem] def l_slices_medianCmpFunc_int_1 : List GOp := [⟨(some 14), .mv (.t 0), none⟩,
    ⟨(some 15), .mv (.t 1), none⟩,
    ⟨(some 16), .mv (.t 2), none⟩,
    ⟨(some 17), .mv (.t 4), none⟩,
    ⟨(some 18), .mv (.t 5), none⟩,
    ⟨(some 19), .call (n_slices_order2CmpFunc_int) [(.t 14), (.t 15), (.t 16), (.t 17), (.t 18)], none⟩,
    ⟨(some 13), .mv (.t 19), none⟩,
    ⟨(some 20), .ext (.t 13) 0, none⟩,
    ⟨(some 21), .ext (.t 13) 1, none⟩,
    ⟨(some 1), .mv (.t 20), none⟩,
    ⟨(some 2), .mv (.t 21), none⟩]
def slices_medianCmpFunc_int_1 : IR := .ops l_slices_medianCmpFunc_int_1
@[go_sem] theorem w_slices_medianCmpFunc_int_1 : wp P slices_medianCmpFunc_int_1 Q e H = wpL P l_slices_medianCmpFunc_int_1 (Q .normal) e H := idE rfl
@[go_sem] def l_slices_medianCmpFunc_int_2 : List GOp := [⟨(some 23), .mv (.t 0), none⟩,
    ⟨(some 24), .mv (.t 2), none⟩,
    ⟨(some 25), .mv (.t 3), none⟩,
    ⟨(some 26), .mv (.t 4), none⟩,
    ⟨(some 27), .mv (.t 5), none⟩,
    ⟨(some 28), .call (n_slices_order2CmpFunc_int) [(.t 23), (.t 24), (.t 25), (.t 26), (.t 27)], none⟩,
    ⟨(some 22), .mv (.t 28), none⟩,
    ⟨(some 29), .ext (.t 22) 0, none⟩,
    ⟨(some 30), .ext (.t 22) 1, none⟩,
    ⟨(some 2), .mv (.t 29), none⟩,
    ⟨(some 3), .mv (.t 30), none⟩]
def slices_medianCmpFunc_int_2 : IR := .ops l_slices_medianCmpFunc_int_2
@[go_sem] theorem w_slices_medianCmpFunc_int_2 : wp P slices_medianCmpFunc_int_2 Q e H = wpL P l_slices_medianCmpFunc_int_2 (Q .normal) e H := idE rfl
@[go_sem] def l_slices_medianCmpFunc_int_3 : List GOp := [⟨(some 32), .mv (.t 0), none⟩,
    ⟨(some 33), .mv (.t 1), none⟩,
    ⟨(some 34), .mv (.t 2), none⟩,
    ⟨(some 35), .mv (.t 4), none⟩,
    ⟨(some 36), .mv (.t 5), none⟩,
    ⟨(some 37), .call (n_slices_order2CmpFunc_int) [(.t 32), (.t 33), (.t 34), (.t 35), (.t 36)], none⟩,
    ⟨(some 31), .mv (.t 37), none⟩,
    ⟨(some 38), .ext (.t 31) 0, none⟩,
    ⟨(some 39), .ext (.t 31) 1, none⟩,
    ⟨(some 1), .mv (.t 38), none⟩,
    ⟨(some 2), .mv (.t 39), none⟩]
def slices_medianCmpFunc_int_3 : IR := .ops l_slices_medianCmpFunc_int_3
@[go_sem] theorem w_slices_medianCmpFunc_int_3 : wp P slices_medianCmpFunc_int_3 Q e H = wpL P l_slices_medianCmpFunc_int_3 (Q .normal) e H := idE rfl
@[go_sem] def l_slices_medianCmpFunc_int_4 : List GOp := [⟨(some 40), .mv (.t 2), none⟩,
    ⟨(some 12), .mv (.t 40), none⟩]
def slices_medianCmpFunc_int_4 : IR := .ops l_slices_medianCmpFunc_int_4
@[go_sem] theorem w_slices_medianCmpFunc_int_4 : wp P slices_medianCmpFunc_int_4 Q e H = wpL P l_slices_medianCmpFunc_int_4 (Q .normal) e H := idE rfl
@[go_sem] def l_slices_medianAdjacentCmpFunc_int_0 : List GOp := [⟨(some 8), .mv (.c (.int .i64 0)), none⟩]
def slices_medianAdjacentCmpFunc_int_0 : IR := .ops l_slices_medianAdjacentCmpFunc_int_0
@[go_sem] theorem w_slices_medianAdjacentCmpFunc_int_0 : wp P slices_medianAdjacentCmpFunc_int_0 Q e H = wpL P l_slices_medianAdjacentCmpFunc_int_0 (Q .normal) e H := idE rfl
@[go_sem] def l_slices_medianAdjacentCmpFunc_int_1 : List GOp := [⟨(some 9), .mv (.t 0), none⟩,
    ⟨(some 10), .mv (.t 1), none⟩,
    ⟨(some 11), .bin .sub (.t 10) (.c (.int .i64 1)), none⟩,
    ⟨(some 12), .mv (.t 1), none⟩,
    ⟨(some 13), .mv (.t 1), none⟩,
    ⟨(some 14), .bin .add (.t 13) (.c (.int .i64 1)), none⟩,
    ⟨(some 15), .mv (.t 2), none⟩,
    ⟨(some 16), .mv (.t 3), none⟩,
    ⟨(some 17), .call (n_slices_medianCmpFunc_int) [(.t 9), (.t 11), (.t 12), (.t 14), (.t 15), (.t 16)], none⟩,
    ⟨(some 8), .mv (.t 17), none⟩]
def slices_medianAdjacentCmpFunc_int_1 : IR := .ops l_slices_medianAdjacentCmpFunc_int_1
@[go_sem] theorem w_slices_medianAdjacentCmpFunc_int_1 : wp P slices_medianAdjacentCmpFunc_int_1 Q e H = wpL P l_slices_medianAdjacentCmpFunc_int_1 (Q .normal) e H := idE rfl
@[go_sem] def l_slices_choosePivotCmpFunc_int_0 : List GOp := [⟨(some 8), .mv (.c (.int .i64 0)), none⟩,
    ⟨(some 9), .mv (.c (.int .i64 0)), none⟩]
def slices_choosePivotCmpFunc_int_0 : IR := .ops l_slices_choosePivotCmpFunc_int_0
@[go_sem] theorem w_slices_choosePivotCmpFunc_int_0 : wp P slices_choosePivotCmpFunc_int_0 Q e H = wpL P l_slices_choosePivotCmpFunc_int_0 (Q .normal) e H := idE rfl
@[go_sem] def l_slices_choosePivotCmpFunc_int_1 : List GOp := [⟨(some 15), .mv (.t 2), none⟩,
    ⟨(some 16), .mv (.t 1), none⟩,
    ⟨(some 17), .bin .sub (.t 15) (.t 16), none⟩,
    ⟨(some 10), .mv (.t 17), none⟩]
def slices_choosePivotCmpFunc_int_1 : IR := .ops l_slices_choosePivotCmpFunc_int_1
@[go_sem] theorem w_slices_choosePivotCmpFunc_int_1 : wp P slices_choosePivotCmpFunc_int_1 Q e H = wpL P l_slices_choosePivotCmpFunc_int_1 (Q .normal) e H := idE rfl
@[go_sem] def l_slices_choosePivotCmpFunc_int_2 : List GOp := [⟨(some 11), .alloc [(.int .i64 0)], none⟩]
def slices_choosePivotCmpFunc_int_2 : IR := .ops l_slices_choosePivotCmpFunc_int_2
@[go_sem] theorem w_slices_choosePivotCmpFunc_int_2 : wp P slices_choosePivotCmpFunc_int_2 Q e H = wpL P l_slices_choosePivotCmpFunc_int_2 (Q .normal) e H := idE rfl
@[go_sem] def l_slices_choosePivotCmpFunc_int_3 : List GOp := [⟨(some 18), .mv (.t 1), none⟩,
    ⟨(some 19), .mv (.t 10), none⟩,
    ⟨(some 20), .bin .quo (.t 19) (.c (.int .i64 4)), none⟩,
    ⟨(some 21), .bin .mul (.t 20) (.c (.int .i64 1)), none⟩,
    ⟨(some 22), .bin .add (.t 18) (.t 21), none⟩,
    ⟨(some 12), .mv (.t 22), none⟩]
def slices_choosePivotCmpFunc_int_3 : IR := .ops l_slices_choosePivotCmpFunc_int_3
@[go_sem] theorem w_slices_choosePivotCmpFunc_int_3 : wp P slices_choosePivotCmpFunc_int_3 Q e H = wpL P l_slices_choosePivotCmpFunc_int_3 (Q .normal) e H := idE rfl
@[go_sem] def l_slices_choosePivotCmpFunc_int_4 : List GOp := [⟨(some 23), .mv (.t 1), none⟩,
    ⟨(some 24), .mv (.t 10), none⟩,
    ⟨(some 25), .bin .quo (.t 24) (.c (.int .i64 4)), none⟩,
    ⟨(some 26), .bin .mul (.t 25) (.c (.int .i64 2)), none⟩,
    ⟨(some 27), .bin .add (.t 23) (.t 26), none⟩,
    ⟨(some 13), .mv (.t 27), none⟩]
def slices_choosePivotCmpFunc_int_4 : IR := .ops l_slices_choosePivotCmpFunc_int_4
@[go_sem] theorem w_slices_choosePivotCmpFunc_int_4 : wp P slices_choosePivotCmpFunc_int_4 Q e H = wpL P l_slices_choosePivotCmpFunc_int_4 (Q .normal) e H := idE rfl
@[go_sem] def l_slices_choosePivotCmpFunc_int_5 : List GOp := [⟨(some 28), .mv (.t 1), none⟩,
    ⟨(some 29), .mv (.t 10), none⟩,
    ⟨(some 30), .bin .quo (.t 29) (.c (.int .i64 4)), none⟩,
    ⟨(some 31), .bin .mul (.t 30) (.c (.int .i64 3)), none⟩,
    ⟨(some 32), .bin .add (.t 28) (.t 31), none⟩,
    ⟨(some 14), .mv (.t 32), none⟩]
def slices_choosePivotCmpFunc_int_5 : IR := .ops l_slices_choosePivotCmpFunc_int_5
@[go_sem] theorem w_slices_choosePivotCmpFunc_int_5 : wp P slices_choosePivotCmpFunc_int_5 Q e H = wpL P l_slices_choosePivotCmpFunc_int_5 (Q .normal) e H := idE rfl
@[go_sem] def l_slices_choosePivotCmpFunc_int_6 : List GOp := [⟨(some 33), .mv (.t 10), none⟩,
    ⟨(some 34), .bin .geq (.t 33) (.c (.int .i64 8)), none⟩]
def slices_choosePivotCmpFunc_int_6 : IR := .ops l_slices_choosePivotCmpFunc_int_6
@[go_sem] theorem w_slices_choosePivotCmpFunc_int_6 : wp P slices_choosePivotCmpFunc_int_6 Q e H = wpL P l_slices_choosePivotCmpFunc_int_6 (Q .normal) e H := idE rfl
@[go_sem] def l_slices_choosePivotCmpFunc_int_7 : List GOp := [⟨(some 35), .mv (.t 10), none⟩,
    ⟨(some 36), .bin .geq (.t 35) (.c (.int .i64 50)), none⟩]
def slices_choosePivotCmpFunc_int_7 : IR := .ops l_slices_choosePivotCmpFunc_int_7
@[go_sem] theorem w_slices_choosePivotCmpFunc_int_7 : wp P slices_choosePivotCmpFunc_int_7 Q e H = wpL P l_slices_choosePivotCmpFunc_int_7 (Q .normal) e H := idE rfl
@[go_sem] def l_slices_choosePivotCmpFunc_int_8 : List GOp := [⟨(some 37), .mv (.t 0), none⟩,
    ⟨(some 38), .mv (.t 12), none⟩,
    ⟨(some 39), .mv (.t 3), none⟩,
    ⟨(some 40), .call (n_slices_medianAdjacentCmpFunc_int) [(.t 37), (.t 38), (.t 11), (.t 39)], none⟩,
    ⟨(some 12), .mv (.t 40), none⟩]
def slices_choosePivotCmpFunc_int_8 : IR := .ops l_slices_choosePivotCmpFunc_int_8
@[go_sem] theorem w_slices_choosePivotCmpFunc_int_8 : wp P slices_choosePivotCmpFunc_int_8 Q e H = wpL P l_slices_choosePivotCmpFunc_int_8 (Q .normal) e H := idE rfl
@[go_sem] def l_slices_choosePivotCmpFunc_int_9 : List GOp := [⟨(some 41), .mv (.t 0), none⟩,
    ⟨(some 42), .mv (.t 13), none⟩,
    ⟨(some 43), .mv (.t 3), none⟩,
    ⟨(some 44), .call (n_slices_medianAdjacentCmpFunc_int) [(.t 41), (.t 42), (.t 11), (.t 43)], none⟩,
    ⟨(some 13), .mv (.t 44), none⟩]
def slices_choosePivotCmpFunc_int_9 : IR := .ops l_slices_choosePivotCmpFunc_int_9
@[go_sem] theorem w_slices_choosePivotCmpFunc_int_9 : wp P slices_choosePivotCmpFunc_int_9 Q e H = wpL P l_slices_choosePivotCmpFunc_int_9 (Q .normal) e H := idE rfl
@[go_sem] def l_slices_choosePivotCmpFunc_int_10 : List GOp := [⟨(some 45), .mv (.t 0), none⟩,
    ⟨(some 46), .mv (.t 14), none⟩,
    ⟨(some 47), .mv (.t 3), none⟩,
    ⟨(some 48), .call (n_slices_medianAdjacentCmpFunc_int) [(.t 45), (.t 46), (.t 11), (.t 47)], none⟩,
    ⟨(some 14), .mv (.t 48), none⟩]
def slices_choosePivotCmpFunc_int_10 : IR := .ops l_slices_choosePivotCmpFunc_int_10
@[go_sem] theorem w_slices_choosePivotCmpFunc_int_10 : wp P slices_choosePivotCmpFunc_int_10 Q e H = wpL P l_slices_choosePivotCmpFunc_int_10 (Q .normal) e H := idE rfl
def slices_choosePivotCmpFunc_int_11 : IR := .cond (.t 36) (.seq slices_choosePivotCmpFunc_int_8 (.seq slices_choosePivotCmpFunc_int_9 slices_choosePivotCmpFunc_int_10)) .skip
@[go_sem] theorem w_slices_choosePivotCmpFunc_int_11 : wp P slices_choosePivotCmpFunc_int_11 Q e H = condW P ((.t 36) : X) (.seq slices_choosePivotCmpFunc_int_8 (.seq slices_choosePivotCmpFunc_int_9 slices_choosePivotCmpFunc_int_10)) .skip Q e H := idE rfl
@[go_sem] def l_slices_choosePivotCmpFunc_int_12 : List GOp := [⟨(some 49), .mv (.t 0), none⟩,
    ⟨(some 50), .mv (.t 12), none⟩,
    ⟨(some 51), .mv (.t 13), none⟩,
    ⟨(some 52), .mv (.t 14), none⟩,
    ⟨(some 53), .mv (.t 3), none⟩,
    ⟨(some 54), .call (n_slices_medianCmpFunc_int) [(.t 49), (.t 50), (.t 51), (.t 52), (.t 11), (.t 53)], none⟩,
    ⟨(some 13), .mv (.t 54), none⟩]
def slices_choosePivotCmpFunc_int_12 : IR := .ops l_slices_choosePivotCmpFunc_int_12
@[go_sem] theorem w_slices_choosePivotCmpFunc_int_12 : wp P slices_choosePivotCmpFunc_int_12 Q e H = wpL P l_slices_choosePivotCmpFunc_int_12 (Q .normal) e H := idE rfl
def slices_choosePivotCmpFunc_int_13 : IR := .cond (.t 34) (.seq (.seq slices_choosePivotCmpFunc_int_7 slices_choosePivotCmpFunc_int_11) slices_choosePivotCmpFunc_int_12) .skip
@[go_sem] theorem w_slices_choosePivotCmpFunc_int_13 : wp P slices_choosePivotCmpFunc_int_13 Q e H = condW P ((.t 34) : X) (.seq (.seq slices_choosePivotCmpFunc_int_7 slices_choosePivotCmpFunc_int_11) slices_choosePivotCmpFunc_int_12) .skip Q e H := idE rfl
@[go_sem] def l_slices_choosePivotCmpFunc_int_14 : List GOp := [⟨(some 55), .load (.t 11) 1 false, none⟩]
def slices_choosePivotCmpFunc_int_14 : IR := .ops l_slices_choosePivotCmpFunc_int_14
@[go_sem] theorem w_slices_choosePivotCmpFunc_int_14 : wp P slices_choosePivotCmpFunc_int_14 Q e H = wpL P l_slices_choosePivotCmpFunc_int_14 (Q .normal) e H := idE rfl
@[go_sem] def l_slices_choosePivotCmpFunc_int_15 : List GOp := [⟨(some 58), .bin .eql (.t 55) (.c (.int .i64 0)), none⟩,
    ⟨(some 57), .mv (.t 58), none⟩]
def slices_choosePivotCmpFunc_int_15 : IR := .ops l_slices_choosePivotCmpFunc_int_15
@[go_sem] theorem w_slices_choosePivotCmpFunc_int_15 : wp P slices_choosePivotCmpFunc_int_15 Q e H = wpL P l_slices_choosePivotCmpFunc_int_15 (Q .normal) e H := idE rfl
@[go_sem] def l_slices_choosePivotCmpFunc_int_16 : List GOp := [⟨(some 59), .mv (.t 13), none⟩,
    ⟨(some 8), .mv (.t 59), none⟩,
    ⟨(some 9), .mv (.c (.int .i64 1)), none⟩]
def slices_choosePivotCmpFunc_int_16 : IR := .ops l_slices_choosePivotCmpFunc_int_16
@[go_sem] theorem w_slices_choosePivotCmpFunc_int_16 : wp P slices_choosePivotCmpFunc_int_16 Q e H = wpL P l_slices_choosePivotCmpFunc_int_16 (Q .normal) e H := idE rfl
@[go_sem] def l_slices_choosePivotCmpFunc_int_17 : List GOp := [⟨(some 61), .bin .eql (.t 55) (.c (.int .i64 12)), none⟩,
    ⟨(some 60), .mv (.t 61), none⟩]
def slices_choosePivotCmpFunc_int_17 : IR := .ops l_slices_choosePivotCmpFunc_int_17
@[go_sem] theorem w_slices_choosePivotCmpFunc_int_17 : wp P slices_choosePivotCmpFunc_int_17 Q e H = wpL P l_slices_choosePivotCmpFunc_int_17 (Q .normal) e H := idE rfl
@[go_sem] def l_slices_choosePivotCmpFunc_int_18 : List GOp := [⟨(some 62), .mv (.t 13), none⟩,
    ⟨(some 8), .mv (.t 62), none⟩,
    ⟨(some 9), .mv (.c (.int .i64 2)), none⟩]
def slices_choosePivotCmpFunc_int_18 : IR := .ops l_slices_choosePivotCmpFunc_int_18
@[go_sem] theorem w_slices_choosePivotCmpFunc_int_18 : wp P slices_choosePivotCmpFunc_int_18 Q e H = wpL P l_slices_choosePivotCmpFunc_int_18 (Q .normal) e H := idE rfl
@[go_sem] def l_slices_choosePivotCmpFunc_int_19 : List GOp := [⟨(some 56), .mv (.t 13), none⟩,
    ⟨(some 8), .mv (.t 56), none⟩,
    ⟨(some 9), .mv (.c (.int .i64 0)), none⟩]
def slices_choosePivotCmpFunc_int_19 : IR := .ops l_slices_choosePivotCmpFunc_int_19
@[go_sem] theorem w_slices_choosePivotCmpFunc_int_19 : wp P slices_choosePivotCmpFunc_int_19 Q e H = wpL P l_slices_choosePivotCmpFunc_int_19 (Q .normal) e H := idE rfl
def slices_choosePivotCmpFunc_int_20 : IR := .cond (.t 60) (.seq slices_choosePivotCmpFunc_int_18 .ret) (.seq slices_choosePivotCmpFunc_int_19 .ret)
@[go_sem] theorem w_slices_choosePivotCmpFunc_int_20 : wp P slices_choosePivotCmpFunc_int_20 Q e H = condW P ((.t 60) : X) (.seq slices_choosePivotCmpFunc_int_18 .ret) (.seq slices_choosePivotCmpFunc_int_19 .ret) Q e H := idE rfl
def slices_choosePivotCmpFunc_int_21 : IR := .cond (.t 57) (.seq slices_choosePivotCmpFunc_int_16 .ret) (.seq slices_choosePivotCmpFunc_int_17 slices_choosePivotCmpFunc_int_20)
@[go_sem] theorem w_slices_choosePivotCmpFunc_int_21 : wp P slices_choosePivotCmpFunc_int_21 Q e H = condW P ((.t 57) : X) (.seq slices_choosePivotCmpFunc_int_16 .ret) (.seq slices_choosePivotCmpFunc_int_17 slices_choosePivotCmpFunc_int_20) Q e H := idE rfl
def slices_choosePivotCmpFunc_int_22 : IR := .block 0 (.seq slices_choosePivotCmpFunc_int_15 slices_choosePivotCmpFunc_int_21)
@[go_sem] theorem w_slices_choosePivotCmpFunc_int_22 : wp P slices_choosePivotCmpFunc_int_22 Q e H = wp P (.seq slices_choosePivotCmpFunc_int_15 slices_choosePivotCmpFunc_int_21) (blockQ 0 Q) e H := idE rfl
@[go_sem] def l_slices_reverseRangeCmpFunc_int_0 : List GOp := [⟨(some 10), .mv (.t 1), none⟩,
    ⟨(some 8), .mv (.t 10), none⟩]
def slices_reverseRangeCmpFunc_int_0 : IR := .ops l_slices_reverseRangeCmpFunc_int_0
@[go_sem] theorem w_slices_reverseRangeCmpFunc_int_0 : wp P slices_reverseRangeCmpFunc_int_0 Q e H = wpL P l_slices_reverseRangeCmpFunc_int_0 (Q .normal) e H := idE rfl
@[go_sem] def l_slices_reverseRangeCmpFunc_int_1 : List GOp := [⟨(some 11), .mv (.t 2), none⟩,
    ⟨(some 12), .bin .sub (.t 11) (.c (.int .i64 1)), none⟩,
    ⟨(some 9), .mv (.t 12), none⟩]
def slices_reverseRangeCmpFunc_int_1 : IR := .ops l_slices_reverseRangeCmpFunc_int_1
@[go_sem] theorem w_slices_reverseRangeCmpFunc_int_1 : wp P slices_reverseRangeCmpFunc_int_1 Q e H = wpL P l_slices_reverseRangeCmpFunc_int_1 (Q .normal) e H := idE rfl
@[go_sem] def l_slices_reverseRangeCmpFunc_int_2 : List GOp := [⟨(some 13), .mv (.t 8), none⟩,
    ⟨(some 14), .mv (.t 9), none⟩,
    ⟨(some 15), .bin .lss (.t 13) (.t 14), none⟩]
def slices_reverseRangeCmpFunc_int_2 : IR := .ops l_slices_reverseRangeCmpFunc_int_2
@[go_sem] theorem w_slices_reverseRangeCmpFunc_int_2 : wp P slices_reverseRangeCmpFunc_int_2 Q e H = wpL P l_slices_reverseRangeCmpFunc_int_2 (Q .normal) e H := idE rfl
def slices_reverseRangeCmpFunc_int_3 : IR := .cond (.t 15) .skip (.exit 0)
@[go_sem] theorem w_slices_reverseRangeCmpFunc_int_3 : wp P slices_reverseRangeCmpFunc_int_3 Q e H = condW P ((.t 15) : X) .skip (.exit 0) Q e H := idE rfl
def l_slices_reverseRangeCmpFunc_int_4 : List GOp := [⟨(some 16), .mv (.t 0), none⟩,
    ⟨(some 17), .mv (.t 8), none⟩,
    ⟨(some 18), .mv (.t 0), none⟩,
    ⟨(some 19), .mv (.t 9), none⟩,
    ⟨(some 20), .mv (.t 0), none⟩,
    ⟨(some 21), .mv (.t 9), none⟩,
    ⟨(some 22), .iaddr (.t 20) (.t 21) 1, none⟩,
    ⟨(some 23), .load (.t 22) 1 false, none⟩,
    ⟨(some 24), .mv (.t 0), none⟩,
    ⟨(some 25), .mv (.t 8), none⟩,
    ⟨(some 26), .iaddr (.t 24) (.t 25) 1, none⟩,
    ⟨(some 27), .load (.t 26) 1 false, none⟩,
    ⟨(some 28), .iaddr (.t 16) (.t 17) 1, none⟩,
    ⟨none, .store (.t 28) 1 (.t 23), none⟩,
    ⟨(some 29), .iaddr (.t 18) (.t 19) 1, none⟩,
    ⟨none, .store (.t 29) 1 (.t 27), none⟩]
@[go_sem] theorem g_slices_reverseRangeCmpFunc_int_4_0 : gAt l_slices_reverseRangeCmpFunc_int_4 0 = ⟨(some 16), .mv (.t 0), none⟩ := idE rfl
@[go_sem] theorem g_slices_reverseRangeCmpFunc_int_4_1 : gAt l_slices_reverseRangeCmpFunc_int_4 1 = ⟨(some 17), .mv (.t 8), none⟩ := idE rfl
@[go_sem] theorem g_slices_reverseRangeCmpFunc_int_4_2 : gAt l_slices_reverseRangeCmpFunc_int_4 2 = ⟨(some 18), .mv (.t 0), none⟩ := idE rfl
@[go_sem] theorem g_slices_reverseRangeCmpFunc_int_4_3 : gAt l_slices_reverseRangeCmpFunc_int_4 3 = ⟨(some 19), .mv (.t 9), none⟩ := idE rfl
@[go_sem] theorem g_slices_reverseRangeCmpFunc_int_4_4 : gAt l_slices_reverseRangeCmpFunc_int_4 4 = ⟨(some 20), .mv (.t 0), none⟩ := idE rfl
@[go_sem] theorem g_slices_reverseRangeCmpFunc_int_4_5 : gAt l_slices_reverseRangeCmpFunc_int_4 5 = ⟨(some 21), .mv (.t 9), none⟩ := idE rfl
@[go_sem] theorem g_slices_reverseRangeCmpFunc_int_4_6 : gAt l_slices_reverseRangeCmpFunc_int_4 6 = ⟨(some 22), .iaddr (.t 20) (.t 21) 1, none⟩ := idE rfl
@[go_sem] theorem g_slices_reverseRangeCmpFunc_int_4_7 : gAt l_slices_reverseRangeCmpFunc_int_4 7 = ⟨(some 23), .load (.t 22) 1 false, none⟩ := idE rfl
@[go_sem] theorem g_slices_reverseRangeCmpFunc_int_4_8 : gAt l_slices_reverseRangeCmpFunc_int_4 8 = ⟨(some 24), .mv (.t 0), none⟩ := idE rfl
@[go_sem] theorem g_slices_reverseRangeCmpFunc_int_4_9 : gAt l_slices_reverseRangeCmpFunc_int_4 9 = ⟨(some 25), .mv (.t 8), none⟩ := idE rfl
@[go_sem] theorem g_slices_reverseRangeCmpFunc_int_4_10 : gAt l_slices_reverseRangeCmpFunc_int_4 10 = ⟨(some 26), .iaddr (.t 24) (.t 25) 1, none⟩ := idE rfl
@[go_sem] theorem g_slices_reverseRangeCmpFunc_int_4_11 : gAt l_slices_reverseRangeCmpFunc_int_4 11 = ⟨(some 27), .load (.t 26) 1 false, none⟩ := idE rfl
@[go_sem] theorem g_slices_reverseRangeCmpFunc_int_4_12 : gAt l_slices_reverseRangeCmpFunc_int_4 12 = ⟨(some 28), .iaddr (.t 16) (.t 17) 1, none⟩ := idE rfl
@[go_sem] theorem g_slices_reverseRangeCmpFunc_int_4_13 : gAt l_slices_reverseRangeCmpFunc_int_4 13 = ⟨none, .store (.t 28) 1 (.t 23), none⟩ := idE rfl
@[go_sem] theorem g_slices_reverseRangeCmpFunc_int_4_14 : gAt l_slices_reverseRangeCmpFunc_int_4 14 = ⟨(some 29), .iaddr (.t 18) (.t 19) 1, none⟩ := idE rfl
@[go_sem] theorem g_slices_reverseRangeCmpFunc_int_4_15 : gAt l_slices_reverseRangeCmpFunc_int_4 15 = ⟨none, .store (.t 29) 1 (.t 27), none⟩ := idE rfl
def slices_reverseRangeCmpFunc_int_4 : IR := .dops l_slices_reverseRangeCmpFunc_int_4 [(0, []), (1, []), (2, []), (3, []), (4, []), (5, []), (6, []), (7, []), (8, []), (9, []), (10, []), (11, []), (12, []), (13, []), (14, []), (15, [])]
@[go_sem] theorem w_slices_reverseRangeCmpFunc_int_4 : wp P slices_reverseRangeCmpFunc_int_4 Q e H = wpD P l_slices_reverseRangeCmpFunc_int_4 [(0, []), (1, []), (2, []), (3, []), (4, []), (5, []), (6, []), (7, []), (8, []), (9, []), (10, []), (11, []), (12, []), (13, []), (14, []), (15, [])] (Q .normal) e H := idE rfl
@[go_sem] def l_slices_reverseRangeCmpFunc_int_5 : List GOp := [⟨(some 30), .mv (.t 8), none⟩,
    ⟨(some 31), .bin .add (.t 30) (.c (.int .i64 1)), none⟩,
    ⟨(some 8), .mv (.t 31), none⟩]
def slices_reverseRangeCmpFunc_int_5 : IR := .ops l_slices_reverseRangeCmpFunc_int_5
@[go_sem] theorem w_slices_reverseRangeCmpFunc_int_5 : wp P slices_reverseRangeCmpFunc_int_5 Q e H = wpL P l_slices_reverseRangeCmpFunc_int_5 (Q .normal) e H := idE rfl
@[go_sem] def l_slices_reverseRangeCmpFunc_int_6 : List GOp := [⟨(some 32), .mv (.t 9), none⟩,
    ⟨(some 33), .bin .sub (.t 32) (.c (.int .i64 1)), none⟩,
    ⟨(some 9), .mv (.t 33), none⟩]
def slices_reverseRangeCmpFunc_int_6 : IR := .ops l_slices_reverseRangeCmpFunc_int_6
@[go_sem] theorem w_slices_reverseRangeCmpFunc_int_6 : wp P slices_reverseRangeCmpFunc_int_6 Q e H = wpL P l_slices_reverseRangeCmpFunc_int_6 (Q .normal) e H := idE rfl
def slices_reverseRangeCmpFunc_int_7 : IR := .block 1 (.seq slices_reverseRangeCmpFunc_int_4 (.seq slices_reverseRangeCmpFunc_int_5 slices_reverseRangeCmpFunc_int_6))
@[go_sem] theorem w_slices_reverseRangeCmpFunc_int_7 : wp P slices_reverseRangeCmpFunc_int_7 Q e H = wp P (.seq slices_reverseRangeCmpFunc_int_4 (.seq slices_reverseRangeCmpFunc_int_5 slices_reverseRangeCmpFunc_int_6)) (blockQ 1 Q) e H := idE rfl
def slices_reverseRangeCmpFunc_int_8 : IR := .loop (.seq (.seq slices_reverseRangeCmpFunc_int_2 slices_reverseRangeCmpFunc_int_3) slices_reverseRangeCmpFunc_int_7)
def slices_reverseRangeCmpFunc_int_9 : IR := .block 0 slices_reverseRangeCmpFunc_int_8
@[go_sem] theorem w_slices_reverseRangeCmpFunc_int_9 : wp P slices_reverseRangeCmpFunc_int_9 Q e H = wp P slices_reverseRangeCmpFunc_int_8 (blockQ 0 Q) e H := idE rfl
@[go_sem] def l_slices_partialInsertionSortCmpFunc_int_0 : List GOp := [⟨(some 8), .mv (.c (.bool false)), none⟩]
def slices_partialInsertionSortCmpFunc_int_0 : IR := .ops l_slices_partialInsertionSortCmpFunc_int_0
@[go_sem] theorem w_slices_partialInsertionSortCmpFunc_int_0 : wp P slices_partialInsertionSortCmpFunc_int_0 Q e H = wpL P l_slices_partialInsertionSortCmpFunc_int_0 (Q .normal) e H := idE rfl
@[go_sem] def l_slices_partialInsertionSortCmpFunc_int_1 : List GOp := [⟨(some 13), .mv (.t 1), none⟩,
    ⟨(some 14), .bin .add (.t 13) (.c (.int .i64 1)), none⟩,
    ⟨(some 9), .mv (.t 14), none⟩]
def slices_partialInsertionSortCmpFunc_int_1 : IR := .ops l_slices_partialInsertionSortCmpFunc_int_1
@[go_sem] theorem w_slices_partialInsertionSortCmpFunc_int_1 : wp P slices_partialInsertionSortCmpFunc_int_1 Q e H = wpL P l_slices_partialInsertionSortCmpFunc_int_1 (Q .normal) e H := idE rfl
@[go_sem] def l_slices_partialInsertionSortCmpFunc_int_2 : List GOp := [⟨(some 10), .mv (.c (.int .i64 0)), none⟩]
def slices_partialInsertionSortCmpFunc_int_2 : IR := .ops l_slices_partialInsertionSortCmpFunc_int_2
@[go_sem] theorem w_slices_partialInsertionSortCmpFunc_int_2 : wp P slices_partialInsertionSortCmpFunc_int_2 Q e H = wpL P l_slices_partialInsertionSortCmpFunc_int_2 (Q .normal) e H := idE rfl
@[go_sem] def l_slices_partialInsertionSortCmpFunc_int_3 : List GOp := [⟨(some 15), .mv (.t 10), none⟩,
    ⟨(some 16), .bin .lss (.t 15) (.c (.int .i64 5)), none⟩]
def slices_partialInsertionSortCmpFunc_int_3 : IR := .ops l_slices_partialInsertionSortCmpFunc_int_3
@[go_sem] theorem w_slices_partialInsertionSortCmpFunc_int_3 : wp P slices_partialInsertionSortCmpFunc_int_3 Q e H = wpL P l_slices_partialInsertionSortCmpFunc_int_3 (Q .normal) e H := idE rfl
def slices_partialInsertionSortCmpFunc_int_4 : IR := .cond (.t 16) .skip (.exit 0)
@[go_sem] theorem w_slices_partialInsertionSortCmpFunc_int_4 : wp P slices_partialInsertionSortCmpFunc_int_4 Q e H = condW P ((.t 16) : X) .skip (.exit 0) Q e H := idE rfl
def l_slices_partialInsertionSortCmpFunc_int_5 : List GOp := [⟨(some 19), .mv (.t 9), none⟩,
    ⟨(some 20), .mv (.t 2), none⟩,
    ⟨(some 21), .bin .lss (.t 19) (.t 20), none⟩,
    ⟨(some 22), .mv (.t 21), none⟩,
    ⟨(some 23), .mv (.t 3), (some (22, true))⟩,
    ⟨(some 24), .mv (.t 0), (some (22, true))⟩,
    ⟨(some 25), .mv (.t 9), (some (22, true))⟩,
    ⟨(some 26), .iaddr (.t 24) (.t 25) 1, (some (22, true))⟩,
    ⟨(some 27), .load (.t 26) 1 false, (some (22, true))⟩,
    ⟨(some 28), .mv (.t 0), (some (22, true))⟩,
    ⟨(some 29), .mv (.t 9), (some (22, true))⟩,
    ⟨(some 30), .bin .sub (.t 29) (.c (.int .i64 1)), (some (22, true))⟩,
    ⟨(some 31), .iaddr (.t 28) (.t 30) 1, (some (22, true))⟩,
    ⟨(some 32), .load (.t 31) 1 false, (some (22, true))⟩,
    ⟨(some 33), .callv (.t 23) [(.t 27), (.t 32)], (some (22, true))⟩,
    ⟨(some 34), .bin .lss (.t 33) (.c (.int .i64 0)), (some (22, true))⟩,
    ⟨(some 35), .un .not (.t 34), (some (22, true))⟩,
    ⟨(some 36), .pick (.t 22) (.t 35) (.c (.bool false)), none⟩]
@[go_sem] theorem g_slices_partialInsertionSortCmpFunc_int_5_0 : gAt l_slices_partialInsertionSortCmpFunc_int_5 0 = ⟨(some 19), .mv (.t 9), none⟩ := idE rfl
@[go_sem] theorem g_slices_partialInsertionSortCmpFunc_int_5_1 : gAt l_slices_partialInsertionSortCmpFunc_int_5 1 = ⟨(some 20), .mv (.t 2), none⟩ := idE rfl
@[go_sem] theorem g_slices_partialInsertionSortCmpFunc_int_5_2 : gAt l_slices_partialInsertionSortCmpFunc_int_5 2 = ⟨(some 21), .bin .lss (.t 19) (.t 20), none⟩ := idE rfl
@[go_sem] theorem g_slices_partialInsertionSortCmpFunc_int_5_3 : gAt l_slices_partialInsertionSortCmpFunc_int_5 3 = ⟨(some 22), .mv (.t 21), none⟩ := idE rfl
@[go_sem] theorem g_slices_partialInsertionSortCmpFunc_int_5_4 : gAt l_slices_partialInsertionSortCmpFunc_int_5 4 = ⟨(some 23), .mv (.t 3), (some (22, true))⟩ := idE rfl
@[go_sem] theorem g_slices_partialInsertionSortCmpFunc_int_5_5 : gAt l_slices_partialInsertionSortCmpFunc_int_5 5 = ⟨(some 24), .mv (.t 0), (some (22, true))⟩ := idE rfl
@[go_sem] theorem g_slices_partialInsertionSortCmpFunc_int_5_6 : gAt l_slices_partialInsertionSortCmpFunc_int_5 6 = ⟨(some 25), .mv (.t 9), (some (22, true))⟩ := idE rfl
@[go_sem] theorem g_slices_partialInsertionSortCmpFunc_int_5_7 : gAt l_slices_partialInsertionSortCmpFunc_int_5 7 = ⟨(some 26), .iaddr (.t 24) (.t 25) 1, (some (22, true))⟩ := idE rfl
@[go_sem] theorem g_slices_partialInsertionSortCmpFunc_int_5_8 : gAt l_slices_partialInsertionSortCmpFunc_int_5 8 = ⟨(some 27), .load (.t 26) 1 false, (some (22, true))⟩ := idE rfl
@[go_sem] theorem g_slices_partialInsertionSortCmpFunc_int_5_9 : gAt l_slices_partialInsertionSortCmpFunc_int_5 9 = ⟨(some 28), .mv (.t 0), (some (22, true))⟩ := idE rfl
@[go_sem] theorem g_slices_partialInsertionSortCmpFunc_int_5_10 : gAt l_slices_partialInsertionSortCmpFunc_int_5 10 = ⟨(some 29), .mv (.t 9), (some (22, true))⟩ := idE rfl
@[go_sem] theorem g_slices_partialInsertionSortCmpFunc_int_5_11 : gAt l_slices_partialInsertionSortCmpFunc_int_5 11 = ⟨(some 30), .bin .sub (.t 29) (.c (.int .i64 1)), (some (22, true))⟩ := idE rfl
@[go_sem] theorem g_slices_partialInsertionSortCmpFunc_int_5_12 : gAt l_slices_partialInsertionSortCmpFunc_int_5 12 = ⟨(some 31), .iaddr (.t 28) (.t 30) 1, (some (22, true))⟩ := idE rfl
@[go_sem] theorem g_slices_partialInsertionSortCmpFunc_int_5_13 : gAt l_slices_partialInsertionSortCmpFunc_int_5 13 = ⟨(some 32), .load (.t 31) 1 false, (some (22, true))⟩ := idE rfl
@[go_sem] theorem g_slices_partialInsertionSortCmpFunc_int_5_14 : gAt l_slices_partialInsertionSortCmpFunc_int_5 14 = ⟨(some 33), .callv (.t 23) [(.t 27), (.t 32)], (some (22, true))⟩ := idE rfl
@[go_sem] theorem g_slices_partialInsertionSortCmpFunc_int_5_15 : gAt l_slices_partialInsertionSortCmpFunc_int_5 15 = ⟨(some 34), .bin .lss (.t 33) (.c (.int .i64 0)), (some (22, true))⟩ := idE rfl
@[go_sem] theorem g_slices_partialInsertionSortCmpFunc_int_5_16 : gAt l_slices_partialInsertionSortCmpFunc_int_5 16 = ⟨(some 35), .un .not (.t 34), (some (22, true))⟩ := idE rfl
@[go_sem] theorem g_slices_partialInsertionSortCmpFunc_int_5_17 : gAt l_slices_partialInsertionSortCmpFunc_int_5 17 = ⟨(some 36), .pick (.t 22) (.t 35) (.c (.bool false)), none⟩ := idE rfl
def slices_partialInsertionSortCmpFunc_int_5 : IR := .dops l_slices_partialInsertionSortCmpFunc_int_5 [(0, []), (1, []), (2, []), (3, []), (4, []), (5, []), (6, []), (7, []), (8, []), (9, []), (10, []), (11, []), (12, []), (13, []), (14, []), (15, []), (16, []), (17, [])]
@[go_sem] theorem w_slices_partialInsertionSortCmpFunc_int_5 : wp P slices_partialInsertionSortCmpFunc_int_5 Q e H = wpD P l_slices_partialInsertionSortCmpFunc_int_5 [(0, []), (1, []), (2, []), (3, []), (4, []), (5, []), (6, []), (7, []), (8, []), (9, []), (10, []), (11, []), (12, []), (13, []), (14, []), (15, []), (16, []), (17, [])] (Q .normal) e H := idE rfl
def slices_partialInsertionSortCmpFunc_int_6 : IR := .cond (.t 36) .skip (.exit 2)
@[go_sem] theorem w_slices_partialInsertionSortCmpFunc_int_6 : wp P slices_partialInsertionSortCmpFunc_int_6 Q e H = condW P ((.t 36) : X) .skip (.exit 2) Q e H := idE rfl
@[go_sem] def l_slices_partialInsertionSortCmpFunc_int_7 : List GOp := [⟨(some 37), .mv (.t 9), none⟩,
    ⟨(some 38), .bin .add (.t 37) (.c (.int .i64 1)), none⟩,
    ⟨(some 9), .mv (.t 38), none⟩]
def slices_partialInsertionSortCmpFunc_int_7 : IR := .ops l_slices_partialInsertionSortCmpFunc_int_7
@[go_sem] theorem w_slices_partialInsertionSortCmpFunc_int_7 : wp P slices_partialInsertionSortCmpFunc_int_7 Q e H = wpL P l_slices_partialInsertionSortCmpFunc_int_7 (Q .normal) e H := idE rfl
def slices_partialInsertionSortCmpFunc_int_8 : IR := .block 3 slices_partialInsertionSortCmpFunc_int_7
@[go_sem] theorem w_slices_partialInsertionSortCmpFunc_int_8 : wp P slices_partialInsertionSortCmpFunc_int_8 Q e H = wp P slices_partialInsertionSortCmpFunc_int_7 (blockQ 3 Q) e H := idE rfl
def slices_partialInsertionSortCmpFunc_int_9 : IR := .loop (.seq (.seq slices_partialInsertionSortCmpFunc_int_5 slices_partialInsertionSortCmpFunc_int_6) slices_partialInsertionSortCmpFunc_int_8)
def slices_partialInsertionSortCmpFunc_int_10 : IR := .block 2 slices_partialInsertionSortCmpFunc_int_9
@[go_sem] theorem w_slices_partialInsertionSortCmpFunc_int_10 : wp P slices_partialInsertionSortCmpFunc_int_10 Q e H = wp P slices_partialInsertionSortCmpFunc_int_9 (blockQ 2 Q) e H := idE rfl
@[go_sem] def l_slices_partialInsertionSortCmpFunc_int_11 : List GOp := [⟨(some 39), .mv (.t 9), none⟩,
    ⟨(some 40), .mv (.t 2), none⟩,
    ⟨(some 41), .bin .eql (.t 39) (.t 40), none⟩]
def slices_partialInsertionSortCmpFunc_int_11 : IR := .ops l_slices_partialInsertionSortCmpFunc_int_11
@[go_sem] theorem w_slices_partialInsertionSortCmpFunc_int_11 : wp P slices_partialInsertionSortCmpFunc_int_11 Q e H = wpL P l_slices_partialInsertionSortCmpFunc_int_11 (Q .normal) e H := idE rfl
@[go_sem] def l_slices_partialInsertionSortCmpFunc_int_12 : List GOp := [⟨(some 8), .mv (.c (.bool true)), none⟩]
def slices_partialInsertionSortCmpFunc_int_12 : IR := .ops l_slices_partialInsertionSortCmpFunc_int_12
@[go_sem] theorem w_slices_partialInsertionSortCmpFunc_int_12 : wp P slices_partialInsertionSortCmpFunc_int_12 Q e H = wpL P l_slices_partialInsertionSortCmpFunc_int_12 (Q .normal) e H := idE rfl
def slices_partialInsertionSortCmpFunc_int_13 : IR := .cond (.t 41) (.seq slices_partialInsertionSortCmpFunc_int_12 .ret) .skip
@[go_sem] theorem w_slices_partialInsertionSortCmpFunc_int_13 : wp P slices_partialInsertionSortCmpFunc_int_13 Q e H = condW P ((.t 41) : X) (.seq slices_partialInsertionSortCmpFunc_int_12 .ret) .skip Q e H := idE rfl
@[go_sem] def l_slices_partialInsertionSortCmpFunc_int_14 : List GOp := [⟨(some 42), .mv (.t 2), none⟩,
    ⟨(some 43), .mv (.t 1), none⟩,
    ⟨(some 44), .bin .sub (.t 42) (.t 43), none⟩,
    ⟨(some 45), .bin .lss (.t 44) (.c (.int .i64 50)), none⟩]
def slices_partialInsertionSortCmpFunc_int_14 : IR := .ops l_slices_partialInsertionSortCmpFunc_int_14
@[go_sem] theorem w_slices_partialInsertionSortCmpFunc_int_14 : wp P slices_partialInsertionSortCmpFunc_int_14 Q e H = wpL P l_slices_partialInsertionSortCmpFunc_int_14 (Q .normal) e H := idE rfl
@[go_sem] def l_slices_partialInsertionSortCmpFunc_int_15 : List GOp := [⟨(some 8), .mv (.c (.bool false)), none⟩]
def slices_partialInsertionSortCmpFunc_int_15 : IR := .ops l_slices_partialInsertionSortCmpFunc_int_15
@[go_sem] theorem w_slices_partialInsertionSortCmpFunc_int_15 : wp P slices_partialInsertionSortCmpFunc_int_15 Q e H = wpL P l_slices_partialInsertionSortCmpFunc_int_15 (Q .normal) e H := idE rfl
def slices_partialInsertionSortCmpFunc_int_16 : IR := .cond (.t 45) (.seq slices_partialInsertionSortCmpFunc_int_15 .ret) .skip
@[go_sem] theorem w_slices_partialInsertionSortCmpFunc_int_16 : wp P slices_partialInsertionSortCmpFunc_int_16 Q e H = condW P ((.t 45) : X) (.seq slices_partialInsertionSortCmpFunc_int_15 .ret) .skip Q e H := idE rfl
def l_slices_partialInsertionSortCmpFunc_int_17 : List GOp := [⟨(some 46), .mv (.t 0), none⟩,
    ⟨(some 47), .mv (.t 9), none⟩,
    ⟨(some 48), .mv (.t 0), none⟩,
    ⟨(some 49), .mv (.t 9), none⟩,
    ⟨(some 50), .bin .sub (.t 49) (.c (.int .i64 1)), none⟩,
    ⟨(some 51), .mv (.t 0), none⟩,
    ⟨(some 52), .mv (.t 9), none⟩,
    ⟨(some 53), .bin .sub (.t 52) (.c (.int .i64 1)), none⟩,
    ⟨(some 54), .iaddr (.t 51) (.t 53) 1, none⟩,
    ⟨(some 55), .load (.t 54) 1 false, none⟩,
    ⟨(some 56), .mv (.t 0), none⟩,
    ⟨(some 57), .mv (.t 9), none⟩,
    ⟨(some 58), .iaddr (.t 56) (.t 57) 1, none⟩,
    ⟨(some 59), .load (.t 58) 1 false, none⟩,
    ⟨(some 60), .iaddr (.t 46) (.t 47) 1, none⟩,
    ⟨none, .store (.t 60) 1 (.t 55), none⟩,
    ⟨(some 61), .iaddr (.t 48) (.t 50) 1, none⟩,
    ⟨none, .store (.t 61) 1 (.t 59), none⟩]
@[go_sem] theorem g_slices_partialInsertionSortCmpFunc_int_17_0 : gAt l_slices_partialInsertionSortCmpFunc_int_17 0 = ⟨(some 46), .mv (.t 0), none⟩ := idE rfl
@[go_sem] theorem g_slices_partialInsertionSortCmpFunc_int_17_1 : gAt l_slices_partialInsertionSortCmpFunc_int_17 1 = ⟨(some 47), .mv (.t 9), none⟩ := idE rfl
@[go_sem] theorem g_slices_partialInsertionSortCmpFunc_int_17_2 : gAt l_slices_partialInsertionSortCmpFunc_int_17 2 = ⟨(some 48), .mv (.t 0), none⟩ := idE rfl
@[go_sem] theorem g_slices_partialInsertionSortCmpFunc_int_17_3 : gAt l_slices_partialInsertionSortCmpFunc_int_17 3 = ⟨(some 49), .mv (.t 9), none⟩ := idE rfl
@[go_sem] theorem g_slices_partialInsertionSortCmpFunc_int_17_4 : gAt l_slices_partialInsertionSortCmpFunc_int_17 4 = ⟨(some 50), .bin .sub (.t 49) (.c (.int .i64 1)), none⟩ := idE rfl
@[go_sem] theorem g_slices_partialInsertionSortCmpFunc_int_17_5 : gAt l_slices_partialInsertionSortCmpFunc_int_17 5 = ⟨(some 51), .mv (.t 0), none⟩ := idE rfl
@[go_sem] theorem g_slices_partialInsertionSortCmpFunc_int_17_6 : gAt l_slices_partialInsertionSortCmpFunc_int_17 6 = ⟨(some 52), .mv (.t 9), none⟩ := idE rfl
@[go_sem] theorem g_slices_partialInsertionSortCmpFunc_int_17_7 : gAt l_slices_partialInsertionSortCmpFunc_int_17 7 = ⟨(some 53), .bin .sub (.t 52) (.c (.int .i64 1)), none⟩ := idE rfl
@[go_sem] theorem g_slices_partialInsertionSortCmpFunc_int_17_8 : gAt l_slices_partialInsertionSortCmpFunc_int_17 8 = ⟨(some 54), .iaddr (.t 51) (.t 53) 1, none⟩ := idE rfl
@[go_sem] theorem g_slices_partialInsertionSortCmpFunc_int_17_9 : gAt l_slices_partialInsertionSortCmpFunc_int_17 9 = ⟨(some 55), .load (.t 54) 1 false, none⟩ := idE rfl
@[go_sem] theorem g_slices_partialInsertionSortCmpFunc_int_17_10 : gAt l_slices_partialInsertionSortCmpFunc_int_17 10 = ⟨(some 56), .mv (.t 0), none⟩ := idE rfl
@[go_sem] theorem g_slices_partialInsertionSortCmpFunc_int_17_11 : gAt l_slices_partialInsertionSortCmpFunc_int_17 11 = ⟨(some 57), .mv (.t 9), none⟩ := idE rfl
@[go_sem] theorem g_slices_partialInsertionSortCmpFunc_int_17_12 : gAt l_slices_partialInsertionSortCmpFunc_int_17 12 = ⟨(some 58), .iaddr (.t 56) (.t 57) 1, none⟩ := idE rfl
@[go_sem] theorem g_slices_partialInsertionSortCmpFunc_int_17_13 : gAt l_slices_partialInsertionSortCmpFunc_int_17 13 = ⟨(some 59), .load (.t 58) 1 false, none⟩ := idE rfl
@[go_sem] theorem g_slices_partialInsertionSortCmpFunc_int_17_14 : gAt l_slices_partialInsertionSortCmpFunc_int_17 14 = ⟨(some 60), .iaddr (.t 46) (.t 47) 1, none⟩ := idE rfl
@[go_sem] theorem g_slices_partialInsertionSortCmpFunc_int_17_15 : gAt l_slices_partialInsertionSortCmpFunc_int_17 15 = ⟨none, .store (.t 60) 1 (.t 55), none⟩ := idE rfl
@[go_sem] theorem g_slices_partialInsertionSortCmpFunc_int_17_16 : gAt l_slices_partialInsertionSortCmpFunc_int_17 16 = ⟨(some 61), .iaddr (.t 48) (.t 50) 1, none⟩ := idE rfl
@[go_sem] theorem g_slices_partialInsertionSortCmpFunc_int_17_17 : gAt l_slices_partialInsertionSortCmpFunc_int_17 17 = ⟨none, .store (.t 61) 1 (.t 59), none⟩ := idE rfl
def slices_partialInsertionSortCmpFunc_int_17 : IR := .dops l_slices_partialInsertionSortCmpFunc_int_17 [(0, []), (1, []), (2, []), (3, []), (4, []), (5, []), (6, []), (7, []), (8, []), (9, []), (10, []), (11, []), (12, []), (13, []), (14, []), (15, []), (16, []), (17, [])]
@[go_sem] theorem w_slices_partialInsertionSortCmpFunc_int_17 : wp P slices_partialInsertionSortCmpFunc_int_17 Q e H = wpD P l_slices_partialInsertionSortCmpFunc_int_17 [(0, []), (1, []), (2, []), (3, []), (4, []), (5, []), (6, []), (7, []), (8, []), (9, []), (10, []), (11, []), (12, []), (13, []), (14, []), (15, []), (16, []), (17, [])] (Q .normal) e H := idE rfl
@[go_sem] def l_slices_partialInsertionSortCmpFunc_int_18 : List GOp := [⟨(some 62), .mv (.t 9), none⟩,
    ⟨(some 63), .mv (.t 1), none⟩,
    ⟨(some 64), .bin .sub (.t 62) (.t 63), none⟩,
    ⟨(some 65), .bin .geq (.t 64) (.c (.int .i64 2)), none⟩]
def slices_partialInsertionSortCmpFunc_int_18 : IR := .ops l_slices_partialInsertionSortCmpFunc_int_18
@[go_sem] theorem w_slices_partialInsertionSortCmpFunc_int_18 : wp P slices_partialInsertionSortCmpFunc_int_18 Q e H = wpL P l_slices_partialInsertionSortCmpFunc_int_18 (Q .normal) e H := idE rfl
@[go_sem] def l_slices_partialInsertionSortCmpFunc_int_19 : List GOp := [⟨(some 66), .mv (.t 9), none⟩,
    ⟨(some 67), .bin .sub (.t 66) (.c (.int .i64 1)), none⟩,
    ⟨(some 11), .mv (.t 67), none⟩]
def slices_partialInsertionSortCmpFunc_int_19 : IR := .ops l_slices_partialInsertionSortCmpFunc_int_19
@[go_sem] theorem w_slices_partialInsertionSortCmpFunc_int_19 : wp P slices_partialInsertionSortCmpFunc_int_19 Q e H = wpL P l_slices_partialInsertionSortCmpFunc_int_19 (Q .normal) e H := idE rfl
@[go_sem] def l_slices_partialInsertionSortCmpFunc_int_20 : List GOp := [⟨(some 68), .mv (.t 11), none⟩,
    ⟨(some 69), .bin .geq (.t 68) (.c (.int .i64 1)), none⟩]
def slices_partialInsertionSortCmpFunc_int_20 : IR := .ops l_slices_partialInsertionSortCmpFunc_int_20
@[go_sem] theorem w_slices_partialInsertionSortCmpFunc_int_20 : wp P slices_partialInsertionSortCmpFunc_int_20 Q e H = wpL P l_slices_partialInsertionSortCmpFunc_int_20 (Q .normal) e H := idE rfl
def slices_partialInsertionSortCmpFunc_int_21 : IR := .cond (.t 69) .skip (.exit 4)
@[go_sem] theorem w_slices_partialInsertionSortCmpFunc_int_21 : wp P slices_partialInsertionSortCmpFunc_int_21 Q e H = condW P ((.t 69) : X) .skip (.exit 4) Q e H := idE rfl
def l_slices_partialInsertionSortCmpFunc_int_22 : List GOp := [⟨(some 72), .mv (.t 3), none⟩,
    ⟨(some 73), .mv (.t 0), none⟩,
    ⟨(some 74), .mv (.t 11), none⟩,
    ⟨(some 75), .iaddr (.t 73) (.t 74) 1, none⟩,
    ⟨(some 76), .load (.t 75) 1 false, none⟩,
    ⟨(some 77), .mv (.t 0), none⟩,
    ⟨(some 78), .mv (.t 11), none⟩,
    ⟨(some 79), .bin .sub (.t 78) (.c (.int .i64 1)), none⟩,
    ⟨(some 80), .iaddr (.t 77) (.t 79) 1, none⟩,
    ⟨(some 81), .load (.t 80) 1 false, none⟩,
    ⟨(some 82), .callv (.t 72) [(.t 76), (.t 81)], none⟩,
    ⟨(some 83), .bin .lss (.t 82) (.c (.int .i64 0)), none⟩,
    ⟨(some 84), .un .not (.t 83), none⟩]
@[go_sem] theorem g_slices_partialInsertionSortCmpFunc_int_22_0 : gAt l_slices_partialInsertionSortCmpFunc_int_22 0 = ⟨(some 72), .mv (.t 3), none⟩ := idE rfl
@[go_sem] theorem g_slices_partialInsertionSortCmpFunc_int_22_1 : gAt l_slices_partialInsertionSortCmpFunc_int_22 1 = ⟨(some 73), .mv (.t 0), none⟩ := idE rfl
@[go_sem] theorem g_slices_partialInsertionSortCmpFunc_int_22_2 : gAt l_slices_partialInsertionSortCmpFunc_int_22 2 = ⟨(some 74), .mv (.t 11), none⟩ := idE rfl
@[go_sem] theorem g_slices_partialInsertionSortCmpFunc_int_22_3 : gAt l_slices_partialInsertionSortCmpFunc_int_22 3 = ⟨(some 75), .iaddr (.t 73) (.t 74) 1, none⟩ := idE rfl
@[go_sem] theorem g_slices_partialInsertionSortCmpFunc_int_22_4 : gAt l_slices_partialInsertionSortCmpFunc_int_22 4 = ⟨(some 76), .load (.t 75) 1 false, none⟩ := idE rfl
@[go_sem] theorem g_slices_partialInsertionSortCmpFunc_int_22_5 : gAt l_slices_partialInsertionSortCmpFunc_int_22 5 = ⟨(some 77), .mv (.t 0), none⟩ := idE rfl
@[go_sem] theorem g_slices_partialInsertionSortCmpFunc_int_22_6 : gAt l_slices_partialInsertionSortCmpFunc_int_22 6 = ⟨(some 78), .mv (.t 11), none⟩ := idE rfl
@[go_sem] theorem g_slices_partialInsertionSortCmpFunc_int_22_7 : gAt l_slices_partialInsertionSortCmpFunc_int_22 7 = ⟨(some 79), .bin .sub (.t 78) (.c (.int .i64 1)), none⟩ := idE rfl
@[go_sem] theorem g_slices_partialInsertionSortCmpFunc_int_22_8 : gAt l_slices_partialInsertionSortCmpFunc_int_22 8 = ⟨(some 80), .iaddr (.t 77) (.t 79) 1, none⟩ := idE rfl
@[go_sem] theorem g_slices_partialInsertionSortCmpFunc_int_22_9 : gAt l_slices_partialInsertionSortCmpFunc_int_22 9 = ⟨(some 81), .load (.t 80) 1 false, none⟩ := idE rfl
@[go_sem] theorem g_slices_partialInsertionSortCmpFunc_int_22_10 : gAt l_slices_partialInsertionSortCmpFunc_int_22 10 = ⟨(some 82), .callv (.t 72) [(.t 76), (.t 81)], none⟩ := idE rfl
@[go_sem] theorem g_slices_partialInsertionSortCmpFunc_int_22_11 : gAt l_slices_partialInsertionSortCmpFunc_int_22 11 = ⟨(some 83), .bin .lss (.t 82) (.c (.int .i64 0)), none⟩ := idE rfl
@[go_sem] theorem g_slices_partialInsertionSortCmpFunc_int_22_12 : gAt l_slices_partialInsertionSortCmpFunc_int_22 12 = ⟨(some 84), .un .not (.t 83), none⟩ := idE rfl
def slices_partialInsertionSortCmpFunc_int_22 : IR := .dops l_slices_partialInsertionSortCmpFunc_int_22 [(0, []), (1, []), (2, []), (3, []), (4, []), (5, []), (6, []), (7, []), (8, []), (9, []), (10, []), (11, []), (12, [])]
@[go_sem] theorem w_slices_partialInsertionSortCmpFunc_int_22 : wp P slices_partialInsertionSortCmpFunc_int_22 Q e H = wpD P l_slices_partialInsertionSortCmpFunc_int_22 [(0, []), (1, []), (2, []), (3, []), (4, []), (5, []), (6, []), (7, []), (8, []), (9, []), (10, []), (11, []), (12, [])] (Q .normal) e H := idE rfl
def slices_partialInsertionSortCmpFunc_int_23 : IR := .cond (.t 84) (.exit 4) .skip
@[go_sem] theorem w_slices_partialInsertionSortCmpFunc_int_23 : wp P slices_partialInsertionSortCmpFunc_int_23 Q e H = condW P ((.t 84) : X) (.exit 4) .skip Q e H := idE rfl
def l_slices_partialInsertionSortCmpFunc_int_24 : List GOp := [⟨(some 85), .mv (.t 0), none⟩,
    ⟨(some 86), .mv (.t 11), none⟩,
    ⟨(some 87), .mv (.t 0), none⟩,
    ⟨(some 88), .mv (.t 11), none⟩,
    ⟨(some 89), .bin .sub (.t 88) (.c (.int .i64 1)), none⟩,
    ⟨(some 90), .mv (.t 0), none⟩,
    ⟨(some 91), .mv (.t 11), none⟩,
    ⟨(some 92), .bin .sub (.t 91) (.c (.int .i64 1)), none⟩,
    ⟨(some 93), .iaddr (.t 90) (.t 92) 1, none⟩,
    ⟨(some 94), .load (.t 93) 1 false, none⟩,
    ⟨(some 95), .mv (.t 0), none⟩,
    ⟨(some 96), .mv (.t 11), none⟩,
    ⟨(some 97), .iaddr (.t 95) (.t 96) 1, none⟩,
    ⟨(some 98), .load (.t 97) 1 false, none⟩,
    ⟨(some 99), .iaddr (.t 85) (.t 86) 1, none⟩,
    ⟨none, .store (.t 99) 1 (.t 94), none⟩,
    ⟨(some 100), .iaddr (.t 87) (.t 89) 1, none⟩,
    ⟨none, .store (.t 100) 1 (.t 98), none⟩]
@[go_sem] theorem g_slices_partialInsertionSortCmpFunc_int_24_0 : gAt l_slices_partialInsertionSortCmpFunc_int_24 0 = ⟨(some 85), .mv (.t 0), none⟩ := idE rfl
@[go_sem] theorem g_slices_partialInsertionSortCmpFunc_int_24_1 : gAt l_slices_partialInsertionSortCmpFunc_int_24 1 = ⟨(some 86), .mv (.t 11), none⟩ := idE rfl
@[go_sem] theorem g_slices_partialInsertionSortCmpFunc_int_24_2 : gAt l_slices_partialInsertionSortCmpFunc_int_24 2 = ⟨(some 87), .mv (.t 0), none⟩ := idE rfl
@[go_sem] theorem g_slices_partialInsertionSortCmpFunc_int_24_3 : gAt l_slices_partialInsertionSortCmpFunc_int_24 3 = ⟨(some 88), .mv (.t 11), none⟩ := idE rfl
@[go_sem] theorem g_slices_partialInsertionSortCmpFunc_int_24_4 : gAt l_slices_partialInsertionSortCmpFunc_int_24 4 = ⟨(some 89), .bin .sub (.t 88) (.c (.int .i64 1)), none⟩ := idE rfl
@[go_sem] theorem g_slices_partialInsertionSortCmpFunc_int_24_5 : gAt l_slices_partialInsertionSortCmpFunc_int_24 5 = ⟨(some 90), .mv (.t 0), none⟩ := idE rfl
@[go_sem] theorem g_slices_partialInsertionSortCmpFunc_int_24_6 : gAt l_slices_partialInsertionSortCmpFunc_int_24 6 = ⟨(some 91), .mv (.t 11), none⟩ := idE rfl
@[go_sem] theorem g_slices_partialInsertionSortCmpFunc_int_24_7 : gAt l_slices_partialInsertionSortCmpFunc_int_24 7 = ⟨(some 92), .bin .sub (.t 91) (.c (.int .i64 1)), none⟩ := idE rfl
@[go_sem] theorem g_slices_partialInsertionSortCmpFunc_int_24_8 : gAt l_slices_partialInsertionSortCmpFunc_int_24 8 = ⟨(some 93), .iaddr (.t 90) (.t 92) 1, none⟩ := idE rfl
@[go_sem] theorem g_slices_partialInsertionSortCmpFunc_int_24_9 : gAt l_slices_partialInsertionSortCmpFunc_int_24 9 = ⟨(some 94), .load (.t 93) 1 false, none⟩ := idE rfl
@[go_sem] theorem g_slices_partialInsertionSortCmpFunc_int_24_10 : gAt l_slices_partialInsertionSortCmpFunc_int_24 10 = ⟨(some 95), .mv (.t 0), none⟩ := idE rfl
@[go_sem] theorem g_slices_partialInsertionSortCmpFunc_int_24_11 : gAt l_slices_partialInsertionSortCmpFunc_int_24 11 = ⟨(some 96), .mv (.t 11), none⟩ := idE rfl
@[go_sem] theorem g_slices_partialInsertionSortCmpFunc_int_24_12 : gAt l_slices_partialInsertionSortCmpFunc_int_24 12 = ⟨(some 97), .iaddr (.t 95) (.t 96) 1, none⟩ := idE rfl
@[go_sem] theorem g_slices_partialInsertionSortCmpFunc_int_24_13 : gAt l_slices_partialInsertionSortCmpFunc_int_24 13 = ⟨(some 98), .load (.t 97) 1 false, none⟩ := idE rfl
@[go_sem] theorem g_slices_partialInsertionSortCmpFunc_int_24_14 : gAt l_slices_partialInsertionSortCmpFunc_int_24 14 = ⟨(some 99), .iaddr (.t 85) (.t 86) 1, none⟩ := idE rfl
@[go_sem] theorem g_slices_partialInsertionSortCmpFunc_int_24_15 : gAt l_slices_partialInsertionSortCmpFunc_int_24 15 = ⟨none, .store (.t 99) 1 (.t 94), none⟩ := idE rfl
@[go_sem] theorem g_slices_partialInsertionSortCmpFunc_int_24_16 : gAt l_slices_partialInsertionSortCmpFunc_int_24 16 = ⟨(some 100), .iaddr (.t 87) (.t 89) 1, none⟩ := idE rfl
@[go_sem] theorem g_slices_partialInsertionSortCmpFunc_int_24_17 : gAt l_slices_partialInsertionSortCmpFunc_int_24 17 = ⟨none, .store (.t 100) 1 (.t 98), none⟩ := idE rfl
def slices_partialInsertionSortCmpFunc_int_24 : IR := .dops l_slices_partialInsertionSortCmpFunc_int_24 [(0, []), (1, []), (2, []), (3, []), (4, []), (5, []), (6, []), (7, []), (8, []), (9, []), (10, []), (11, []), (12, []), (13, []), (14, []), (15, []), (16, []), (17, [])]
@[go_sem] theorem w_slices_partialInsertionSortCmpFunc_int_24 : wp P slices_partialInsertionSortCmpFunc_int_24 Q e H = wpD P l_slices_partialInsertionSortCmpFunc_int_24 [(0, []), (1, []), (2, []), (3, []), (4, []), (5, []), (6, []), (7, []), (8, []), (9, []), (10, []), (11, []), (12, []), (13, []), (14, []), (15, []), (16, []), (17, [])] (Q .normal) e H := idE rfl
def slices_partialInsertionSortCmpFunc_int_25 : IR := .block 5 (.seq (.seq slices_partialInsertionSortCmpFunc_int_22 slices_partialInsertionSortCmpFunc_int_23) slices_partialInsertionSortCmpFunc_int_24)
@[go_sem] theorem w_slices_partialInsertionSortCmpFunc_int_25 : wp P slices_partialInsertionSortCmpFunc_int_25 Q e H = wp P (.seq (.seq slices_partialInsertionSortCmpFunc_int_22 slices_partialInsertionSortCmpFunc_int_23) slices_partialInsertionSortCmpFunc_int_24) (blockQ 5 Q) e H := idE rfl
@[go_sem] def l_slices_partialInsertionSortCmpFunc_int_26 : List GOp := [⟨(some 70), .mv (.t 11), none⟩,
    ⟨(some 71), .bin .sub (.t 70) (.c (.int .i64 1)), none⟩,
    ⟨(some 11), .mv (.t 71), none⟩]
def slices_partialInsertionSortCmpFunc_int_26 : IR := .ops l_slices_partialInsertionSortCmpFunc_int_26
@[go_sem] theorem w_slices_partialInsertionSortCmpFunc_int_26 : wp P slices_partialInsertionSortCmpFunc_int_26 Q e H = wpL P l_slices_partialInsertionSortCmpFunc_int_26 (Q .normal) e H := idE rfl
def slices_partialInsertionSortCmpFunc_int_27 : IR := .loop (.seq (.seq slices_partialInsertionSortCmpFunc_int_20 slices_partialInsertionSortCmpFunc_int_21) (.seq slices_partialInsertionSortCmpFunc_int_25 slices_partialInsertionSortCmpFunc_int_26))
def slices_partialInsertionSortCmpFunc_int_28 : IR := .block 4 slices_partialInsertionSortCmpFunc_int_27
@[go_sem] theorem w_slices_partialInsertionSortCmpFunc_int_28 : wp P slices_partialInsertionSortCmpFunc_int_28 Q e H = wp P slices_partialInsertionSortCmpFunc_int_27 (blockQ 4 Q) e H := idE rfl
def slices_partialInsertionSortCmpFunc_int_29 : IR := .cond (.t 65) (.seq slices_partialInsertionSortCmpFunc_int_19 slices_partialInsertionSortCmpFunc_int_28) .skip
@[go_sem] theorem w_slices_partialInsertionSortCmpFunc_int_29 : wp P slices_partialInsertionSortCmpFunc_int_29 Q e H = condW P ((.t 65) : X) (.seq slices_partialInsertionSortCmpFunc_int_19 slices_partialInsertionSortCmpFunc_int_28) .skip Q e H := idE rfl
@[go_sem] def l_slices_partialInsertionSortCmpFunc_int_30 : List GOp := [⟨(some 101), .mv (.t 2), none⟩,
    ⟨(some 102), .mv (.t 9), none⟩,
    ⟨(some 103), .bin .sub (.t 101) (.t 102), none⟩,
    ⟨(some 104), .bin .geq (.t 103) (.c (.int .i64 2)), none⟩]
def slices_partialInsertionSortCmpFunc_int_30 : IR := .ops l_slices_partialInsertionSortCmpFunc_int_30
@[go_sem] theorem w_slices_partialInsertionSortCmpFunc_int_30 : wp P slices_partialInsertionSortCmpFunc_int_30 Q e H = wpL P l_slices_partialInsertionSortCmpFunc_int_30 (Q .normal) e H := idE rfl
@[go_sem] def l_slices_partialInsertionSortCmpFunc_int_31 : List GOp := [⟨(some 105), .mv (.t 9), none⟩,
    ⟨(some 106), .bin .add (.t 105) (.c (.int .i64 1)), none⟩,
    ⟨(some 12), .mv (.t 106), none⟩]
def slices_partialInsertionSortCmpFunc_int_31 : IR := .ops l_slices_partialInsertionSortCmpFunc_int_31
@[go_sem] theorem w_slices_partialInsertionSortCmpFunc_int_31 : wp P slices_partialInsertionSortCmpFunc_int_31 Q e H = wpL P l_slices_partialInsertionSortCmpFunc_int_31 (Q .normal) e H := idE rfl
@[go_sem] def l_slices_partialInsertionSortCmpFunc_int_32 : List GOp := [⟨(some 107), .mv (.t 12), none⟩,
    ⟨(some 108), .mv (.t 2), none⟩,
    ⟨(some 109), .bin .lss (.t 107) (.t 108), none⟩]
def slices_partialInsertionSortCmpFunc_int_32 : IR := .ops l_slices_partialInsertionSortCmpFunc_int_32
@[go_sem] theorem w_slices_partialInsertionSortCmpFunc_int_32 : wp P slices_partialInsertionSortCmpFunc_int_32 Q e H = wpL P l_slices_partialInsertionSortCmpFunc_int_32 (Q .normal) e H := idE rfl
def slices_partialInsertionSortCmpFunc_int_33 : IR := .cond (.t 109) .skip (.exit 6)
@[go_sem] theorem w_slices_partialInsertionSortCmpFunc_int_33 : wp P slices_partialInsertionSortCmpFunc_int_33 Q e H = condW P ((.t 109) : X) .skip (.exit 6) Q e H := idE rfl
def l_slices_partialInsertionSortCmpFunc_int_34 : List GOp := [⟨(some 112), .mv (.t 3), none⟩,
    ⟨(some 113), .mv (.t 0), none⟩,
    ⟨(some 114), .mv (.t 12), none⟩,
    ⟨(some 115), .iaddr (.t 113) (.t 114) 1, none⟩,
    ⟨(some 116), .load (.t 115) 1 false, none⟩,
    ⟨(some 117), .mv (.t 0), none⟩,
    ⟨(some 118), .mv (.t 12), none⟩,
    ⟨(some 119), .bin .sub (.t 118) (.c (.int .i64 1)), none⟩,
    ⟨(some 120), .iaddr (.t 117) (.t 119) 1, none⟩,
    ⟨(some 121), .load (.t 120) 1 false, none⟩,
    ⟨(some 122), .callv (.t 112) [(.t 116), (.t 121)], none⟩,
    ⟨(some 123), .bin .lss (.t 122) (.c (.int .i64 0)), none⟩,
    ⟨(some 124), .un .not (.t 123), none⟩]
@[go_sem] theorem g_slices_partialInsertionSortCmpFunc_int_34_0 : gAt l_slices_partialInsertionSortCmpFunc_int_34 0 = ⟨(some 112), .mv (.t 3), none⟩ := idE rfl
@[go_sem] theorem g_slices_partialInsertionSortCmpFunc_int_34_1 : gAt l_slices_partialInsertionSortCmpFunc_int_34 1 = ⟨(some 113), .mv (.t 0), none⟩ := idE rfl
@[go_sem] theorem g_slices_partialInsertionSortCmpFunc_int_34_2 : gAt l_slices_partialInsertionSortCmpFunc_int_34 2 = ⟨(some 114), .mv (.t 12), none⟩ := idE rfl
@[go_sem] theorem g_slices_partialInsertionSortCmpFunc_int_34_3 : gAt l_slices_partialInsertionSortCmpFunc_int_34 3 = ⟨(some 115), .iaddr (.t 113) (.t 114) 1, none⟩ := idE rfl
@[go_sem] theorem g_slices_partialInsertionSortCmpFunc_int_34_4 : gAt l_slices_partialInsertionSortCmpFunc_int_34 4 = ⟨(some 116), .load (.t 115) 1 false, none⟩ := idE rfl
@[go_sem] theorem g_slices_partialInsertionSortCmpFunc_int_34_5 : gAt l_slices_partialInsertionSortCmpFunc_int_34 5 = ⟨(some 117), .mv (.t 0), none⟩ := idE rfl
@[go_sem] theorem g_slices_partialInsertionSortCmpFunc_int_34_6 : gAt l_slices_partialInsertionSortCmpFunc_int_34 6 = ⟨(some 118), .mv (.t 12), none⟩ := idE rfl
@[go_sem] theorem g_slices_partialInsertionSortCmpFunc_int_34_7 : gAt l_slices_partialInsertionSortCmpFunc_int_34 7 = ⟨(some 119), .bin .sub (.t 118) (.c (.int .i64 1)), none⟩ := idE rfl
@[go_sem] theorem g_slices_partialInsertionSortCmpFunc_int_34_8 : gAt l_slices_partialInsertionSortCmpFunc_int_34 8 = ⟨(some 120), .iaddr (.t 117) (.t 119) 1, none⟩ := idE rfl
@[go_sem] theorem g_slices_partialInsertionSortCmpFunc_int_34_9 : gAt l_slices_partialInsertionSortCmpFunc_int_34 9 = ⟨(some 121), .load (.t 120) 1 false, none⟩ := idE rfl
@[go_sem] theorem g_slices_partialInsertionSortCmpFunc_int_34_10 : gAt l_slices_partialInsertionSortCmpFunc_int_34 10 = ⟨(some 122), .callv (.t 112) [(.t 116), (.t 121)], none⟩ := idE rfl
@[go_sem] theorem g_slices_partialInsertionSortCmpFunc_int_34_11 : gAt l_slices_partialInsertionSortCmpFunc_int_34 11 = ⟨(some 123), .bin .lss (.t 122) (.c (.int .i64 0)), none⟩ := idE rfl
@[go_sem] theorem g_slices_partialInsertionSortCmpFunc_int_34_12 : gAt l_slices_partialInsertionSortCmpFunc_int_34 12 = ⟨(some 124), .un .not (.t 123), none⟩ := idE rfl
def slices_partialInsertionSortCmpFunc_int_34 : IR := .dops l_slices_partialInsertionSortCmpFunc_int_34 [(0, []), (1, []), (2, []), (3, []), (4, []), (5, []), (6, []), (7, []), (8, []), (9, []), (10, []), (11, []), (12, [])]
@[go_sem] theorem w_slices_partialInsertionSortCmpFunc_int_34 : wp P slices_partialInsertionSortCmpFunc_int_34 Q e H = wpD P l_slices_partialInsertionSortCmpFunc_int_34 [(0, []), (1, []), (2, []), (3, []), (4, []), (5, []), (6, []), (7, []), (8, []), (9, []), (10, []), (11, []), (12, [])] (Q .normal) e H := idE rfl
def slices_partialInsertionSortCmpFunc_int_35 : IR := .cond (.t 124) (.exit 6) .skip
@[go_sem] theorem w_slices_partialInsertionSortCmpFunc_int_35 : wp P slices_partialInsertionSortCmpFunc_int_35 Q e H = condW P ((.t 124) : X) (.exit 6) .skip Q e H := idE rfl
def l_slices_partialInsertionSortCmpFunc_int_36 : List GOp := [⟨(some 125), .mv (.t 0), none⟩,
    ⟨(some 126), .mv (.t 12), none⟩,
    ⟨(some 127), .mv (.t 0), none⟩,
    ⟨(some 128), .mv (.t 12), none⟩,
    ⟨(some 129), .bin .sub (.t 128) (.c (.int .i64 1)), none⟩,
    ⟨(some 130), .mv (.t 0), none⟩,
    ⟨(some 131), .mv (.t 12), none⟩,
    ⟨(some 132), .bin .sub (.t 131) (.c (.int .i64 1)), none⟩,
    ⟨(some 133), .iaddr (.t 130) (.t 132) 1, none⟩,
    ⟨(some 134), .load (.t 133) 1 false, none⟩,
    ⟨(some 135), .mv (.t 0), none⟩,
    ⟨(some 136), .mv (.t 12), none⟩,
    ⟨(some 137), .iaddr (.t 135) (.t 136) 1, none⟩,
    ⟨(some 138), .load (.t 137) 1 false, none⟩,
    ⟨(some 139), .iaddr (.t 125) (.t 126) 1, none⟩,
    ⟨none, .store (.t 139) 1 (.t 134), none⟩,
    ⟨(some 140), .iaddr (.t 127) (.t 129) 1, none⟩,
    ⟨none, .store (.t 140) 1 (.t 138), none⟩]
@[go_sem] theorem g_slices_partialInsertionSortCmpFunc_int_36_0 : gAt l_slices_partialInsertionSortCmpFunc_int_36 0 = ⟨(some 125), .mv (.t 0), none⟩ := idE rfl
@[go_sem] theorem g_slices_partialInsertionSortCmpFunc_int_36_1 : gAt l_slices_partialInsertionSortCmpFunc_int_36 1 = ⟨(some 126), .mv (.t 12), none⟩ := idE rfl
@[go_sem] theorem g_slices_partialInsertionSortCmpFunc_int_36_2 : gAt l_slices_partialInsertionSortCmpFunc_int_36 2 = ⟨(some 127), .mv (.t 0), none⟩ := idE rfl
@[go_sem] theorem g_slices_partialInsertionSortCmpFunc_int_36_3 : gAt l_slices_partialInsertionSortCmpFunc_int_36 3 = ⟨(some 128), .mv (.t 12), none⟩ := idE rfl
@[go_sem] theorem g_slices_partialInsertionSortCmpFunc_int_36_4 : gAt l_slices_partialInsertionSortCmpFunc_int_36 4 = ⟨(some 129), .bin .sub (.t 128) (.c (.int .i64 1)), none⟩ := idE rfl
@[go_sem] theorem g_slices_partialInsertionSortCmpFunc_int_36_5 : gAt l_slices_partialInsertionSortCmpFunc_int_36 5 = ⟨(some 130), .mv (.t 0), none⟩ := idE rfl
@[go_sem] theorem g_slices_partialInsertionSortCmpFunc_int_36_6 : gAt l_slices_partialInsertionSortCmpFunc_int_36 6 = ⟨(some 131), .mv (.t 12), none⟩ := idE rfl
@[go_sem] theorem g_slices_partialInsertionSortCmpFunc_int_36_7 : gAt l_slices_partialInsertionSortCmpFunc_int_36 7 = ⟨(some 132), .bin .sub (.t 131) (.c (.int .i64 1)), none⟩ := idE rfl
@[go_sem] theorem g_slices_partialInsertionSortCmpFunc_int_36_8 : gAt l_slices_partialInsertionSortCmpFunc_int_36 8 = ⟨(some 133), .iaddr (.t 130) (.t 132) 1, none⟩ := idE rfl
@[go_sem] theorem g_slices_partialInsertionSortCmpFunc_int_36_9 : gAt l_slices_partialInsertionSortCmpFunc_int_36 9 = ⟨(some 134), .load (.t 133) 1 false, none⟩ := idE rfl
@[go_sem] theorem g_slices_partialInsertionSortCmpFunc_int_36_10 : gAt l_slices_partialInsertionSortCmpFunc_int_36 10 = ⟨(some 135), .mv (.t 0), none⟩ := idE rfl
@[go_sem] theorem g_slices_partialInsertionSortCmpFunc_int_36_11 : gAt l_slices_partialInsertionSortCmpFunc_int_36 11 = ⟨(some 136), .mv (.t 12), none⟩ := idE rfl
@[go_sem] theorem g_slices_partialInsertionSortCmpFunc_int_36_12 : gAt l_slices_partialInsertionSortCmpFunc_int_36 12 = ⟨(some 137), .iaddr (.t 135) (.t 136) 1, none⟩ := idE rfl
@[go_sem] theorem g_slices_partialInsertionSortCmpFunc_int_36_13 : gAt l_slices_partialInsertionSortCmpFunc_int_36 13 = ⟨(some 138), .load (.t 137) 1 false, none⟩ := idE rfl
@[go_sem] theorem g_slices_partialInsertionSortCmpFunc_int_36_14 : gAt l_slices_partialInsertionSortCmpFunc_int_36 14 = ⟨(some 139), .iaddr (.t 125) (.t 126) 1, none⟩ := idE rfl
@[go_sem] theorem g_slices_partialInsertionSortCmpFunc_int_36_15 : gAt l_slices_partialInsertionSortCmpFunc_int_36 15 = ⟨none, .store (.t 139) 1 (.t 134), none⟩ := idE rfl
@[go_sem] theorem g_slices_partialInsertionSortCmpFunc_int_36_16 : gAt l_slices_partialInsertionSortCmpFunc_int_36 16 = ⟨(some 140), .iaddr (.t 127) (.t 129) 1, none⟩ := idE rfl
@[go_sem] theorem g_slices_partialInsertionSortCmpFunc_int_36_17 : gAt l_slices_partialInsertionSortCmpFunc_int_36 17 = ⟨none, .store (.t 140) 1 (.t 138), none⟩ := idE rfl
def slices_partialInsertionSortCmpFunc_int_36 : IR := .dops l_slices_partialInsertionSortCmpFunc_int_36 [(0, []), (1, []), (2, []), (3, []), (4, []), (5, []), (6, []), (7, []), (8, []), (9, []), (10, []), (11, []), (12, []), (13, []), (14, []), (15, []), (16, []), (17, [])]
@[go_sem] theorem w_slices_partialInsertionSortCmpFunc_int_36 : wp P slices_partialInsertionSortCmpFunc_int_36 Q e H = wpD P l_slices_partialInsertionSortCmpFunc_int_36 [(0, []), (1, []), (2, []), (3, []), (4, []), (5, []), (6, []), (7, []), (8, []), (9, []), (10, []), (11, []), (12, []), (13, []), (14, []), (15, []), (16, []), (17, [])] (Q .normal) e H := idE rfl
def slices_partialInsertionSortCmpFunc_int_37 : IR := .block 7 (.seq (.seq slices_partialInsertionSortCmpFunc_int_34 slices_partialInsertionSortCmpFunc_int_35) slices_partialInsertionSortCmpFunc_int_36)
@[go_sem] theorem w_slices_partialInsertionSortCmpFunc_int_37 : wp P slices_partialInsertionSortCmpFunc_int_37 Q e H = wp P (.seq (.seq slices_partialInsertionSortCmpFunc_int_34 slices_partialInsertionSortCmpFunc_int_35) slices_partialInsertionSortCmpFunc_int_36) (blockQ 7 Q) e H := idE rfl
@[go_sem] def l_slices_partialInsertionSortCmpFunc_int_38 : List GOp := [⟨(some 110), .mv (.t 12), none⟩,
    ⟨(some 111), .bin .add (.t 110) (.c (.int .i64 1)), none⟩,
    ⟨(some 12), .mv (.t 111), none⟩]
def slices_partialInsertionSortCmpFunc_int_38 : IR := .ops l_slices_partialInsertionSortCmpFunc_int_38
@[go_sem] theorem w_slices_partialInsertionSortCmpFunc_int_38 : wp P slices_partialInsertionSortCmpFunc_int_38 Q e H = wpL P l_slices_partialInsertionSortCmpFunc_int_38 (Q .normal) e H := idE rfl
def slices_partialInsertionSortCmpFunc_int_39 : IR := .loop (.seq (.seq slices_partialInsertionSortCmpFunc_int_32 slices_partialInsertionSortCmpFunc_int_33) (.seq slices_partialInsertionSortCmpFunc_int_37 slices_partialInsertionSortCmpFunc_int_38))
def slices_partialInsertionSortCmpFunc_int_40 : IR := .block 6 slices_partialInsertionSortCmpFunc_int_39
@[go_sem] theorem w_slices_partialInsertionSortCmpFunc_int_40 : wp P slices_partialInsertionSortCmpFunc_int_40 Q e H = wp P slices_partialInsertionSortCmpFunc_int_39 (blockQ 6 Q) e H := idE rfl
def slices_partialInsertionSortCmpFunc_int_41 : IR := .cond (.t 104) (.seq slices_partialInsertionSortCmpFunc_int_31 slices_partialInsertionSortCmpFunc_int_40) .skip
@[go_sem] theorem w_slices_partialInsertionSortCmpFunc_int_41 : wp P slices_partialInsertionSortCmpFunc_int_41 Q e H = condW P ((.t 104) : X) (.seq slices_partialInsertionSortCmpFunc_int_31 slices_partialInsertionSortCmpFunc_int_40) .skip Q e H := idE rfl
def slices_partialInsertionSortCmpFunc_int_42 : IR := .block 1 (.seq slices_partialInsertionSortCmpFunc_int_10 (.seq (.seq slices_partialInsertionSortCmpFunc_int_11 slices_partialInsertionSortCmpFunc_int_13) (.seq (.seq slices_partialInsertionSortCmpFunc_int_14 slices_partialInsertionSortCmpFunc_int_16) (.seq slices_partialInsertionSortCmpFunc_int_17 (.seq (.seq slices_partialInsertionSortCmpFunc_int_18 slices_partialInsertionSortCmpFunc_int_29) (.seq slices_partialInsertionSortCmpFunc_int_30 slices_partialInsertionSortCmpFunc_int_41))))))
@[go_sem] theorem w_slices_partialInsertionSortCmpFunc_int_42 : wp P slices_partialInsertionSortCmpFunc_int_42 Q e H = wp P (.seq slices_partialInsertionSortCmpFunc_int_10 (.seq (.seq slices_partialInsertionSortCmpFunc_int_11 slices_partialInsertionSortCmpFunc_int_13) (.seq (.seq slices_partialInsertionSortCmpFunc_int_14 slices_partialInsertionSortCmpFunc_int_16) (.seq slices_partialInsertionSortCmpFunc_int_17 (.seq (.seq slices_partialInsertionSortCmpFunc_int_18 slices_partialInsertionSortCmpFunc_int_29) (.seq slices_partialInsertionSortCmpFunc_int_30 slices_partialInsertionSortCmpFunc_int_41)))))) (blockQ 1 Q) e H := idE rfl
@[go_sem] def l_slices_partialInsertionSortCmpFunc_int_43 : List GOp := [⟨(some 17), .mv (.t 10), none⟩,
    ⟨(some 18), .bin .add (.t 17) (.c (.int .i64 1)), none⟩,
    ⟨(some 10), .mv (.t 18), none⟩]
def slices_partialInsertionSortCmpFunc_int_43 : IR := .ops l_slices_partialInsertionSortCmpFunc_int_43
@[go_sem] theorem w_slices_partialInsertionSortCmpFunc_int_43 : wp P slices_partialInsertionSortCmpFunc_int_43 Q e H = wpL P l_slices_partialInsertionSortCmpFunc_int_43 (Q .normal) e H := idE rfl
def slices_partialInsertionSortCmpFunc_int_44 : IR := .loop (.seq (.seq slices_partialInsertionSortCmpFunc_int_3 slices_partialInsertionSortCmpFunc_int_4) (.seq slices_partialInsertionSortCmpFunc_int_42 slices_partialInsertionSortCmpFunc_int_43))
def slices_partialInsertionSortCmpFunc_int_45 : IR := .block 0 slices_partialInsertionSortCmpFunc_int_44
@[go_sem] theorem w_slices_partialInsertionSortCmpFunc_int_45 : wp P slices_partialInsertionSortCmpFunc_int_45 Q e H = wp P slices_partialInsertionSortCmpFunc_int_44 (blockQ 0 Q) e H := idE rfl
@[go_sem] def l_slices_partialInsertionSortCmpFunc_int_46 : List GOp := [⟨(some 8), .mv (.c (.bool false)), none⟩]
def slices_partialInsertionSortCmpFunc_int_46 : IR := .ops l_slices_partialInsertionSortCmpFunc_int_46
@[go_sem] theorem w_slices_partialInsertionSortCmpFunc_int_46 : wp P slices_partialInsertionSortCmpFunc_int_46 Q e H = wpL P l_slices_partialInsertionSortCmpFunc_int_46 (Q .normal) e H := idE rfl
@[go_sem] def l_slices_partitionEqualCmpFunc_int_0 : List GOp := [⟨(some 10), .mv (.c (.int .i64 0)), none⟩]
def slices_partitionEqualCmpFunc_int_0 : IR := .ops l_slices_partitionEqualCmpFunc_int_0
@[go_sem] theorem w_slices_partitionEqualCmpFunc_int_0 : wp P slices_partitionEqualCmpFunc_int_0 Q e H = wpL P l_slices_partitionEqualCmpFunc_int_0 (Q .normal) e H := idE rfl
def l_slices_partitionEqualCmpFunc_int_1 : List GOp := [⟨(some 13), .mv (.t 0), none⟩,
    ⟨(some 14), .mv (.t 1), none⟩,
    ⟨(some 15), .mv (.t 0), none⟩,
    ⟨(some 16), .mv (.t 3), none⟩,
    ⟨(some 17), .mv (.t 0), none⟩,
    ⟨(some 18), .mv (.t 3), none⟩,
    ⟨(some 19), .iaddr (.t 17) (.t 18) 1, none⟩,
    ⟨(some 20), .load (.t 19) 1 false, none⟩,
    ⟨(some 21), .mv (.t 0), none⟩,
    ⟨(some 22), .mv (.t 1), none⟩,
    ⟨(some 23), .iaddr (.t 21) (.t 22) 1, none⟩,
    ⟨(some 24), .load (.t 23) 1 false, none⟩,
    ⟨(some 25), .iaddr (.t 13) (.t 14) 1, none⟩,
    ⟨none, .store (.t 25) 1 (.t 20), none⟩,
    ⟨(some 26), .iaddr (.t 15) (.t 16) 1, none⟩,
    ⟨none, .store (.t 26) 1 (.t 24), none⟩]
@[go_sem] theorem g_slices_partitionEqualCmpFunc_int_1_0 : gAt l_slices_partitionEqualCmpFunc_int_1 0 = ⟨(some 13), .mv (.t 0), none⟩ := idE rfl
@[go_sem] theorem g_slices_partitionEqualCmpFunc_int_1_1 : gAt l_slices_partitionEqualCmpFunc_int_1 1 = ⟨(some 14), .mv (.t 1), none⟩ := idE rfl
@[go_sem] theorem g_slices_partitionEqualCmpFunc_int_1_2 : gAt l_slices_partitionEqualCmpFunc_int_1 2 = ⟨(some 15), .mv (.t 0), none⟩ := idE rfl
@[go_sem] theorem g_slices_partitionEqualCmpFunc_int_1_3 : gAt l_slices_partitionEqualCmpFunc_int_1 3 = ⟨(some 16), .mv (.t 3), none⟩ := idE rfl
@[go_sem] theorem g_slices_partitionEqualCmpFunc_int_1_4 : gAt l_slices_partitionEqualCmpFunc_int_1 4 = ⟨(some 17), .mv (.t 0), none⟩ := idE rfl
@[go_sem] theorem g_slices_partitionEqualCmpFunc_int_1_5 : gAt l_slices_partitionEqualCmpFunc_int_1 5 = ⟨(some 18), .mv (.t 3), none⟩ := idE rfl
@[go_sem] theorem g_slices_partitionEqualCmpFunc_int_1_6 : gAt l_slices_partitionEqualCmpFunc_int_1 6 = ⟨(some 19), .iaddr (.t 17) (.t 18) 1, none⟩ := idE rfl
@[go_sem] theorem g_slices_partitionEqualCmpFunc_int_1_7 : gAt l_slices_partitionEqualCmpFunc_int_1 7 = ⟨(some 20), .load (.t 19) 1 false, none⟩ := idE rfl
@[go_sem] theorem g_slices_partitionEqualCmpFunc_int_1_8 : gAt l_slices_partitionEqualCmpFunc_int_1 8 = ⟨(some 21), .mv (.t 0), none⟩ := idE rfl
@[go_sem] theorem g_slices_partitionEqualCmpFunc_int_1_9 : gAt l_slices_partitionEqualCmpFunc_int_1 9 = ⟨(some 22), .mv (.t 1), none⟩ := idE rfl
@[go_sem] theorem g_slices_partitionEqualCmpFunc_int_1_10 : gAt l_slices_partitionEqualCmpFunc_int_1 10 = ⟨(some 23), .iaddr (.t 21) (.t 22) 1, none⟩ := idE rfl
@[go_sem] theorem g_slices_partitionEqualCmpFunc_int_1_11 : gAt l_slices_partitionEqualCmpFunc_int_1 11 = ⟨(some 24), .load (.t 23) 1 false, none⟩ := idE rfl
@[go_sem] theorem g_slices_partitionEqualCmpFunc_int_1_12 : gAt l_slices_partitionEqualCmpFunc_int_1 12 = ⟨(some 25), .iaddr (.t 13) (.t 14) 1, none⟩ := idE rfl
@[go_sem] theorem g_slices_partitionEqualCmpFunc_int_1_13 : gAt l_slices_partitionEqualCmpFunc_int_1 13 = ⟨none, .store (.t 25) 1 (.t 20), none⟩ := idE rfl
@[go_sem] theorem g_slices_partitionEqualCmpFunc_int_1_14 : gAt l_slices_partitionEqualCmpFunc_int_1 14 = ⟨(some 26), .iaddr (.t 15) (.t 16) 1, none⟩ := idE rfl
@[go_sem] theorem g_slices_partitionEqualCmpFunc_int_1_15 : gAt l_slices_partitionEqualCmpFunc_int_1 15 = ⟨none, .store (.t 26) 1 (.t 24), none⟩ := idE rfl
def slices_partitionEqualCmpFunc_int_1 : IR := .dops l_slices_partitionEqualCmpFunc_int_1 [(0, []), (1, []), (2, []), (3, []), (4, []), (5, []), (6, []), (7, []), (8, []), (9, []), (10, []), (11, []), (12, []), (13, []), (14, []), (15, [])]
@[go_sem] theorem w_slices_partitionEqualCmpFunc_int_1 : wp P slices_partitionEqualCmpFunc_int_1 Q e H = wpD P l_slices_partitionEqualCmpFunc_int_1 [(0, []), (1, []), (2, []), (3, []), (4, []), (5, []), (6, []), (7, []), (8, []), (9, []), (10, []), (11, []), (12, []), (13, []), (14, []), (15, [])] (Q .normal) e H := idE rfl
@[go_sem] def l_slices_partitionEqualCmpFunc_int_2 : List GOp := [⟨(some 27), .mv (.t 1), none⟩,
    ⟨(some 28), .bin .add (.t 27) (.c (.int .i64 1)), none⟩,
    ⟨(some 29), .mv (.t 2), none⟩,
    ⟨(some 30), .bin .sub (.t 29) (.c (.int .i64 1)), none⟩,
    ⟨(some 11), .mv (.t 28), none⟩,
    ⟨(some 12), .mv (.t 30), none⟩]
def slices_partitionEqualCmpFunc_int_2 : IR := .ops l_slices_partitionEqualCmpFunc_int_2
@[go_sem] theorem w_slices_partitionEqualCmpFunc_int_2 : wp P slices_partitionEqualCmpFunc_int_2 Q e H = wpL P l_slices_partitionEqualCmpFunc_int_2 (Q .normal) e H := idE rfl
def l_slices_partitionEqualCmpFunc_int_3 : List GOp := [⟨(some 31), .mv (.t 11), none⟩,
    ⟨(some 32), .mv (.t 12), none⟩,
    ⟨(some 33), .bin .leq (.t 31) (.t 32), none⟩,
    ⟨(some 34), .mv (.t 33), none⟩,
    ⟨(some 35), .mv (.t 4), (some (34, true))⟩,
    ⟨(some 36), .mv (.t 0), (some (34, true))⟩,
    ⟨(some 37), .mv (.t 1), (some (34, true))⟩,
    ⟨(some 38), .iaddr (.t 36) (.t 37) 1, (some (34, true))⟩,
    ⟨(some 39), .load (.t 38) 1 false, (some (34, true))⟩,
    ⟨(some 40), .mv (.t 0), (some (34, true))⟩,
    ⟨(some 41), .mv (.t 11), (some (34, true))⟩,
    ⟨(some 42), .iaddr (.t 40) (.t 41) 1, (some (34, true))⟩,
    ⟨(some 43), .load (.t 42) 1 false, (some (34, true))⟩,
    ⟨(some 44), .callv (.t 35) [(.t 39), (.t 43)], (some (34, true))⟩,
    ⟨(some 45), .bin .lss (.t 44) (.c (.int .i64 0)), (some (34, true))⟩,
    ⟨(some 46), .un .not (.t 45), (some (34, true))⟩,
    ⟨(some 47), .pick (.t 34) (.t 46) (.c (.bool false)), none⟩]
@[go_sem] theorem g_slices_partitionEqualCmpFunc_int_3_0 : gAt l_slices_partitionEqualCmpFunc_int_3 0 = ⟨(some 31), .mv (.t 11), none⟩ := idE rfl
@[go_sem] theorem g_slices_partitionEqualCmpFunc_int_3_1 : gAt l_slices_partitionEqualCmpFunc_int_3 1 = ⟨(some 32), .mv (.t 12), none⟩ := idE rfl
@[go_sem] theorem g_slices_partitionEqualCmpFunc_int_3_2 : gAt l_slices_partitionEqualCmpFunc_int_3 2 = ⟨(some 33), .bin .leq (.t 31) (.t 32), none⟩ := idE rfl
@[go_sem] theorem g_slices_partitionEqualCmpFunc_int_3_3 : gAt l_slices_partitionEqualCmpFunc_int_3 3 = ⟨(some 34), .mv (.t 33), none⟩ := idE rfl
@[go_sem] theorem g_slices_partitionEqualCmpFunc_int_3_4 : gAt l_slices_partitionEqualCmpFunc_int_3 4 = ⟨(some 35), .mv (.t 4), (some (34, true))⟩ := idE rfl
@[go_sem] theorem g_slices_partitionEqualCmpFunc_int_3_5 : gAt l_slices_partitionEqualCmpFunc_int_3 5 = ⟨(some 36), .mv (.t 0), (some (34, true))⟩ := idE rfl
@[go_sem] theorem g_slices_partitionEqualCmpFunc_int_3_6 : gAt l_slices_partitionEqualCmpFunc_int_3 6 = ⟨(some 37), .mv (.t 1), (some (34, true))⟩ := idE rfl
@[go_sem] theorem g_slices_partitionEqualCmpFunc_int_3_7 : gAt l_slices_partitionEqualCmpFunc_int_3 7 = ⟨(some 38), .iaddr (.t 36) (.t 37) 1, (some (34, true))⟩ := idE rfl
@[go_sem] theorem g_slices_partitionEqualCmpFunc_int_3_8 : gAt l_slices_partitionEqualCmpFunc_int_3 8 = ⟨(some 39), .load (.t 38) 1 false, (some (34, true))⟩ := idE rfl
@[go_sem] theorem g_slices_partitionEqualCmpFunc_int_3_9 : gAt l_slices_partitionEqualCmpFunc_int_3 9 = ⟨(some 40), .mv (.t 0), (some (34, true))⟩ := idE rfl
@[go_sem] theorem g_slices_partitionEqualCmpFunc_int_3_10 : gAt l_slices_partitionEqualCmpFunc_int_3 10 = ⟨(some 41), .mv (.t 11), (some (34, true))⟩ := idE rfl
@[go_sem] theorem g_slices_partitionEqualCmpFunc_int_3_11 : gAt l_slices_partitionEqualCmpFunc_int_3 11 = ⟨(some 42), .iaddr (.t 40) (.t 41) 1, (some (34, true))⟩ := idE rfl
@[go_sem] theorem g_slices_partitionEqualCmpFunc_int_3_12 : gAt l_slices_partitionEqualCmpFunc_int_3 12 = ⟨(some 43), .load (.t 42) 1 false, (some (34, true))⟩ := idE rfl
@[go_sem] theorem g_slices_partitionEqualCmpFunc_int_3_13 : gAt l_slices_partitionEqualCmpFunc_int_3 13 = ⟨(some 44), .callv (.t 35) [(.t 39), (.t 43)], (some (34, true))⟩ := idE rfl
@[go_sem] theorem g_slices_partitionEqualCmpFunc_int_3_14 : gAt l_slices_partitionEqualCmpFunc_int_3 14 = ⟨(some 45), .bin .lss (.t 44) (.c (.int .i64 0)), (some (34, true))⟩ := idE rfl
@[go_sem] theorem g_slices_partitionEqualCmpFunc_int_3_15 : gAt l_slices_partitionEqualCmpFunc_int_3 15 = ⟨(some 46), .un .not (.t 45), (some (34, true))⟩ := idE rfl
@[go_sem] theorem g_slices_partitionEqualCmpFunc_int_3_16 : gAt l_slices_partitionEqualCmpFunc_int_3 16 = ⟨(some 47), .pick (.t 34) (.t 46) (.c (.bool false)), none⟩ := idE rfl
def slices_partitionEqualCmpFunc_int_3 : IR := .dops l_slices_partitionEqualCmpFunc_int_3 [(0, []), (1, []), (2, []), (3, []), (4, []), (5, []), (6, []), (7, []), (8, []), (9, []), (10, []), (11, []), (12, []), (13, []), (14, []), (15, []), (16, [])]
@[go_sem] theorem w_slices_partitionEqualCmpFunc_int_3 : wp P slices_partitionEqualCmpFunc_int_3 Q e H = wpD P l_slices_partitionEqualCmpFunc_int_3 [(0, []), (1, []), (2, []), (3, []), (4, []), (5, []), (6, []), (7, []), (8, []), (9, []), (10, []), (11, []), (12, []), (13, []), (14, []), (15, []), (16, [])] (Q .normal) e H := idE rfl
def slices_partitionEqualCmpFunc_int_4 : IR := .cond (.t 47) .skip (.exit 2)
@[go_sem] theorem w_slices_partitionEqualCmpFunc_int_4 : wp P slices_partitionEqualCmpFunc_int_4 Q e H = condW P ((.t 47) : X) .skip (.exit 2) Q e H := idE rfl
@[go_sem] def l_slices_partitionEqualCmpFunc_int_5 : List GOp := [⟨(some 48), .mv (.t 11), none⟩,
    ⟨(some 49), .bin .add (.t 48) (.c (.int .i64 1)), none⟩,
    ⟨(some 11), .mv (.t 49), none⟩]
def slices_partitionEqualCmpFunc_int_5 : IR := .ops l_slices_partitionEqualCmpFunc_int_5
@[go_sem] theorem w_slices_partitionEqualCmpFunc_int_5 : wp P slices_partitionEqualCmpFunc_int_5 Q e H = wpL P l_slices_partitionEqualCmpFunc_int_5 (Q .normal) e H := idE rfl
def slices_partitionEqualCmpFunc_int_6 : IR := .block 3 slices_partitionEqualCmpFunc_int_5
@[go_sem] theorem w_slices_partitionEqualCmpFunc_int_6 : wp P slices_partitionEqualCmpFunc_int_6 Q e H = wp P slices_partitionEqualCmpFunc_int_5 (blockQ 3 Q) e H := idE rfl
def slices_partitionEqualCmpFunc_int_7 : IR := .loop (.seq (.seq slices_partitionEqualCmpFunc_int_3 slices_partitionEqualCmpFunc_int_4) slices_partitionEqualCmpFunc_int_6)
def slices_partitionEqualCmpFunc_int_8 : IR := .block 2 slices_partitionEqualCmpFunc_int_7
@[go_sem] theorem w_slices_partitionEqualCmpFunc_int_8 : wp P slices_partitionEqualCmpFunc_int_8 Q e H = wp P slices_partitionEqualCmpFunc_int_7 (blockQ 2 Q) e H := idE rfl
def l_slices_partitionEqualCmpFunc_int_9 : List GOp := [⟨(some 50), .mv (.t 11), none⟩,
    ⟨(some 51), .mv (.t 12), none⟩,
    ⟨(some 52), .bin .leq (.t 50) (.t 51), none⟩,
    ⟨(some 53), .mv (.t 52), none⟩,
    ⟨(some 54), .mv (.t 4), (some (53, true))⟩,
    ⟨(some 55), .mv (.t 0), (some (53, true))⟩,
    ⟨(some 56), .mv (.t 1), (some (53, true))⟩,
    ⟨(some 57), .iaddr (.t 55) (.t 56) 1, (some (53, true))⟩,
    ⟨(some 58), .load (.t 57) 1 false, (some (53, true))⟩,
    ⟨(some 59), .mv (.t 0), (some (53, true))⟩,
    ⟨(some 60), .mv (.t 12), (some (53, true))⟩,
    ⟨(some 61), .iaddr (.t 59) (.t 60) 1, (some (53, true))⟩,
    ⟨(some 62), .load (.t 61) 1 false, (some (53, true))⟩,
    ⟨(some 63), .callv (.t 54) [(.t 58), (.t 62)], (some (53, true))⟩,
    ⟨(some 64), .bin .lss (.t 63) (.c (.int .i64 0)), (some (53, true))⟩,
    ⟨(some 65), .pick (.t 53) (.t 64) (.c (.bool false)), none⟩]
@[go_sem] theorem g_slices_partitionEqualCmpFunc_int_9_0 : gAt l_slices_partitionEqualCmpFunc_int_9 0 = ⟨(some 50), .mv (.t 11), none⟩ := idE rfl
@[go_sem] theorem g_slices_partitionEqualCmpFunc_int_9_1 : gAt l_slices_partitionEqualCmpFunc_int_9 1 = ⟨(some 51), .mv (.t 12), none⟩ := idE rfl
@[go_sem] theorem g_slices_partitionEqualCmpFunc_int_9_2 : gAt l_slices_partitionEqualCmpFunc_int_9 2 = ⟨(some 52), .bin .leq (.t 50) (.t 51), none⟩ := idE rfl
@[go_sem] theorem g_slices_partitionEqualCmpFunc_int_9_3 : gAt l_slices_partitionEqualCmpFunc_int_9 3 = ⟨(some 53), .mv (.t 52), none⟩ := idE rfl
@[go_sem] theorem g_slices_partitionEqualCmpFunc_int_9_4 : gAt l_slices_partitionEqualCmpFunc_int_9 4 = ⟨(some 54), .mv (.t 4), (some (53, true))⟩ := idE rfl
@[go_sem] theorem g_slices_partitionEqualCmpFunc_int_9_5 : gAt l_slices_partitionEqualCmpFunc_int_9 5 = ⟨(some 55), .mv (.t 0), (some (53, true))⟩ := idE rfl
@[go_sem] theorem g_slices_partitionEqualCmpFunc_int_9_6 : gAt l_slices_partitionEqualCmpFunc_int_9 6 = ⟨(some 56), .mv (.t 1), (some (53, true))⟩ := idE rfl
@[go_sem] theorem g_slices_partitionEqualCmpFunc_int_9_7 : gAt l_slices_partitionEqualCmpFunc_int_9 7 = ⟨(some 57), .iaddr (.t 55) (.t 56) 1, (some (53, true))⟩ := idE rfl
@[go_sem] theorem g_slices_partitionEqualCmpFunc_int_9_8 : gAt l_slices_partitionEqualCmpFunc_int_9 8 = ⟨(some 58), .load (.t 57) 1 false, (some (53, true))⟩ := idE rfl
@[go_sem] theorem g_slices_partitionEqualCmpFunc_int_9_9 : gAt l_slices_partitionEqualCmpFunc_int_9 9 = ⟨(some 59), .mv (.t 0), (some (53, true))⟩ := idE rfl
@[go_sem] theorem g_slices_partitionEqualCmpFunc_int_9_10 : gAt l_slices_partitionEqualCmpFunc_int_9 10 = ⟨(some 60), .mv (.t 12), (some (53, true))⟩ := idE rfl
@[go_sem] theorem g_slices_partitionEqualCmpFunc_int_9_11 : gAt l_slices_partitionEqualCmpFunc_int_9 11 = ⟨(some 61), .iaddr (.t 59) (.t 60) 1, (some (53, true))⟩ := idE rfl
@[go_sem] theorem g_slices_partitionEqualCmpFunc_int_9_12 : gAt l_slices_partitionEqualCmpFunc_int_9 12 = ⟨(some 62), .load (.t 61) 1 false, (some (53, true))⟩ := idE rfl
@[go_sem] theorem g_slices_partitionEqualCmpFunc_int_9_13 : gAt l_slices_partitionEqualCmpFunc_int_9 13 = ⟨(some 63), .callv (.t 54) [(.t 58), (.t 62)], (some (53, true))⟩ := idE rfl
@[go_sem] theorem g_slices_partitionEqualCmpFunc_int_9_14 : gAt l_slices_partitionEqualCmpFunc_int_9 14 = ⟨(some 64), .bin .lss (.t 63) (.c (.int .i64 0)), (some (53, true))⟩ := idE rfl
@[go_sem] theorem g_slices_partitionEqualCmpFunc_int_9_15 : gAt l_slices_partitionEqualCmpFunc_int_9 15 = ⟨(some 65), .pick (.t 53) (.t 64) (.c (.bool false)), none⟩ := idE rfl
def slices_partitionEqualCmpFunc_int_9 : IR := .dops l_slices_partitionEqualCmpFunc_int_9 [(0, []), (1, []), (2, []), (3, []), (4, []), (5, []), (6, []), (7, []), (8, []), (9, []), (10, []), (11, []), (12, []), (13, []), (14, []), (15, [])]
@[go_sem] theorem w_slices_partitionEqualCmpFunc_int_9 : wp P slices_partitionEqualCmpFunc_int_9 Q e H = wpD P l_slices_partitionEqualCmpFunc_int_9 [(0, []), (1, []), (2, []), (3, []), (4, []), (5, []), (6, []), (7, []), (8, []), (9, []), (10, []), (11, []), (12, []), (13, []), (14, []), (15, [])] (Q .normal) e H := idE rfl
def slices_partitionEqualCmpFunc_int_10 : IR := .cond (.t 65) .skip (.exit 4)
@[go_sem] theorem w_slices_partitionEqualCmpFunc_int_10 : wp P slices_partitionEqualCmpFunc_int_10 Q e H = condW P ((.t 65) : X) .skip (.exit 4) Q e H := idE rfl
@[go_sem] def l_slices_partitionEqualCmpFunc_int_11 : List GOp := [⟨(some 66), .mv (.t 12), none⟩,
    ⟨(some 67), .bin .sub (.t 66) (.c (.int .i64 1)), none⟩,
    ⟨(some 12), .mv (.t 67), none⟩]
def slices_partitionEqualCmpFunc_int_11 : IR := .ops l_slices_partitionEqualCmpFunc_int_11
@[go_sem] theorem w_slices_partitionEqualCmpFunc_int_11 : wp P slices_partitionEqualCmpFunc_int_11 Q e H = wpL P l_slices_partitionEqualCmpFunc_int_11 (Q .normal) e H := idE rfl
def slices_partitionEqualCmpFunc_int_12 : IR := .block 5 slices_partitionEqualCmpFunc_int_11
@[go_sem] theorem w_slices_partitionEqualCmpFunc_int_12 : wp P slices_partitionEqualCmpFunc_int_12 Q e H = wp P slices_partitionEqualCmpFunc_int_11 (blockQ 5 Q) e H := idE rfl
def slices_partitionEqualCmpFunc_int_13 : IR := .loop (.seq (.seq slices_partitionEqualCmpFunc_int_9 slices_partitionEqualCmpFunc_int_10) slices_partitionEqualCmpFunc_int_12)
def slices_partitionEqualCmpFunc_int_14 : IR := .block 4 slices_partitionEqualCmpFunc_int_13
@[go_sem] theorem w_slices_partitionEqualCmpFunc_int_14 : wp P slices_partitionEqualCmpFunc_int_14 Q e H = wp P slices_partitionEqualCmpFunc_int_13 (blockQ 4 Q) e H := idE rfl
@[go_sem] def l_slices_partitionEqualCmpFunc_int_15 : List GOp := [⟨(some 68), .mv (.t 11), none⟩,
    ⟨(some 69), .mv (.t 12), none⟩,
    ⟨(some 70), .bin .gtr (.t 68) (.t 69), none⟩]
def slices_partitionEqualCmpFunc_int_15 : IR := .ops l_slices_partitionEqualCmpFunc_int_15
@[go_sem] theorem w_slices_partitionEqualCmpFunc_int_15 : wp P slices_partitionEqualCmpFunc_int_15 Q e H = wpL P l_slices_partitionEqualCmpFunc_int_15 (Q .normal) e H := idE rfl
def slices_partitionEqualCmpFunc_int_16 : IR := .cond (.t 70) (.exit 0) .skip
@[go_sem] theorem w_slices_partitionEqualCmpFunc_int_16 : wp P slices_partitionEqualCmpFunc_int_16 Q e H = condW P ((.t 70) : X) (.exit 0) .skip Q e H := idE rfl
def l_slices_partitionEqualCmpFunc_int_17 : List GOp := [⟨(some 71), .mv (.t 0), none⟩,
    ⟨(some 72), .mv (.t 11), none⟩,
    ⟨(some 73), .mv (.t 0), none⟩,
    ⟨(some 74), .mv (.t 12), none⟩,
    ⟨(some 75), .mv (.t 0), none⟩,
    ⟨(some 76), .mv (.t 12), none⟩,
    ⟨(some 77), .iaddr (.t 75) (.t 76) 1, none⟩,
    ⟨(some 78), .load (.t 77) 1 false, none⟩,
    ⟨(some 79), .mv (.t 0), none⟩,
    ⟨(some 80), .mv (.t 11), none⟩,
    ⟨(some 81), .iaddr (.t 79) (.t 80) 1, none⟩,
    ⟨(some 82), .load (.t 81) 1 false, none⟩,
    ⟨(some 83), .iaddr (.t 71) (.t 72) 1, none⟩,
    ⟨none, .store (.t 83) 1 (.t 78), none⟩,
    ⟨(some 84), .iaddr (.t 73) (.t 74) 1, none⟩,
    ⟨none, .store (.t 84) 1 (.t 82), none⟩]
@[go_sem] theorem g_slices_partitionEqualCmpFunc_int_17_0 : gAt l_slices_partitionEqualCmpFunc_int_17 0 = ⟨(some 71), .mv (.t 0), none⟩ := idE rfl
@[go_sem] theorem g_slices_partitionEqualCmpFunc_int_17_1 : gAt l_slices_partitionEqualCmpFunc_int_17 1 = ⟨(some 72), .mv (.t 11), none⟩ := idE rfl
@[go_sem] theorem g_slices_partitionEqualCmpFunc_int_17_2 : gAt l_slices_partitionEqualCmpFunc_int_17 2 = ⟨(some 73), .mv (.t 0), none⟩ := idE rfl
@[go_sem] theorem g_slices_partitionEqualCmpFunc_int_17_3 : gAt l_slices_partitionEqualCmpFunc_int_17 3 = ⟨(some 74), .mv (.t 12), none⟩ := idE rfl
@[go_sem] theorem g_slices_partitionEqualCmpFunc_int_17_4 : gAt l_slices_partitionEqualCmpFunc_int_17 4 = ⟨(some 75), .mv (.t 0), none⟩ := idE rfl
@[go_sem] theorem g_slices_partitionEqualCmpFunc_int_17_5 : gAt l_slices_partitionEqualCmpFunc_int_17 5 = ⟨(some 76), .mv (.t 12), none⟩ := idE rfl
@[go_sem] theorem g_slices_partitionEqualCmpFunc_int_17_6 : gAt l_slices_partitionEqualCmpFunc_int_17 6 = ⟨(some 77), .iaddr (.t 75) (.t 76) 1, none⟩ := idE rfl
@[go_sem] theorem g_slices_partitionEqualCmpFunc_int_17_7 : gAt l_slices_partitionEqualCmpFunc_int_17 7 = ⟨(some 78), .load (.t 77) 1 false, none⟩ := idE rfl
@[go_sem] theorem g_slices_partitionEqualCmpFunc_int_17_8 : gAt l_slices_partitionEqualCmpFunc_int_17 8 = ⟨(some 79), .mv (.t 0), none⟩ := idE rfl
@[go_sem] theorem g_slices_partitionEqualCmpFunc_int_17_9 : gAt l_slices_partitionEqualCmpFunc_int_17 9 = ⟨(some 80), .mv (.t 11), none⟩ := idE rfl
@[go_sem] theorem g_slices_partitionEqualCmpFunc_int_17_10 : gAt l_slices_partitionEqualCmpFunc_int_17 10 = ⟨(some 81), .iaddr (.t 79) (.t 80) 1, none⟩ := idE rfl
@[go_sem] theorem g_slices_partitionEqualCmpFunc_int_17_11 : gAt l_slices_partitionEqualCmpFunc_int_17 11 = ⟨(some 82), .load (.t 81) 1 false, none⟩ := idE rfl
@[go_sem] theorem g_slices_partitionEqualCmpFunc_int_17_12 : gAt l_slices_partitionEqualCmpFunc_int_17 12 = ⟨(some 83), .iaddr (.t 71) (.t 72) 1, none⟩ := idE rfl
@[go_sem] theorem g_slices_partitionEqualCmpFunc_int_17_13 : gAt l_slices_partitionEqualCmpFunc_int_17 13 = ⟨none, .store (.t 83) 1 (.t 78), none⟩ := idE rfl
@[go_sem] theorem g_slices_partitionEqualCmpFunc_int_17_14 : gAt l_slices_partitionEqualCmpFunc_int_17 14 = ⟨(some 84), .iaddr (.t 73) (.t 74) 1, none⟩ := idE rfl
@[go_sem] theorem g_slices_partitionEqualCmpFunc_int_17_15 : gAt l_slices_partitionEqualCmpFunc_int_17 15 = ⟨none, .store (.t 84) 1 (.t 82), none⟩ := idE rfl
def slices_partitionEqualCmpFunc_int_17 : IR := .dops l_slices_partitionEqualCmpFunc_int_17 [(0, []), (1, []), (2, []), (3, []), (4, []), (5, []), (6, []), (7, []), (8, []), (9, []), (10, []), (11, []), (12, []), (13, []), (14, []), (15, [])]
@[go_sem] theorem w_slices_partitionEqualCmpFunc_int_17 : wp P slices_partitionEqualCmpFunc_int_17 Q e H = wpD P l_slices_partitionEqualCmpFunc_int_17 [(0, []), (1, []), (2, []), (3, []), (4, []), (5, []), (6, []), (7, []), (8, []), (9, []), (10, []), (11, []), (12, []), (13, []), (14, []), (15, [])] (Q .normal) e H := idE rfl
@[go_sem] def l_slices_partitionEqualCmpFunc_int_18 : List GOp := [⟨(some 85), .mv (.t 11), none⟩,
    ⟨(some 86), .bin .add (.t 85) (.c (.int .i64 1)), none⟩,
    ⟨(some 11), .mv (.t 86), none⟩]
def slices_partitionEqualCmpFunc_int_18 : IR := .ops l_slices_partitionEqualCmpFunc_int_18
@[go_sem] theorem w_slices_partitionEqualCmpFunc_int_18 : wp P slices_partitionEqualCmpFunc_int_18 Q e H = wpL P l_slices_partitionEqualCmpFunc_int_18 (Q .normal) e H := idE rfl
@[go_sem] def l_slices_partitionEqualCmpFunc_int_19 : List GOp := [⟨(some 87), .mv (.t 12), none⟩,
    ⟨(some 88), .bin .sub (.t 87) (.c (.int .i64 1)), none⟩,
    ⟨(some 12), .mv (.t 88), none⟩]
def slices_partitionEqualCmpFunc_int_19 : IR := .ops l_slices_partitionEqualCmpFunc_int_19
@[go_sem] theorem w_slices_partitionEqualCmpFunc_int_19 : wp P slices_partitionEqualCmpFunc_int_19 Q e H = wpL P l_slices_partitionEqualCmpFunc_int_19 (Q .normal) e H := idE rfl
def slices_partitionEqualCmpFunc_int_20 : IR := .block 1 (.seq slices_partitionEqualCmpFunc_int_8 (.seq slices_partitionEqualCmpFunc_int_14 (.seq (.seq slices_partitionEqualCmpFunc_int_15 slices_partitionEqualCmpFunc_int_16) (.seq slices_partitionEqualCmpFunc_int_17 (.seq slices_partitionEqualCmpFunc_int_18 slices_partitionEqualCmpFunc_int_19)))))
@[go_sem] theorem w_slices_partitionEqualCmpFunc_int_20 : wp P slices_partitionEqualCmpFunc_int_20 Q e H = wp P (.seq slices_partitionEqualCmpFunc_int_8 (.seq slices_partitionEqualCmpFunc_int_14 (.seq (.seq slices_partitionEqualCmpFunc_int_15 slices_partitionEqualCmpFunc_int_16) (.seq slices_partitionEqualCmpFunc_int_17 (.seq slices_partitionEqualCmpFunc_int_18 slices_partitionEqualCmpFunc_int_19))))) (blockQ 1 Q) e H := idE rfl
def slices_partitionEqualCmpFunc_int_21 : IR := .loop slices_partitionEqualCmpFunc_int_20
def slices_partitionEqualCmpFunc_int_22 : IR := .block 0 slices_partitionEqualCmpFunc_int_21
@[go_sem] theorem w_slices_partitionEqualCmpFunc_int_22 : wp P slices_partitionEqualCmpFunc_int_22 Q e H = wp P slices_partitionEqualCmpFunc_int_21 (blockQ 0 Q) e H := idE rfl
@[go_sem] def l_slices_partitionEqualCmpFunc_int_23 : List GOp := [⟨(some 89), .mv (.t 11), none⟩,
    ⟨(some 10), .mv (.t 89), none⟩]
def slices_partitionEqualCmpFunc_int_23 : IR := .ops l_slices_partitionEqualCmpFunc_int_23
@[go_sem] theorem w_slices_partitionEqualCmpFunc_int_23 : wp P slices_partitionEqualCmpFunc_int_23 Q e H = wpL P l_slices_partitionEqualCmpFunc_int_23 (Q .normal) e H := idE rfl
@[go_sem] def l_slices_partitionCmpFunc_int_0 : List GOp := [⟨(some 10), .mv (.c (.int .i64 0)), none⟩,
    ⟨(some 11), .mv (.c (.bool false)), none⟩]
def slices_partitionCmpFunc_int_0 : IR := .ops l_slices_partitionCmpFunc_int_0
@[go_sem] theorem w_slices_partitionCmpFunc_int_0 : wp P slices_partitionCmpFunc_int_0 Q e H = wpL P l_slices_partitionCmpFunc_int_0 (Q .normal) e H := idE rfl
def l_slices_partitionCmpFunc_int_1 : List GOp := [⟨(some 14), .mv (.t 0), none⟩,
    ⟨(some 15), .mv (.t 1), none⟩,
    ⟨(some 16), .mv (.t 0), none⟩,
    ⟨(some 17), .mv (.t 3), none⟩,
    ⟨(some 18), .mv (.t 0), none⟩,
    ⟨(some 19), .mv (.t 3), none⟩,
    ⟨(some 20), .iaddr (.t 18) (.t 19) 1, none⟩,
    ⟨(some 21), .load (.t 20) 1 false, none⟩,
    ⟨(some 22), .mv (.t 0), none⟩,
    ⟨(some 23), .mv (.t 1), none⟩,
    ⟨(some 24), .iaddr (.t 22) (.t 23) 1, none⟩,
    ⟨(some 25), .load (.t 24) 1 false, none⟩,
    ⟨(some 26), .iaddr (.t 14) (.t 15) 1, none⟩,
    ⟨none, .store (.t 26) 1 (.t 21), none⟩,
    ⟨(some 27), .iaddr (.t 16) (.t 17) 1, none⟩,
    ⟨none, .store (.t 27) 1 (.t 25), none⟩]
@[go_sem] theorem g_slices_partitionCmpFunc_int_1_0 : gAt l_slices_partitionCmpFunc_int_1 0 = ⟨(some 14), .mv (.t 0), none⟩ := idE rfl
@[go_sem] theorem g_slices_partitionCmpFunc_int_1_1 : gAt l_slices_partitionCmpFunc_int_1 1 = ⟨(some 15), .mv (.t 1), none⟩ := idE rfl
@[go_sem] theorem g_slices_partitionCmpFunc_int_1_2 : gAt l_slices_partitionCmpFunc_int_1 2 = ⟨(some 16), .mv (.t 0), none⟩ := idE rfl
@[go_sem] theorem g_slices_partitionCmpFunc_int_1_3 : gAt l_slices_partitionCmpFunc_int_1 3 = ⟨(some 17), .mv (.t 3), none⟩ := idE rfl
@[go_sem] theorem g_slices_partitionCmpFunc_int_1_4 : gAt l_slices_partitionCmpFunc_int_1 4 = ⟨(some 18), .mv (.t 0), none⟩ := idE rfl
@[go_sem] theorem g_slices_partitionCmpFunc_int_1_5 : gAt l_slices_partitionCmpFunc_int_1 5 = ⟨(some 19), .mv (.t 3), none⟩ := idE rfl
@[go_sem] theorem g_slices_partitionCmpFunc_int_1_6 : gAt l_slices_partitionCmpFunc_int_1 6 = ⟨(some 20), .iaddr (.t 18) (.t 19) 1, none⟩ := idE rfl
@[go_sem] theorem g_slices_partitionCmpFunc_int_1_7 : gAt l_slices_partitionCmpFunc_int_1 7 = ⟨(some 21), .load (.t 20) 1 false, none⟩ := idE rfl
@[go_sem] theorem g_slices_partitionCmpFunc_int_1_8 : gAt l_slices_partitionCmpFunc_int_1 8 = ⟨(some 22), .mv (.t 0), none⟩ := idE rfl
@[go_sem] theorem g_slices_partitionCmpFunc_int_1_9 : gAt l_slices_partitionCmpFunc_int_1 9 = ⟨(some 23), .mv (.t 1), none⟩ := idE rfl
@[go_sem] theorem g_slices_partitionCmpFunc_int_1_10 : gAt l_slices_partitionCmpFunc_int_1 10 = ⟨(some 24), .iaddr (.t 22) (.t 23) 1, none⟩ := idE rfl
@[go_sem] theorem g_slices_partitionCmpFunc_int_1_11 : gAt l_slices_partitionCmpFunc_int_1 11 = ⟨(some 25), .load (.t 24) 1 false, none⟩ := idE rfl
@[go_sem] theorem g_slices_partitionCmpFunc_int_1_12 : gAt l_slices_partitionCmpFunc_int_1 12 = ⟨(some 26), .iaddr (.t 14) (.t 15) 1, none⟩ := idE rfl
@[go_sem] theorem g_slices_partitionCmpFunc_int_1_13 : gAt l_slices_partitionCmpFunc_int_1 13 = ⟨none, .store (.t 26) 1 (.t 21), none⟩ := idE rfl
@[go_sem] theorem g_slices_partitionCmpFunc_int_1_14 : gAt l_slices_partitionCmpFunc_int_1 14 = ⟨(some 27), .iaddr (.t 16) (.t 17) 1, none⟩ := idE rfl
@[go_sem] theorem g_slices_partitionCmpFunc_int_1_15 : gAt l_slices_partitionCmpFunc_int_1 15 = ⟨none, .store (.t 27) 1 (.t 25), none⟩ := idE rfl
def slices_partitionCmpFunc_int_1 : IR := .dops l_slices_partitionCmpFunc_int_1 [(0, []), (1, []), (2, []), (3, []), (4, []), (5, []), (6, []), (7, []), (8, []), (9, []), (10, []), (11, []), (12, []), (13, []), (14, []), (15, [])]
@[go_sem] theorem w_slices_partitionCmpFunc_int_1 : wp P slices_partitionCmpFunc_int_1 Q e H = wpD P l_slices_partitionCmpFunc_int_1 [(0, []), (1, []), (2, []), (3, []), (4, []), (5, []), (6, []), (7, []), (8, []), (9, []), (10, []), (11, []), (12, []), (13, []), (14, []), (15, [])] (Q .normal) e H := idE rfl
@[go_sem] def l_slices_partitionCmpFunc_int_2 : List GOp := [⟨(some 28), .mv (.t 1), none⟩,
    ⟨(some 29), .bin .add (.t 28) (.c (.int .i64 1)), none⟩,
    ⟨(some 30), .mv (.t 2), none⟩,
    ⟨(some 31), .bin .sub (.t 30) (.c (.int .i64 1)), none⟩,
    ⟨(some 12), .mv (.t 29), none⟩,
    ⟨(some 13), .mv (.t 31), none⟩]
def slices_partitionCmpFunc_int_2 : IR := .ops l_slices_partitionCmpFunc_int_2
@[go_sem] theorem w_slices_partitionCmpFunc_int_2 : wp P slices_partitionCmpFunc_int_2 Q e H = wpL P l_slices_partitionCmpFunc_int_2 (Q .normal) e H := idE rfl
def l_slices_partitionCmpFunc_int_3 : List GOp := [⟨(some 32), .mv (.t 12), none⟩,
    ⟨(some 33), .mv (.t 13), none⟩,
    ⟨(some 34), .bin .leq (.t 32) (.t 33), none⟩,
    ⟨(some 35), .mv (.t 34), none⟩,
    ⟨(some 36), .mv (.t 4), (some (35, true))⟩,
    ⟨(some 37), .mv (.t 0), (some (35, true))⟩,
    ⟨(some 38), .mv (.t 12), (some (35, true))⟩,
    ⟨(some 39), .iaddr (.t 37) (.t 38) 1, (some (35, true))⟩,
    ⟨(some 40), .load (.t 39) 1 false, (some (35, true))⟩,
    ⟨(some 41), .mv (.t 0), (some (35, true))⟩,
    ⟨(some 42), .mv (.t 1), (some (35, true))⟩,
    ⟨(some 43), .iaddr (.t 41) (.t 42) 1, (some (35, true))⟩,
    ⟨(some 44), .load (.t 43) 1 false, (some (35, true))⟩,
    ⟨(some 45), .callv (.t 36) [(.t 40), (.t 44)], (some (35, true))⟩,
    ⟨(some 46), .bin .lss (.t 45) (.c (.int .i64 0)), (some (35, true))⟩,
    ⟨(some 47), .pick (.t 35) (.t 46) (.c (.bool false)), none⟩]
@[go_sem] theorem g_slices_partitionCmpFunc_int_3_0 : gAt l_slices_partitionCmpFunc_int_3 0 = ⟨(some 32), .mv (.t 12), none⟩ := idE rfl
@[go_sem] theorem g_slices_partitionCmpFunc_int_3_1 : gAt l_slices_partitionCmpFunc_int_3 1 = ⟨(some 33), .mv (.t 13), none⟩ := idE rfl
@[go_sem] theorem g_slices_partitionCmpFunc_int_3_2 : gAt l_slices_partitionCmpFunc_int_3 2 = ⟨(some 34), .bin .leq (.t 32) (.t 33), none⟩ := idE rfl
@[go_sem] theorem g_slices_partitionCmpFunc_int_3_3 : gAt l_slices_partitionCmpFunc_int_3 3 = ⟨(some 35), .mv (.t 34), none⟩ := idE rfl
@[go_sem] theorem g_slices_partitionCmpFunc_int_3_4 : gAt l_slices_partitionCmpFunc_int_3 4 = ⟨(some 36), .mv (.t 4), (some (35, true))⟩ := idE rfl
@[go_sem] theorem g_slices_partitionCmpFunc_int_3_5 : gAt l_slices_partitionCmpFunc_int_3 5 = ⟨(some 37), .mv (.t 0), (some (35, true))⟩ := idE rfl
@[go_sem] theorem g_slices_partitionCmpFunc_int_3_6 : gAt l_slices_partitionCmpFunc_int_3 6 = ⟨(some 38), .mv (.t 12), (some (35, true))⟩ := idE rfl
@[go_sem] theorem g_slices_partitionCmpFunc_int_3_7 : gAt l_slices_partitionCmpFunc_int_3 7 = ⟨(some 39), .iaddr (.t 37) (.t 38) 1, (some (35, true))⟩ := idE rfl
@[go_sem] theorem g_slices_partitionCmpFunc_int_3_8 : gAt l_slices_partitionCmpFunc_int_3 8 = ⟨(some 40), .load (.t 39) 1 false, (some (35, true))⟩ := idE rfl
@[go_sem] theorem g_slices_partitionCmpFunc_int_3_9 : gAt l_slices_partitionCmpFunc_int_3 9 = ⟨(some 41), .mv (.t 0), (some (35, true))⟩ := idE rfl
@[go_sem] theorem g_slices_partitionCmpFunc_int_3_10 : gAt l_slices_partitionCmpFunc_int_3 10 = ⟨(some 42), .mv (.t 1), (some (35, true))⟩ := idE rfl
@[go_sem] theorem g_slices_partitionCmpFunc_int_3_11 : gAt l_slices_partitionCmpFunc_int_3 11 = ⟨(some 43), .iaddr (.t 41) (.t 42) 1, (some (35, true))⟩ := idE rfl
@[go_sem] theorem g_slices_partitionCmpFunc_int_3_12 : gAt l_slices_partitionCmpFunc_int_3 12 = ⟨(some 44), .load (.t 43) 1 false, (some (35, true))⟩ := idE rfl
@[go_sem] theorem g_slices_partitionCmpFunc_int_3_13 : gAt l_slices_partitionCmpFunc_int_3 13 = ⟨(some 45), .callv (.t 36) [(.t 40), (.t 44)], (some (35, true))⟩ := idE rfl
@[go_sem] theorem g_slices_partitionCmpFunc_int_3_14 : gAt l_slices_partitionCmpFunc_int_3 14 = ⟨(some 46), .bin .lss (.t 45) (.c (.int .i64 0)), (some (35, true))⟩ := idE rfl
@[go_sem] theorem g_slices_partitionCmpFunc_int_3_15 : gAt l_slices_partitionCmpFunc_int_3 15 = ⟨(some 47), .pick (.t 35) (.t 46) (.c (.bool false)), none⟩ := idE rfl
def slices_partitionCmpFunc_int_3 : IR := .dops l_slices_partitionCmpFunc_int_3 [(0, []), (1, []), (2, []), (3, []), (4, []), (5, []), (6, []), (7, []), (8, []), (9, []), (10, []), (11, []), (12, []), (13, []), (14, []), (15, [])]
@[go_sem] theorem w_slices_partitionCmpFunc_int_3 : wp P slices_partitionCmpFunc_int_3 Q e H = wpD P l_slices_partitionCmpFunc_int_3 [(0, []), (1, []), (2, []), (3, []), (4, []), (5, []), (6, []), (7, []), (8, []), (9, []), (10, []), (11, []), (12, []), (13, []), (14, []), (15, [])] (Q .normal) e H := idE rfl
def slices_partitionCmpFunc_int_4 : IR := .cond (.t 47) .skip (.exit 0)
@[go_sem] theorem w_slices_partitionCmpFunc_int_4 : wp P slices_partitionCmpFunc_int_4 Q e H = condW P ((.t 47) : X) .skip (.exit 0) Q e H := idE rfl
@[go_sem] def l_slices_partitionCmpFunc_int_5 : List GOp := [⟨(some 48), .mv (.t 12), none⟩,
    ⟨(some 49), .bin .add (.t 48) (.c (.int .i64 1)), none⟩,
    ⟨(some 12), .mv (.t 49), none⟩]
def slices_partitionCmpFunc_int_5 : IR := .ops l_slices_partitionCmpFunc_int_5
@[go_sem] theorem w_slices_partitionCmpFunc_int_5 : wp P slices_partitionCmpFunc_int_5 Q e H = wpL P l_slices_partitionCmpFunc_int_5 (Q .normal) e H := idE rfl
def slices_partitionCmpFunc_int_6 : IR := .block 1 slices_partitionCmpFunc_int_5
@[go_sem] theorem w_slices_partitionCmpFunc_int_6 : wp P slices_partitionCmpFunc_int_6 Q e H = wp P slices_partitionCmpFunc_int_5 (blockQ 1 Q) e H := idE rfl
def slices_partitionCmpFunc_int_7 : IR := .loop (.seq (.seq slices_partitionCmpFunc_int_3 slices_partitionCmpFunc_int_4) slices_partitionCmpFunc_int_6)
def slices_partitionCmpFunc_int_8 : IR := .block 0 slices_partitionCmpFunc_int_7
@[go_sem] theorem w_slices_partitionCmpFunc_int_8 : wp P slices_partitionCmpFunc_int_8 Q e H = wp P slices_partitionCmpFunc_int_7 (blockQ 0 Q) e H := idE rfl
def l_slices_partitionCmpFunc_int_9 : List GOp := [⟨(some 50), .mv (.t 12), none⟩,
    ⟨(some 51), .mv (.t 13), none⟩,
    ⟨(some 52), .bin .leq (.t 50) (.t 51), none⟩,
    ⟨(some 53), .mv (.t 52), none⟩,
    ⟨(some 54), .mv (.t 4), (some (53, true))⟩,
    ⟨(some 55), .mv (.t 0), (some (53, true))⟩,
    ⟨(some 56), .mv (.t 13), (some (53, true))⟩,
    ⟨(some 57), .iaddr (.t 55) (.t 56) 1, (some (53, true))⟩,
    ⟨(some 58), .load (.t 57) 1 false, (some (53, true))⟩,
    ⟨(some 59), .mv (.t 0), (some (53, true))⟩,
    ⟨(some 60), .mv (.t 1), (some (53, true))⟩,
    ⟨(some 61), .iaddr (.t 59) (.t 60) 1, (some (53, true))⟩,
    ⟨(some 62), .load (.t 61) 1 false, (some (53, true))⟩,
    ⟨(some 63), .callv (.t 54) [(.t 58), (.t 62)], (some (53, true))⟩,
    ⟨(some 64), .bin .lss (.t 63) (.c (.int .i64 0)), (some (53, true))⟩,
    ⟨(some 65), .un .not (.t 64), (some (53, true))⟩,
    ⟨(some 66), .pick (.t 53) (.t 65) (.c (.bool false)), none⟩]
@[go_sem] theorem g_slices_partitionCmpFunc_int_9_0 : gAt l_slices_partitionCmpFunc_int_9 0 = ⟨(some 50), .mv (.t 12), none⟩ := idE rfl
@[go_sem] theorem g_slices_partitionCmpFunc_int_9_1 : gAt l_slices_partitionCmpFunc_int_9 1 = ⟨(some 51), .mv (.t 13), none⟩ := idE rfl
@[go_sem] theorem g_slices_partitionCmpFunc_int_9_2 : gAt l_slices_partitionCmpFunc_int_9 2 = ⟨(some 52), .bin .leq (.t 50) (.t 51), none⟩ := idE rfl
@[go_sem] theorem g_slices_partitionCmpFunc_int_9_3 : gAt l_slices_partitionCmpFunc_int_9 3 = ⟨(some 53), .mv (.t 52), none⟩ := idE rfl
@[go_sem] theorem g_slices_partitionCmpFunc_int_9_4 : gAt l_slices_partitionCmpFunc_int_9 4 = ⟨(some 54), .mv (.t 4), (some (53, true))⟩ := idE rfl
@[go_sem] theorem g_slices_partitionCmpFunc_int_9_5 : gAt l_slices_partitionCmpFunc_int_9 5 = ⟨(some 55), .mv (.t 0), (some (53, true))⟩ := idE rfl
@[go_sem] theorem g_slices_partitionCmpFunc_int_9_6 : gAt l_slices_partitionCmpFunc_int_9 6 = ⟨(some 56), .mv (.t 13), (some (53, true))⟩ := idE rfl
@[go_sem] theorem g_slices_partitionCmpFunc_int_9_7 : gAt l_slices_partitionCmpFunc_int_9 7 = ⟨(some 57), .iaddr (.t 55) (.t 56) 1, (some (53, true))⟩ := idE rfl
@[go_sem] theorem g_slices_partitionCmpFunc_int_9_8 : gAt l_slices_partitionCmpFunc_int_9 8 = ⟨(some 58), .load (.t 57) 1 false, (some (53, true))⟩ := idE rfl
@[go_sem] theorem g_slices_partitionCmpFunc_int_9_9 : gAt l_slices_partitionCmpFunc_int_9 9 = ⟨(some 59), .mv (.t 0), (some (53, true))⟩ := idE rfl
@[go_sem] theorem g_slices_partitionCmpFunc_int_9_10 : gAt l_slices_partitionCmpFunc_int_9 10 = ⟨(some 60), .mv (.t 1), (some (53, true))⟩ := idE rfl
@[go_sem] theorem g_slices_partitionCmpFunc_int_9_11 : gAt l_slices_partitionCmpFunc_int_9 11 = ⟨(some 61), .iaddr (.t 59) (.t 60) 1, (some (53, true))⟩ := idE rfl
@[go_sem] theorem g_slices_partitionCmpFunc_int_9_12 : gAt l_slices_partitionCmpFunc_int_9 12 = ⟨(some 62), .load (.t 61) 1 false, (some (53, true))⟩ := idE rfl
@[go_sem] theorem g_slices_partitionCmpFunc_int_9_13 : gAt l_slices_partitionCmpFunc_int_9 13 = ⟨(some 63), .callv (.t 54) [(.t 58), (.t 62)], (some (53, true))⟩ := idE rfl
@[go_sem] theorem g_slices_partitionCmpFunc_int_9_14 : gAt l_slices_partitionCmpFunc_int_9 14 = ⟨(some 64), .bin .lss (.t 63) (.c (.int .i64 0)), (some (53, true))⟩ := idE rfl
@[go_sem] theorem g_slices_partitionCmpFunc_int_9_15 : gAt l_slices_partitionCmpFunc_int_9 15 = ⟨(some 65), .un .not (.t 64), (some (53, true))⟩ := idE rfl
@[go_sem] theorem g_slices_partitionCmpFunc_int_9_16 : gAt l_slices_partitionCmpFunc_int_9 16 = ⟨(some 66), .pick (.t 53) (.t 65) (.c (.bool false)), none⟩ := idE rfl
def slices_partitionCmpFunc_int_9 : IR := .dops l_slices_partitionCmpFunc_int_9 [(0, []), (1, []), (2, []), (3, []), (4, []), (5, []), (6, []), (7, []), (8, []), (9, []), (10, []), (11, []), (12, []), (13, []), (14, []), (15, []), (16, [])]
@[go_sem] theorem w_slices_partitionCmpFunc_int_9 : wp P slices_partitionCmpFunc_int_9 Q e H = wpD P l_slices_partitionCmpFunc_int_9 [(0, []), (1, []), (2, []), (3, []), (4, []), (5, []), (6, []), (7, []), (8, []), (9, []), (10, []), (11, []), (12, []), (13, []), (14, []), (15, []), (16, [])] (Q .normal) e H := idE rfl
def slices_partitionCmpFunc_int_10 : IR := .cond (.t 66) .skip (.exit 2)
@[go_sem] theorem w_slices_partitionCmpFunc_int_10 : wp P slices_partitionCmpFunc_int_10 Q e H = condW P ((.t 66) : X) .skip (.exit 2) Q e H := idE rfl
@[go_sem] def l_slices_partitionCmpFunc_int_11 : List GOp := [⟨(some 67), .mv (.t 13), none⟩,
    ⟨(some 68), .bin .sub (.t 67) (.c (.int .i64 1)), none⟩,
    ⟨(some 13), .mv (.t 68), none⟩]
def slices_partitionCmpFunc_int_11 : IR := .ops l_slices_partitionCmpFunc_int_11
@[go_sem] theorem w_slices_partitionCmpFunc_int_11 : wp P slices_partitionCmpFunc_int_11 Q e H = wpL P l_slices_partitionCmpFunc_int_11 (Q .normal) e H := idE rfl
def slices_partitionCmpFunc_int_12 : IR := .block 3 slices_partitionCmpFunc_int_11
@[go_sem] theorem w_slices_partitionCmpFunc_int_12 : wp P slices_partitionCmpFunc_int_12 Q e H = wp P slices_partitionCmpFunc_int_11 (blockQ 3 Q) e H := idE rfl
def slices_partitionCmpFunc_int_13 : IR := .loop (.seq (.seq slices_partitionCmpFunc_int_9 slices_partitionCmpFunc_int_10) slices_partitionCmpFunc_int_12)
def slices_partitionCmpFunc_int_14 : IR := .block 2 slices_partitionCmpFunc_int_13
@[go_sem] theorem w_slices_partitionCmpFunc_int_14 : wp P slices_partitionCmpFunc_int_14 Q e H = wp P slices_partitionCmpFunc_int_13 (blockQ 2 Q) e H := idE rfl
@[go_sem] def l_slices_partitionCmpFunc_int_15 : List GOp := [⟨(some 69), .mv (.t 12), none⟩,
    ⟨(some 70), .mv (.t 13), none⟩,
    ⟨(some 71), .bin .gtr (.t 69) (.t 70), none⟩]
def slices_partitionCmpFunc_int_15 : IR := .ops l_slices_partitionCmpFunc_int_15
@[go_sem] theorem w_slices_partitionCmpFunc_int_15 : wp P slices_partitionCmpFunc_int_15 Q e H = wpL P l_slices_partitionCmpFunc_int_15 (Q .normal) e H := idE rfl
def l_slices_partitionCmpFunc_int_16 : List GOp := [⟨(some 72), .mv (.t 0), none⟩,
    ⟨(some 73), .mv (.t 13), none⟩,
    ⟨(some 74), .mv (.t 0), none⟩,
    ⟨(some 75), .mv (.t 1), none⟩,
    ⟨(some 76), .mv (.t 0), none⟩,
    ⟨(some 77), .mv (.t 1), none⟩,
    ⟨(some 78), .iaddr (.t 76) (.t 77) 1, none⟩,
    ⟨(some 79), .load (.t 78) 1 false, none⟩,
    ⟨(some 80), .mv (.t 0), none⟩,
    ⟨(some 81), .mv (.t 13), none⟩,
    ⟨(some 82), .iaddr (.t 80) (.t 81) 1, none⟩,
    ⟨(some 83), .load (.t 82) 1 false, none⟩,
    ⟨(some 84), .iaddr (.t 72) (.t 73) 1, none⟩,
    ⟨none, .store (.t 84) 1 (.t 79), none⟩,
    ⟨(some 85), .iaddr (.t 74) (.t 75) 1, none⟩,
    ⟨none, .store (.t 85) 1 (.t 83), none⟩]
@[go_sem] theorem g_slices_partitionCmpFunc_int_16_0 : gAt l_slices_partitionCmpFunc_int_16 0 = ⟨(some 72), .mv (.t 0), none⟩ := idE rfl
@[go_sem] theorem g_slices_partitionCmpFunc_int_16_1 : gAt l_slices_partitionCmpFunc_int_16 1 = ⟨(some 73), .mv (.t 13), none⟩ := idE rfl
@[go_sem] theorem g_slices_partitionCmpFunc_int_16_2 : gAt l_slices_partitionCmpFunc_int_16 2 = ⟨(some 74), .mv (.t 0), none⟩ := idE rfl
@[go_sem] theorem g_slices_partitionCmpFunc_int_16_3 : gAt l_slices_partitionCmpFunc_int_16 3 = ⟨(some 75), .mv (.t 1), none⟩ := idE rfl
@[go_sem] theorem g_slices_partitionCmpFunc_int_16_4 : gAt l_slices_partitionCmpFunc_int_16 4 = ⟨(some 76), .mv (.t 0), none⟩ := idE rfl
@[go_sem] theorem g_slices_partitionCmpFunc_int_16_5 : gAt l_slices_partitionCmpFunc_int_16 5 = ⟨(some 77), .mv (.t 1), none⟩ := idE rfl
@[go_sem] theorem g_slices_partitionCmpFunc_int_16_6 : gAt l_slices_partitionCmpFunc_int_16 6 = ⟨(some 78), .iaddr (.t 76) (.t 77) 1, none⟩ := idE rfl
@[go_sem] theorem g_slices_partitionCmpFunc_int_16_7 : gAt l_slices_partitionCmpFunc_int_16 7 = ⟨(some 79), .load (.t 78) 1 false, none⟩ := idE rfl
@[go_sem] theorem g_slices_partitionCmpFunc_int_16_8 : gAt l_slices_partitionCmpFunc_int_16 8 = ⟨(some 80), .mv (.t 0), none⟩ := idE rfl
@[go_sem] theorem g_slices_partitionCmpFunc_int_16_9 : gAt l_slices_partitionCmpFunc_int_16 9 = ⟨(some 81), .mv (.t 13), none⟩ := idE rfl
@[go_sem] theorem g_slices_partitionCmpFunc_int_16_10 : gAt l_slices_partitionCmpFunc_int_16 10 = ⟨(some 82), .iaddr (.t 80) (.t 81) 1, none⟩ := idE rfl
@[go_sem] theorem g_slices_partitionCmpFunc_int_16_11 : gAt l_slices_partitionCmpFunc_int_16 11 = ⟨(some 83), .load (.t 82) 1 false, none⟩ := idE rfl
@[go_sem] theorem g_slices_partitionCmpFunc_int_16_12 : gAt l_slices_partitionCmpFunc_int_16 12 = ⟨(some 84), .iaddr (.t 72) (.t 73) 1, none⟩ := idE rfl
@[go_sem] theorem g_slices_partitionCmpFunc_int_16_13 : gAt l_slices_partitionCmpFunc_int_16 13 = ⟨none, .store (.t 84) 1 (.t 79), none⟩ := idE rfl
@[go_sem] theorem g_slices_partitionCmpFunc_int_16_14 : gAt l_slices_partitionCmpFunc_int_16 14 = ⟨(some 85), .iaddr (.t 74) (.t 75) 1, none⟩ := idE rfl
@[go_sem] theorem g_slices_partitionCmpFunc_int_16_15 : gAt l_slices_partitionCmpFunc_int_16 15 = ⟨none, .store (.t 85) 1 (.t 83), none⟩ := idE rfl
def slices_partitionCmpFunc_int_16 : IR := .dops l_slices_partitionCmpFunc_int_16 [(0, []), (1, []), (2, []), (3, []), (4, []), (5, []), (6, []), (7, []), (8, []), (9, []), (10, []), (11, []), (12, []), (13, []), (14, []), (15, [])]
@[go_sem] theorem w_slices_partitionCmpFunc_int_16 : wp P slices_partitionCmpFunc_int_16 Q e H = wpD P l_slices_partitionCmpFunc_int_16 [(0, []), (1, []), (2, []), (3, []), (4, []), (5, []), (6, []), (7, []), (8, []), (9, []), (10, []), (11, []), (12, []), (13, []), (14, []), (15, [])] (Q .normal) e H := idE rfl
@[go_sem] def l_slices_partitionCmpFunc_int_17 : List GOp := [⟨(some 86), .mv (.t 13), none⟩,
    ⟨(some 10), .mv (.t 86), none⟩,
    ⟨(some 11), .mv (.c (.bool true)), none⟩]
def slices_partitionCmpFunc_int_17 : IR := .ops l_slices_partitionCmpFunc_int_17
@[go_sem] theorem w_slices_partitionCmpFunc_int_17 : wp P slices_partitionCmpFunc_int_17 Q e H = wpL P l_slices_partitionCmpFunc_int_17 (Q .normal) e H := idE rfl
def slices_partitionCmpFunc_int_18 : IR := .cond (.t 71) (.seq slices_partitionCmpFunc_int_16 (.seq slices_partitionCmpFunc_int_17 .ret)) .skip
@[go_sem] theorem w_slices_partitionCmpFunc_int_18 : wp P slices_partitionCmpFunc_int_18 Q e H = condW P ((.t 71) : X) (.seq slices_partitionCmpFunc_int_16 (.seq slices_partitionCmpFunc_int_17 .ret)) .skip Q e H := idE rfl
def l_slices_partitionCmpFunc_int_19 : List GOp := [⟨(some 87), .mv (.t 0), none⟩,
    ⟨(some 88), .mv (.t 12), none⟩,
    ⟨(some 89), .mv (.t 0), none⟩,
    ⟨(some 90), .mv (.t 13), none⟩,
    ⟨(some 91), .mv (.t 0), none⟩,
    ⟨(some 92), .mv (.t 13), none⟩,
    ⟨(some 93), .iaddr (.t 91) (.t 92) 1, none⟩,
    ⟨(some 94), .load (.t 93) 1 false, none⟩,
    ⟨(some 95), .mv (.t 0), none⟩,
    ⟨(some 96), .mv (.t 12), none⟩,
    ⟨(some 97), .iaddr (.t 95) (.t 96) 1, none⟩,
    ⟨(some 98), .load (.t 97) 1 false, none⟩,
    ⟨(some 99), .iaddr (.t 87) (.t 88) 1, none⟩,
    ⟨none, .store (.t 99) 1 (.t 94), none⟩,
    ⟨(some 100), .iaddr (.t 89) (.t 90) 1, none⟩,
    ⟨none, .store (.t 100) 1 (.t 98), none⟩]
@[go_sem] theorem g_slices_partitionCmpFunc_int_19_0 : gAt l_slices_partitionCmpFunc_int_19 0 = ⟨(some 87), .mv (.t 0), none⟩ := idE rfl
@[go_sem] theorem g_slices_partitionCmpFunc_int_19_1 : gAt l_slices_partitionCmpFunc_int_19 1 = ⟨(some 88), .mv (.t 12), none⟩ := idE rfl
@[go_sem] theorem g_slices_partitionCmpFunc_int_19_2 : gAt l_slices_partitionCmpFunc_int_19 2 = ⟨(some 89), .mv (.t 0), none⟩ := idE rfl
@[go_sem] theorem g_slices_partitionCmpFunc_int_19_3 : gAt l_slices_partitionCmpFunc_int_19 3 = ⟨(some 90), .mv (.t 13), none⟩ := idE rfl
@[go_sem] theorem g_slices_partitionCmpFunc_int_19_4 : gAt l_slices_partitionCmpFunc_int_19 4 = ⟨(some 91), .mv (.t 0), none⟩ := idE rfl
@[go_sem] theorem g_slices_partitionCmpFunc_int_19_5 : gAt l_slices_partitionCmpFunc_int_19 5 = ⟨(some 92), .mv (.t 13), none⟩ := idE rfl
@[go_sem] theorem g_slices_partitionCmpFunc_int_19_6 : gAt l_slices_partitionCmpFunc_int_19 6 = ⟨(some 93), .iaddr (.t 91) (.t 92) 1, none⟩ := idE rfl
@[go_sem] theorem g_slices_partitionCmpFunc_int_19_7 : gAt l_slices_partitionCmpFunc_int_19 7 = ⟨(some 94), .load (.t 93) 1 false, none⟩ := idE rfl
@[go_sem] theorem g_slices_partitionCmpFunc_int_19_8 : gAt l_slices_partitionCmpFunc_int_19 8 = ⟨(some 95), .mv (.t 0), none⟩ := idE rfl
@[go_sem] theorem g_slices_partitionCmpFunc_int_19_9 : gAt l_slices_partitionCmpFunc_int_19 9 = ⟨(some 96), .mv (.t 12), none⟩ := idE rfl
@[go_sem] theorem g_slices_partitionCmpFunc_int_19_10 : gAt l_slices_partitionCmpFunc_int_19 10 = ⟨(some 97), .iaddr (.t 95) (.t 96) 1, none⟩ := idE rfl
@[go_sem] theorem g_slices_partitionCmpFunc_int_19_11 : gAt l_slices_partitionCmpFunc_int_19 11 = ⟨(some 98), .load (.t 97) 1 false, none⟩ := idE rfl
@[go_sem] theorem g_slices_partitionCmpFunc_int_19_12 : gAt l_slices_partitionCmpFunc_int_19 12 = ⟨(some 99), .iaddr (.t 87) (.t 88) 1, none⟩ := idE rfl
@[go_sem] theorem g_slices_partitionCmpFunc_int_19_13 : gAt l_slices_partitionCmpFunc_int_19 13 = ⟨none, .store (.t 99) 1 (.t 94), none⟩ := idE rfl
@[go_sem] theorem g_slices_partitionCmpFunc_int_19_14 : gAt l_slices_partitionCmpFunc_int_19 14 = ⟨(some 100), .iaddr (.t 89) (.t 90) 1, none⟩ := idE rfl
@[go_sem] theorem g_slices_partitionCmpFunc_int_19_15 : gAt l_slices_partitionCmpFunc_int_19 15 = ⟨none, .store (.t 100) 1 (.t 98), none⟩ := idE rfl
def slices_partitionCmpFunc_int_19 : IR := .dops l_slices_partitionCmpFunc_int_19 [(0, []), (1, []), (2, []), (3, []), (4, []), (5, []), (6, []), (7, []), (8, []), (9, []), (10, []), (11, []), (12, []), (13, []), (14, []), (15, [])]
@[go_sem] theorem w_slices_partitionCmpFunc_int_19 : wp P slices_partitionCmpFunc_int_19 Q e H = wpD P l_slices_partitionCmpFunc_int_19 [(0, []), (1, []), (2, []), (3, []), (4, []), (5, []), (6, []), (7, []), (8, []), (9, []), (10, []), (11, []), (12, []), (13, []), (14, []), (15, [])] (Q .normal) e H := idE rfl
@[go_sem] def l_slices_partitionCmpFunc_int_20 : List GOp := [⟨(some 101), .mv (.t 12), none⟩,
    ⟨(some 102), .bin .add (.t 101) (.c (.int .i64 1)), none⟩,
    ⟨(some 12), .mv (.t 102), none⟩]
def slices_partitionCmpFunc_int_20 : IR := .ops l_slices_partitionCmpFunc_int_20
@[go_sem] theorem w_slices_partitionCmpFunc_int_20 : wp P slices_partitionCmpFunc_int_20 Q e H = wpL P l_slices_partitionCmpFunc_int_20 (Q .normal) e H := idE rfl
@[go_sem] def l_slices_partitionCmpFunc_int_21 : List GOp := [⟨(some 103), .mv (.t 13), none⟩,
    ⟨(some 104), .bin .sub (.t 103) (.c (.int .i64 1)), none⟩,
    ⟨(some 13), .mv (.t 104), none⟩]
def slices_partitionCmpFunc_int_21 : IR := .ops l_slices_partitionCmpFunc_int_21
@[go_sem] theorem w_slices_partitionCmpFunc_int_21 : wp P slices_partitionCmpFunc_int_21 Q e H = wpL P l_slices_partitionCmpFunc_int_21 (Q .normal) e H := idE rfl
def l_slices_partitionCmpFunc_int_22 : List GOp := [⟨(some 105), .mv (.t 12), none⟩,
    ⟨(some 106), .mv (.t 13), none⟩,
    ⟨(some 107), .bin .leq (.t 105) (.t 106), none⟩,
    ⟨(some 108), .mv (.t 107), none⟩,
    ⟨(some 109), .mv (.t 4), (some (108, true))⟩,
    ⟨(some 110), .mv (.t 0), (some (108, true))⟩,
    ⟨(some 111), .mv (.t 12), (some (108, true))⟩,
    ⟨(some 112), .iaddr (.t 110) (.t 111) 1, (some (108, true))⟩,
    ⟨(some 113), .load (.t 112) 1 false, (some (108, true))⟩,
    ⟨(some 114), .mv (.t 0), (some (108, true))⟩,
    ⟨(some 115), .mv (.t 1), (some (108, true))⟩,
    ⟨(some 116), .iaddr (.t 114) (.t 115) 1, (some (108, true))⟩,
    ⟨(some 117), .load (.t 116) 1 false, (some (108, true))⟩,
    ⟨(some 118), .callv (.t 109) [(.t 113), (.t 117)], (some (108, true))⟩,
    ⟨(some 119), .bin .lss (.t 118) (.c (.int .i64 0)), (some (108, true))⟩,
    ⟨(some 120), .pick (.t 108) (.t 119) (.c (.bool false)), none⟩]
@[go_sem] theorem g_slices_partitionCmpFunc_int_22_0 : gAt l_slices_partitionCmpFunc_int_22 0 = ⟨(some 105), .mv (.t 12), none⟩ := idE rfl
@[go_sem] theorem g_slices_partitionCmpFunc_int_22_1 : gAt l_slices_partitionCmpFunc_int_22 1 = ⟨(some 106), .mv (.t 13), none⟩ := idE rfl
@[go_sem] theorem g_slices_partitionCmpFunc_int_22_2 : gAt l_slices_partitionCmpFunc_int_22 2 = ⟨(some 107), .bin .leq (.t 105) (.t 106), none⟩ := idE rfl
@[go_sem] theorem g_slices_partitionCmpFunc_int_22_3 : gAt l_slices_partitionCmpFunc_int_22 3 = ⟨(some 108), .mv (.t 107), none⟩ := idE rfl
@[go_sem] theorem g_slices_partitionCmpFunc_int_22_4 : gAt l_slices_partitionCmpFunc_int_22 4 = ⟨(some 109), .mv (.t 4), (some (108, true))⟩ := idE rfl
@[go_sem] theorem g_slices_partitionCmpFunc_int_22_5 : gAt l_slices_partitionCmpFunc_int_22 5 = ⟨(some 110), .mv (.t 0), (some (108, true))⟩ := idE rfl
@[go_sem] theorem g_slices_partitionCmpFunc_int_22_6 : gAt l_slices_partitionCmpFunc_int_22 6 = ⟨(some 111), .mv (.t 12), (some (108, true))⟩ := idE rfl
@[go_sem] theorem g_slices_partitionCmpFunc_int_22_7 : gAt l_slices_partitionCmpFunc_int_22 7 = ⟨(some 112), .iaddr (.t 110) (.t 111) 1, (some (108, true))⟩ := idE rfl
@[go_sem] theorem g_slices_partitionCmpFunc_int_22_8 : gAt l_slices_partitionCmpFunc_int_22 8 = ⟨(some 113), .load (.t 112) 1 false, (some (108, true))⟩ := idE rfl
@[go_sem] theorem g_slices_partitionCmpFunc_int_22_9 : gAt l_slices_partitionCmpFunc_int_22 9 = ⟨(some 114), .mv (.t 0), (some (108, true))⟩ := idE rfl
@[go_sem] theorem g_slices_partitionCmpFunc_int_22_10 : gAt l_slices_partitionCmpFunc_int_22 10 = ⟨(some 115), .mv (.t 1), (some (108, true))⟩ := idE rfl
@[go_sem] theorem g_slices_partitionCmpFunc_int_22_11 : gAt l_slices_partitionCmpFunc_int_22 11 = ⟨(some 116), .iaddr (.t 114) (.t 115) 1, (some (108, true))⟩ := idE rfl
@[go_sem] theorem g_slices_partitionCmpFunc_int_22_12 : gAt l_slices_partitionCmpFunc_int_22 12 = ⟨(some 117), .load (.t 116) 1 false, (some (108, true))⟩ := idE rfl
@[go_sem] theorem g_slices_partitionCmpFunc_int_22_13 : gAt l_slices_partitionCmpFunc_int_22 13 = ⟨(some 118), .callv (.t 109) [(.t 113), (.t 117)], (some (108, true))⟩ := idE rfl
@[go_sem] theorem g_slices_partitionCmpFunc_int_22_14 : gAt l_slices_partitionCmpFunc_int_22 14 = ⟨(some 119), .bin .lss (.t 118) (.c (.int .i64 0)), (some (108, true))⟩ := idE rfl
@[go_sem] theorem g_slices_partitionCmpFunc_int_22_15 : gAt l_slices_partitionCmpFunc_int_22 15 = ⟨(some 120), .pick (.t 108) (.t 119) (.c (.bool false)), none⟩ := idE rfl
def slices_partitionCmpFunc_int_22 : IR := .dops l_slices_partitionCmpFunc_int_22 [(0, []), (1, []), (2, []), (3, []), (4, []), (5, []), (6, []), (7, []), (8, []), (9, []), (10, []), (11, []), (12, []), (13, []), (14, []), (15, [])]
@[go_sem] theorem w_slices_partitionCmpFunc_int_22 : wp P slices_partitionCmpFunc_int_22 Q e H = wpD P l_slices_partitionCmpFunc_int_22 [(0, []), (1, []), (2, []), (3, []), (4, []), (5, []), (6, []), (7, []), (8, []), (9, []), (10, []), (11, []), (12, []), (13, []), (14, []), (15, [])] (Q .normal) e H := idE rfl
def slices_partitionCmpFunc_int_23 : IR := .cond (.t 120) .skip (.exit 6)
@[go_sem] theorem w_slices_partitionCmpFunc_int_23 : wp P slices_partitionCmpFunc_int_23 Q e H = condW P ((.t 120) : X) .skip (.exit 6) Q e H := idE rfl
@[go_sem] def l_slices_partitionCmpFunc_int_24 : List GOp := [⟨(some 121), .mv (.t 12), none⟩,
    ⟨(some 122), .bin .add (.t 121) (.c (.int .i64 1)), none⟩,
    ⟨(some 12), .mv (.t 122), none⟩]
def slices_partitionCmpFunc_int_24 : IR := .ops l_slices_partitionCmpFunc_int_24
@[go_sem] theorem w_slices_partitionCmpFunc_int_24 : wp P slices_partitionCmpFunc_int_24 Q e H = wpL P l_slices_partitionCmpFunc_int_24 (Q .normal) e H := idE rfl
def slices_partitionCmpFunc_int_25 : IR := .block 7 slices_partitionCmpFunc_int_24
@[go_sem] theorem w_slices_partitionCmpFunc_int_25 : wp P slices_partitionCmpFunc_int_25 Q e H = wp P slices_partitionCmpFunc_int_24 (blockQ 7 Q) e H := idE rfl
def slices_partitionCmpFunc_int_26 : IR := .loop (.seq (.seq slices_partitionCmpFunc_int_22 slices_partitionCmpFunc_int_23) slices_partitionCmpFunc_int_25)
def slices_partitionCmpFunc_int_27 : IR := .block 6 slices_partitionCmpFunc_int_26
@[go_sem] theorem w_slices_partitionCmpFunc_int_27 : wp P slices_partitionCmpFunc_int_27 Q e H = wp P slices_partitionCmpFunc_int_26 (blockQ 6 Q) e H := idE rfl
def l_slices_partitionCmpFunc_int_28 : List GOp := [⟨(some 123), .mv (.t 12), none⟩,
    ⟨(some 124), .mv (.t 13), none⟩,
    ⟨(some 125), .bin .leq (.t 123) (.t 124), none⟩,
    ⟨(some 126), .mv (.t 125), none⟩,
    ⟨(some 127), .mv (.t 4), (some (126, true))⟩,
    ⟨(some 128), .mv (.t 0), (some (126, true))⟩,
    ⟨(some 129), .mv (.t 13), (some (126, true))⟩,
    ⟨(some 130), .iaddr (.t 128) (.t 129) 1, (some (126, true))⟩,
    ⟨(some 131), .load (.t 130) 1 false, (some (126, true))⟩,
    ⟨(some 132), .mv (.t 0), (some (126, true))⟩,
    ⟨(some 133), .mv (.t 1), (some (126, true))⟩,
    ⟨(some 134), .iaddr (.t 132) (.t 133) 1, (some (126, true))⟩,
    ⟨(some 135), .load (.t 134) 1 false, (some (126, true))⟩,
    ⟨(some 136), .callv (.t 127) [(.t 131), (.t 135)], (some (126, true))⟩,
    ⟨(some 137), .bin .lss (.t 136) (.c (.int .i64 0)), (some (126, true))⟩,
    ⟨(some 138), .un .not (.t 137), (some (126, true))⟩,
    ⟨(some 139), .pick (.t 126) (.t 138) (.c (.bool false)), none⟩]
@[go_sem] theorem g_slices_partitionCmpFunc_int_28_0 : gAt l_slices_partitionCmpFunc_int_28 0 = ⟨(some 123), .mv (.t 12), none⟩ := idE rfl
@[go_sem] theorem g_slices_partitionCmpFunc_int_28_1 : gAt l_slices_partitionCmpFunc_int_28 1 = ⟨(some 124), .mv (.t 13), none⟩ := idE rfl
@[go_sem] theorem g_slices_partitionCmpFunc_int_28_2 : gAt l_slices_partitionCmpFunc_int_28 2 = ⟨(some 125), .bin .leq (.t 123) (.t 124), none⟩ := idE rfl
@[go_sem] theorem g_slices_partitionCmpFunc_int_28_3 : gAt l_slices_partitionCmpFunc_int_28 3 = ⟨(some 126), .mv (.t 125), none⟩ := idE rfl
@[go_sem] theorem g_slices_partitionCmpFunc_int_28_4 : gAt l_slices_partitionCmpFunc_int_28 4 = ⟨(some 127), .mv (.t 4), (some (126, true))⟩ := idE rfl
@[go_sem] theorem g_slices_partitionCmpFunc_int_28_5 : gAt l_slices_partitionCmpFunc_int_28 5 = ⟨(some 128), .mv (.t 0), (some (126, true))⟩ := idE rfl
@[go_sem] theorem g_slices_partitionCmpFunc_int_28_6 : gAt l_slices_partitionCmpFunc_int_28 6 = ⟨(some 129), .mv (.t 13), (some (126, true))⟩ := idE rfl
@[go_sem] theorem g_slices_partitionCmpFunc_int_28_7 : gAt l_slices_partitionCmpFunc_int_28 7 = ⟨(some 130), .iaddr (.t 128) (.t 129) 1, (some (126, true))⟩ := idE rfl
@[go_sem] theorem g_slices_partitionCmpFunc_int_28_8 : gAt l_slices_partitionCmpFunc_int_28 8 = ⟨(some 131), .load (.t 130) 1 false, (some (126, true))⟩ := idE rfl
@[go_sem] theorem g_slices_partitionCmpFunc_int_28_9 : gAt l_slices_partitionCmpFunc_int_28 9 = ⟨(some 132), .mv (.t 0), (some (126, true))⟩ := idE rfl
@[go_sem] theorem g_slices_partitionCmpFunc_int_28_10 : gAt l_slices_partitionCmpFunc_int_28 10 = ⟨(some 133), .mv (.t 1), (some (126, true))⟩ := idE rfl
@[go_sem] theorem g_slices_partitionCmpFunc_int_28_11 : gAt l_slices_partitionCmpFunc_int_28 11 = ⟨(some 134), .iaddr (.t 132) (.t 133) 1, (some (126, true))⟩ := idE rfl
@[go_sem] theorem g_slices_partitionCmpFunc_int_28_12 : gAt l_slices_partitionCmpFunc_int_28 12 = ⟨(some 135), .load (.t 134) 1 false, (some (126, true))⟩ := idE rfl
@[go_sem] theorem g_slices_partitionCmpFunc_int_28_13 : gAt l_slices_partitionCmpFunc_int_28 13 = ⟨(some 136), .callv (.t 127) [(.t 131), (.t 135)], (some (126, true))⟩ := idE rfl
@[go_sem] theorem g_slices_partitionCmpFunc_int_28_14 : gAt l_slices_partitionCmpFunc_int_28 14 = ⟨(some 137), .bin .lss (.t 136) (.c (.int .i64 0)), (some (126, true))⟩ := idE rfl
@[go_sem] theorem g_slices_partitionCmpFunc_int_28_15 : gAt l_slices_partitionCmpFunc_int_28 15 = ⟨(some 138), .un .not (.t 137), (some (126, true))⟩ := idE rfl
@[go_sem] theorem g_slices_partitionCmpFunc_int_28_16 : gAt l_slices_partitionCmpFunc_int_28 16 = ⟨(some 139), .pick (.t 126) (.t 138) (.c (.bool false)), none⟩ := idE rfl
def slices_partitionCmpFunc_int_28 : IR := .dops l_slices_partitionCmpFunc_int_28 [(0, []), (1, []), (2, []), (3, []), (4, []), (5, []), (6, []), (7, []), (8, []), (9, []), (10, []), (11, []), (12, []), (13, []), (14, []), (15, []), (16, [])]
@[go_sem] theorem w_slices_partitionCmpFunc_int_28 : wp P slices_partitionCmpFunc_int_28 Q e H = wpD P l_slices_partitionCmpFunc_int_28 [(0, []), (1, []), (2, []), (3, []), (4, []), (5, []), (6, []), (7, []), (8, []), (9, []), (10, []), (11, []), (12, []), (13, []), (14, []), (15, []), (16, [])] (Q .normal) e H := idE rfl
def slices_partitionCmpFunc_int_29 : IR := .cond (.t 139) .skip (.exit 8)
@[go_sem] theorem w_slices_partitionCmpFunc_int_29 : wp P slices_partitionCmpFunc_int_29 Q e H = condW P ((.t 139) : X) .skip (.exit 8) Q e H := idE rfl
@[go_sem] def l_slices_partitionCmpFunc_int_30 : List GOp := [⟨(some 140), .mv (.t 13), none⟩,
    ⟨(some 141), .bin .sub (.t 140) (.c (.int .i64 1)), none⟩,
    ⟨(some 13), .mv (.t 141), none⟩]
def slices_partitionCmpFunc_int_30 : IR := .ops l_slices_partitionCmpFunc_int_30
@[go_sem] theorem w_slices_partitionCmpFunc_int_30 : wp P slices_partitionCmpFunc_int_30 Q e H = wpL P l_slices_partitionCmpFunc_int_30 (Q .normal) e H := idE rfl
def slices_partitionCmpFunc_int_31 : IR := .block 9 slices_partitionCmpFunc_int_30
@[go_sem] theorem w_slices_partitionCmpFunc_int_31 : wp P slices_partitionCmpFunc_int_31 Q e H = wp P slices_partitionCmpFunc_int_30 (blockQ 9 Q) e H := idE rfl
def slices_partitionCmpFunc_int_32 : IR := .loop (.seq (.seq slices_partitionCmpFunc_int_28 slices_partitionCmpFunc_int_29) slices_partitionCmpFunc_int_31)
def slices_partitionCmpFunc_int_33 : IR := .block 8 slices_partitionCmpFunc_int_32
@[go_sem] theorem w_slices_partitionCmpFunc_int_33 : wp P slices_partitionCmpFunc_int_33 Q e H = wp P slices_partitionCmpFunc_int_32 (blockQ 8 Q) e H := idE rfl
@[go_sem] def l_slices_partitionCmpFunc_int_34 : List GOp := [⟨(some 142), .mv (.t 12), none⟩,
    ⟨(some 143), .mv (.t 13), none⟩,
    ⟨(some 144), .bin .gtr (.t 142) (.t 143), none⟩]
def slices_partitionCmpFunc_int_34 : IR := .ops l_slices_partitionCmpFunc_int_34
@[go_sem] theorem w_slices_partitionCmpFunc_int_34 : wp P slices_partitionCmpFunc_int_34 Q e H = wpL P l_slices_partitionCmpFunc_int_34 (Q .normal) e H := idE rfl
def slices_partitionCmpFunc_int_35 : IR := .cond (.t 144) (.exit 4) .skip
@[go_sem] theorem w_slices_partitionCmpFunc_int_35 : wp P slices_partitionCmpFunc_int_35 Q e H = condW P ((.t 144) : X) (.exit 4) .skip Q e H := idE rfl
def l_slices_partitionCmpFunc_int_36 : List GOp := [⟨(some 145), .mv (.t 0), none⟩,
    ⟨(some 146), .mv (.t 12), none⟩,
    ⟨(some 147), .mv (.t 0), none⟩,
    ⟨(some 148), .mv (.t 13), none⟩,
    ⟨(some 149), .mv (.t 0), none⟩,
    ⟨(some 150), .mv (.t 13), none⟩,
    ⟨(some 151), .iaddr (.t 149) (.t 150) 1, none⟩,
    ⟨(some 152), .load (.t 151) 1 false, none⟩,
    ⟨(some 153), .mv (.t 0), none⟩,
    ⟨(some 154), .mv (.t 12), none⟩,
    ⟨(some 155), .iaddr (.t 153) (.t 154) 1, none⟩,
    ⟨(some 156), .load (.t 155) 1 false, none⟩,
    ⟨(some 157), .iaddr (.t 145) (.t 146) 1, none⟩,
    ⟨none, .store (.t 157) 1 (.t 152), none⟩,
    ⟨(some 158), .iaddr (.t 147) (.t 148) 1, none⟩,
    ⟨none, .store (.t 158) 1 (.t 156), none⟩]
@[go_sem] theorem g_slices_partitionCmpFunc_int_36_0 : gAt l_slices_partitionCmpFunc_int_36 0 = ⟨(some 145), .mv (.t 0), none⟩ := idE rfl
@[go_sem] theorem g_slices_partitionCmpFunc_int_36_1 : gAt l_slices_partitionCmpFunc_int_36 1 = ⟨(some 146), .mv (.t 12), none⟩ := idE rfl
@[go_sem] theorem g_slices_partitionCmpFunc_int_36_2 : gAt l_slices_partitionCmpFunc_int_36 2 = ⟨(some 147), .mv (.t 0), none⟩ := idE rfl
@[go_sem] theorem g_slices_partitionCmpFunc_int_36_3 : gAt l_slices_partitionCmpFunc_int_36 3 = ⟨(some 148), .mv (.t 13), none⟩ := idE rfl
@[go_sem] theorem g_slices_partitionCmpFunc_int_36_4 : gAt l_slices_partitionCmpFunc_int_36 4 = ⟨(some 149), .mv (.t 0), none⟩ := idE rfl
@[go_sem] theorem g_slices_partitionCmpFunc_int_36_5 : gAt l_slices_partitionCmpFunc_int_36 5 = ⟨(some 150), .mv (.t 13), none⟩ := idE rfl
@[go_sem] theorem g_slices_partitionCmpFunc_int_36_6 : gAt l_slices_partitionCmpFunc_int_36 6 = ⟨(some 151), .iaddr (.t 149) (.t 150) 1, none⟩ := idE rfl
@[go_sem] theorem g_slices_partitionCmpFunc_int_36_7 : gAt l_slices_partitionCmpFunc_int_36 7 = ⟨(some 152), .load (.t 151) 1 false, none⟩ := idE rfl
@[go_sem] theorem g_slices_partitionCmpFunc_int_36_8 : gAt l_slices_partitionCmpFunc_int_36 8 = ⟨(some 153), .mv (.t 0), none⟩ := idE rfl
@[go_sem] theorem g_slices_partitionCmpFunc_int_36_9 : gAt l_slices_partitionCmpFunc_int_36 9 = ⟨(some 154), .mv (.t 12), none⟩ := idE rfl
@[go_sem] theorem g_slices_partitionCmpFunc_int_36_10 : gAt l_slices_partitionCmpFunc_int_36 10 = ⟨(some 155), .iaddr (.t 153) (.t 154) 1, none⟩ := idE rfl
@[go_sem] theorem g_slices_partitionCmpFunc_int_36_11 : gAt l_slices_partitionCmpFunc_int_36 11 = ⟨(some 156), .load (.t 155) 1 false, none⟩ := idE rfl
@[go_sem] theorem g_slices_partitionCmpFunc_int_36_12 : gAt l_slices_partitionCmpFunc_int_36 12 = ⟨(some 157), .iaddr (.t 145) (.t 146) 1, none⟩ := idE rfl
@[go_sem] theorem g_slices_partitionCmpFunc_int_36_13 : gAt l_slices_partitionCmpFunc_int_36 13 = ⟨none, .store (.t 157) 1 (.t 152), none⟩ := idE rfl
@[go_sem] theorem g_slices_partitionCmpFunc_int_36_14 : gAt l_slices_partitionCmpFunc_int_36 14 = ⟨(some 158), .iaddr (.t 147) (.t 148) 1, none⟩ := idE rfl
@[go_sem] theorem g_slices_partitionCmpFunc_int_36_15 : gAt l_slices_partitionCmpFunc_int_36 15 = ⟨none, .store (.t 158) 1 (.t 156), none⟩ := idE rfl
def slices_partitionCmpFunc_int_36 : IR := .dops l_slices_partitionCmpFunc_int_36 [(0, []), (1, []), (2, []), (3, []), (4, []), (5, []), (6, []), (7, []), (8, []), (9, []), (10, []), (11, []), (12, []), (13, []), (14, []), (15, [])]
@[go_sem] theorem w_slices_partitionCmpFunc_int_36 : wp P slices_partitionCmpFunc_int_36 Q e H = wpD P l_slices_partitionCmpFunc_int_36 [(0, []), (1, []), (2, []), (3, []), (4, []), (5, []), (6, []), (7, []), (8, []), (9, []), (10, []), (11, []), (12, []), (13, []), (14, []), (15, [])] (Q .normal) e H := idE rfl
@[go_sem] def l_slices_partitionCmpFunc_int_37 : List GOp := [⟨(some 159), .mv (.t 12), none⟩,
    ⟨(some 160), .bin .add (.t 159) (.c (.int .i64 1)), none⟩,
    ⟨(some 12), .mv (.t 160), none⟩]
def slices_partitionCmpFunc_int_37 : IR := .ops l_slices_partitionCmpFunc_int_37
@[go_sem] theorem w_slices_partitionCmpFunc_int_37 : wp P slices_partitionCmpFunc_int_37 Q e H = wpL P l_slices_partitionCmpFunc_int_37 (Q .normal) e H := idE rfl
@[go_sem] def l_slices_partitionCmpFunc_int_38 : List GOp := [⟨(some 161), .mv (.t 13), none⟩,
    ⟨(some 162), .bin .sub (.t 161) (.c (.int .i64 1)), none⟩,
    ⟨(some 13), .mv (.t 162), none⟩]
def slices_partitionCmpFunc_int_38 : IR := .ops l_slices_partitionCmpFunc_int_38
@[go_sem] theorem w_slices_partitionCmpFunc_int_38 : wp P slices_partitionCmpFunc_int_38 Q e H = wpL P l_slices_partitionCmpFunc_int_38 (Q .normal) e H := idE rfl
def slices_partitionCmpFunc_int_39 : IR := .block 5 (.seq slices_partitionCmpFunc_int_27 (.seq slices_partitionCmpFunc_int_33 (.seq (.seq slices_partitionCmpFunc_int_34 slices_partitionCmpFunc_int_35) (.seq slices_partitionCmpFunc_int_36 (.seq slices_partitionCmpFunc_int_37 slices_partitionCmpFunc_int_38)))))
@[go_sem] theorem w_slices_partitionCmpFunc_int_39 : wp P slices_partitionCmpFunc_int_39 Q e H = wp P (.seq slices_partitionCmpFunc_int_27 (.seq slices_partitionCmpFunc_int_33 (.seq (.seq slices_partitionCmpFunc_int_34 slices_partitionCmpFunc_int_35) (.seq slices_partitionCmpFunc_int_36 (.seq slices_partitionCmpFunc_int_37 slices_partitionCmpFunc_int_38))))) (blockQ 5 Q) e H := idE rfl
def slices_partitionCmpFunc_int_40 : IR := .loop slices_partitionCmpFunc_int_39
def slices_partitionCmpFunc_int_41 : IR := .block 4 slices_partitionCmpFunc_int_40
@[go_sem] theorem w_slices_partitionCmpFunc_int_41 : wp P slices_partitionCmpFunc_int_41 Q e H = wp P slices_partitionCmpFunc_int_40 (blockQ 4 Q) e H := idE rfl
def l_slices_partitionCmpFunc_int_42 : List GOp := [⟨(some 163), .mv (.t 0), none⟩,
    ⟨(some 164), .mv (.t 13), none⟩,
    ⟨(some 165), .mv (.t 0), none⟩,
    ⟨(some 166), .mv (.t 1), none⟩,
    ⟨(some 167), .mv (.t 0), none⟩,
    ⟨(some 168), .mv (.t 1), none⟩,
    ⟨(some 169), .iaddr (.t 167) (.t 168) 1, none⟩,
    ⟨(some 170), .load (.t 169) 1 false, none⟩,
    ⟨(some 171), .mv (.t 0), none⟩,
    ⟨(some 172), .mv (.t 13), none⟩,
    ⟨(some 173), .iaddr (.t 171) (.t 172) 1, none⟩,
    ⟨(some 174), .load (.t 173) 1 false, none⟩,
    ⟨(some 175), .iaddr (.t 163) (.t 164) 1, none⟩,
    ⟨none, .store (.t 175) 1 (.t 170), none⟩,
    ⟨(some 176), .iaddr (.t 165) (.t 166) 1, none⟩,
    ⟨none, .store (.t 176) 1 (.t 174), none⟩]
@[go_sem] theorem g_slices_partitionCmpFunc_int_42_0 : gAt l_slices_partitionCmpFunc_int_42 0 = ⟨(some 163), .mv (.t 0), none⟩ := idE rfl
@[go_sem] theorem g_slices_partitionCmpFunc_int_42_1 : gAt l_slices_partitionCmpFunc_int_42 1 = ⟨(some 164), .mv (.t 13), none⟩ := idE rfl
@[go_sem] theorem g_slices_partitionCmpFunc_int_42_2 : gAt l_slices_partitionCmpFunc_int_42 2 = ⟨(some 165), .mv (.t 0), none⟩ := idE rfl
@[go_sem] theorem g_slices_partitionCmpFunc_int_42_3 : gAt l_slices_partitionCmpFunc_int_42 3 = ⟨(some 166), .mv (.t 1), none⟩ := idE rfl
@[go_sem] theorem g_slices_partitionCmpFunc_int_42_4 : gAt l_slices_partitionCmpFunc_int_42 4 = ⟨(some 167), .mv (.t 0), none⟩ := idE rfl
@[go_sem] theorem g_slices_partitionCmpFunc_int_42_5 : gAt l_slices_partitionCmpFunc_int_42 5 = ⟨(some 168), .mv (.t 1), none⟩ := idE rfl
@[go_sem] theorem g_slices_partitionCmpFunc_int_42_6 : gAt l_slices_partitionCmpFunc_int_42 6 = ⟨(some 169), .iaddr (.t 167) (.t 168) 1, none⟩ := idE rfl
@[go_sem] theorem g_slices_partitionCmpFunc_int_42_7 : gAt l_slices_partitionCmpFunc_int_42 7 = ⟨(some 170), .load (.t 169) 1 false, none⟩ := idE rfl
@[go_sem] theorem g_slices_partitionCmpFunc_int_42_8 : gAt l_slices_partitionCmpFunc_int_42 8 = ⟨(some 171), .mv (.t 0), none⟩ := idE rfl
@[go_sem] theorem g_slices_partitionCmpFunc_int_42_9 : gAt l_slices_partitionCmpFunc_int_42 9 = ⟨(some 172), .mv (.t 13), none⟩ := idE rfl
@[go_sem] theorem g_slices_partitionCmpFunc_int_42_10 : gAt l_slices_partitionCmpFunc_int_42 10 = ⟨(some 173), .iaddr (.t 171) (.t 172) 1, none⟩ := idE rfl
@[go_sem] theorem g_slices_partitionCmpFunc_int_42_11 : gAt l_slices_partitionCmpFunc_int_42 11 = ⟨(some 174), .load (.t 173) 1 false, none⟩ := idE rfl
@[go_sem] theorem g_slices_partitionCmpFunc_int_42_12 : gAt l_slices_partitionCmpFunc_int_42 12 = ⟨(some 175), .iaddr (.t 163) (.t 164) 1, none⟩ := idE rfl
@[go_sem] theorem g_slices_partitionCmpFunc_int_42_13 : gAt l_slices_partitionCmpFunc_int_42 13 = ⟨none, .store (.t 175) 1 (.t 170), none⟩ := idE rfl
@[go_sem] theorem g_slices_partitionCmpFunc_int_42_14 : gAt l_slices_partitionCmpFunc_int_42 14 = ⟨(some 176), .iaddr (.t 165) (.t 166) 1, none⟩ := idE rfl
@[go_sem] theorem g_slices_partitionCmpFunc_int_42_15 : gAt l_slices_partitionCmpFunc_int_42 15 = ⟨none, .store (.t 176) 1 (.t 174), none⟩ := idE rfl
def slices_partitionCmpFunc_int_42 : IR := .dops l_slices_partitionCmpFunc_int_42 [(0, []), (1, []), (2, []), (3, []), (4, []), (5, []), (6, []), (7, []), (8, []), (9, []), (10, []), (11, []), (12, []), (13, []), (14, []), (15, [])]
@[go_sem] theorem w_slices_partitionCmpFunc_int_42 : wp P slices_partitionCmpFunc_int_42 Q e H = wpD P l_slices_partitionCmpFunc_int_42 [(0, []), (1, []), (2, []), (3, []), (4, []), (5, []), (6, []), (7, []), (8, []), (9, []), (10, []), (11, []), (12, []), (13, []), (14, []), (15, [])] (Q .normal) e H := idE rfl
@[go_sem] def l_slices_partitionCmpFunc_int_43 : List GOp := [⟨(some 177), .mv (.t 13), none⟩,
    ⟨(some 10), .mv (.t 177), none⟩,
    ⟨(some 11), .mv (.c (.bool false)), none⟩]
def slices_partitionCmpFunc_int_43 : IR := .ops l_slices_partitionCmpFunc_int_43
@[go_sem] theorem w_slices_partitionCmpFunc_int_43 : wp P slices_partitionCmpFunc_int_43 Q e H = wpL P l_slices_partitionCmpFunc_int_43 (Q .normal) e H := idE rfl
@[go_sem] def l_slices_pdqsortCmpFunc_int_0 : List GOp := [⟨(some 10), .mv (.c (.bool true)), none⟩]
def slices_pdqsortCmpFunc_int_0 : IR := .ops l_slices_pdqsortCmpFunc_int_0
@[go_sem] theorem w_slices_pdqsortCmpFunc_int_0 : wp P slices_pdqsortCmpFunc_int_0 Q e H = wpL P l_slices_pdqsortCmpFunc_int_0 (Q .normal) e H := idE rfl
@[go_sem] def l_slices_pdqsortCmpFunc_int_1 : List GOp := [⟨(some 11), .mv (.c (.bool true)), none⟩]
def slices_pdqsortCmpFunc_int_1 : IR := .ops l_slices_pdqsortCmpFunc_int_1
@[go_sem] theorem w_slices_pdqsortCmpFunc_int_1 : wp P slices_pdqsortCmpFunc_int_1 Q e H = wpL P l_slices_pdqsortCmpFunc_int_1 (Q .normal) e H := idE rfl
@[go_sem] def l_slices_pdqsortCmpFunc_int_2 : List GOp := [⟨(some 21), .mv (.t 2), none⟩,
    ⟨(some 22), .mv (.t 1), none⟩,
    ⟨(some 23), .bin .sub (.t 21) (.t 22), none⟩,
    ⟨(some 12), .mv (.t 23), none⟩]
def slices_pdqsortCmpFunc_int_2 : IR := .ops l_slices_pdqsortCmpFunc_int_2
@[go_sem] theorem w_slices_pdqsortCmpFunc_int_2 : wp P slices_pdqsortCmpFunc_int_2 Q e H = wpL P l_slices_pdqsortCmpFunc_int_2 (Q .normal) e H := idE rfl
@[go_sem] def l_slices_pdqsortCmpFunc_int_3 : List GOp := [⟨(some 24), .mv (.t 12), none⟩,
    ⟨(some 25), .bin .leq (.t 24) (.c (.int .i64 12)), none⟩]
def slices_pdqsortCmpFunc_int_3 : IR := .ops l_slices_pdqsortCmpFunc_int_3
@[go_sem] theorem w_slices_pdqsortCmpFunc_int_3 : wp P slices_pdqsortCmpFunc_int_3 Q e H = wpL P l_slices_pdqsortCmpFunc_int_3 (Q .normal) e H := idE rfl
@[go_sem] def l_slices_pdqsortCmpFunc_int_4 : List GOp := [⟨(some 26), .mv (.t 0), none⟩,
    ⟨(some 27), .mv (.t 1), none⟩,
    ⟨(some 28), .mv (.t 2), none⟩,
    ⟨(some 29), .mv (.t 4), none⟩,
    ⟨(some 30), .call (n_slices_insertionSortCmpFunc_int) [(.t 26), (.t 27), (.t 28), (.t 29)], none⟩]
def slices_pdqsortCmpFunc_int_4 : IR := .ops l_slices_pdqsortCmpFunc_int_4
@[go_sem] theorem w_slices_pdqsortCmpFunc_int_4 : wp P slices_pdqsortCmpFunc_int_4 Q e H = wpL P l_slices_pdqsortCmpFunc_int_4 (Q .normal) e H := idE rfl
def slices_pdqsortCmpFunc_int_5 : IR := .cond (.t 25) (.seq slices_pdqsortCmpFunc_int_4 .ret) .skip
@[go_sem] theorem w_slices_pdqsortCmpFunc_int_5 : wp P slices_pdqsortCmpFunc_int_5 Q e H = condW P ((.t 25) : X) (.seq slices_pdqsortCmpFunc_int_4 .ret) .skip Q e H := idE rfl
@[go_sem] def l_slices_pdqsortCmpFunc_int_6 : List GOp := [⟨(some 31), .mv (.t 3), none⟩,
    ⟨(some 32), .bin .eql (.t 31) (.c (.int .i64 0)), none⟩]
def slices_pdqsortCmpFunc_int_6 : IR := .ops l_slices_pdqsortCmpFunc_int_6
@[go_sem] theorem w_slices_pdqsortCmpFunc_int_6 : wp P slices_pdqsortCmpFunc_int_6 Q e H = wpL P l_slices_pdqsortCmpFunc_int_6 (Q .normal) e H := idE rfl
@[go_sem] def l_slices_pdqsortCmpFunc_int_7 : List GOp := [⟨(some 33), .mv (.t 0), none⟩,
    ⟨(some 34), .mv (.t 1), none⟩,
    ⟨(some 35), .mv (.t 2), none⟩,
    ⟨(some 36), .mv (.t 4), none⟩,
    ⟨(some 37), .call (n_slices_heapSortCmpFunc_int) [(.t 33), (.t 34), (.t 35), (.t 36)], none⟩]
def slices_pdqsortCmpFunc_int_7 : IR := .ops l_slices_pdqsortCmpFunc_int_7
@[go_sem] theorem w_slices_pdqsortCmpFunc_int_7 : wp P slices_pdqsortCmpFunc_int_7 Q e H = wpL P l_slices_pdqsortCmpFunc_int_7 (Q .normal) e H := idE rfl
def slices_pdqsortCmpFunc_int_8 : IR := .cond (.t 32) (.seq slices_pdqsortCmpFunc_int_7 .ret) .skip
@[go_sem] theorem w_slices_pdqsortCmpFunc_int_8 : wp P slices_pdqsortCmpFunc_int_8 Q e H = condW P ((.t 32) : X) (.seq slices_pdqsortCmpFunc_int_7 .ret) .skip Q e H := idE rfl
@[go_sem] def l_slices_pdqsortCmpFunc_int_9 : List GOp := [⟨(some 38), .mv (.t 10), none⟩,
    ⟨(some 39), .un .not (.t 38), none⟩]
def slices_pdqsortCmpFunc_int_9 : IR := .ops l_slices_pdqsortCmpFunc_int_9
@[go_sem] theorem w_slices_pdqsortCmpFunc_int_9 : wp P slices_pdqsortCmpFunc_int_9 Q e H = wpL P l_slices_pdqsortCmpFunc_int_9 (Q .normal) e H := idE rfl
@[go_sem] def l_slices_pdqsortCmpFunc_int_10 : List GOp := [⟨(some 40), .mv (.t 0), none⟩,
    ⟨(some 41), .mv (.t 1), none⟩,
    ⟨(some 42), .mv (.t 2), none⟩,
    ⟨(some 43), .mv (.t 4), none⟩,
    ⟨(some 44), .call (n_slices_breakPatternsCmpFunc_int) [(.t 40), (.t 41), (.t 42), (.t 43)], none⟩]
def slices_pdqsortCmpFunc_int_10 : IR := .ops l_slices_pdqsortCmpFunc_int_10
@[go_sem] theorem w_slices_pdqsortCmpFunc_int_10 : wp P slices_pdqsortCmpFunc_int_10 Q e H = wpL P l_slices_pdqsortCmpFunc_int_10 (Q .normal) e H := idE rfl
@[go_sem] def l_slices_pdqsortCmpFunc_int_11 : List GOp := [⟨(some 45), .mv (.t 3), none⟩,
    ⟨(some 46), .bin .sub (.t 45) (.c (.int .i64 1)), none⟩,
    ⟨(some 3), .mv (.t 46), none⟩]
def slices_pdqsortCmpFunc_int_11 : IR := .ops l_slices_pdqsortCmpFunc_int_11
@[go_sem] theorem w_slices_pdqsortCmpFunc_int_11 : wp P slices_pdqsortCmpFunc_int_11 Q e H = wpL P l_slices_pdqsortCmpFunc_int_11 (Q .normal) e H := idE rfl
def slices_pdqsortCmpFunc_int_12 : IR := .cond (.t 39) (.seq slices_pdqsortCmpFunc_int_10 slices_pdqsortCmpFunc_int_11) .skip
@[go_sem] theorem w_slices_pdqsortCmpFunc_int_12 : wp P slices_pdqsortCmpFunc_int_12 Q e H = condW P ((.t 39) : X) (.seq slices_pdqsortCmpFunc_int_10 slices_pdqsortCmpFunc_int_11) .skip Q e H := idE rfl
@[go_sem] def l_slices_pdqsortCmpFunc_int_13 : List GOp := [⟨(some 48), .mv (.t 0), none⟩,
    ⟨(some 49), .mv (.t 1), none⟩,
    ⟨(some 50), .mv (.t 2), none⟩,
    ⟨(some 51), .mv (.t 4), none⟩,
    ⟨(some 52), .call (n_slices_choosePivotCmpFunc_int) [(.t 48), (.t 49), (.t 50), (.t 51)], none⟩,
    ⟨(some 47), .mv (.t 52), none⟩,
    ⟨(some 53), .ext (.t 47) 0, none⟩,
    ⟨(some 54), .ext (.t 47) 1, none⟩,
    ⟨(some 13), .mv (.t 53), none⟩,
    ⟨(some 14), .mv (.t 54), none⟩]
def slices_pdqsortCmpFunc_int_13 : IR := .ops l_slices_pdqsortCmpFunc_int_13
@[go_sem] theorem w_slices_pdqsortCmpFunc_int_13 : wp P slices_pdqsortCmpFunc_int_13 Q e H = wpL P l_slices_pdqsortCmpFunc_int_13 (Q .normal) e H := idE rfl
@[go_sem] def l_slices_pdqsortCmpFunc_int_14 : List GOp := [⟨(some 55), .mv (.t 14), none⟩,
    ⟨(some 56), .bin .eql (.t 55) (.c (.int .i64 2)), none⟩]
def slices_pdqsortCmpFunc_int_14 : IR := .ops l_slices_pdqsortCmpFunc_int_14
@[go_sem] theorem w_slices_pdqsortCmpFunc_int_14 : wp P slices_pdqsortCmpFunc_int_14 Q e H = wpL P l_slices_pdqsortCmpFunc_int_14 (Q .normal) e H := idE rfl
@[go_sem] def l_slices_pdqsortCmpFunc_int_15 : List GOp := [⟨(some 57), .mv (.t 0), none⟩,
    ⟨(some 58), .mv (.t 1), none⟩,
    ⟨(some 59), .mv (.t 2), none⟩,
    ⟨(some 60), .mv (.t 4), none⟩,
    ⟨(some 61), .call (n_slices_reverseRangeCmpFunc_int) [(.t 57), (.t 58), (.t 59), (.t 60)], none⟩]
def slices_pdqsortCmpFunc_int_15 : IR := .ops l_slices_pdqsortCmpFunc_int_15
@[go_sem] theorem w_slices_pdqsortCmpFunc_int_15 : wp P slices_pdqsortCmpFunc_int_15 Q e H = wpL P l_slices_pdqsortCmpFunc_int_15 (Q .normal) e H := idE rfl
@[go_sem] def l_slices_pdqsortCmpFunc_int_16 : List GOp := [⟨(some 62), .mv (.t 2), none⟩,
    ⟨(some 63), .bin .sub (.t 62) (.c (.int .i64 1)), none⟩,
    ⟨(some 64), .mv (.t 13), none⟩,
    ⟨(some 65), .mv (.t 1), none⟩,
    ⟨(some 66), .bin .sub (.t 64) (.t 65), none⟩,
    ⟨(some 67), .bin .sub (.t 63) (.t 66), none⟩,
    ⟨(some 13), .mv (.t 67), none⟩]
def slices_pdqsortCmpFunc_int_16 : IR := .ops l_slices_pdqsortCmpFunc_int_16
@[go_sem] theorem w_slices_pdqsortCmpFunc_int_16 : wp P slices_pdqsortCmpFunc_int_16 Q e H = wpL P l_slices_pdqsortCmpFunc_int_16 (Q .normal) e H := idE rfl
@[go_sem] def l_slices_pdqsortCmpFunc_int_17 : List GOp := [⟨(some 14), .mv (.c (.int .i64 1)), none⟩]
def slices_pdqsortCmpFunc_int_17 : IR := .ops l_slices_pdqsortCmpFunc_int_17
@[go_sem] theorem w_slices_pdqsortCmpFunc_int_17 : wp P slices_pdqsortCmpFunc_int_17 Q e H = wpL P l_slices_pdqsortCmpFunc_int_17 (Q .normal) e H := idE rfl
def slices_pdqsortCmpFunc_int_18 : IR := .cond (.t 56) (.seq slices_pdqsortCmpFunc_int_15 (.seq slices_pdqsortCmpFunc_int_16 slices_pdqsortCmpFunc_int_17)) .skip
@[go_sem] theorem w_slices_pdqsortCmpFunc_int_18 : wp P slices_pdqsortCmpFunc_int_18 Q e H = condW P ((.t 56) : X) (.seq slices_pdqsortCmpFunc_int_15 (.seq slices_pdqsortCmpFunc_int_16 slices_pdqsortCmpFunc_int_17)) .skip Q e H := idE rfl
@[go_sem] def l_slices_pdqsortCmpFunc_int_19 : List GOp := [⟨(some 68), .mv (.t 10), none⟩,
    ⟨(some 69), .mv (.t 68), none⟩,
    ⟨(some 70), .mv (.t 11), (some (69, true))⟩,
    ⟨(some 71), .pick (.t 69) (.t 70) (.c (.bool false)), none⟩,
    ⟨(some 72), .mv (.t 71), none⟩,
    ⟨(some 73), .mv (.t 14), (some (72, true))⟩,
    ⟨(some 74), .bin .eql (.t 73) (.c (.int .i64 1)), (some (72, true))⟩,
    ⟨(some 75), .pick (.t 72) (.t 74) (.c (.bool false)), none⟩]
def slices_pdqsortCmpFunc_int_19 : IR := .ops l_slices_pdqsortCmpFunc_int_19
@[go_sem] theorem w_slices_pdqsortCmpFunc_int_19 : wp P slices_pdqsortCmpFunc_int_19 Q e H = wpL P l_slices_pdqsortCmpFunc_int_19 (Q .normal) e H := idE rfl
@[go_sem] def l_slices_pdqsortCmpFunc_int_20 : List GOp := [⟨(some 76), .mv (.t 0), none⟩,
    ⟨(some 77), .mv (.t 1), none⟩,
    ⟨(some 78), .mv (.t 2), none⟩,
    ⟨(some 79), .mv (.t 4), none⟩,
    ⟨(some 80), .call (n_slices_partialInsertionSortCmpFunc_int) [(.t 76), (.t 77), (.t 78), (.t 79)], none⟩]
def slices_pdqsortCmpFunc_int_20 : IR := .ops l_slices_pdqsortCmpFunc_int_20
@[go_sem] theorem w_slices_pdqsortCmpFunc_int_20 : wp P slices_pdqsortCmpFunc_int_20 Q e H = wpL P l_slices_pdqsortCmpFunc_int_20 (Q .normal) e H := idE rfl
def slices_pdqsortCmpFunc_int_21 : IR := .cond (.t 80) .ret .skip
@[go_sem] theorem w_slices_pdqsortCmpFunc_int_21 : wp P slices_pdqsortCmpFunc_int_21 Q e H = condW P ((.t 80) : X) .ret .skip Q e H := idE rfl
def slices_pdqsortCmpFunc_int_22 : IR := .cond (.t 75) (.seq slices_pdqsortCmpFunc_int_20 slices_pdqsortCmpFunc_int_21) .skip
@[go_sem] theorem w_slices_pdqsortCmpFunc_int_22 : wp P slices_pdqsortCmpFunc_int_22 Q e H = condW P ((.t 75) : X) (.seq slices_pdqsortCmpFunc_int_20 slices_pdqsortCmpFunc_int_21) .skip Q e H := idE rfl
def l_slices_pdqsortCmpFunc_int_23 : List GOp := [⟨(some 81), .mv (.t 1), none⟩,
    ⟨(some 82), .bin .gtr (.t 81) (.c (.int .i64 0)), none⟩,
    ⟨(some 83), .mv (.t 82), none⟩,
    ⟨(some 84), .mv (.t 4), (some (83, true))⟩,
    ⟨(some 85), .mv (.t 0), (some (83, true))⟩,
    ⟨(some 86), .mv (.t 1), (some (83, true))⟩,
    ⟨(some 87), .bin .sub (.t 86) (.c (.int .i64 1)), (some (83, true))⟩,
    ⟨(some 88), .iaddr (.t 85) (.t 87) 1, (some (83, true))⟩,
    ⟨(some 89), .load (.t 88) 1 false, (some (83, true))⟩,
    ⟨(some 90), .mv (.t 0), (some (83, true))⟩,
    ⟨(some 91), .mv (.t 13), (some (83, true))⟩,
    ⟨(some 92), .iaddr (.t 90) (.t 91) 1, (some (83, true))⟩,
    ⟨(some 93), .load (.t 92) 1 false, (some (83, true))⟩,
    ⟨(some 94), .callv (.t 84) [(.t 89), (.t 93)], (some (83, true))⟩,
    ⟨(some 95), .bin .lss (.t 94) (.c (.int .i64 0)), (some (83, true))⟩,
    ⟨(some 96), .un .not (.t 95), (some (83, true))⟩,
    ⟨(some 97), .pick (.t 83) (.t 96) (.c (.bool false)), none⟩]
@[go_sem] theorem g_slices_pdqsortCmpFunc_int_23_0 : gAt l_slices_pdqsortCmpFunc_int_23 0 = ⟨(some 81), .mv (.t 1), none⟩ := idE rfl
@[go_sem] theorem g_slices_pdqsortCmpFunc_int_23_1 : gAt l_slices_pdqsortCmpFunc_int_23 1 = ⟨(some 82), .bin .gtr (.t 81) (.c (.int .i64 0)), none⟩ := idE rfl
@[go_sem] theorem g_slices_pdqsortCmpFunc_int_23_2 : gAt l_slices_pdqsortCmpFunc_int_23 2 = ⟨(some 83), .mv (.t 82), none⟩ := idE rfl
@[go_sem] theorem g_slices_pdqsortCmpFunc_int_23_3 : gAt l_slices_pdqsortCmpFunc_int_23 3 = ⟨(some 84), .mv (.t 4), (some (83, true))⟩ := idE rfl
@[go_sem] theorem g_slices_pdqsortCmpFunc_int_23_4 : gAt l_slices_pdqsortCmpFunc_int_23 4 = ⟨(some 85), .mv (.t 0), (some (83, true))⟩ := idE rfl
@[go_sem] theorem g_slices_pdqsortCmpFunc_int_23_5 : gAt l_slices_pdqsortCmpFunc_int_23 5 = ⟨(some 86), .mv (.t 1), (some (83, true))⟩ := idE rfl
@[go_sem] theorem g_slices_pdqsortCmpFunc_int_23_6 : gAt l_slices_pdqsortCmpFunc_int_23 6 = ⟨(some 87), .bin .sub (.t 86) (.c (.int .i64 1)), (some (83, true))⟩ := idE rfl
@[go_sem] theorem g_slices_pdqsortCmpFunc_int_23_7 : gAt l_slices_pdqsortCmpFunc_int_23 7 = ⟨(some 88), .iaddr (.t 85) (.t 87) 1, (some (83, true))⟩ := idE rfl
@[go_sem] theorem g_slices_pdqsortCmpFunc_int_23_8 : gAt l_slices_pdqsortCmpFunc_int_23 8 = ⟨(some 89), .load (.t 88) 1 false, (some (83, true))⟩ := idE rfl
@[go_sem] theorem g_slices_pdqsortCmpFunc_int_23_9 : gAt l_slices_pdqsortCmpFunc_int_23 9 = ⟨(some 90), .mv (.t 0), (some (83, true))⟩ := idE rfl
@[go_sem] theorem g_slices_pdqsortCmpFunc_int_23_10 : gAt l_slices_pdqsortCmpFunc_int_23 10 = ⟨(some 91), .mv (.t 13), (some (83, true))⟩ := idE rfl
@[go_sem] theorem g_slices_pdqsortCmpFunc_int_23_11 : gAt l_slices_pdqsortCmpFunc_int_23 11 = ⟨(some 92), .iaddr (.t 90) (.t 91) 1, (some (83, true))⟩ := idE rfl
@[go_sem] theorem g_slices_pdqsortCmpFunc_int_23_12 : gAt l_slices_pdqsortCmpFunc_int_23 12 = ⟨(some 93), .load (.t 92) 1 false, (some (83, true))⟩ := idE rfl
@[go_sem] theorem g_slices_pdqsortCmpFunc_int_23_13 : gAt l_slices_pdqsortCmpFunc_int_23 13 = ⟨(some 94), .callv (.t 84) [(.t 89), (.t 93)], (some (83, true))⟩ := idE rfl
@[go_sem] theorem g_slices_pdqsortCmpFunc_int_23_14 : gAt l_slices_pdqsortCmpFunc_int_23 14 = ⟨(some 95), .bin .lss (.t 94) (.c (.int .i64 0)), (some (83, true))⟩ := idE rfl
@[go_sem] theorem g_slices_pdqsortCmpFunc_int_23_15 : gAt l_slices_pdqsortCmpFunc_int_23 15 = ⟨(some 96), .un .not (.t 95), (some (83, true))⟩ := idE rfl
@[go_sem] theorem g_slices_pdqsortCmpFunc_int_23_16 : gAt l_slices_pdqsortCmpFunc_int_23 16 = ⟨(some 97), .pick (.t 83) (.t 96) (.c (.bool false)), none⟩ := idE rfl
def slices_pdqsortCmpFunc_int_23 : IR := .dops l_slices_pdqsortCmpFunc_int_23 [(0, []), (1, []), (2, []), (3, []), (4, []), (5, []), (6, []), (7, []), (8, []), (9, []), (10, []), (11, []), (12, []), (13, []), (14, []), (15, []), (16, [])]
@[go_sem] theorem w_slices_pdqsortCmpFunc_int_23 : wp P slices_pdqsortCmpFunc_int_23 Q e H = wpD P l_slices_pdqsortCmpFunc_int_23 [(0, []), (1, []), (2, []), (3, []), (4, []), (5, []), (6, []), (7, []), (8, []), (9, []), (10, []), (11, []), (12, []), (13, []), (14, []), (15, []), (16, [])] (Q .normal) e H := idE rfl
@[go_sem] def l_slices_pdqsortCmpFunc_int_24 : List GOp := [⟨(some 98), .mv (.t 0), none⟩,
    ⟨(some 99), .mv (.t 1), none⟩,
    ⟨(some 100), .mv (.t 2), none⟩,
    ⟨(some 101), .mv (.t 13), none⟩,
    ⟨(some 102), .mv (.t 4), none⟩,
    ⟨(some 103), .call (n_slices_partitionEqualCmpFunc_int) [(.t 98), (.t 99), (.t 100), (.t 101), (.t 102)], none⟩,
    ⟨(some 15), .mv (.t 103), none⟩]
def slices_pdqsortCmpFunc_int_24 : IR := .ops l_slices_pdqsortCmpFunc_int_24
@[go_sem] theorem w_slices_pdqsortCmpFunc_int_24 : wp P slices_pdqsortCmpFunc_int_24 Q e H = wpL P l_slices_pdqsortCmpFunc_int_24 (Q .normal) e H := idE rfl
@[go_sem] def l_slices_pdqsortCmpFunc_int_25 : List GOp := [⟨(some 104), .mv (.t 15), none⟩,
    ⟨(some 1), .mv (.t 104), none⟩]
def slices_pdqsortCmpFunc_int_25 : IR := .ops l_slices_pdqsortCmpFunc_int_25
@[go_sem] theorem w_slices_pdqsortCmpFunc_int_25 : wp P slices_pdqsortCmpFunc_int_25 Q e H = wpL P l_slices_pdqsortCmpFunc_int_25 (Q .normal) e H := idE rfl
def slices_pdqsortCmpFunc_int_26 : IR := .cond (.t 97) (.seq slices_pdqsortCmpFunc_int_24 (.seq slices_pdqsortCmpFunc_int_25 (.exit 1))) .skip
@[go_sem] theorem w_slices_pdqsortCmpFunc_int_26 : wp P slices_pdqsortCmpFunc_int_26 Q e H = condW P ((.t 97) : X) (.seq slices_pdqsortCmpFunc_int_24 (.seq slices_pdqsortCmpFunc_int_25 (.exit 1))) .skip Q e H := idE rfl
@[go_sem] def l_slices_pdqsortCmpFunc_int_27 : List GOp := [⟨(some 106), .mv (.t 0), none⟩,
    ⟨(some 107), .mv (.t 1), none⟩,
    ⟨(some 108), .mv (.t 2), none⟩,
    ⟨(some 109), .mv (.t 13), none⟩,
    ⟨(some 110), .mv (.t 4), none⟩,
    ⟨(some 111), .call (n_slices_partitionCmpFunc_int) [(.t 106), (.t 107), (.t 108), (.t 109), (.t 110)], none⟩,
    ⟨(some 105), .mv (.t 111), none⟩,
    ⟨(some 112), .ext (.t 105) 0, none⟩,
    ⟨(some 113), .ext (.t 105) 1, none⟩,
    ⟨(some 16), .mv (.t 112), none⟩,
    ⟨(some 17), .mv (.t 113), none⟩]
def slices_pdqsortCmpFunc_int_27 : IR := .ops l_slices_pdqsortCmpFunc_int_27
@[go_sem] theorem w_slices_pdqsortCmpFunc_int_27 : wp P slices_pdqsortCmpFunc_int_27 Q e H = wpL P l_slices_pdqsortCmpFunc_int_27 (Q .normal) e H := idE rfl
@[go_sem] def l_slices_pdqsortCmpFunc_int_28 : List GOp := [⟨(some 114), .mv (.t 17), none⟩,
    ⟨(some 11), .mv (.t 114), none⟩]
def slices_pdqsortCmpFunc_int_28 : IR := .ops l_slices_pdqsortCmpFunc_int_28
@[go_sem] theorem w_slices_pdqsortCmpFunc_int_28 : wp P slices_pdqsortCmpFunc_int_28 Q e H = wpL P l_slices_pdqsortCmpFunc_int_28 (Q .normal) e H := idE rfl
@[go_sem] def l_slices_pdqsortCmpFunc_int_29 : List GOp := [⟨(some 115), .mv (.t 16), none⟩,
    ⟨(some 116), .mv (.t 1), none⟩,
    ⟨(some 117), .bin .sub (.t 115) (.t 116), none⟩,
    ⟨(some 118), .mv (.t 2), none⟩,
    ⟨(some 119), .mv (.t 16), none⟩,
    ⟨(some 120), .bin .sub (.t 118) (.t 119), none⟩,
    ⟨(some 18), .mv (.t 117), none⟩,
    ⟨(some 19), .mv (.t 120), none⟩]
def slices_pdqsortCmpFunc_int_29 : IR := .ops l_slices_pdqsortCmpFunc_int_29
@[go_sem] theorem w_slices_pdqsortCmpFunc_int_29 : wp P slices_pdqsortCmpFunc_int_29 Q e H = wpL P l_slices_pdqsortCmpFunc_int_29 (Q .normal) e H := idE rfl
@[go_sem] def l_slices_pdqsortCmpFunc_int_30 : List GOp := [⟨(some 121), .mv (.t 12), none⟩,
    ⟨(some 122), .bin .quo (.t 121) (.c (.int .i64 8)), none⟩,
    ⟨(some 20), .mv (.t 122), none⟩]
def slices_pdqsortCmpFunc_int_30 : IR := .ops l_slices_pdqsortCmpFunc_int_30
@[go_sem] theorem w_slices_pdqsortCmpFunc_int_30 : wp P slices_pdqsortCmpFunc_int_30 Q e H = wpL P l_slices_pdqsortCmpFunc_int_30 (Q .normal) e H := idE rfl
@[go_sem] def l_slices_pdqsortCmpFunc_int_31 : List GOp := [⟨(some 123), .mv (.t 18), none⟩,
    ⟨(some 124), .mv (.t 19), none⟩,
    ⟨(some 125), .bin .lss (.t 123) (.t 124), none⟩]
def slices_pdqsortCmpFunc_int_31 : IR := .ops l_slices_pdqsortCmpFunc_int_31
@[go_sem] theorem w_slices_pdqsortCmpFunc_int_31 : wp P slices_pdqsortCmpFunc_int_31 Q e H = wpL P l_slices_pdqsortCmpFunc_int_31 (Q .normal) e H := idE rfl
@[go_sem] def l_slices_pdqsortCmpFunc_int_32 : List GOp := [⟨(some 126), .mv (.t 18), none⟩,
    ⟨(some 127), .mv (.t 20), none⟩,
    ⟨(some 128), .bin .geq (.t 126) (.t 127), none⟩,
    ⟨(some 10), .mv (.t 128), none⟩]
def slices_pdqsortCmpFunc_int_32 : IR := .ops l_slices_pdqsortCmpFunc_int_32
@[go_sem] theorem w_slices_pdqsortCmpFunc_int_32 : wp P slices_pdqsortCmpFunc_int_32 Q e H = wpL P l_slices_pdqsortCmpFunc_int_32 (Q .normal) e H := idE rfl
@[go_sem] def l_slices_pdqsortCmpFunc_int_33 : List GOp := [⟨(some 129), .mv (.t 0), none⟩,
    ⟨(some 130), .mv (.t 1), none⟩,
    ⟨(some 131), .mv (.t 16), none⟩,
    ⟨(some 132), .mv (.t 3), none⟩,
    ⟨(some 133), .mv (.t 4), none⟩,
    ⟨(some 134), .call (n_slices_pdqsortCmpFunc_int) [(.t 129), (.t 130), (.t 131), (.t 132), (.t 133)], none⟩]
def slices_pdqsortCmpFunc_int_33 : IR := .ops l_slices_pdqsortCmpFunc_int_33
@[go_sem] theorem w_slices_pdqsortCmpFunc_int_33 : wp P slices_pdqsortCmpFunc_int_33 Q e H = wpL P l_slices_pdqsortCmpFunc_int_33 (Q .normal) e H := idE rfl
@[go_sem] def l_slices_pdqsortCmpFunc_int_34 : List GOp := [⟨(some 135), .mv (.t 16), none⟩,
    ⟨(some 136), .bin .add (.t 135) (.c (.int .i64 1)), none⟩,
    ⟨(some 1), .mv (.t 136), none⟩]
def slices_pdqsortCmpFunc_int_34 : IR := .ops l_slices_pdqsortCmpFunc_int_34
@[go_sem] theorem w_slices_pdqsortCmpFunc_int_34 : wp P slices_pdqsortCmpFunc_int_34 Q e H = wpL P l_slices_pdqsortCmpFunc_int_34 (Q .normal) e H := idE rfl
@[go_sem] def l_slices_pdqsortCmpFunc_int_35 : List GOp := [⟨(some 137), .mv (.t 19), none⟩,
    ⟨(some 138), .mv (.t 20), none⟩,
    ⟨(some 139), .bin .geq (.t 137) (.t 138), none⟩,
    ⟨(some 10), .mv (.t 139), none⟩]
def slices_pdqsortCmpFunc_int_35 : IR := .ops l_slices_pdqsortCmpFunc_int_35
@[go_sem] theorem w_slices_pdqsortCmpFunc_int_35 : wp P slices_pdqsortCmpFunc_int_35 Q e H = wpL P l_slices_pdqsortCmpFunc_int_35 (Q .normal) e H := idE rfl
@[go_sem] def l_slices_pdqsortCmpFunc_int_36 : List GOp := [⟨(some 140), .mv (.t 0), none⟩,
    ⟨(some 141), .mv (.t 16), none⟩,
    ⟨(some 142), .bin .add (.t 141) (.c (.int .i64 1)), none⟩,
    ⟨(some 143), .mv (.t 2), none⟩,
    ⟨(some 144), .mv (.t 3), none⟩,
    ⟨(some 145), .mv (.t 4), none⟩,
    ⟨(some 146), .call (n_slices_pdqsortCmpFunc_int) [(.t 140), (.t 142), (.t 143), (.t 144), (.t 145)], none⟩]
def slices_pdqsortCmpFunc_int_36 : IR := .ops l_slices_pdqsortCmpFunc_int_36
@[go_sem] theorem w_slices_pdqsortCmpFunc_int_36 : wp P slices_pdqsortCmpFunc_int_36 Q e H = wpL P l_slices_pdqsortCmpFunc_int_36 (Q .normal) e H := idE rfl
@[go_sem] def l_slices_pdqsortCmpFunc_int_37 : List GOp := [⟨(some 147), .mv (.t 16), none⟩,
    ⟨(some 2), .mv (.t 147), none⟩]
def slices_pdqsortCmpFunc_int_37 : IR := .ops l_slices_pdqsortCmpFunc_int_37
@[go_sem] theorem w_slices_pdqsortCmpFunc_int_37 : wp P slices_pdqsortCmpFunc_int_37 Q e H = wpL P l_slices_pdqsortCmpFunc_int_37 (Q .normal) e H := idE rfl
def slices_pdqsortCmpFunc_int_38 : IR := .cond (.t 125) (.seq slices_pdqsortCmpFunc_int_32 (.seq slices_pdqsortCmpFunc_int_33 slices_pdqsortCmpFunc_int_34)) (.seq slices_pdqsortCmpFunc_int_35 (.seq slices_pdqsortCmpFunc_int_36 slices_pdqsortCmpFunc_int_37))
@[go_sem] theorem w_slices_pdqsortCmpFunc_int_38 : wp P slices_pdqsortCmpFunc_int_38 Q e H = condW P ((.t 125) : X) (.seq slices_pdqsortCmpFunc_int_32 (.seq slices_pdqsortCmpFunc_int_33 slices_pdqsortCmpFunc_int_34)) (.seq slices_pdqsortCmpFunc_int_35 (.seq slices_pdqsortCmpFunc_int_36 slices_pdqsortCmpFunc_int_37)) Q e H := idE rfl
def slices_pdqsortCmpFunc_int_39 : IR := .block 1 (.seq slices_pdqsortCmpFunc_int_2 (.seq (.seq slices_pdqsortCmpFunc_int_3 slices_pdqsortCmpFunc_int_5) (.seq (.seq slices_pdqsortCmpFunc_int_6 slices_pdqsortCmpFunc_int_8) (.seq (.seq slices_pdqsortCmpFunc_int_9 slices_pdqsortCmpFunc_int_12) (.seq slices_pdqsortCmpFunc_int_13 (.seq (.seq slices_pdqsortCmpFunc_int_14 slices_pdqsortCmpFunc_int_18) (.seq (.seq slices_pdqsortCmpFunc_int_19 slices_pdqsortCmpFunc_int_22) (.seq (.seq slices_pdqsortCmpFunc_int_23 slices_pdqsortCmpFunc_int_26) (.seq slices_pdqsortCmpFunc_int_27 (.seq slices_pdqsortCmpFunc_int_28 (.seq slices_pdqsortCmpFunc_int_29 (.seq slices_pdqsortCmpFunc_int_30 (.seq slices_pdqsortCmpFunc_int_31 slices_pdqsortCmpFunc_int_38)))))))))))))
@[go_sem] theorem w_slices_pdqsortCmpFunc_int_39 : wp P slices_pdqsortCmpFunc_int_39 Q e H = wp P (.seq slices_pdqsortCmpFunc_int_2 (.seq (.seq slices_pdqsortCmpFunc_int_3 slices_pdqsortCmpFunc_int_5) (.seq (.seq slices_pdqsortCmpFunc_int_6 slices_pdqsortCmpFunc_int_8) (.seq (.seq slices_pdqsortCmpFunc_int_9 slices_pdqsortCmpFunc_int_12) (.seq slices_pdqsortCmpFunc_int_13 (.seq (.seq slices_pdqsortCmpFunc_int_14 slices_pdqsortCmpFunc_int_18) (.seq (.seq slices_pdqsortCmpFunc_int_19 slices_pdqsortCmpFunc_int_22) (.seq (.seq slices_pdqsortCmpFunc_int_23 slices_pdqsortCmpFunc_int_26) (.seq slices_pdqsortCmpFunc_int_27 (.seq slices_pdqsortCmpFunc_int_28 (.seq slices_pdqsortCmpFunc_int_29 (.seq slices_pdqsortCmpFunc_int_30 (.seq slices_pdqsortCmpFunc_int_31 slices_pdqsortCmpFunc_int_38))))))))))))) (blockQ 1 Q) e H := idE rfl
def slices_pdqsortCmpFunc_int_40 : IR := .loop slices_pdqsortCmpFunc_int_39
def slices_pdqsortCmpFunc_int_41 : IR := .block 0 slices_pdqsortCmpFunc_int_40
@[go_sem] theorem w_slices_pdqsortCmpFunc_int_41 : wp P slices_pdqsortCmpFunc_int_41 Q e H = wp P slices_pdqsortCmpFunc_int_40 (blockQ 0 Q) e H := idE rfl
@[go_sem] def l_slices_SortFunc_Sint_int_0 : List GOp := [⟨(some 5), .mv (.t 0), none⟩,
    ⟨(some 6), .len (.t 5), none⟩,
    ⟨(some 4), .mv (.t 6), none⟩]
def slices_SortFunc_Sint_int_0 : IR := .ops l_slices_SortFunc_Sint_int_0
@[go_sem] theorem w_slices_SortFunc_Sint_int_0 : wp P slices_SortFunc_Sint_int_0 Q e H = wpL P l_slices_SortFunc_Sint_int_0 (Q .normal) e H := idE rfl
@[go_sem] def l_slices_SortFunc_Sint_int_1 : List GOp := [⟨(some 7), .mv (.t 0), none⟩,
    ⟨(some 8), .mv (.t 4), none⟩,
    ⟨(some 9), .mv (.t 4), none⟩,
    ⟨(some 10), .cvi .u64 (.t 9), none⟩,
    ⟨(some 11), .call (n_math_bits_Len) [(.t 10)], none⟩,
    ⟨(some 12), .mv (.t 1), none⟩,
    ⟨(some 13), .call (n_slices_pdqsortCmpFunc_int) [(.t 7), (.c (.int .i64 0)), (.t 8), (.t 11), (.t 12)], none⟩]
def slices_SortFunc_Sint_int_1 : IR := .ops l_slices_SortFunc_Sint_int_1
@[go_sem] theorem w_slices_SortFunc_Sint_int_1 : wp P slices_SortFunc_Sint_int_1 Q e H = wpL P l_slices_SortFunc_Sint_int_1 (Q .normal) e H := idE rfl
@[go_sem] def l_cmp_isNaN_int_0 : List GOp := [⟨(some 2), .mv (.c (.bool false)), none⟩]
def cmp_isNaN_int_0 : IR := .ops l_cmp_isNaN_int_0
@[go_sem] theorem w_cmp_isNaN_int_0 : wp P cmp_isNaN_int_0 Q e H = wpL P l_cmp_isNaN_int_0 (Q .normal) e H := idE rfl
@[go_sem] def l_cmp_isNaN_int_1 : List GOp := [⟨(some 3), .mv (.t 0), none⟩,
    ⟨(some 4), .mv (.t 0), none⟩,
    ⟨(some 5), .bin .neq (.t 3) (.t 4), none⟩,
    ⟨(some 2), .mv (.t 5), none⟩]
def cmp_isNaN_int_1 : IR := .ops l_cmp_isNaN_int_1
@[go_sem] theorem w_cmp_isNaN_int_1 : wp P cmp_isNaN_int_1 Q e H = wpL P l_cmp_isNaN_int_1 (Q .normal) e H := idE rfl
def F_cmp_isNaN_int : IFn := ⟨1, 6, [.t 2], (.seq cmp_isNaN_int_0 (.seq cmp_isNaN_int_1 .ret))⟩
theorem c_cmp_isNaN_int : compFn Try.prog [(0, [], []), (1, [], [])] Try.f141 = some F_cmp_isNaN_int := by kernel_rfl
theorem a_cmp_isNaN_int (hl : args.length = 1) (h : wp Try.prog (.seq cmp_isNaN_int_0 (.seq cmp_isNaN_int_1 .ret)) (postQ [.t 2] R) (env0 args) H) : ACall Try.prog n_cmp_isNaN_int args H R :=
  acall_of_wp mixed Try.func141 c_cmp_isNaN_int (by kernel_rfl) hl h
@[go_sem] def l_cmp_Compare_int_0 : List GOp := [⟨(some 4), .mv (.c (.int .i64 0)), none⟩]
def cmp_Compare_int_0 : IR := .ops l_cmp_Compare_int_0
@[go_sem] theorem w_cmp_Compare_int_0 : wp P cmp_Compare_int_0 Q e H = wpL P l_cmp_Compare_int_0 (Q .normal) e H := idE rfl
@[go_sem] def l_cmp_Compare_int_1 : List GOp := [⟨(some 7), .mv (.t 0), none⟩,
    ⟨(some 8), .call (n_cmp_isNaN_int) [(.t 7)], none⟩,
    ⟨(some 5), .mv (.t 8), none⟩]
def cmp_Compare_int_1 : IR := .ops l_cmp_Compare_int_1
@[go_sem] theorem w_cmp_Compare_int_1 : wp P cmp_Compare_int_1 Q e H = wpL P l_cmp_Compare_int_1 (Q .normal) e H := idE rfl
@[go_sem] def l_cmp_Compare_int_2 : List GOp := [⟨(some 9), .mv (.t 1), none⟩,
    ⟨(some 10), .call (n_cmp_isNaN_int) [(.t 9)], none⟩,
    ⟨(some 6), .mv (.t 10), none⟩]
def cmp_Compare_int_2 : IR := .ops l_cmp_Compare_int_2
@[go_sem] theorem w_cmp_Compare_int_2 : wp P cmp_Compare_int_2 Q e H = wpL P l_cmp_Compare_int_2 (Q .normal) e H := idE rfl
@[go_sem] def l_cmp_Compare_int_3 : List GOp := [⟨(some 11), .mv (.t 5), none⟩]
def cmp_Compare_int_3 : IR := .ops l_cmp_Compare_int_3
@[go_sem] theorem w_cmp_Compare_int_3 : wp P cmp_Compare_int_3 Q e H = wpL P l_cmp_Compare_int_3 (Q .normal) e H := idE rfl
@[go_sem] def l_cmp_Compare_int_4 : List GOp := [⟨(some 12), .mv (.t 6), none⟩]
def cmp_Compare_int_4 : IR := .ops l_cmp_Compare_int_4
@[go_sem] theorem w_cmp_Compare_int_4 : wp P cmp_Compare_int_4 Q e H = wpL P l_cmp_Compare_int_4 (Q .normal) e H := idE rfl
@[go_sem] def l_cmp_Compare_int_5 : List GOp := [⟨(some 4), .mv (.c (.int .i64 0)), none⟩]
def cmp_Compare_int_5 : IR := .ops l_cmp_Compare_int_5
@[go_sem] theorem w_cmp_Compare_int_5 : wp P cmp_Compare_int_5 Q e H = wpL P l_cmp_Compare_int_5 (Q .normal) e H := idE rfl
def cmp_Compare_int_6 : IR := .cond (.t 12) (.seq cmp_Compare_int_5 .ret) .skip
@[go_sem] theorem w_cmp_Compare_int_6 : wp P cmp_Compare_int_6 Q e H = condW P ((.t 12) : X) (.seq cmp_Compare_int_5 .ret) .skip Q e H := idE rfl
@[go_sem] def l_cmp_Compare_int_7 : List GOp := [⟨(some 4), .mv (.c (.int .i64 (-1))), none⟩]
def cmp_Compare_int_7 : IR := .ops l_cmp_Compare_int_7
@[go_sem] theorem w_cmp_Compare_int_7 : wp P cmp_Compare_int_7 Q e H = wpL P l_cmp_Compare_int_7 (Q .normal) e H := idE rfl
def cmp_Compare_int_8 : IR := .cond (.t 11) (.seq (.seq cmp_Compare_int_4 cmp_Compare_int_6) (.seq cmp_Compare_int_7 .ret)) .skip
@[go_sem] theorem w_cmp_Compare_int_8 : wp P cmp_Compare_int_8 Q e H = condW P ((.t 11) : X) (.seq (.seq cmp_Compare_int_4 cmp_Compare_int_6) (.seq cmp_Compare_int_7 .ret)) .skip Q e H := idE rfl
@[go_sem] def l_cmp_Compare_int_9 : List GOp := [⟨(some 13), .mv (.t 6), none⟩]
def cmp_Compare_int_9 : IR := .ops l_cmp_Compare_int_9
@[go_sem] theorem w_cmp_Compare_int_9 : wp P cmp_Compare_int_9 Q e H = wpL P l_cmp_Compare_int_9 (Q .normal) e H := idE rfl
@[go_sem] def l_cmp_Compare_int_10 : List GOp := [⟨(some 4), .mv (.c (.int .i64 1)), none⟩]
def cmp_Compare_int_10 : IR := .ops l_cmp_Compare_int_10
@[go_sem] theorem w_cmp_Compare_int_10 : wp P cmp_Compare_int_10 Q e H = wpL P l_cmp_Compare_int_10 (Q .normal) e H := idE rfl
def cmp_Compare_int_11 : IR := .cond (.t 13) (.seq cmp_Compare_int_10 .ret) .skip
@[go_sem] theorem w_cmp_Compare_int_11 : wp P cmp_Compare_int_11 Q e H = condW P ((.t 13) : X) (.seq cmp_Compare_int_10 .ret) .skip Q e H := idE rfl
@[go_sem] def l_cmp_Compare_int_12 : List GOp := [⟨(some 14), .mv (.t 0), none⟩,
    ⟨(some 15), .mv (.t 1), none⟩,
    ⟨(some 16), .bin .lss (.t 14) (.t 15), none⟩]
def cmp_Compare_int_12 : IR := .ops l_cmp_Compare_int_12
@[go_sem] theorem w_cmp_Compare_int_12 : wp P cmp_Compare_int_12 Q e H = wpL P l_cmp_Compare_int_12 (Q .normal) e H := idE rfl
@[go_sem] def l_cmp_Compare_int_13 : List GOp := [⟨(some 4), .mv (.c (.int .i64 (-1))), none⟩]
def cmp_Compare_int_13 : IR := .ops l_cmp_Compare_int_13
@[go_sem] theorem w_cmp_Compare_int_13 : wp P cmp_Compare_int_13 Q e H = wpL P l_cmp_Compare_int_13 (Q .normal) e H := idE rfl
def cmp_Compare_int_14 : IR := .cond (.t 16) (.seq cmp_Compare_int_13 .ret) .skip
@[go_sem] theorem w_cmp_Compare_int_14 : wp P cmp_Compare_int_14 Q e H = condW P ((.t 16) : X) (.seq cmp_Compare_int_13 .ret) .skip Q e H := idE rfl
@[go_sem] def l_cmp_Compare_int_15 : List GOp := [⟨(some 17), .mv (.t 0), none⟩,
    ⟨(some 18), .mv (.t 1), none⟩,
    ⟨(some 19), .bin .gtr (.t 17) (.t 18), none⟩]
def cmp_Compare_int_15 : IR := .ops l_cmp_Compare_int_15
@[go_sem] theorem w_cmp_Compare_int_15 : wp P cmp_Compare_int_15 Q e H = wpL P l_cmp_Compare_int_15 (Q .normal) e H := idE rfl
@[go_sem] def l_cmp_Compare_int_16 : List GOp := [⟨(some 4), .mv (.c (.int .i64 1)), none⟩]
def cmp_Compare_int_16 : IR := .ops l_cmp_Compare_int_16
@[go_sem] theorem w_cmp_Compare_int_16 : wp P cmp_Compare_int_16 Q e H = wpL P l_cmp_Compare_int_16 (Q .normal) e H := idE rfl
def cmp_Compare_int_17 : IR := .cond (.t 19) (.seq cmp_Compare_int_16 .ret) .skip
@[go_sem] theorem w_cmp_Compare_int_17 : wp P cmp_Compare_int_17 Q e H = condW P ((.t 19) : X) (.seq cmp_Compare_int_16 .ret) .skip Q e H := idE rfl
@[go_sem] def l_cmp_Compare_int_18 : List GOp := [⟨(some 4), .mv (.c (.int .i64 0)), none⟩]
def cmp_Compare_int_18 : IR := .ops l_cmp_Compare_int_18
@[go_sem] theorem w_cmp_Compare_int_18 : wp P cmp_Compare_int_18 Q e H = wpL P l_cmp_Compare_int_18 (Q .normal) e H := idE rfl
def F_cmp_Compare_int : IFn := ⟨2, 20, [.t 4], (.seq cmp_Compare_int_0 (.seq cmp_Compare_int_1 (.seq cmp_Compare_int_2 (.seq (.seq cmp_Compare_int_3 cmp_Compare_int_8) (.seq (.seq cmp_Compare_int_9 cmp_Compare_int_11) (.seq (.seq cmp_Compare_int_12 cmp_Compare_int_14) (.seq (.seq cmp_Compare_int_15 cmp_Compare_int_17) (.seq cmp_Compare_int_18 .ret))))))))⟩
theorem c_cmp_Compare_int : compFn Try.prog [(0, [], []), (1, [], []), (2, [], []), (3, [], []), (4, [], []), (5, [], []), (6, [], []), (7, [], []), (8, [], []), (9, [], []), (10, [], []), (11, [], []), (12, [], []), (13, [], [])] Try.f129 = some F_cmp_Compare_int := by kernel_rfl
theorem a_cmp_Compare_int (hl : args.length = 2) (h : wp Try.prog (.seq cmp_Compare_int_0 (.seq cmp_Compare_int_1 (.seq cmp_Compare_int_2 (.seq (.seq cmp_Compare_int_3 cmp_Compare_int_8) (.seq (.seq cmp_Compare_int_9 cmp_Compare_int_11) (.seq (.seq cmp_Compare_int_12 cmp_Compare_int_14) (.seq (.seq cmp_Compare_int_15 cmp_Compare_int_17) (.seq cmp_Compare_int_18 .ret)))))))) (postQ [.t 4] R) (env0 args) H) : ACall Try.prog n_cmp_Compare_int args H R :=
  acall_of_wp mixed Try.func129 c_cmp_Compare_int (by kernel_rfl) hl h
@[go_sem] def l_cmp_Or_int_0 : List GOp := [⟨(some 2), .mv (.c (.int .i64 0)), none⟩]
def cmp_Or_int_0 : IR := .ops l_cmp_Or_int_0
@[go_sem] theorem w_cmp_Or_int_0 : wp P cmp_Or_int_0 Q e H = wpL P l_cmp_Or_int_0 (Q .normal) e H := idE rfl
@[go_sem] def l_cmp_Or_int_1 : List GOp := [⟨(some 3), .mv (.c (.int .i64 0)), none⟩]
def cmp_Or_int_1 : IR := .ops l_cmp_Or_int_1
@[go_sem] theorem w_cmp_Or_int_1 : wp P cmp_Or_int_1 Q e H = wpL P l_cmp_Or_int_1 (Q .normal) e H := idE rfl
@[go_sem] def l_cmp_Or_int_2 : List GOp := [⟨(some 6), .mv (.t 0), none⟩,
    ⟨(some 7), .len (.t 6), none⟩,
    ⟨(some 8), .mv (.c (.int .i64 0)), none⟩]
def cmp_Or_int_2 : IR := .ops l_cmp_Or_int_2
@[go_sem] theorem w_cmp_Or_int_2 : wp P cmp_Or_int_2 Q e H = wpL P l_cmp_Or_int_2 (Q .normal) e H := idE rfl
@[go_sem] def l_cmp_Or_int_3 : List GOp := [⟨(some 9), .bin .lss (.t 8) (.t 7), none⟩]
def cmp_Or_int_3 : IR := .ops l_cmp_Or_int_3
@[go_sem] theorem w_cmp_Or_int_3 : wp P cmp_Or_int_3 Q e H = wpL P l_cmp_Or_int_3 (Q .normal) e H := idE rfl
def cmp_Or_int_4 : IR := .cond (.t 9) .skip (.exit 0)
@[go_sem] theorem w_cmp_Or_int_4 : wp P cmp_Or_int_4 Q e H = condW P ((.t 9) : X) .skip (.exit 0) Q e H := idE rfl
@[go_sem] def l_cmp_Or_int_5 : List GOp := [⟨(some 10), .iaddr (.t 6) (.t 8) 1, none⟩,
    ⟨(some 11), .load (.t 10) 1 false, none⟩,
    ⟨(some 5), .mv (.t 11), none⟩]
def cmp_Or_int_5 : IR := .ops l_cmp_Or_int_5
@[go_sem] theorem w_cmp_Or_int_5 : wp P cmp_Or_int_5 Q e H = wpL P l_cmp_Or_int_5 (Q .normal) e H := idE rfl
@[go_sem] def l_cmp_Or_int_6 : List GOp := [⟨(some 12), .mv (.t 5), none⟩,
    ⟨(some 13), .mv (.t 3), none⟩,
    ⟨(some 14), .bin .neq (.t 12) (.t 13), none⟩]
def cmp_Or_int_6 : IR := .ops l_cmp_Or_int_6
@[go_sem] theorem w_cmp_Or_int_6 : wp P cmp_Or_int_6 Q e H = wpL P l_cmp_Or_int_6 (Q .normal) e H := idE rfl
@[go_sem] def l_cmp_Or_int_7 : List GOp := [⟨(some 15), .mv (.t 5), none⟩,
    ⟨(some 2), .mv (.t 15), none⟩]
def cmp_Or_int_7 : IR := .ops l_cmp_Or_int_7
@[go_sem] theorem w_cmp_Or_int_7 : wp P cmp_Or_int_7 Q e H = wpL P l_cmp_Or_int_7 (Q .normal) e H := idE rfl
def cmp_Or_int_8 : IR := .cond (.t 14) (.seq cmp_Or_int_7 .ret) .skip
@[go_sem] theorem w_cmp_Or_int_8 : wp P cmp_Or_int_8 Q e H = condW P ((.t 14) : X) (.seq cmp_Or_int_7 .ret) .skip Q e H := idE rfl
def cmp_Or_int_9 : IR := .block 1 (.seq cmp_Or_int_5 (.seq cmp_Or_int_6 cmp_Or_int_8))
@[go_sem] theorem w_cmp_Or_int_9 : wp P cmp_Or_int_9 Q e H = wp P (.seq cmp_Or_int_5 (.seq cmp_Or_int_6 cmp_Or_int_8)) (blockQ 1 Q) e H := idE rfl
@[go_sem] def l_cmp_Or_int_10 : List GOp := [⟨(some 16), .bin .add (.t 8) (.c (.int .i64 1)), none⟩,
    ⟨(some 8), .mv (.t 16), none⟩]
def cmp_Or_int_10 : IR := .ops l_cmp_Or_int_10
@[go_sem] theorem w_cmp_Or_int_10 : wp P cmp_Or_int_10 Q e H = wpL P l_cmp_Or_int_10 (Q .normal) e H := idE rfl
def cmp_Or_int_11 : IR := .loop (.seq cmp_Or_int_3 (.seq cmp_Or_int_4 (.seq cmp_Or_int_9 cmp_Or_int_10)))
def cmp_Or_int_12 : IR := .block 0 cmp_Or_int_11
@[go_sem] theorem w_cmp_Or_int_12 : wp P cmp_Or_int_12 Q e H = wp P cmp_Or_int_11 (blockQ 0 Q) e H := idE rfl
@[go_sem] def l_cmp_Or_int_13 : List GOp := [⟨(some 17), .mv (.t 3), none⟩,
    ⟨(some 2), .mv (.t 17), none⟩]
def cmp_Or_int_13 : IR := .ops l_cmp_Or_int_13
@[go_sem] theorem w_cmp_Or_int_13 : wp P cmp_Or_int_13 Q e H = wpL P l_cmp_Or_int_13 (Q .normal) e H := idE rfl
def F_cmp_Or_int : IFn := ⟨1, 18, [.t 2], (.seq cmp_Or_int_0 (.seq cmp_Or_int_1 (.seq (.seq cmp_Or_int_2 cmp_Or_int_12) (.seq cmp_Or_int_13 .ret))))⟩
theorem c_cmp_Or_int : compFn Try.prog [(0, [], []), (1, [], []), (2, [], []), (3, [], []), (4, [], []), (5, [], []), (6, [], []), (7, [], []), (8, [], [])] Try.f128 = some F_cmp_Or_int := by kernel_rfl
theorem a_cmp_Or_int (hl : args.length = 1) (h : wp Try.prog (.seq cmp_Or_int_0 (.seq cmp_Or_int_1 (.seq (.seq cmp_Or_int_2 cmp_Or_int_12) (.seq cmp_Or_int_13 .ret)))) (postQ [.t 2] R) (env0 args) H) : ACall Try.prog n_cmp_Or_int args H R :=
  acall_of_wp mixed Try.func128 c_cmp_Or_int (by kernel_rfl) hl h
@[go_sem] def l_impl_clauseOf_1_0 : List GOp := [⟨(some 4), .mv (.c (.int .i64 0)), none⟩]
def impl_clauseOf_1_0 : IR := .ops l_impl_clauseOf_1_0
@[go_sem] theorem w_impl_clauseOf_1_0 : wp P impl_clauseOf_1_0 Q e H = wpL P l_impl_clauseOf_1_0 (Q .normal) e H := idE rfl
@[go_sem] def l_impl_clauseOf_1_1 : List GOp := [⟨(some 5), .mv (.t 0), none⟩,
    ⟨(some 6), .call (n_impl_atomOf) [(.t 5)], none⟩,
    ⟨(some 7), .mv (.t 1), none⟩,
    ⟨(some 8), .call (n_impl_atomOf) [(.t 7)], none⟩,
    ⟨(some 9), .call (n_cmp_Compare_int) [(.t 6), (.t 8)], none⟩,
    ⟨(some 10), .mv (.t 0), none⟩,
    ⟨(some 11), .mv (.t 1), none⟩,
    ⟨(some 12), .call (n_cmp_Compare_int) [(.t 10), (.t 11)], none⟩,
    ⟨(some 13), .bslc 1 2 [(.int .i64 0)] [(0, (.t 9)), (1, (.t 12))], none⟩,
    ⟨(some 14), .call (n_cmp_Or_int) [(.t 13)], none⟩,
    ⟨(some 4), .mv (.t 14), none⟩]
def impl_clauseOf_1_1 : IR := .ops l_impl_clauseOf_1_1
@[go_sem] theorem w_impl_clauseOf_1_1 : wp P impl_clauseOf_1_1 Q e H = wpL P l_impl_clauseOf_1_1 (Q .normal) e H := idE rfl
def F_impl_clauseOf_1 : IFn := ⟨2, 15, [.t 4], (.seq impl_clauseOf_1_0 (.seq impl_clauseOf_1_1 .ret))⟩
theorem c_impl_clauseOf_1 : compFn Try.prog [(0, [], []), (1, [], [])] Try.f127 = some F_impl_clauseOf_1 := by kernel_rfl
theorem a_impl_clauseOf_1 (hl : args.length = 2) (h : wp Try.prog (.seq impl_clauseOf_1_0 (.seq impl_clauseOf_1_1 .ret)) (postQ [.t 4] R) (env0 args) H) : ACall Try.prog n_impl_clauseOf_1 args H R :=
  acall_of_wp mixed Try.func127 c_impl_clauseOf_1 (by kernel_rfl) hl h
@[go_sem] def l_slices_Compact_Sint_int_0 : List GOp := [⟨(some 2), .mv (.c (.sl none 0 0 true 0)), none⟩]
def slices_Compact_Sint_int_0 : IR := .ops l_slices_Compact_Sint_int_0
@[go_sem] theorem w_slices_Compact_Sint_int_0 : wp P slices_Compact_Sint_int_0 Q e H = wpL P l_slices_Compact_Sint_int_0 (Q .normal) e H := idE rfl
@[go_sem] def l_slices_Compact_Sint_int_1 : List GOp := [⟨(some 6), .mv (.t 0), none⟩,
    ⟨(some 7), .len (.t 6), none⟩,
    ⟨(some 8), .bin .lss (.t 7) (.c (.int .i64 2)), none⟩]
def slices_Compact_Sint_int_1 : IR := .ops l_slices_Compact_Sint_int_1
@[go_sem] theorem w_slices_Compact_Sint_int_1 : wp P slices_Compact_Sint_int_1 Q e H = wpL P l_slices_Compact_Sint_int_1 (Q .normal) e H := idE rfl
@[go_sem] def l_slices_Compact_Sint_int_2 : List GOp := [⟨(some 9), .mv (.t 0), none⟩,
    ⟨(some 2), .mv (.t 9), none⟩]
def slices_Compact_Sint_int_2 : IR := .ops l_slices_Compact_Sint_int_2
@[go_sem] theorem w_slices_Compact_Sint_int_2 : wp P slices_Compact_Sint_int_2 Q e H = wpL P l_slices_Compact_Sint_int_2 (Q .normal) e H := idE rfl
def slices_Compact_Sint_int_3 : IR := .cond (.t 8) (.seq slices_Compact_Sint_int_2 .ret) .skip
@[go_sem] theorem w_slices_Compact_Sint_int_3 : wp P slices_Compact_Sint_int_3 Q e H = condW P ((.t 8) : X) (.seq slices_Compact_Sint_int_2 .ret) .skip Q e H := idE rfl
@[go_sem] def l_slices_Compact_Sint_int_4 : List GOp := [⟨(some 3), .mv (.c (.int .i64 1)), none⟩]
def slices_Compact_Sint_int_4 : IR := .ops l_slices_Compact_Sint_int_4
@[go_sem] theorem w_slices_Compact_Sint_int_4 : wp P slices_Compact_Sint_int_4 Q e H = wpL P l_slices_Compact_Sint_int_4 (Q .normal) e H := idE rfl
@[go_sem] def l_slices_Compact_Sint_int_5 : List GOp := [⟨(some 10), .mv (.t 3), none⟩,
    ⟨(some 11), .mv (.t 0), none⟩,
    ⟨(some 12), .len (.t 11), none⟩,
    ⟨(some 13), .bin .lss (.t 10) (.t 12), none⟩]
def slices_Compact_Sint_int_5 : IR := .ops l_slices_Compact_Sint_int_5
@[go_sem] theorem w_slices_Compact_Sint_int_5 : wp P slices_Compact_Sint_int_5 Q e H = wpL P l_slices_Compact_Sint_int_5 (Q .normal) e H := idE rfl
def slices_Compact_Sint_int_6 : IR := .cond (.t 13) .skip (.exit 0)
@[go_sem] theorem w_slices_Compact_Sint_int_6 : wp P slices_Compact_Sint_int_6 Q e H = condW P ((.t 13) : X) .skip (.exit 0) Q e H := idE rfl
def l_slices_Compact_Sint_int_7 : List GOp := [⟨(some 16), .mv (.t 0), none⟩,
    ⟨(some 17), .mv (.t 3), none⟩,
    ⟨(some 18), .iaddr (.t 16) (.t 17) 1, none⟩,
    ⟨(some 19), .load (.t 18) 1 false, none⟩,
    ⟨(some 20), .mv (.t 0), none⟩,
    ⟨(some 21), .mv (.t 3), none⟩,
    ⟨(some 22), .bin .sub (.t 21) (.c (.int .i64 1)), none⟩,
    ⟨(some 23), .iaddr (.t 20) (.t 22) 1, none⟩,
    ⟨(some 24), .load (.t 23) 1 false, none⟩,
    ⟨(some 25), .bin .eql (.t 19) (.t 24), none⟩]
@[go_sem] theorem g_slices_Compact_Sint_int_7_0 : gAt l_slices_Compact_Sint_int_7 0 = ⟨(some 16), .mv (.t 0), none⟩ := idE rfl
@[go_sem] theorem g_slices_Compact_Sint_int_7_1 : gAt l_slices_Compact_Sint_int_7 1 = ⟨(some 17), .mv (.t 3), none⟩ := idE rfl
@[go_sem] theorem g_slices_Compact_Sint_int_7_2 : gAt l_slices_Compact_Sint_int_7 2 = ⟨(some 18), .iaddr (.t 16) (.t 17) 1, none⟩ := idE rfl
@[go_sem] theorem g_slices_Compact_Sint_int_7_3 : gAt l_slices_Compact_Sint_int_7 3 = ⟨(some 19), .load (.t 18) 1 false, none⟩ := idE rfl
@[go_sem] theorem g_slices_Compact_Sint_int_7_4 : gAt l_slices_Compact_Sint_int_7 4 = ⟨(some 20), .mv (.t 0), none⟩ := idE rfl
@[go_sem] theorem g_slices_Compact_Sint_int_7_5 : gAt l_slices_Compact_Sint_int_7 5 = ⟨(some 21), .mv (.t 3), none⟩ := idE rfl
@[go_sem] theorem g_slices_Compact_Sint_int_7_6 : gAt l_slices_Compact_Sint_int_7 6 = ⟨(some 22), .bin .sub (.t 21) (.c (.int .i64 1)), none⟩ := idE rfl
@[go_sem] theorem g_slices_Compact_Sint_int_7_7 : gAt l_slices_Compact_Sint_int_7 7 = ⟨(some 23), .iaddr (.t 20) (.t 22) 1, none⟩ := idE rfl
@[go_sem] theorem g_slices_Compact_Sint_int_7_8 : gAt l_slices_Compact_Sint_int_7 8 = ⟨(some 24), .load (.t 23) 1 false, none⟩ := idE rfl
@[go_sem] theorem g_slices_Compact_Sint_int_7_9 : gAt l_slices_Compact_Sint_int_7 9 = ⟨(some 25), .bin .eql (.t 19) (.t 24), none⟩ := idE rfl
def slices_Compact_Sint_int_7 : IR := .dops l_slices_Compact_Sint_int_7 [(0, []), (1, []), (2, []), (3, []), (4, []), (5, []), (6, []), (7, []), (8, []), (9, [])]
@[go_sem] theorem w_slices_Compact_Sint_int_7 : wp P slices_Compact_Sint_int_7 Q e H = wpD P l_slices_Compact_Sint_int_7 [(0, []), (1, []), (2, []), (3, []), (4, []), (5, []), (6, []), (7, []), (8, []), (9, [])] (Q .normal) e H := idE rfl
@[go_sem] def l_slices_Compact_Sint_int_8 : List GOp := [⟨(some 26), .mv (.t 0), none⟩,
    ⟨(some 27), .mv (.t 3), none⟩,
    ⟨(some 28), .slc 1 (.t 26) (some (.t 27)) none none, none⟩,
    ⟨(some 4), .mv (.t 28), none⟩]
def slices_Compact_Sint_int_8 : IR := .ops l_slices_Compact_Sint_int_8
@[go_sem] theorem w_slices_Compact_Sint_int_8 : wp P slices_Compact_Sint_int_8 Q e H = wpL P l_slices_Compact_Sint_int_8 (Q .normal) e H := idE rfl
@[go_sem] def l_slices_Compact_Sint_int_9 : List GOp := [⟨(some 5), .mv (.c (.int .i64 1)), none⟩]
def slices_Compact_Sint_int_9 : IR := .ops l_slices_Compact_Sint_int_9
@[go_sem] theorem w_slices_Compact_Sint_int_9 : wp P slices_Compact_Sint_int_9 Q e H = wpL P l_slices_Compact_Sint_int_9 (Q .normal) e H := idE rfl
@[go_sem] def l_slices_Compact_Sint_int_10 : List GOp := [⟨(some 29), .mv (.t 5), none⟩,
    ⟨(some 30), .mv (.t 4), none⟩,
    ⟨(some 31), .len (.t 30), none⟩,
    ⟨(some 32), .bin .lss (.t 29) (.t 31), none⟩]
def slices_Compact_Sint_int_10 : IR := .ops l_slices_Compact_Sint_int_10
@[go_sem] theorem w_slices_Compact_Sint_int_10 : wp P slices_Compact_Sint_int_10 Q e H = wpL P l_slices_Compact_Sint_int_10 (Q .normal) e H := idE rfl
def slices_Compact_Sint_int_11 : IR := .cond (.t 32) .skip (.exit 2)
@[go_sem] theorem w_slices_Compact_Sint_int_11 : wp P slices_Compact_Sint_int_11 Q e H = condW P ((.t 32) : X) .skip (.exit 2) Q e H := idE rfl
def l_slices_Compact_Sint_int_12 : List GOp := [⟨(some 35), .mv (.t 4), none⟩,
    ⟨(some 36), .mv (.t 5), none⟩,
    ⟨(some 37), .iaddr (.t 35) (.t 36) 1, none⟩,
    ⟨(some 38), .load (.t 37) 1 false, none⟩,
    ⟨(some 39), .mv (.t 4), none⟩,
    ⟨(some 40), .mv (.t 5), none⟩,
    ⟨(some 41), .bin .sub (.t 40) (.c (.int .i64 1)), none⟩,
    ⟨(some 42), .iaddr (.t 39) (.t 41) 1, none⟩,
    ⟨(some 43), .load (.t 42) 1 false, none⟩,
    ⟨(some 44), .bin .neq (.t 38) (.t 43), none⟩]
@[go_sem] theorem g_slices_Compact_Sint_int_12_0 : gAt l_slices_Compact_Sint_int_12 0 = ⟨(some 35), .mv (.t 4), none⟩ := idE rfl
@[go_sem] theorem g_slices_Compact_Sint_int_12_1 : gAt l_slices_Compact_Sint_int_12 1 = ⟨(some 36), .mv (.t 5), none⟩ := idE rfl
@[go_sem] theorem g_slices_Compact_Sint_int_12_2 : gAt l_slices_Compact_Sint_int_12 2 = ⟨(some 37), .iaddr (.t 35) (.t 36) 1, none⟩ := idE rfl
@[go_sem] theorem g_slices_Compact_Sint_int_12_3 : gAt l_slices_Compact_Sint_int_12 3 = ⟨(some 38), .load (.t 37) 1 false, none⟩ := idE rfl
@[go_sem] theorem g_slices_Compact_Sint_int_12_4 : gAt l_slices_Compact_Sint_int_12 4 = ⟨(some 39), .mv (.t 4), none⟩ := idE rfl
@[go_sem] theorem g_slices_Compact_Sint_int_12_5 : gAt l_slices_Compact_Sint_int_12 5 = ⟨(some 40), .mv (.t 5), none⟩ := idE rfl
@[go_sem] theorem g_slices_Compact_Sint_int_12_6 : gAt l_slices_Compact_Sint_int_12 6 = ⟨(some 41), .bin .sub (.t 40) (.c (.int .i64 1)), none⟩ := idE rfl
@[go_sem] theorem g_slices_Compact_Sint_int_12_7 : gAt l_slices_Compact_Sint_int_12 7 = ⟨(some 42), .iaddr (.t 39) (.t 41) 1, none⟩ := idE rfl
@[go_sem] theorem g_slices_Compact_Sint_int_12_8 : gAt l_slices_Compact_Sint_int_12 8 = ⟨(some 43), .load (.t 42) 1 false, none⟩ := idE rfl
@[go_sem] theorem g_slices_Compact_Sint_int_12_9 : gAt l_slices_Compact_Sint_int_12 9 = ⟨(some 44), .bin .neq (.t 38) (.t 43), none⟩ := idE rfl
def slices_Compact_Sint_int_12 : IR := .dops l_slices_Compact_Sint_int_12 [(0, []), (1, []), (2, []), (3, []), (4, []), (5, []), (6, []), (7, []), (8, []), (9, [])]
@[go_sem] theorem w_slices_Compact_Sint_int_12 : wp P slices_Compact_Sint_int_12 Q e H = wpD P l_slices_Compact_Sint_int_12 [(0, []), (1, []), (2, []), (3, []), (4, []), (5, []), (6, []), (7, []), (8, []), (9, [])] (Q .normal) e H := idE rfl
@[go_sem] def l_slices_Compact_Sint_int_13 : List GOp := [⟨(some 45), .mv (.t 0), none⟩,
    ⟨(some 46), .mv (.t 3), none⟩,
    ⟨(some 47), .mv (.t 4), none⟩,
    ⟨(some 48), .mv (.t 5), none⟩,
    ⟨(some 49), .iaddr (.t 47) (.t 48) 1, none⟩,
    ⟨(some 50), .load (.t 49) 1 false, none⟩,
    ⟨(some 51), .iaddr (.t 45) (.t 46) 1, none⟩,
    ⟨none, .store (.t 51) 1 (.t 50), none⟩]
def slices_Compact_Sint_int_13 : IR := .ops l_slices_Compact_Sint_int_13
@[go_sem] theorem w_slices_Compact_Sint_int_13 : wp P slices_Compact_Sint_int_13 Q e H = wpL P l_slices_Compact_Sint_int_13 (Q .normal) e H := idE rfl
@[go_sem] def l_slices_Compact_Sint_int_14 : List GOp := [⟨(some 52), .mv (.t 3), none⟩,
    ⟨(some 53), .bin .add (.t 52) (.c (.int .i64 1)), none⟩,
    ⟨(some 3), .mv (.t 53), none⟩]
def slices_Compact_Sint_int_14 : IR := .ops l_slices_Compact_Sint_int_14
@[go_sem] theorem w_slices_Compact_Sint_int_14 : wp P slices_Compact_Sint_int_14 Q e H = wpL P l_slices_Compact_Sint_int_14 (Q .normal) e H := idE rfl
def slices_Compact_Sint_int_15 : IR := .cond (.t 44) (.seq slices_Compact_Sint_int_13 slices_Compact_Sint_int_14) .skip
@[go_sem] theorem w_slices_Compact_Sint_int_15 : wp P slices_Compact_Sint_int_15 Q e H = condW P ((.t 44) : X) (.seq slices_Compact_Sint_int_13 slices_Compact_Sint_int_14) .skip Q e H := idE rfl
def slices_Compact_Sint_int_16 : IR := .block 3 (.seq slices_Compact_Sint_int_12 slices_Compact_Sint_int_15)
@[go_sem] theorem w_slices_Compact_Sint_int_16 : wp P slices_Compact_Sint_int_16 Q e H = wp P (.seq slices_Compact_Sint_int_12 slices_Compact_Sint_int_15) (blockQ 3 Q) e H := idE rfl
@[go_sem] def l_slices_Compact_Sint_int_17 : List GOp := [⟨(some 33), .mv (.t 5), none⟩,
    ⟨(some 34), .bin .add (.t 33) (.c (.int .i64 1)), none⟩,
    ⟨(some 5), .mv (.t 34), none⟩]
def slices_Compact_Sint_int_17 : IR := .ops l_slices_Compact_Sint_int_17
@[go_sem] theorem w_slices_Compact_Sint_int_17 : wp P slices_Compact_Sint_int_17 Q e H = wpL P l_slices_Compact_Sint_int_17 (Q .normal) e H := idE rfl
def slices_Compact_Sint_int_18 : IR := .loop (.seq (.seq slices_Compact_Sint_int_10 slices_Compact_Sint_int_11) (.seq slices_Compact_Sint_int_16 slices_Compact_Sint_int_17))
def slices_Compact_Sint_int_19 : IR := .block 2 slices_Compact_Sint_int_18
@[go_sem] theorem w_slices_Compact_Sint_int_19 : wp P slices_Compact_Sint_int_19 Q e H = wp P slices_Compact_Sint_int_18 (blockQ 2 Q) e H := idE rfl
@[go_sem] def l_slices_Compact_Sint_int_20 : List GOp := [⟨(some 54), .mv (.t 0), none⟩,
    ⟨(some 55), .mv (.t 3), none⟩,
    ⟨(some 56), .slc 1 (.t 54) (some (.t 55)) none none, none⟩,
    ⟨none, .clear [(.int .i64 0)] (.t 56), none⟩]
def slices_Compact_Sint_int_20 : IR := .ops l_slices_Compact_Sint_int_20
@[go_sem] theorem w_slices_Compact_Sint_int_20 : wp P slices_Compact_Sint_int_20 Q e H = wpL P l_slices_Compact_Sint_int_20 (Q .normal) e H := idE rfl
@[go_sem] def l_slices_Compact_Sint_int_21 : List GOp := [⟨(some 57), .mv (.t 0), none⟩,
    ⟨(some 58), .mv (.t 3), none⟩,
    ⟨(some 59), .slc 1 (.t 57) none (some (.t 58)) none, none⟩,
    ⟨(some 2), .mv (.t 59), none⟩]
def slices_Compact_Sint_int_21 : IR := .ops l_slices_Compact_Sint_int_21
@[go_sem] theorem w_slices_Compact_Sint_int_21 : wp P slices_Compact_Sint_int_21 Q e H = wpL P l_slices_Compact_Sint_int_21 (Q .normal) e H := idE rfl
def slices_Compact_Sint_int_22 : IR := .cond (.t 25) (.seq slices_Compact_Sint_int_8 (.seq (.seq slices_Compact_Sint_int_9 slices_Compact_Sint_int_19) (.seq slices_Compact_Sint_int_20 (.seq slices_Compact_Sint_int_21 .ret)))) .skip
@[go_sem] theorem w_slices_Compact_Sint_int_22 : wp P slices_Compact_Sint_int_22 Q e H = condW P ((.t 25) : X) (.seq slices_Compact_Sint_int_8 (.seq (.seq slices_Compact_Sint_int_9 slices_Compact_Sint_int_19) (.seq slices_Compact_Sint_int_20 (.seq slices_Compact_Sint_int_21 .ret)))) .skip Q e H := idE rfl
def slices_Compact_Sint_int_23 : IR := .block 1 (.seq slices_Compact_Sint_int_7 slices_Compact_Sint_int_22)
@[go_sem] theorem w_slices_Compact_Sint_int_23 : wp P slices_Compact_Sint_int_23 Q e H = wp P (.seq slices_Compact_Sint_int_7 slices_Compact_Sint_int_22) (blockQ 1 Q) e H := idE rfl
@[go_sem] def l_slices_Compact_Sint_int_24 : List GOp := [⟨(some 14), .mv (.t 3), none⟩,
    ⟨(some 15), .bin .add (.t 14) (.c (.int .i64 1)), none⟩,
    ⟨(some 3), .mv (.t 15), none⟩]
def slices_Compact_Sint_int_24 : IR := .ops l_slices_Compact_Sint_int_24
@[go_sem] theorem w_slices_Compact_Sint_int_24 : wp P slices_Compact_Sint_int_24 Q e H = wpL P l_slices_Compact_Sint_int_24 (Q .normal) e H := idE rfl
def slices_Compact_Sint_int_25 : IR := .loop (.seq (.seq slices_Compact_Sint_int_5 slices_Compact_Sint_int_6) (.seq slices_Compact_Sint_int_23 slices_Compact_Sint_int_24))
def slices_Compact_Sint_int_26 : IR := .block 0 slices_Compact_Sint_int_25
@[go_sem] theorem w_slices_Compact_Sint_int_26 : wp P slices_Compact_Sint_int_26 Q e H = wp P slices_Compact_Sint_int_25 (blockQ 0 Q) e H := idE rfl
@[go_sem] def l_slices_Compact_Sint_int_27 : List GOp := [⟨(some 60), .mv (.t 0), none⟩,
    ⟨(some 2), .mv (.t 60), none⟩]
def slices_Compact_Sint_int_27 : IR := .ops l_slices_Compact_Sint_int_27
@[go_sem] theorem w_slices_Compact_Sint_int_27 : wp P slices_Compact_Sint_int_27 Q e H = wpL P l_slices_Compact_Sint_int_27 (Q .normal) e H := idE rfl
def F_slices_Compact_Sint_int : IFn := ⟨1, 61, [.t 2], (.seq slices_Compact_Sint_int_0 (.seq (.seq slices_Compact_Sint_int_1 slices_Compact_Sint_int_3) (.seq (.seq slices_Compact_Sint_int_4 slices_Compact_Sint_int_26) (.seq slices_Compact_Sint_int_27 .ret))))⟩
theorem c_slices_Compact_Sint_int : compFn Try.prog [(0, [], []), (1, [], []), (2, [], []), (3, [], []), (4, [], []), (6, [(0, []), (1, []), (2, []), (3, []), (4, []), (5, []), (6, []), (7, []), (8, []), (9, [])], []), (7, [], []), (8, [], []), (9, [], []), (11, [(0, []), (1, []), (2, []), (3, []), (4, []), (5, []), (6, []), (7, []), (8, []), (9, [])], []), (12, [], []), (13, [], []), (10, [], []), (14, [], []), (15, [], []), (5, [], []), (16, [], [])] Try.f130 = some F_slices_Compact_Sint_int := by kernel_rfl
theorem a_slices_Compact_Sint_int (hl : args.length = 1) (h : wp Try.prog (.seq slices_Compact_Sint_int_0 (.seq (.seq slices_Compact_Sint_int_1 slices_Compact_Sint_int_3) (.seq (.seq slices_Compact_Sint_int_4 slices_Compact_Sint_int_26) (.seq slices_Compact_Sint_int_27 .ret)))) (postQ [.t 2] R) (env0 args) H) : ACall Try.prog n_slices_Compact_Sint_int args H R :=
  acall_of_wp mixed Try.func130 c_slices_Compact_Sint_int (by kernel_rfl) hl h
@[go_sem] def l_impl_clone_int_0 : List GOp := [⟨(some 2), .mv (.c (.sl none 0 0 true 0)), none⟩]
def impl_clone_int_0 : IR := .ops l_impl_clone_int_0
@[go_sem] theorem w_impl_clone_int_0 : wp P impl_clone_int_0 Q e H = wpL P l_impl_clone_int_0 (Q .normal) e H := idE rfl
@[go_sem] def l_impl_clone_int_1 : List GOp := [⟨(some 4), .mv (.t 0), none⟩,
    ⟨(some 5), .len (.t 4), none⟩,
    ⟨(some 6), .bin .eql (.t 5) (.c (.int .i64 0)), none⟩]
def impl_clone_int_1 : IR := .ops l_impl_clone_int_1
@[go_sem] theorem w_impl_clone_int_1 : wp P impl_clone_int_1 Q e H = wpL P l_impl_clone_int_1 (Q .normal) e H := idE rfl
@[go_sem] def l_impl_clone_int_2 : List GOp := [⟨(some 2), .mv (.c (.sl none 0 0 true 0)), none⟩]
def impl_clone_int_2 : IR := .ops l_impl_clone_int_2
@[go_sem] theorem w_impl_clone_int_2 : wp P impl_clone_int_2 Q e H = wpL P l_impl_clone_int_2 (Q .normal) e H := idE rfl
def impl_clone_int_3 : IR := .cond (.t 6) (.seq impl_clone_int_2 .ret) .skip
@[go_sem] theorem w_impl_clone_int_3 : wp P impl_clone_int_3 Q e H = condW P ((.t 6) : X) (.seq impl_clone_int_2 .ret) .skip Q e H := idE rfl
@[go_sem] def l_impl_clone_int_4 : List GOp := [⟨(some 7), .mv (.t 0), none⟩,
    ⟨(some 8), .len (.t 7), none⟩,
    ⟨(some 9), .mks [(.int .i64 0)] 8 (.t 8), none⟩,
    ⟨(some 3), .mv (.t 9), none⟩]
def impl_clone_int_4 : IR := .ops l_impl_clone_int_4
@[go_sem] theorem w_impl_clone_int_4 : wp P impl_clone_int_4 Q e H = wpL P l_impl_clone_int_4 (Q .normal) e H := idE rfl
@[go_sem] def l_impl_clone_int_5 : List GOp := [⟨(some 10), .mv (.t 3), none⟩,
    ⟨(some 11), .mv (.t 0), none⟩,
    ⟨(some 12), .copy 1 (.t 10) (.t 11), none⟩]
def impl_clone_int_5 : IR := .ops l_impl_clone_int_5
@[go_sem] theorem w_impl_clone_int_5 : wp P impl_clone_int_5 Q e H = wpL P l_impl_clone_int_5 (Q .normal) e H := idE rfl
@[go_sem] def l_impl_clone_int_6 : List GOp := [⟨(some 13), .mv (.t 3), none⟩,
    ⟨(some 2), .mv (.t 13), none⟩]
def impl_clone_int_6 : IR := .ops l_impl_clone_int_6
@[go_sem] theorem w_impl_clone_int_6 : wp P impl_clone_int_6 Q e H = wpL P l_impl_clone_int_6 (Q .normal) e H := idE rfl
def F_impl_clone_int : IFn := ⟨1, 14, [.t 2], (.seq impl_clone_int_0 (.seq (.seq impl_clone_int_1 impl_clone_int_3) (.seq impl_clone_int_4 (.seq impl_clone_int_5 (.seq impl_clone_int_6 .ret)))))⟩
theorem c_impl_clone_int : compFn Try.prog [(0, [], []), (1, [], []), (2, [], []), (3, [], []), (4, [], []), (5, [], [])] Try.f74 = some F_impl_clone_int := by kernel_rfl
theorem a_impl_clone_int (hl : args.length = 1) (h : wp Try.prog (.seq impl_clone_int_0 (.seq (.seq impl_clone_int_1 impl_clone_int_3) (.seq impl_clone_int_4 (.seq impl_clone_int_5 (.seq impl_clone_int_6 .ret))))) (postQ [.t 2] R) (env0 args) H) : ACall Try.prog n_impl_clone_int args H R :=
  acall_of_wp mixed Try.func74 c_impl_clone_int (by kernel_rfl) hl h
@[go_sem] def l_impl_clauseOf_0 : List GOp := [⟨(some 2), .mv (.c (.sl none 0 0 true 0)), none⟩,
    ⟨(some 3), .mv (.c (.bool false)), none⟩]
def impl_clauseOf_0 : IR := .ops l_impl_clauseOf_0
@[go_sem] theorem w_impl_clauseOf_0 : wp P impl_clauseOf_0 Q e H = wpL P l_impl_clauseOf_0 (Q .normal) e H := idE rfl
@[go_sem] def l_impl_clauseOf_1 : List GOp := [⟨(some 6), .mv (.t 0), none⟩,
    ⟨(some 7), .call (n_slices_Clone_Sint_int) [(.t 6)], none⟩,
    ⟨(some 4), .mv (.t 7), none⟩]
def impl_clauseOf_1 : IR := .ops l_impl_clauseOf_1
@[go_sem] theorem w_impl_clauseOf_1 : wp P impl_clauseOf_1 Q e H = wpL P l_impl_clauseOf_1 (Q .normal) e H := idE rfl
@[go_sem] def l_impl_clauseOf_2 : List GOp := [⟨(some 8), .mv (.t 4), none⟩,
    ⟨(some 9), .call (n_slices_SortFunc_Sint_int) [(.t 8), (.c (.fn (n_impl_clauseOf_1) []))], none⟩]
def impl_clauseOf_2 : IR := .ops l_impl_clauseOf_2
@[go_sem] theorem w_impl_clauseOf_2 : wp P impl_clauseOf_2 Q e H = wpL P l_impl_clauseOf_2 (Q .normal) e H := idE rfl
@[go_sem] def l_impl_clauseOf_3 : List GOp := [⟨(some 10), .mv (.t 4), none⟩,
    ⟨(some 11), .call (n_slices_Compact_Sint_int) [(.t 10)], none⟩,
    ⟨(some 4), .mv (.t 11), none⟩]
def impl_clauseOf_3 : IR := .ops l_impl_clauseOf_3
@[go_sem] theorem w_impl_clauseOf_3 : wp P impl_clauseOf_3 Q e H = wpL P l_impl_clauseOf_3 (Q .normal) e H := idE rfl
@[go_sem] def l_impl_clauseOf_4 : List GOp := [⟨(some 5), .mv (.c (.int .i64 1)), none⟩]
def impl_clauseOf_4 : IR := .ops l_impl_clauseOf_4
@[go_sem] theorem w_impl_clauseOf_4 : wp P impl_clauseOf_4 Q e H = wpL P l_impl_clauseOf_4 (Q .normal) e H := idE rfl
@[go_sem] def l_impl_clauseOf_5 : List GOp := [⟨(some 12), .mv (.t 5), none⟩,
    ⟨(some 13), .mv (.t 4), none⟩,
    ⟨(some 14), .len (.t 13), none⟩,
    ⟨(some 15), .bin .lss (.t 12) (.t 14), none⟩]
def impl_clauseOf_5 : IR := .ops l_impl_clauseOf_5
@[go_sem] theorem w_impl_clauseOf_5 : wp P impl_clauseOf_5 Q e H = wpL P l_impl_clauseOf_5 (Q .normal) e H := idE rfl
def impl_clauseOf_6 : IR := .cond (.t 15) .skip (.exit 0)
@[go_sem] theorem w_impl_clauseOf_6 : wp P impl_clauseOf_6 Q e H = condW P ((.t 15) : X) .skip (.exit 0) Q e H := idE rfl
def l_impl_clauseOf_7 : List GOp := [⟨(some 18), .mv (.t 4), none⟩,
    ⟨(some 19), .mv (.t 5), none⟩,
    ⟨(some 20), .iaddr (.t 18) (.t 19) 1, none⟩,
    ⟨(some 21), .load (.t 20) 1 false, none⟩,
    ⟨(some 22), .mv (.t 4), none⟩,
    ⟨(some 23), .mv (.t 5), none⟩,
    ⟨(some 24), .bin .sub (.t 23) (.c (.int .i64 1)), none⟩,
    ⟨(some 25), .iaddr (.t 22) (.t 24) 1, none⟩,
    ⟨(some 26), .load (.t 25) 1 false, none⟩,
    ⟨(some 27), .un .neg (.t 26), none⟩,
    ⟨(some 28), .bin .eql (.t 21) (.t 27), none⟩]
@[go_sem] theorem g_impl_clauseOf_7_0 : gAt l_impl_clauseOf_7 0 = ⟨(some 18), .mv (.t 4), none⟩ := idE rfl
@[go_sem] theorem g_impl_clauseOf_7_1 : gAt l_impl_clauseOf_7 1 = ⟨(some 19), .mv (.t 5), none⟩ := idE rfl
@[go_sem] theorem g_impl_clauseOf_7_2 : gAt l_impl_clauseOf_7 2 = ⟨(some 20), .iaddr (.t 18) (.t 19) 1, none⟩ := idE rfl
@[go_sem] theorem g_impl_clauseOf_7_3 : gAt l_impl_clauseOf_7 3 = ⟨(some 21), .load (.t 20) 1 false, none⟩ := idE rfl
@[go_sem] theorem g_impl_clauseOf_7_4 : gAt l_impl_clauseOf_7 4 = ⟨(some 22), .mv (.t 4), none⟩ := idE rfl
@[go_sem] theorem g_impl_clauseOf_7_5 : gAt l_impl_clauseOf_7 5 = ⟨(some 23), .mv (.t 5), none⟩ := idE rfl
@[go_sem] theorem g_impl_clauseOf_7_6 : gAt l_impl_clauseOf_7 6 = ⟨(some 24), .bin .sub (.t 23) (.c (.int .i64 1)), none⟩ := idE rfl
@[go_sem] theorem g_impl_clauseOf_7_7 : gAt l_impl_clauseOf_7 7 = ⟨(some 25), .iaddr (.t 22) (.t 24) 1, none⟩ := idE rfl
@[go_sem] theorem g_impl_clauseOf_7_8 : gAt l_impl_clauseOf_7 8 = ⟨(some 26), .load (.t 25) 1 false, none⟩ := idE rfl
@[go_sem] theorem g_impl_clauseOf_7_9 : gAt l_impl_clauseOf_7 9 = ⟨(some 27), .un .neg (.t 26), none⟩ := idE rfl
@[go_sem] theorem g_impl_clauseOf_7_10 : gAt l_impl_clauseOf_7 10 = ⟨(some 28), .bin .eql (.t 21) (.t 27), none⟩ := idE rfl
def impl_clauseOf_7 : IR := .dops l_impl_clauseOf_7 [(0, []), (1, []), (2, []), (3, []), (4, []), (5, []), (6, []), (7, []), (8, []), (9, []), (10, [])]
@[go_sem] theorem w_impl_clauseOf_7 : wp P impl_clauseOf_7 Q e H = wpD P l_impl_clauseOf_7 [(0, []), (1, []), (2, []), (3, []), (4, []), (5, []), (6, []), (7, []), (8, []), (9, []), (10, [])] (Q .normal) e H := idE rfl
@[go_sem] def l_impl_clauseOf_8 : List GOp := [⟨(some 2), .mv (.c (.sl none 0 0 true 0)), none⟩,
    ⟨(some 3), .mv (.c (.bool false)), none⟩]
def impl_clauseOf_8 : IR := .ops l_impl_clauseOf_8
@[go_sem] theorem w_impl_clauseOf_8 : wp P impl_clauseOf_8 Q e H = wpL P l_impl_clauseOf_8 (Q .normal) e H := idE rfl
def impl_clauseOf_9 : IR := .cond (.t 28) (.seq impl_clauseOf_8 .ret) .skip
@[go_sem] theorem w_impl_clauseOf_9 : wp P impl_clauseOf_9 Q e H = condW P ((.t 28) : X) (.seq impl_clauseOf_8 .ret) .skip Q e H := idE rfl
def impl_clauseOf_10 : IR := .block 1 (.seq impl_clauseOf_7 impl_clauseOf_9)
@[go_sem] theorem w_impl_clauseOf_10 : wp P impl_clauseOf_10 Q e H = wp P (.seq impl_clauseOf_7 impl_clauseOf_9) (blockQ 1 Q) e H := idE rfl
@[go_sem] def l_impl_clauseOf_11 : List GOp := [⟨(some 16), .mv (.t 5), none⟩,
    ⟨(some 17), .bin .add (.t 16) (.c (.int .i64 1)), none⟩,
    ⟨(some 5), .mv (.t 17), none⟩]
def impl_clauseOf_11 : IR := .ops l_impl_clauseOf_11
@[go_sem] theorem w_impl_clauseOf_11 : wp P impl_clauseOf_11 Q e H = wpL P l_impl_clauseOf_11 (Q .normal) e H := idE rfl
def impl_clauseOf_12 : IR := .loop (.seq (.seq impl_clauseOf_5 impl_clauseOf_6) (.seq impl_clauseOf_10 impl_clauseOf_11))
def impl_clauseOf_13 : IR := .block 0 impl_clauseOf_12
@[go_sem] theorem w_impl_clauseOf_13 : wp P impl_clauseOf_13 Q e H = wp P impl_clauseOf_12 (blockQ 0 Q) e H := idE rfl
@[go_sem] def l_impl_clauseOf_14 : List GOp := [⟨(some 29), .mv (.t 4), none⟩,
    ⟨(some 30), .call (n_impl_clone_int) [(.t 29)], none⟩,
    ⟨(some 2), .mv (.t 30), none⟩,
    ⟨(some 3), .mv (.c (.bool true)), none⟩]
def impl_clauseOf_14 : IR := .ops l_impl_clauseOf_14
@[go_sem] theorem w_impl_clauseOf_14 : wp P impl_clauseOf_14 Q e H = wpL P l_impl_clauseOf_14 (Q .normal) e H := idE rfl
def F_impl_clauseOf : IFn := ⟨1, 31, [.t 2, .t 3], (.seq impl_clauseOf_0 (.seq impl_clauseOf_1 (.seq impl_clauseOf_2 (.seq impl_clauseOf_3 (.seq (.seq impl_clauseOf_4 impl_clauseOf_13) (.seq impl_clauseOf_14 .ret))))))⟩
theorem c_impl_clauseOf : compFn Try.prog [(0, [], []), (1, [], []), (2, [], []), (3, [], []), (4, [], []), (5, [], []), (7, [(0, []), (1, []), (2, []), (3, []), (4, []), (5, []), (6, []), (7, []), (8, []), (9, []), (10, [])], []), (8, [], []), (6, [], []), (9, [], [])] Try.f96 = some F_impl_clauseOf := by kernel_rfl
theorem a_impl_clauseOf (hl : args.length = 1) (h : wp Try.prog (.seq impl_clauseOf_0 (.seq impl_clauseOf_1 (.seq impl_clauseOf_2 (.seq impl_clauseOf_3 (.seq (.seq impl_clauseOf_4 impl_clauseOf_13) (.seq impl_clauseOf_14 .ret)))))) (postQ [.t 2, .t 3] R) (env0 args) H) : ACall Try.prog n_impl_clauseOf args H R :=
  acall_of_wp mixed Try.func96 c_impl_clauseOf (by kernel_rfl) hl h
@[go_sem] def l_impl_Resolved_0 : List GOp := [⟨(some 6), .mv (.c (.sl none 0 0 true 0)), none⟩,
    ⟨(some 7), .mv (.c (.bool false)), none⟩]
def impl_Resolved_0 : IR := .ops l_impl_Resolved_0
@[go_sem] theorem w_impl_Resolved_0 : wp P impl_Resolved_0 Q e H = wpL P l_impl_Resolved_0 (Q .normal) e H := idE rfl
@[go_sem] def l_impl_Resolved_1 : List GOp := [⟨(some 13), .mv (.t 0), none⟩,
    ⟨(some 14), .call (n_impl_ClauseValid) [(.t 13), (.c (.int .i64 700))], none⟩,
    ⟨(some 15), .un .not (.t 14), none⟩,
    ⟨(some 16), .mv (.t 15), none⟩,
    ⟨(some 17), .mv (.t 1), (some (16, false))⟩,
    ⟨(some 18), .call (n_impl_ClauseValid) [(.t 17), (.c (.int .i64 700))], (some (16, false))⟩,
    ⟨(some 19), .un .not (.t 18), (some (16, false))⟩,
    ⟨(some 20), .pick (.t 16) (.c (.bool true)) (.t 19), none⟩,
    ⟨(some 21), .mv (.t 20), none⟩,
    ⟨(some 22), .mv (.t 2), (some (21, false))⟩,
    ⟨(some 23), .bin .leq (.t 22) (.c (.int .i64 0)), (some (21, false))⟩,
    ⟨(some 24), .pick (.t 21) (.c (.bool true)) (.t 23), none⟩,
    ⟨(some 25), .mv (.t 24), none⟩,
    ⟨(some 26), .mv (.t 0), (some (25, false))⟩,
    ⟨(some 27), .mv (.t 2), (some (25, false))⟩,
    ⟨(some 28), .call (n_slices_Contains_Sint_int) [(.t 26), (.t 27)], (some (25, false))⟩,
    ⟨(some 29), .un .not (.t 28), (some (25, false))⟩,
    ⟨(some 30), .pick (.t 25) (.c (.bool true)) (.t 29), none⟩,
    ⟨(some 31), .mv (.t 30), none⟩,
    ⟨(some 32), .mv (.t 1), (some (31, false))⟩,
    ⟨(some 33), .mv (.t 2), (some (31, false))⟩,
    ⟨(some 34), .un .neg (.t 33), (some (31, false))⟩,
    ⟨(some 35), .call (n_slices_Contains_Sint_int) [(.t 32), (.t 34)], (some (31, false))⟩,
    ⟨(some 36), .un .not (.t 35), (some (31, false))⟩,
    ⟨(some 37), .pick (.t 31) (.c (.bool true)) (.t 36), none⟩]
def impl_Resolved_1 : IR := .ops l_impl_Resolved_1
@[go_sem] theorem w_impl_Resolved_1 : wp P impl_Resolved_1 Q e H = wpL P l_impl_Resolved_1 (Q .normal) e H := idE rfl
@[go_sem] def l_impl_Resolved_2 : List GOp := [⟨(some 6), .mv (.c (.sl none 0 0 true 0)), none⟩,
    ⟨(some 7), .mv (.c (.bool false)), none⟩]
def impl_Resolved_2 : IR := .ops l_impl_Resolved_2
@[go_sem] theorem w_impl_Resolved_2 : wp P impl_Resolved_2 Q e H = wpL P l_impl_Resolved_2 (Q .normal) e H := idE rfl
def impl_Resolved_3 : IR := .cond (.t 37) (.seq impl_Resolved_2 .ret) .skip
@[go_sem] theorem w_impl_Resolved_3 : wp P impl_Resolved_3 Q e H = condW P ((.t 37) : X) (.seq impl_Resolved_2 .ret) .skip Q e H := idE rfl
@[go_sem] def l_impl_Resolved_4 : List GOp := [⟨(some 8), .mv (.c (.sl none 0 0 true 0)), none⟩]
def impl_Resolved_4 : IR := .ops l_impl_Resolved_4
@[go_sem] theorem w_impl_Resolved_4 : wp P impl_Resolved_4 Q e H = wpL P l_impl_Resolved_4 (Q .normal) e H := idE rfl
@[go_sem] def l_impl_Resolved_5 : List GOp := [⟨(some 38), .mv (.t 0), none⟩,
    ⟨(some 39), .len (.t 38), none⟩,
    ⟨(some 40), .mv (.c (.int .i64 0)), none⟩]
def impl_Resolved_5 : IR := .ops l_impl_Resolved_5
@[go_sem] theorem w_impl_Resolved_5 : wp P impl_Resolved_5 Q e H = wpL P l_impl_Resolved_5 (Q .normal) e H := idE rfl
@[go_sem] def l_impl_Resolved_6 : List GOp := [⟨(some 41), .bin .lss (.t 40) (.t 39), none⟩]
def impl_Resolved_6 : IR := .ops l_impl_Resolved_6
@[go_sem] theorem w_impl_Resolved_6 : wp P impl_Resolved_6 Q e H = wpL P l_impl_Resolved_6 (Q .normal) e H := idE rfl
def impl_Resolved_7 : IR := .cond (.t 41) .skip (.exit 0)
@[go_sem] theorem w_impl_Resolved_7 : wp P impl_Resolved_7 Q e H = condW P ((.t 41) : X) .skip (.exit 0) Q e H := idE rfl
@[go_sem] def l_impl_Resolved_8 : List GOp := [⟨(some 42), .iaddr (.t 38) (.t 40) 1, none⟩,
    ⟨(some 43), .load (.t 42) 1 false, none⟩,
    ⟨(some 10), .mv (.t 43), none⟩]
def impl_Resolved_8 : IR := .ops l_impl_Resolved_8
@[go_sem] theorem w_impl_Resolved_8 : wp P impl_Resolved_8 Q e H = wpL P l_impl_Resolved_8 (Q .normal) e H := idE rfl
@[go_sem] def l_impl_Resolved_9 : List GOp := [⟨(some 44), .mv (.t 10), none⟩,
    ⟨(some 45), .mv (.t 2), none⟩,
    ⟨(some 46), .bin .neq (.t 44) (.t 45), none⟩]
def impl_Resolved_9 : IR := .ops l_impl_Resolved_9
@[go_sem] theorem w_impl_Resolved_9 : wp P impl_Resolved_9 Q e H = wpL P l_impl_Resolved_9 (Q .normal) e H := idE rfl
@[go_sem] def l_impl_Resolved_10 : List GOp := [⟨(some 47), .mv (.t 8), none⟩,
    ⟨(some 48), .mv (.t 10), none⟩,
    ⟨(some 49), .bslc 1 1 [(.int .i64 0)] [(0, (.t 48))], none⟩,
    ⟨(some 50), .app 1 8 (.t 47) (.t 49), none⟩,
    ⟨(some 8), .mv (.t 50), none⟩]
def impl_Resolved_10 : IR := .ops l_impl_Resolved_10
@[go_sem] theorem w_impl_Resolved_10 : wp P impl_Resolved_10 Q e H = wpL P l_impl_Resolved_10 (Q .normal) e H := idE rfl
def impl_Resolved_11 : IR := .cond (.t 46) impl_Resolved_10 .skip
@[go_sem] theorem w_impl_Resolved_11 : wp P impl_Resolved_11 Q e H = condW P ((.t 46) : X) impl_Resolved_10 .skip Q e H := idE rfl
def impl_Resolved_12 : IR := .block 1 (.seq impl_Resolved_8 (.seq impl_Resolved_9 impl_Resolved_11))
@[go_sem] theorem w_impl_Resolved_12 : wp P impl_Resolved_12 Q e H = wp P (.seq impl_Resolved_8 (.seq impl_Resolved_9 impl_Resolved_11)) (blockQ 1 Q) e H := idE rfl
@[go_sem] def l_impl_Resolved_13 : List GOp := [⟨(some 51), .bin .add (.t 40) (.c (.int .i64 1)), none⟩,
    ⟨(some 40), .mv (.t 51), none⟩]
def impl_Resolved_13 : IR := .ops l_impl_Resolved_13
@[go_sem] theorem w_impl_Resolved_13 : wp P impl_Resolved_13 Q e H = wpL P l_impl_Resolved_13 (Q .normal) e H := idE rfl
def impl_Resolved_14 : IR := .loop (.seq impl_Resolved_6 (.seq impl_Resolved_7 (.seq impl_Resolved_12 impl_Resolved_13)))
def impl_Resolved_15 : IR := .block 0 impl_Resolved_14
@[go_sem] theorem w_impl_Resolved_15 : wp P impl_Resolved_15 Q e H = wp P impl_Resolved_14 (blockQ 0 Q) e H := idE rfl
@[go_sem] def l_impl_Resolved_16 : List GOp := [⟨(some 52), .mv (.t 1), none⟩,
    ⟨(some 53), .len (.t 52), none⟩,
    ⟨(some 54), .mv (.c (.int .i64 0)), none⟩]
def impl_Resolved_16 : IR := .ops l_impl_Resolved_16
@[go_sem] theorem w_impl_Resolved_16 : wp P impl_Resolved_16 Q e H = wpL P l_impl_Resolved_16 (Q .normal) e H := idE rfl
@[go_sem] def l_impl_Resolved_17 : List GOp := [⟨(some 55), .bin .lss (.t 54) (.t 53), none⟩]
def impl_Resolved_17 : IR := .ops l_impl_Resolved_17
@[go_sem] theorem w_impl_Resolved_17 : wp P impl_Resolved_17 Q e H = wpL P l_impl_Resolved_17 (Q .normal) e H := idE rfl
def impl_Resolved_18 : IR := .cond (.t 55) .skip (.exit 2)
@[go_sem] theorem w_impl_Resolved_18 : wp P impl_Resolved_18 Q e H = condW P ((.t 55) : X) .skip (.exit 2) Q e H := idE rfl
@[go_sem] def l_impl_Resolved_19 : List GOp := [⟨(some 56), .iaddr (.t 52) (.t 54) 1, none⟩,
    ⟨(some 57), .load (.t 56) 1 false, none⟩,
    ⟨(some 12), .mv (.t 57), none⟩]
def impl_Resolved_19 : IR := .ops l_impl_Resolved_19
@[go_sem] theorem w_impl_Resolved_19 : wp P impl_Resolved_19 Q e H = wpL P l_impl_Resolved_19 (Q .normal) e H := idE rfl
@[go_sem] def l_impl_Resolved_20 : List GOp := [⟨(some 58), .mv (.t 12), none⟩,
    ⟨(some 59), .mv (.t 2), none⟩,
    ⟨(some 60), .un .neg (.t 59), none⟩,
    ⟨(some 61), .bin .neq (.t 58) (.t 60), none⟩]
def impl_Resolved_20 : IR := .ops l_impl_Resolved_20
@[go_sem] theorem w_impl_Resolved_20 : wp P impl_Resolved_20 Q e H = wpL P l_impl_Resolved_20 (Q .normal) e H := idE rfl
@[go_sem] def l_impl_Resolved_21 : List GOp := [⟨(some 62), .mv (.t 8), none⟩,
    ⟨(some 63), .mv (.t 12), none⟩,
    ⟨(some 64), .bslc 1 1 [(.int .i64 0)] [(0, (.t 63))], none⟩,
    ⟨(some 65), .app 1 8 (.t 62) (.t 64), none⟩,
    ⟨(some 8), .mv (.t 65), none⟩]
def impl_Resolved_21 : IR := .ops l_impl_Resolved_21
@[go_sem] theorem w_impl_Resolved_21 : wp P impl_Resolved_21 Q e H = wpL P l_impl_Resolved_21 (Q .normal) e H := idE rfl
def impl_Resolved_22 : IR := .cond (.t 61) impl_Resolved_21 .skip
@[go_sem] theorem w_impl_Resolved_22 : wp P impl_Resolved_22 Q e H = condW P ((.t 61) : X) impl_Resolved_21 .skip Q e H := idE rfl
def impl_Resolved_23 : IR := .block 3 (.seq impl_Resolved_19 (.seq impl_Resolved_20 impl_Resolved_22))
@[go_sem] theorem w_impl_Resolved_23 : wp P impl_Resolved_23 Q e H = wp P (.seq impl_Resolved_19 (.seq impl_Resolved_20 impl_Resolved_22)) (blockQ 3 Q) e H := idE rfl
@[go_sem] def l_impl_Resolved_24 : List GOp := [⟨(some 66), .bin .add (.t 54) (.c (.int .i64 1)), none⟩,
    ⟨(some 54), .mv (.t 66), none⟩]
def impl_Resolved_24 : IR := .ops l_impl_Resolved_24
@[go_sem] theorem w_impl_Resolved_24 : wp P impl_Resolved_24 Q e H = wpL P l_impl_Resolved_24 (Q .normal) e H := idE rfl
def impl_Resolved_25 : IR := .loop (.seq impl_Resolved_17 (.seq impl_Resolved_18 (.seq impl_Resolved_23 impl_Resolved_24)))
def impl_Resolved_26 : IR := .block 2 impl_Resolved_25
@[go_sem] theorem w_impl_Resolved_26 : wp P impl_Resolved_26 Q e H = wp P impl_Resolved_25 (blockQ 2 Q) e H := idE rfl
@[go_sem] def l_impl_Resolved_27 : List GOp := [⟨(some 67), .mv (.t 8), none⟩,
    ⟨(some 68), .call (n_impl_clauseOf) [(.t 67)], none⟩,
    ⟨(some 69), .ext (.t 68) 0, none⟩,
    ⟨(some 70), .ext (.t 68) 1, none⟩,
    ⟨(some 6), .mv (.t 69), none⟩,
    ⟨(some 7), .mv (.t 70), none⟩]
def impl_Resolved_27 : IR := .ops l_impl_Resolved_27
@[go_sem] theorem w_impl_Resolved_27 : wp P impl_Resolved_27 Q e H = wpL P l_impl_Resolved_27 (Q .normal) e H := idE rfl
def F_impl_Resolved : IFn := ⟨3, 71, [.t 6, .t 7], (.seq impl_Resolved_0 (.seq (.seq impl_Resolved_1 impl_Resolved_3) (.seq impl_Resolved_4 (.seq (.seq impl_Resolved_5 impl_Resolved_15) (.seq (.seq impl_Resolved_16 impl_Resolved_26) (.seq impl_Resolved_27 .ret))))))⟩
theorem c_impl_Resolved : compFn Try.prog [(0, [], []), (1, [], []), (2, [], []), (3, [], []), (4, [], []), (5, [], []), (6, [], []), (7, [], []), (8, [], []), (9, [], []), (10, [], []), (11, [], []), (12, [], []), (13, [], []), (14, [], []), (15, [], []), (16, [], [])] Try.f61 = some F_impl_Resolved := by kernel_rfl
theorem a_impl_Resolved (hl : args.length = 3) (h : wp Try.prog (.seq impl_Resolved_0 (.seq (.seq impl_Resolved_1 impl_Resolved_3) (.seq impl_Resolved_4 (.seq (.seq impl_Resolved_5 impl_Resolved_15) (.seq (.seq impl_Resolved_16 impl_Resolved_26) (.seq impl_Resolved_27 .ret)))))) (postQ [.t 6, .t 7] R) (env0 args) H) : ACall Try.prog n_impl_Resolved args H R :=
  acall_of_wp mixed Try.func61 c_impl_Resolved (by kernel_rfl) hl h
@[go_sem] def l_impl_CheckChains_0 : List GOp := [⟨(some 2), .box (.t 0), none⟩,
    ⟨(some 4), .mv (.c (.bool false)), none⟩]
def impl_CheckChains_0 : IR := .ops l_impl_CheckChains_0
@[go_sem] theorem w_impl_CheckChains_0 : wp P impl_CheckChains_0 Q e H = wpL P l_impl_CheckChains_0 (Q .normal) e H := idE rfl
@[go_sem] def l_impl_CheckChains_1 : List GOp := [⟨(some 9), .load (.t 2) 2 true, none⟩,
    ⟨(some 10), .call (n_impl_ClausesValid) [(.t 9)], none⟩,
    ⟨(some 11), .un .not (.t 10), none⟩,
    ⟨(some 12), .mv (.t 11), none⟩,
    ⟨(some 13), .mv (.t 1), (some (12, false))⟩,
    ⟨(some 14), .len (.t 13), (some (12, false))⟩,
    ⟨(some 15), .call (n_impl_in) [(.t 14), (.c (.int .i64 1)), (.c (.int .i64 3000))], (some (12, false))⟩,
    ⟨(some 16), .un .not (.t 15), (some (12, false))⟩,
    ⟨(some 17), .pick (.t 12) (.c (.bool true)) (.t 16), none⟩,
    ⟨(some 18), .mv (.t 17), none⟩,
    ⟨(some 19), .mv (.t 1), (some (18, false))⟩,
    ⟨(some 20), .mv (.t 1), (some (18, false))⟩,
    ⟨(some 21), .len (.t 20), (some (18, false))⟩,
    ⟨(some 22), .bin .sub (.t 21) (.c (.int .i64 1)), (some (18, false))⟩,
    ⟨(some 23), .iaddr (.t 19) (.t 22) 5, (some (18, false))⟩,
    ⟨(some 24), .faddr (.t 23) 4, (some (18, false))⟩,
    ⟨(some 25), .load (.t 24) 1 false, (some (18, false))⟩,
    ⟨(some 26), .len (.t 25), (some (18, false))⟩,
    ⟨(some 27), .bin .gtr (.t 26) (.c (.int .i64 0)), (some (18, false))⟩,
    ⟨(some 28), .pick (.t 18) (.c (.bool true)) (.t 27), none⟩]
def impl_CheckChains_1 : IR := .ops l_impl_CheckChains_1
@[go_sem] theorem w_impl_CheckChains_1 : wp P impl_CheckChains_1 Q e H = wpL P l_impl_CheckChains_1 (Q .normal) e H := idE rfl
@[go_sem] def l_impl_CheckChains_2 : List GOp := [⟨(some 4), .mv (.c (.bool false)), none⟩]
def impl_CheckChains_2 : IR := .ops l_impl_CheckChains_2
@[go_sem] theorem w_impl_CheckChains_2 : wp P impl_CheckChains_2 Q e H = wpL P l_impl_CheckChains_2 (Q .normal) e H := idE rfl
def impl_CheckChains_3 : IR := .cond (.t 28) (.seq impl_CheckChains_2 .ret) .skip
@[go_sem] theorem w_impl_CheckChains_3 : wp P impl_CheckChains_3 Q e H = condW P ((.t 28) : X) (.seq impl_CheckChains_2 .ret) .skip Q e H := idE rfl
@[go_sem] def l_impl_CheckChains_4 : List GOp := [⟨(some 29), .mv (.t 1), none⟩,
    ⟨(some 30), .len (.t 29), none⟩,
    ⟨(some 31), .mv (.c (.int .i64 0)), none⟩]
def impl_CheckChains_4 : IR := .ops l_impl_CheckChains_4
@[go_sem] theorem w_impl_CheckChains_4 : wp P impl_CheckChains_4 Q e H = wpL P l_impl_CheckChains_4 (Q .normal) e H := idE rfl
@[go_sem] def l_impl_CheckChains_5 : List GOp := [⟨(some 32), .bin .lss (.t 31) (.t 30), none⟩]
def impl_CheckChains_5 : IR := .ops l_impl_CheckChains_5
@[go_sem] theorem w_impl_CheckChains_5 : wp P impl_CheckChains_5 Q e H = wpL P l_impl_CheckChains_5 (Q .normal) e H := idE rfl
def impl_CheckChains_6 : IR := .cond (.t 32) .skip (.exit 0)
@[go_sem] theorem w_impl_CheckChains_6 : wp P impl_CheckChains_6 Q e H = condW P ((.t 32) : X) .skip (.exit 0) Q e H := idE rfl
@[go_sem] def l_impl_CheckChains_7 : List GOp := [⟨(some 33), .mv (.t 31), none⟩,
    ⟨(some 34), .iaddr (.t 29) (.t 31) 5, none⟩,
    ⟨(some 35), .load (.t 34) 5 true, none⟩,
    ⟨(some 6), .alloc [(.int .i64 0), (.int .i64 0), (.int .i64 0), (.int .i64 0), (.sl none 0 0 true 0)], none⟩,
    ⟨(some 5), .mv (.t 33), none⟩,
    ⟨none, .store (.t 6) 5 (.t 35), none⟩]
def impl_CheckChains_7 : IR := .ops l_impl_CheckChains_7
@[go_sem] theorem w_impl_CheckChains_7 : wp P impl_CheckChains_7 Q e H = wpL P l_impl_CheckChains_7 (Q .normal) e H := idE rfl
@[go_sem] def l_impl_CheckChains_8 : List GOp := [⟨(some 36), .faddr (.t 6) 0, none⟩,
    ⟨(some 37), .load (.t 36) 1 false, none⟩,
    ⟨(some 38), .bin .neq (.t 37) (.c (.int .i64 (-1))), none⟩]
def impl_CheckChains_8 : IR := .ops l_impl_CheckChains_8
@[go_sem] theorem w_impl_CheckChains_8 : wp P impl_CheckChains_8 Q e H = wpL P l_impl_CheckChains_8 (Q .normal) e H := idE rfl
def l_impl_CheckChains_9 : List GOp := [⟨(some 39), .faddr (.t 6) 0, none⟩,
    ⟨(some 40), .load (.t 39) 1 false, none⟩,
    ⟨(some 41), .faddr (.t 2) 1, none⟩,
    ⟨(some 42), .load (.t 41) 1 false, none⟩,
    ⟨(some 43), .len (.t 42), none⟩,
    ⟨(some 44), .bin .sub (.t 43) (.c (.int .i64 1)), none⟩,
    ⟨(some 45), .call (n_impl_in) [(.t 40), (.c (.int .i64 0)), (.t 44)], none⟩,
    ⟨(some 46), .un .not (.t 45), none⟩,
    ⟨(some 47), .mv (.t 46), none⟩,
    ⟨(some 48), .faddr (.t 6) 1, (some (47, false))⟩,
    ⟨(some 49), .load (.t 48) 1 false, (some (47, false))⟩,
    ⟨(some 50), .bin .neq (.t 49) (.c (.int .i64 (-1))), (some (47, false))⟩,
    ⟨(some 51), .pick (.t 47) (.c (.bool true)) (.t 50), none⟩,
    ⟨(some 52), .mv (.t 51), none⟩,
    ⟨(some 53), .faddr (.t 6) 2, (some (52, false))⟩,
    ⟨(some 54), .load (.t 53) 1 false, (some (52, false))⟩,
    ⟨(some 55), .bin .neq (.t 54) (.c (.int .i64 (-1))), (some (52, false))⟩,
    ⟨(some 56), .pick (.t 52) (.c (.bool true)) (.t 55), none⟩,
    ⟨(some 57), .mv (.t 56), none⟩,
    ⟨(some 58), .faddr (.t 6) 3, (some (57, false))⟩,
    ⟨(some 59), .load (.t 58) 1 false, (some (57, false))⟩,
    ⟨(some 60), .bin .neq (.t 59) (.c (.int .i64 0)), (some (57, false))⟩,
    ⟨(some 61), .pick (.t 57) (.c (.bool true)) (.t 60), none⟩,
    ⟨(some 62), .mv (.t 61), none⟩,
    ⟨(some 63), .faddr (.t 6) 4, (some (62, false))⟩,
    ⟨(some 64), .load (.t 63) 1 false, (some (62, false))⟩,
    ⟨(some 65), .faddr (.t 2) 1, (some (62, false))⟩,
    ⟨(some 66), .load (.t 65) 1 false, (some (62, false))⟩,
    ⟨(some 67), .faddr (.t 6) 0, (some (62, false))⟩,
    ⟨(some 68), .load (.t 67) 1 false, (some (62, false))⟩,
    ⟨(some 69), .iaddr (.t 66) (.t 68) 1, (some (62, false))⟩,
    ⟨(some 70), .load (.t 69) 1 false, (some (62, false))⟩,
    ⟨(some 71), .call (n_slices_Equal_Sint_int) [(.t 64), (.t 70)], (some (62, false))⟩,
    ⟨(some 72), .un .not (.t 71), (some (62, false))⟩,
    ⟨(some 73), .pick (.t 62) (.c (.bool true)) (.t 72), none⟩]
@[go_sem] theorem g_impl_CheckChains_9_0 : gAt l_impl_CheckChains_9 0 = ⟨(some 39), .faddr (.t 6) 0, none⟩ := idE rfl
@[go_sem] theorem g_impl_CheckChains_9_1 : gAt l_impl_CheckChains_9 1 = ⟨(some 40), .load (.t 39) 1 false, none⟩ := idE rfl
@[go_sem] theorem g_impl_CheckChains_9_2 : gAt l_impl_CheckChains_9 2 = ⟨(some 41), .faddr (.t 2) 1, none⟩ := idE rfl
@[go_sem] theorem g_impl_CheckChains_9_3 : gAt l_impl_CheckChains_9 3 = ⟨(some 42), .load (.t 41) 1 false, none⟩ := idE rfl
@[go_sem] theorem g_impl_CheckChains_9_4 : gAt l_impl_CheckChains_9 4 = ⟨(some 43), .len (.t 42), none⟩ := idE rfl
@[go_sem] theorem g_impl_CheckChains_9_5 : gAt l_impl_CheckChains_9 5 = ⟨(some 44), .bin .sub (.t 43) (.c (.int .i64 1)), none⟩ := idE rfl
@[go_sem] theorem g_impl_CheckChains_9_6 : gAt l_impl_CheckChains_9 6 = ⟨(some 45), .call (n_impl_in) [(.t 40), (.c (.int .i64 0)), (.t 44)], none⟩ := idE rfl
@[go_sem] theorem g_impl_CheckChains_9_7 : gAt l_impl_CheckChains_9 7 = ⟨(some 46), .un .not (.t 45), none⟩ := idE rfl
@[go_sem] theorem g_impl_CheckChains_9_8 : gAt l_impl_CheckChains_9 8 = ⟨(some 47), .mv (.t 46), none⟩ := idE rfl
@[go_sem] theorem g_impl_CheckChains_9_9 : gAt l_impl_CheckChains_9 9 = ⟨(some 48), .faddr (.t 6) 1, (some (47, false))⟩ := idE rfl
@[go_sem] theorem g_impl_CheckChains_9_10 : gAt l_impl_CheckChains_9 10 = ⟨(some 49), .load (.t 48) 1 false, (some (47, false))⟩ := idE rfl
@[go_sem] theorem g_impl_CheckChains_9_11 : gAt l_impl_CheckChains_9 11 = ⟨(some 50), .bin .neq (.t 49) (.c (.int .i64 (-1))), (some (47, false))⟩ := idE rfl
@[go_sem] theorem g_impl_CheckChains_9_12 : gAt l_impl_CheckChains_9 12 = ⟨(some 51), .pick (.t 47) (.c (.bool true)) (.t 50), none⟩ := idE rfl
@[go_sem] theorem g_impl_CheckChains_9_13 : gAt l_impl_CheckChains_9 13 = ⟨(some 52), .mv (.t 51), none⟩ := idE rfl
@[go_sem] theorem g_impl_CheckChains_9_14 : gAt l_impl_CheckChains_9 14 = ⟨(some 53), .faddr (.t 6) 2, (some (52, false))⟩ := idE rfl
@[go_sem] theorem g_impl_CheckChains_9_15 : gAt l_impl_CheckChains_9 15 = ⟨(some 54), .load (.t 53) 1 false, (some (52, false))⟩ := idE rfl
@[go_sem] theorem g_impl_CheckChains_9_16 : gAt l_impl_CheckChains_9 16 = ⟨(some 55), .bin .neq (.t 54) (.c (.int .i64 (-1))), (some (52, false))⟩ := idE rfl
@[go_sem] theorem g_impl_CheckChains_9_17 : gAt l_impl_CheckChains_9 17 = ⟨(some 56), .pick (.t 52) (.c (.bool true)) (.t 55), none⟩ := idE rfl
@[go_sem] theorem g_impl_CheckChains_9_18 : gAt l_impl_CheckChains_9 18 = ⟨(some 57), .mv (.t 56), none⟩ := idE rfl
@[go_sem] theorem g_impl_CheckChains_9_19 : gAt l_impl_CheckChains_9 19 = ⟨(some 58), .faddr (.t 6) 3, (some (57, false))⟩ := idE rfl
@[go_sem] theorem g_impl_CheckChains_9_20 : gAt l_impl_CheckChains_9 20 = ⟨(some 59), .load (.t 58) 1 false, (some (57, false))⟩ := idE rfl
@[go_sem] theorem g_impl_CheckChains_9_21 : gAt l_impl_CheckChains_9 21 = ⟨(some 60), .bin .neq (.t 59) (.c (.int .i64 0)), (some (57, false))⟩ := idE rfl
@[go_sem] theorem g_impl_CheckChains_9_22 : gAt l_impl_CheckChains_9 22 = ⟨(some 61), .pick (.t 57) (.c (.bool true)) (.t 60), none⟩ := idE rfl
@[go_sem] theorem g_impl_CheckChains_9_23 : gAt l_impl_CheckChains_9 23 = ⟨(some 62), .mv (.t 61), none⟩ := idE rfl
@[go_sem] theorem g_impl_CheckChains_9_24 : gAt l_impl_CheckChains_9 24 = ⟨(some 63), .faddr (.t 6) 4, (some (62, false))⟩ := idE rfl
@[go_sem] theorem g_impl_CheckChains_9_25 : gAt l_impl_CheckChains_9 25 = ⟨(some 64), .load (.t 63) 1 false, (some (62, false))⟩ := idE rfl
@[go_sem] theorem g_impl_CheckChains_9_26 : gAt l_impl_CheckChains_9 26 = ⟨(some 65), .faddr (.t 2) 1, (some (62, false))⟩ := idE rfl
@[go_sem] theorem g_impl_CheckChains_9_27 : gAt l_impl_CheckChains_9 27 = ⟨(some 66), .load (.t 65) 1 false, (some (62, false))⟩ := idE rfl
@[go_sem] theorem g_impl_CheckChains_9_28 : gAt l_impl_CheckChains_9 28 = ⟨(some 67), .faddr (.t 6) 0, (some (62, false))⟩ := idE rfl
@[go_sem] theorem g_impl_CheckChains_9_29 : gAt l_impl_CheckChains_9 29 = ⟨(some 68), .load (.t 67) 1 false, (some (62, false))⟩ := idE rfl
@[go_sem] theorem g_impl_CheckChains_9_30 : gAt l_impl_CheckChains_9 30 = ⟨(some 69), .iaddr (.t 66) (.t 68) 1, (some (62, false))⟩ := idE rfl
@[go_sem] theorem g_impl_CheckChains_9_31 : gAt l_impl_CheckChains_9 31 = ⟨(some 70), .load (.t 69) 1 false, (some (62, false))⟩ := idE rfl
@[go_sem] theorem g_impl_CheckChains_9_32 : gAt l_impl_CheckChains_9 32 = ⟨(some 71), .call (n_slices_Equal_Sint_int) [(.t 64), (.t 70)], (some (62, false))⟩ := idE rfl
@[go_sem] theorem g_impl_CheckChains_9_33 : gAt l_impl_CheckChains_9 33 = ⟨(some 72), .un .not (.t 71), (some (62, false))⟩ := idE rfl
@[go_sem] theorem g_impl_CheckChains_9_34 : gAt l_impl_CheckChains_9 34 = ⟨(some 73), .pick (.t 62) (.c (.bool true)) (.t 72), none⟩ := idE rfl
def impl_CheckChains_9 : IR := .dops l_impl_CheckChains_9 [(0, []), (1, []), (2, []), (3, []), (4, []), (5, []), (6, []), (7, []), (8, []), (9, []), (10, []), (11, []), (12, []), (13, []), (14, []), (15, []), (16, []), (17, []), (18, []), (19, []), (20, []), (21, []), (22, []), (23, []), (24, []), (25, []), (26, []), (27, []), (28, []), (29, []), (30, []), (31, []), (32, []), (33, []), (34, [])]
@[go_sem] theorem w_impl_CheckChains_9 : wp P impl_CheckChains_9 Q e H = wpD P l_impl_CheckChains_9 [(0, []), (1, []), (2, []), (3, []), (4, []), (5, []), (6, []), (7, []), (8, []), (9, []), (10, []), (11, []), (12, []), (13, []), (14, []), (15, []), (16, []), (17, []), (18, []), (19, []), (20, []), (21, []), (22, []), (23, []), (24, []), (25, []), (26, []), (27, []), (28, []), (29, []), (30, []), (31, []), (32, []), (33, []), (34, [])] (Q .normal) e H := idE rfl
@[go_sem] def l_impl_CheckChains_10 : List GOp := [⟨(some 4), .mv (.c (.bool false)), none⟩]
def impl_CheckChains_10 : IR := .ops l_impl_CheckChains_10
@[go_sem] theorem w_impl_CheckChains_10 : wp P impl_CheckChains_10 Q e H = wpL P l_impl_CheckChains_10 (Q .normal) e H := idE rfl
def impl_CheckChains_11 : IR := .cond (.t 73) (.seq impl_CheckChains_10 .ret) .skip
@[go_sem] theorem w_impl_CheckChains_11 : wp P impl_CheckChains_11 Q e H = condW P ((.t 73) : X) (.seq impl_CheckChains_10 .ret) .skip Q e H := idE rfl
def impl_CheckChains_12 : IR := .cond (.t 38) (.seq (.seq impl_CheckChains_9 impl_CheckChains_11) (.exit 1)) .skip
@[go_sem] theorem w_impl_CheckChains_12 : wp P impl_CheckChains_12 Q e H = condW P ((.t 38) : X) (.seq (.seq impl_CheckChains_9 impl_CheckChains_11) (.exit 1)) .skip Q e H := idE rfl
@[go_sem] def l_impl_CheckChains_13 : List GOp := [⟨(some 74), .faddr (.t 6) 1, none⟩,
    ⟨(some 75), .load (.t 74) 1 false, none⟩,
    ⟨(some 76), .mv (.t 5), none⟩,
    ⟨(some 77), .bin .sub (.t 76) (.c (.int .i64 1)), none⟩,
    ⟨(some 78), .call (n_impl_in) [(.t 75), (.c (.int .i64 0)), (.t 77)], none⟩,
    ⟨(some 79), .un .not (.t 78), none⟩,
    ⟨(some 80), .mv (.t 79), none⟩,
    ⟨(some 81), .faddr (.t 6) 2, (some (80, false))⟩,
    ⟨(some 82), .load (.t 81) 1 false, (some (80, false))⟩,
    ⟨(some 83), .mv (.t 5), (some (80, false))⟩,
    ⟨(some 84), .bin .sub (.t 83) (.c (.int .i64 1)), (some (80, false))⟩,
    ⟨(some 85), .call (n_impl_in) [(.t 82), (.c (.int .i64 0)), (.t 84)], (some (80, false))⟩,
    ⟨(some 86), .un .not (.t 85), (some (80, false))⟩,
    ⟨(some 87), .pick (.t 80) (.c (.bool true)) (.t 86), none⟩]
def impl_CheckChains_13 : IR := .ops l_impl_CheckChains_13
@[go_sem] theorem w_impl_CheckChains_13 : wp P impl_CheckChains_13 Q e H = wpL P l_impl_CheckChains_13 (Q .normal) e H := idE rfl
@[go_sem] def l_impl_CheckChains_14 : List GOp := [⟨(some 4), .mv (.c (.bool false)), none⟩]
def impl_CheckChains_14 : IR := .ops l_impl_CheckChains_14
@[go_sem] theorem w_impl_CheckChains_14 : wp P impl_CheckChains_14 Q e H = wpL P l_impl_CheckChains_14 (Q .normal) e H := idE rfl
def impl_CheckChains_15 : IR := .cond (.t 87) (.seq impl_CheckChains_14 .ret) .skip
@[go_sem] theorem w_impl_CheckChains_15 : wp P impl_CheckChains_15 Q e H = condW P ((.t 87) : X) (.seq impl_CheckChains_14 .ret) .skip Q e H := idE rfl
def l_impl_CheckChains_16 : List GOp := [⟨(some 89), .mv (.t 1), none⟩,
    ⟨(some 90), .faddr (.t 6) 1, none⟩,
    ⟨(some 91), .load (.t 90) 1 false, none⟩,
    ⟨(some 92), .iaddr (.t 89) (.t 91) 5, none⟩,
    ⟨(some 93), .faddr (.t 92) 4, none⟩,
    ⟨(some 94), .load (.t 93) 1 false, none⟩,
    ⟨(some 95), .mv (.t 1), none⟩,
    ⟨(some 96), .faddr (.t 6) 2, none⟩,
    ⟨(some 97), .load (.t 96) 1 false, none⟩,
    ⟨(some 98), .iaddr (.t 95) (.t 97) 5, none⟩,
    ⟨(some 99), .faddr (.t 98) 4, none⟩,
    ⟨(some 100), .load (.t 99) 1 false, none⟩,
    ⟨(some 101), .faddr (.t 6) 3, none⟩,
    ⟨(some 102), .load (.t 101) 1 false, none⟩,
    ⟨(some 103), .call (n_impl_Resolved) [(.t 94), (.t 100), (.t 102)], none⟩,
    ⟨(some 88), .mv (.t 103), none⟩,
    ⟨(some 104), .ext (.t 88) 0, none⟩,
    ⟨(some 105), .ext (.t 88) 1, none⟩,
    ⟨(some 7), .mv (.t 104), none⟩,
    ⟨(some 8), .mv (.t 105), none⟩]
@[go_sem] theorem g_impl_CheckChains_16_0 : gAt l_impl_CheckChains_16 0 = ⟨(some 89), .mv (.t 1), none⟩ := idE rfl
@[go_sem] theorem g_impl_CheckChains_16_1 : gAt l_impl_CheckChains_16 1 = ⟨(some 90), .faddr (.t 6) 1, none⟩ := idE rfl
@[go_sem] theorem g_impl_CheckChains_16_2 : gAt l_impl_CheckChains_16 2 = ⟨(some 91), .load (.t 90) 1 false, none⟩ := idE rfl
@[go_sem] theorem g_impl_CheckChains_16_3 : gAt l_impl_CheckChains_16 3 = ⟨(some 92), .iaddr (.t 89) (.t 91) 5, none⟩ := idE rfl
@[go_sem] theorem g_impl_CheckChains_16_4 : gAt l_impl_CheckChains_16 4 = ⟨(some 93), .faddr (.t 92) 4, none⟩ := idE rfl
@[go_sem] theorem g_impl_CheckChains_16_5 : gAt l_impl_CheckChains_16 5 = ⟨(some 94), .load (.t 93) 1 false, none⟩ := idE rfl
@[go_sem] theorem g_impl_CheckChains_16_6 : gAt l_impl_CheckChains_16 6 = ⟨(some 95), .mv (.t 1), none⟩ := idE rfl
@[go_sem] theorem g_impl_CheckChains_16_7 : gAt l_impl_CheckChains_16 7 = ⟨(some 96), .faddr (.t 6) 2, none⟩ := idE rfl
@[go_sem] theorem g_impl_CheckChains_16_8 : gAt l_impl_CheckChains_16 8 = ⟨(some 97), .load (.t 96) 1 false, none⟩ := idE rfl
@[go_sem] theorem g_impl_CheckChains_16_9 : gAt l_impl_CheckChains_16 9 = ⟨(some 98), .iaddr (.t 95) (.t 97) 5, none⟩ := idE rfl
@[go_sem] theorem g_impl_CheckChains_16_10 : gAt l_impl_CheckChains_16 10 = ⟨(some 99), .faddr (.t 98) 4, none⟩ := idE rfl
@[go_sem] theorem g_impl_CheckChains_16_11 : gAt l_impl_CheckChains_16 11 = ⟨(some 100), .load (.t 99) 1 false, none⟩ := idE rfl
@[go_sem] theorem g_impl_CheckChains_16_12 : gAt l_impl_CheckChains_16 12 = ⟨(some 101), .faddr (.t 6) 3, none⟩ := idE rfl
@[go_sem] theorem g_impl_CheckChains_16_13 : gAt l_impl_CheckChains_16 13 = ⟨(some 102), .load (.t 101) 1 false, none⟩ := idE rfl
@[go_sem] theorem g_impl_CheckChains_16_14 : gAt l_impl_CheckChains_16 14 = ⟨(some 103), .call (n_impl_Resolved) [(.t 94), (.t 100), (.t 102)], none⟩ := idE rfl
@[go_sem] theorem g_impl_CheckChains_16_15 : gAt l_impl_CheckChains_16 15 = ⟨(some 88), .mv (.t 103), none⟩ := idE rfl
@[go_sem] theorem g_impl_CheckChains_16_16 : gAt l_impl_CheckChains_16 16 = ⟨(some 104), .ext (.t 88) 0, none⟩ := idE rfl
@[go_sem] theorem g_impl_CheckChains_16_17 : gAt l_impl_CheckChains_16 17 = ⟨(some 105), .ext (.t 88) 1, none⟩ := idE rfl
@[go_sem] theorem g_impl_CheckChains_16_18 : gAt l_impl_CheckChains_16 18 = ⟨(some 7), .mv (.t 104), none⟩ := idE rfl
@[go_sem] theorem g_impl_CheckChains_16_19 : gAt l_impl_CheckChains_16 19 = ⟨(some 8), .mv (.t 105), none⟩ := idE rfl
def impl_CheckChains_16 : IR := .dops l_impl_CheckChains_16 [(0, []), (1, []), (2, []), (3, []), (4, []), (5, []), (6, []), (7, []), (8, []), (9, []), (10, []), (11, []), (12, []), (13, []), (14, []), (15, []), (16, []), (17, []), (18, []), (19, [])]
@[go_sem] theorem w_impl_CheckChains_16 : wp P impl_CheckChains_16 Q e H = wpD P l_impl_CheckChains_16 [(0, []), (1, []), (2, []), (3, []), (4, []), (5, []), (6, []), (7, []), (8, []), (9, []), (10, []), (11, []), (12, []), (13, []), (14, []), (15, []), (16, []), (17, []), (18, []), (19, [])] (Q .normal) e H := idE rfl
@[go_sem] def l_impl_CheckChains_17 : List GOp := [⟨(some 106), .mv (.t 8), none⟩,
    ⟨(some 107), .un .not (.t 106), none⟩,
    ⟨(some 108), .mv (.t 107), none⟩,
    ⟨(some 109), .mv (.t 7), (some (108, false))⟩,
    ⟨(some 110), .faddr (.t 6) 4, (some (108, false))⟩,
    ⟨(some 111), .load (.t 110) 1 false, (some (108, false))⟩,
    ⟨(some 112), .call (n_slices_Equal_Sint_int) [(.t 109), (.t 111)], (some (108, false))⟩,
    ⟨(some 113), .un .not (.t 112), (some (108, false))⟩,
    ⟨(some 114), .pick (.t 108) (.c (.bool true)) (.t 113), none⟩]
def impl_CheckChains_17 : IR := .ops l_impl_CheckChains_17
@[go_sem] theorem w_impl_CheckChains_17 : wp P impl_CheckChains_17 Q e H = wpL P l_impl_CheckChains_17 (Q .normal) e H := idE rfl
@[go_sem] def l_impl_CheckChains_18 : List GOp := [⟨(some 4), .mv (.c (.bool false)), none⟩]
def impl_CheckChains_18 : IR := .ops l_impl_CheckChains_18
@[go_sem] theorem w_impl_CheckChains_18 : wp P impl_CheckChains_18 Q e H = wpL P l_impl_CheckChains_18 (Q .normal) e H := idE rfl
def impl_CheckChains_19 : IR := .cond (.t 114) (.seq impl_CheckChains_18 .ret) .skip
@[go_sem] theorem w_impl_CheckChains_19 : wp P impl_CheckChains_19 Q e H = condW P ((.t 114) : X) (.seq impl_CheckChains_18 .ret) .skip Q e H := idE rfl
def impl_CheckChains_20 : IR := .block 1 (.seq impl_CheckChains_7 (.seq (.seq impl_CheckChains_8 impl_CheckChains_12) (.seq (.seq impl_CheckChains_13 impl_CheckChains_15) (.seq impl_CheckChains_16 (.seq impl_CheckChains_17 impl_CheckChains_19)))))
@[go_sem] theorem w_impl_CheckChains_20 : wp P impl_CheckChains_20 Q e H = wp P (.seq impl_CheckChains_7 (.seq (.seq impl_CheckChains_8 impl_CheckChains_12) (.seq (.seq impl_CheckChains_13 impl_CheckChains_15) (.seq impl_CheckChains_16 (.seq impl_CheckChains_17 impl_CheckChains_19))))) (blockQ 1 Q) e H := idE rfl
@[go_sem] def l_impl_CheckChains_21 : List GOp := [⟨(some 115), .bin .add (.t 31) (.c (.int .i64 1)), none⟩,
    ⟨(some 31), .mv (.t 115), none⟩]
def impl_CheckChains_21 : IR := .ops l_impl_CheckChains_21
@[go_sem] theorem w_impl_CheckChains_21 : wp P impl_CheckChains_21 Q e H = wpL P l_impl_CheckChains_21 (Q .normal) e H := idE rfl
def impl_CheckChains_22 : IR := .loop (.seq impl_CheckChains_5 (.seq impl_CheckChains_6 (.seq impl_CheckChains_20 impl_CheckChains_21)))
def impl_CheckChains_23 : IR := .block 0 impl_CheckChains_22
@[go_sem] theorem w_impl_CheckChains_23 : wp P impl_CheckChains_23 Q e H = wp P impl_CheckChains_22 (blockQ 0 Q) e H := idE rfl
@[go_sem] def l_impl_CheckChains_24 : List GOp := [⟨(some 4), .mv (.c (.bool true)), none⟩]
def impl_CheckChains_24 : IR := .ops l_impl_CheckChains_24
@[go_sem] theorem w_impl_CheckChains_24 : wp P impl_CheckChains_24 Q e H = wpL P l_impl_CheckChains_24 (Q .normal) e H := idE rfl
def F_impl_CheckChains : IFn := ⟨2, 116, [.t 4], (.seq impl_CheckChains_0 (.seq (.seq impl_CheckChains_1 impl_CheckChains_3) (.seq (.seq impl_CheckChains_4 impl_CheckChains_23) (.seq impl_CheckChains_24 .ret))))⟩
theorem c_impl_CheckChains : compFn Try.prog [(0, [], []), (1, [], []), (2, [], []), (3, [], []), (4, [], []), (5, [], []), (6, [], []), (7, [(0, []), (1, []), (2, []), (3, []), (4, []), (5, []), (6, []), (7, []), (8, []), (9, []), (10, []), (11, []), (12, []), (13, []), (14, []), (15, []), (16, []), (17, []), (18, []), (19, []), (20, []), (21, []), (22, []), (23, []), (24, []), (25, []), (26, []), (27, []), (28, []), (29, []), (30, []), (31, []), (32, []), (33, []), (34, [])], []), (8, [], []), (9, [], []), (10, [], []), (11, [(0, []), (1, []), (2, []), (3, []), (4, []), (5, []), (6, []), (7, []), (8, []), (9, []), (10, []), (11, []), (12, []), (13, []), (14, []), (15, []), (16, []), (17, []), (18, []), (19, [])], []), (12, [], []), (13, [], []), (14, [], []), (15, [], [])] Try.f19 = some F_impl_CheckChains := by kernel_rfl
theorem a_impl_CheckChains (hl : args.length = 2) (h : wp Try.prog (.seq impl_CheckChains_0 (.seq (.seq impl_CheckChains_1 impl_CheckChains_3) (.seq (.seq impl_CheckChains_4 impl_CheckChains_23) (.seq impl_CheckChains_24 .ret)))) (postQ [.t 4] R) (env0 args) H) : ACall Try.prog n_impl_CheckChains args H R :=
  acall_of_wp mixed Try.func19 c_impl_CheckChains (by kernel_rfl) hl h
@[go_sem] def l_impl_neededSteps_0 : List GOp := [⟨(some 2), .mv (.c (.sl none 0 0 true 0)), none⟩]
def impl_neededSteps_0 : IR := .ops l_impl_neededSteps_0
@[go_sem] theorem w_impl_neededSteps_0 : wp P impl_neededSteps_0 Q e H = wpL P l_impl_neededSteps_0 (Q .normal) e H := idE rfl
@[go_sem] def l_impl_neededSteps_1 : List GOp := [⟨(some 6), .mv (.t 0), none⟩,
    ⟨(some 7), .len (.t 6), none⟩,
    ⟨(some 8), .mks [(.bool false)] 1 (.t 7), none⟩,
    ⟨(some 3), .mv (.t 8), none⟩]
def impl_neededSteps_1 : IR := .ops l_impl_neededSteps_1
@[go_sem] theorem w_impl_neededSteps_1 : wp P impl_neededSteps_1 Q e H = wpL P l_impl_neededSteps_1 (Q .normal) e H := idE rfl
@[go_sem] def l_impl_neededSteps_2 : List GOp := [⟨(some 9), .mv (.t 3), none⟩,
    ⟨(some 10), .mv (.t 3), none⟩,
    ⟨(some 11), .len (.t 10), none⟩,
    ⟨(some 12), .bin .sub (.t 11) (.c (.int .i64 1)), none⟩,
    ⟨(some 13), .iaddr (.t 9) (.t 12) 1, none⟩,
    ⟨none, .store (.t 13) 1 (.c (.bool true)), none⟩]
def impl_neededSteps_2 : IR := .ops l_impl_neededSteps_2
@[go_sem] theorem w_impl_neededSteps_2 : wp P impl_neededSteps_2 Q e H = wpL P l_impl_neededSteps_2 (Q .normal) e H := idE rfl
@[go_sem] def l_impl_neededSteps_3 : List GOp := [⟨(some 14), .mv (.t 0), none⟩,
    ⟨(some 15), .len (.t 14), none⟩,
    ⟨(some 16), .bin .sub (.t 15) (.c (.int .i64 1)), none⟩,
    ⟨(some 4), .mv (.t 16), none⟩]
def impl_neededSteps_3 : IR := .ops l_impl_neededSteps_3
@[go_sem] theorem w_impl_neededSteps_3 : wp P impl_neededSteps_3 Q e H = wpL P l_impl_neededSteps_3 (Q .normal) e H := idE rfl
@[go_sem] def l_impl_neededSteps_4 : List GOp := [⟨(some 17), .mv (.t 4), none⟩,
    ⟨(some 18), .bin .geq (.t 17) (.c (.int .i64 0)), none⟩]
def impl_neededSteps_4 : IR := .ops l_impl_neededSteps_4
@[go_sem] theorem w_impl_neededSteps_4 : wp P impl_neededSteps_4 Q e H = wpL P l_impl_neededSteps_4 (Q .normal) e H := idE rfl
def impl_neededSteps_5 : IR := .cond (.t 18) .skip (.exit 0)
@[go_sem] theorem w_impl_neededSteps_5 : wp P impl_neededSteps_5 Q e H = condW P ((.t 18) : X) .skip (.exit 0) Q e H := idE rfl
@[go_sem] def l_impl_neededSteps_6 : List GOp := [⟨(some 21), .mv (.t 0), none⟩,
    ⟨(some 22), .mv (.t 4), none⟩,
    ⟨(some 23), .iaddr (.t 21) (.t 22) 5, none⟩,
    ⟨(some 24), .load (.t 23) 5 true, none⟩,
    ⟨(some 5), .alloc [(.int .i64 0), (.int .i64 0), (.int .i64 0), (.int .i64 0), (.sl none 0 0 true 0)], none⟩,
    ⟨none, .store (.t 5) 5 (.t 24), none⟩]
def impl_neededSteps_6 : IR := .ops l_impl_neededSteps_6
@[go_sem] theorem w_impl_neededSteps_6 : wp P impl_neededSteps_6 Q e H = wpL P l_impl_neededSteps_6 (Q .normal) e H := idE rfl
@[go_sem] def l_impl_neededSteps_7 : List GOp := [⟨(some 25), .mv (.t 3), none⟩,
    ⟨(some 26), .mv (.t 4), none⟩,
    ⟨(some 27), .iaddr (.t 25) (.t 26) 1, none⟩,
    ⟨(some 28), .load (.t 27) 1 false, none⟩,
    ⟨(some 29), .mv (.t 28), none⟩,
    ⟨(some 30), .faddr (.t 5) 0, (some (29, true))⟩,
    ⟨(some 31), .load (.t 30) 1 false, (some (29, true))⟩,
    ⟨(some 32), .bin .eql (.t 31) (.c (.int .i64 (-1))), (some (29, true))⟩,
    ⟨(some 33), .pick (.t 29) (.t 32) (.c (.bool false)), none⟩]
def impl_neededSteps_7 : IR := .ops l_impl_neededSteps_7
@[go_sem] theorem w_impl_neededSteps_7 : wp P impl_neededSteps_7 Q e H = wpL P l_impl_neededSteps_7 (Q .normal) e H := idE rfl
def l_impl_neededSteps_8 : List GOp := [⟨(some 34), .mv (.t 3), none⟩,
    ⟨(some 35), .faddr (.t 5) 1, none⟩,
    ⟨(some 36), .load (.t 35) 1 false, none⟩,
    ⟨(some 37), .mv (.t 3), none⟩,
    ⟨(some 38), .faddr (.t 5) 2, none⟩,
    ⟨(some 39), .load (.t 38) 1 false, none⟩,
    ⟨(some 40), .iaddr (.t 34) (.t 36) 1, none⟩,
    ⟨none, .store (.t 40) 1 (.c (.bool true)), none⟩,
    ⟨(some 41), .iaddr (.t 37) (.t 39) 1, none⟩,
    ⟨none, .store (.t 41) 1 (.c (.bool true)), none⟩]
@[go_sem] theorem g_impl_neededSteps_8_0 : gAt l_impl_neededSteps_8 0 = ⟨(some 34), .mv (.t 3), none⟩ := idE rfl
@[go_sem] theorem g_impl_neededSteps_8_1 : gAt l_impl_neededSteps_8 1 = ⟨(some 35), .faddr (.t 5) 1, none⟩ := idE rfl
@[go_sem] theorem g_impl_neededSteps_8_2 : gAt l_impl_neededSteps_8 2 = ⟨(some 36), .load (.t 35) 1 false, none⟩ := idE rfl
@[go_sem] theorem g_impl_neededSteps_8_3 : gAt l_impl_neededSteps_8 3 = ⟨(some 37), .mv (.t 3), none⟩ := idE rfl
@[go_sem] theorem g_impl_neededSteps_8_4 : gAt l_impl_neededSteps_8 4 = ⟨(some 38), .faddr (.t 5) 2, none⟩ := idE rfl
@[go_sem] theorem g_impl_neededSteps_8_5 : gAt l_impl_neededSteps_8 5 = ⟨(some 39), .load (.t 38) 1 false, none⟩ := idE rfl
@[go_sem] theorem g_impl_neededSteps_8_6 : gAt l_impl_neededSteps_8 6 = ⟨(some 40), .iaddr (.t 34) (.t 36) 1, none⟩ := idE rfl
@[go_sem] theorem g_impl_neededSteps_8_7 : gAt l_impl_neededSteps_8 7 = ⟨none, .store (.t 40) 1 (.c (.bool true)), none⟩ := idE rfl
@[go_sem] theorem g_impl_neededSteps_8_8 : gAt l_impl_neededSteps_8 8 = ⟨(some 41), .iaddr (.t 37) (.t 39) 1, none⟩ := idE rfl
@[go_sem] theorem g_impl_neededSteps_8_9 : gAt l_impl_neededSteps_8 9 = ⟨none, .store (.t 41) 1 (.c (.bool true)), none⟩ := idE rfl
def impl_neededSteps_8 : IR := .dops l_impl_neededSteps_8 [(0, []), (1, []), (2, []), (3, []), (4, []), (5, []), (6, []), (7, [5]), (8, []), (9, [])]
@[go_sem] theorem w_impl_neededSteps_8 : wp P impl_neededSteps_8 Q e H = wpD P l_impl_neededSteps_8 [(0, []), (1, []), (2, []), (3, []), (4, []), (5, []), (6, []), (7, [5]), (8, []), (9, [])] (Q .normal) e H := idE rfl
def impl_neededSteps_9 : IR := .cond (.t 33) impl_neededSteps_8 .skip
@[go_sem] theorem w_impl_neededSteps_9 : wp P impl_neededSteps_9 Q e H = condW P ((.t 33) : X) impl_neededSteps_8 .skip Q e H := idE rfl
def impl_neededSteps_10 : IR := .block 1 (.seq impl_neededSteps_6 (.seq impl_neededSteps_7 impl_neededSteps_9))
@[go_sem] theorem w_impl_neededSteps_10 : wp P impl_neededSteps_10 Q e H = wp P (.seq impl_neededSteps_6 (.seq impl_neededSteps_7 impl_neededSteps_9)) (blockQ 1 Q) e H := idE rfl
@[go_sem] def l_impl_neededSteps_11 : List GOp := [⟨(some 19), .mv (.t 4), none⟩,
    ⟨(some 20), .bin .sub (.t 19) (.c (.int .i64 1)), none⟩,
    ⟨(some 4), .mv (.t 20), none⟩]
def impl_neededSteps_11 : IR := .ops l_impl_neededSteps_11
@[go_sem] theorem w_impl_neededSteps_11 : wp P impl_neededSteps_11 Q e H = wpL P l_impl_neededSteps_11 (Q .normal) e H := idE rfl
def impl_neededSteps_12 : IR := .loop (.seq (.seq impl_neededSteps_4 impl_neededSteps_5) (.seq impl_neededSteps_10 impl_neededSteps_11))
def impl_neededSteps_13 : IR := .block 0 impl_neededSteps_12
@[go_sem] theorem w_impl_neededSteps_13 : wp P impl_neededSteps_13 Q e H = wp P impl_neededSteps_12 (blockQ 0 Q) e H := idE rfl
@[go_sem] def l_impl_neededSteps_14 : List GOp := [⟨(some 42), .mv (.t 3), none⟩,
    ⟨(some 2), .mv (.t 42), none⟩]
def impl_neededSteps_14 : IR := .ops l_impl_neededSteps_14
@[go_sem] theorem w_impl_neededSteps_14 : wp P impl_neededSteps_14 Q e H = wpL P l_impl_neededSteps_14 (Q .normal) e H := idE rfl
def F_impl_neededSteps : IFn := ⟨1, 43, [.t 2], (.seq impl_neededSteps_0 (.seq impl_neededSteps_1 (.seq impl_neededSteps_2 (.seq (.seq impl_neededSteps_3 impl_neededSteps_13) (.seq impl_neededSteps_14 .ret)))))⟩
theorem c_impl_neededSteps : compFn Try.prog [(0, [], []), (1, [], []), (2, [], []), (3, [], []), (4, [], []), (6, [], []), (7, [], []), (8, [(0, []), (1, []), (2, []), (3, []), (4, []), (5, []), (6, []), (7, [5]), (8, []), (9, [])], []), (5, [], []), (9, [], [])] Try.f82 = some F_impl_neededSteps := by kernel_rfl
theorem a_impl_neededSteps (hl : args.length = 1) (h : wp Try.prog (.seq impl_neededSteps_0 (.seq impl_neededSteps_1 (.seq impl_neededSteps_2 (.seq (.seq impl_neededSteps_3 impl_neededSteps_13) (.seq impl_neededSteps_14 .ret))))) (postQ [.t 2] R) (env0 args) H) : ACall Try.prog n_impl_neededSteps args H R :=
  acall_of_wp mixed Try.func82 c_impl_neededSteps (by kernel_rfl) hl h
@[go_sem] def l_impl_clone_impl_Chain_0 : List GOp := [⟨(some 2), .mv (.c (.sl none 0 0 true 0)), none⟩]
def impl_clone_impl_Chain_0 : IR := .ops l_impl_clone_impl_Chain_0
@[go_sem] theorem w_impl_clone_impl_Chain_0 : wp P impl_clone_impl_Chain_0 Q e H = wpL P l_impl_clone_impl_Chain_0 (Q .normal) e H := idE rfl
@[go_sem] def l_impl_clone_impl_Chain_1 : List GOp := [⟨(some 4), .mv (.t 0), none⟩,
    ⟨(some 5), .len (.t 4), none⟩,
    ⟨(some 6), .bin .eql (.t 5) (.c (.int .i64 0)), none⟩]
def impl_clone_impl_Chain_1 : IR := .ops l_impl_clone_impl_Chain_1
@[go_sem] theorem w_impl_clone_impl_Chain_1 : wp P impl_clone_impl_Chain_1 Q e H = wpL P l_impl_clone_impl_Chain_1 (Q .normal) e H := idE rfl
@[go_sem] def l_impl_clone_impl_Chain_2 : List GOp := [⟨(some 2), .mv (.c (.sl none 0 0 true 0)), none⟩]
def impl_clone_impl_Chain_2 : IR := .ops l_impl_clone_impl_Chain_2
@[go_sem] theorem w_impl_clone_impl_Chain_2 : wp P impl_clone_impl_Chain_2 Q e H = wpL P l_impl_clone_impl_Chain_2 (Q .normal) e H := idE rfl
def impl_clone_impl_Chain_3 : IR := .cond (.t 6) (.seq impl_clone_impl_Chain_2 .ret) .skip
@[go_sem] theorem w_impl_clone_impl_Chain_3 : wp P impl_clone_impl_Chain_3 Q e H = condW P ((.t 6) : X) (.seq impl_clone_impl_Chain_2 .ret) .skip Q e H := idE rfl
@[go_sem] def l_impl_clone_impl_Chain_4 : List GOp := [⟨(some 7), .mv (.t 0), none⟩,
    ⟨(some 8), .len (.t 7), none⟩,
    ⟨(some 9), .mks [(.int .i64 0), (.int .i64 0), (.int .i64 0), (.int .i64 0), (.sl none 0 0 true 0)] 56 (.t 8), none⟩,
    ⟨(some 3), .mv (.t 9), none⟩]
def impl_clone_impl_Chain_4 : IR := .ops l_impl_clone_impl_Chain_4
@[go_sem] theorem w_impl_clone_impl_Chain_4 : wp P impl_clone_impl_Chain_4 Q e H = wpL P l_impl_clone_impl_Chain_4 (Q .normal) e H := idE rfl
@[go_sem] def l_impl_clone_impl_Chain_5 : List GOp := [⟨(some 10), .mv (.t 3), none⟩,
    ⟨(some 11), .mv (.t 0), none⟩,
    ⟨(some 12), .copy 5 (.t 10) (.t 11), none⟩]
def impl_clone_impl_Chain_5 : IR := .ops l_impl_clone_impl_Chain_5
@[go_sem] theorem w_impl_clone_impl_Chain_5 : wp P impl_clone_impl_Chain_5 Q e H = wpL P l_impl_clone_impl_Chain_5 (Q .normal) e H := idE rfl
@[go_sem] def l_impl_clone_impl_Chain_6 : List GOp := [⟨(some 13), .mv (.t 3), none⟩,
    ⟨(some 2), .mv (.t 13), none⟩]
def impl_clone_impl_Chain_6 : IR := .ops l_impl_clone_impl_Chain_6
@[go_sem] theorem w_impl_clone_impl_Chain_6 : wp P impl_clone_impl_Chain_6 Q e H = wpL P l_impl_clone_impl_Chain_6 (Q .normal) e H := idE rfl
def F_impl_clone_impl_Chain : IFn := ⟨1, 14, [.t 2], (.seq impl_clone_impl_Chain_0 (.seq (.seq impl_clone_impl_Chain_1 impl_clone_impl_Chain_3) (.seq impl_clone_impl_Chain_4 (.seq impl_clone_impl_Chain_5 (.seq impl_clone_impl_Chain_6 .ret)))))⟩
theorem c_impl_clone_impl_Chain : compFn Try.prog [(0, [], []), (1, [], []), (2, [], []), (3, [], []), (4, [], []), (5, [], [])] Try.f118 = some F_impl_clone_impl_Chain := by kernel_rfl
theorem a_impl_clone_impl_Chain (hl : args.length = 1) (h : wp Try.prog (.seq impl_clone_impl_Chain_0 (.seq (.seq impl_clone_impl_Chain_1 impl_clone_impl_Chain_3) (.seq impl_clone_impl_Chain_4 (.seq impl_clone_impl_Chain_5 (.seq impl_clone_impl_Chain_6 .ret))))) (postQ [.t 2] R) (env0 args) H) : ACall Try.prog n_impl_clone_impl_Chain args H R :=
  acall_of_wp mixed Try.func118 c_impl_clone_impl_Chain (by kernel_rfl) hl h
end Go.M2
