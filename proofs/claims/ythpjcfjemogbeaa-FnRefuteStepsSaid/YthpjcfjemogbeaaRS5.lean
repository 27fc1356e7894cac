/- The functions, turned for the memory: printed by program. -/
import Derived.Test.YthpjcfjemogbeaaRS4
import Derived.Test.YthpjcfjemogbeaaProg
import Derived.KernelRfl
set_option linter.unusedVariables false
set_option linter.unusedSimpArgs false
set_option maxRecDepth 10000
set_option maxHeartbeats 4000000
namespace Go.M2
open Go.Proofs
variable {P : Program} {Q : Post} {e : Env} {H : Heap} {args : List AV} {R : AV → Heap → Prop}
@[go_sem] def l_spec_l12Values_0 : List GOp := [⟨(some 2), .mv (.c (.sl none 0 0 true 0)), none⟩]
def spec_l12Values_0 : IR := .ops l_spec_l12Values_0
@[go_sem] theorem w_spec_l12Values_0 : wp P spec_l12Values_0 Q e H = wpL P l_spec_l12Values_0 (Q .normal) e H := idE rfl
@[go_sem] def l_spec_l12Values_1 : List GOp := [⟨(some 5), .bslc 1 0 [(.int .i64 0)] [], none⟩,
    ⟨(some 3), .mv (.t 5), none⟩]
def spec_l12Values_1 : IR := .ops l_spec_l12Values_1
@[go_sem] theorem w_spec_l12Values_1 : wp P spec_l12Values_1 Q e H = wpL P l_spec_l12Values_1 (Q .normal) e H := idE rfl
@[go_sem] def l_spec_l12Values_2 : List GOp := [⟨(some 4), .mv (.c (.int .i64 1)), none⟩]
def spec_l12Values_2 : IR := .ops l_spec_l12Values_2
@[go_sem] theorem w_spec_l12Values_2 : wp P spec_l12Values_2 Q e H = wpL P l_spec_l12Values_2 (Q .normal) e H := idE rfl
@[go_sem] def l_spec_l12Values_3 : List GOp := [⟨(some 6), .mv (.t 4), none⟩,
    ⟨(some 7), .mv (.t 0), none⟩,
    ⟨(some 8), .len (.t 7), none⟩,
    ⟨(some 9), .bin .lss (.t 6) (.t 8), none⟩]
def spec_l12Values_3 : IR := .ops l_spec_l12Values_3
@[go_sem] theorem w_spec_l12Values_3 : wp P spec_l12Values_3 Q e H = wpL P l_spec_l12Values_3 (Q .normal) e H := idE rfl
def spec_l12Values_4 : IR := .cond (.t 9) .skip (.exit 0)
@[go_sem] theorem w_spec_l12Values_4 : wp P spec_l12Values_4 Q e H = condW P ((.t 9) : X) .skip (.exit 0) Q e H := idE rfl
@[go_sem] def l_spec_l12Values_5 : List GOp := [⟨(some 12), .mv (.t 0), none⟩,
    ⟨(some 13), .mv (.t 4), none⟩,
    ⟨(some 14), .iaddr (.t 12) (.t 13) 1, none⟩,
    ⟨(some 15), .load (.t 14) 1 false, none⟩,
    ⟨(some 16), .bin .gtr (.t 15) (.c (.int .i64 0)), none⟩]
def spec_l12Values_5 : IR := .ops l_spec_l12Values_5
@[go_sem] theorem w_spec_l12Values_5 : wp P spec_l12Values_5 Q e H = wpL P l_spec_l12Values_5 (Q .normal) e H := idE rfl
@[go_sem] def l_spec_l12Values_6 : List GOp := [⟨(some 17), .mv (.t 3), none⟩,
    ⟨(some 18), .bslc 1 1 [(.int .i64 0)] [(0, (.c (.int .i64 1)))], none⟩,
    ⟨(some 19), .app 1 8 (.t 17) (.t 18), none⟩,
    ⟨(some 3), .mv (.t 19), none⟩]
def spec_l12Values_6 : IR := .ops l_spec_l12Values_6
@[go_sem] theorem w_spec_l12Values_6 : wp P spec_l12Values_6 Q e H = wpL P l_spec_l12Values_6 (Q .normal) e H := idE rfl
@[go_sem] def l_spec_l12Values_7 : List GOp := [⟨(some 20), .mv (.t 3), none⟩,
    ⟨(some 21), .bslc 1 1 [(.int .i64 0)] [(0, (.c (.int .i64 0)))], none⟩,
    ⟨(some 22), .app 1 8 (.t 20) (.t 21), none⟩,
    ⟨(some 3), .mv (.t 22), none⟩]
def spec_l12Values_7 : IR := .ops l_spec_l12Values_7
@[go_sem] theorem w_spec_l12Values_7 : wp P spec_l12Values_7 Q e H = wpL P l_spec_l12Values_7 (Q .normal) e H := idE rfl
def spec_l12Values_8 : IR := .cond (.t 16) spec_l12Values_6 spec_l12Values_7
@[go_sem] theorem w_spec_l12Values_8 : wp P spec_l12Values_8 Q e H = condW P ((.t 16) : X) spec_l12Values_6 spec_l12Values_7 Q e H := idE rfl
def spec_l12Values_9 : IR := .block 1 (.seq spec_l12Values_5 spec_l12Values_8)
@[go_sem] theorem w_spec_l12Values_9 : wp P spec_l12Values_9 Q e H = wp P (.seq spec_l12Values_5 spec_l12Values_8) (blockQ 1 Q) e H := idE rfl
@[go_sem] def l_spec_l12Values_10 : List GOp := [⟨(some 10), .mv (.t 4), none⟩,
    ⟨(some 11), .bin .add (.t 10) (.c (.int .i64 1)), none⟩,
    ⟨(some 4), .mv (.t 11), none⟩]
def spec_l12Values_10 : IR := .ops l_spec_l12Values_10
@[go_sem] theorem w_spec_l12Values_10 : wp P spec_l12Values_10 Q e H = wpL P l_spec_l12Values_10 (Q .normal) e H := idE rfl
def spec_l12Values_11 : IR := .loop (.seq (.seq spec_l12Values_3 spec_l12Values_4) (.seq spec_l12Values_9 spec_l12Values_10))
def spec_l12Values_12 : IR := .block 0 spec_l12Values_11
@[go_sem] theorem w_spec_l12Values_12 : wp P spec_l12Values_12 Q e H = wp P spec_l12Values_11 (blockQ 0 Q) e H := idE rfl
@[go_sem] def l_spec_l12Values_13 : List GOp := [⟨(some 23), .mv (.t 3), none⟩,
    ⟨(some 2), .mv (.t 23), none⟩]
def spec_l12Values_13 : IR := .ops l_spec_l12Values_13
@[go_sem] theorem w_spec_l12Values_13 : wp P spec_l12Values_13 Q e H = wpL P l_spec_l12Values_13 (Q .normal) e H := idE rfl
def F_spec_l12Values : IFn := ⟨1, 24, [.t 2], (.seq spec_l12Values_0 (.seq spec_l12Values_1 (.seq (.seq spec_l12Values_2 spec_l12Values_12) (.seq spec_l12Values_13 .ret))))⟩
theorem c_spec_l12Values : compFn Try.prog [(0, [], []), (1, [], []), (2, [], []), (3, [], []), (5, [], []), (6, [], []), (7, [], []), (4, [], []), (8, [], [])] Try.f134 = some F_spec_l12Values := by kernel_rfl
theorem a_spec_l12Values (hl : args.length = 1) (h : wp Try.prog (.seq spec_l12Values_0 (.seq spec_l12Values_1 (.seq (.seq spec_l12Values_2 spec_l12Values_12) (.seq spec_l12Values_13 .ret)))) (postQ [.t 2] R) (env0 args) H) : ACall Try.prog n_spec_l12Values args H R :=
  acall_of_wp mixed Try.func134 c_spec_l12Values (by kernel_rfl) hl h
@[go_sem] def l_spec_l3Copy_0 : List GOp := [⟨(some 2), .mv (.c (.sl none 0 0 true 0)), none⟩]
def spec_l3Copy_0 : IR := .ops l_spec_l3Copy_0
@[go_sem] theorem w_spec_l3Copy_0 : wp P spec_l3Copy_0 Q e H = wpL P l_spec_l3Copy_0 (Q .normal) e H := idE rfl
@[go_sem] def l_spec_l3Copy_1 : List GOp := [⟨(some 5), .bslc 1 0 [(.int .i64 0)] [], none⟩,
    ⟨(some 3), .mv (.t 5), none⟩]
def spec_l3Copy_1 : IR := .ops l_spec_l3Copy_1
@[go_sem] theorem w_spec_l3Copy_1 : wp P spec_l3Copy_1 Q e H = wpL P l_spec_l3Copy_1 (Q .normal) e H := idE rfl
@[go_sem] def l_spec_l3Copy_2 : List GOp := [⟨(some 4), .mv (.c (.int .i64 0)), none⟩]
def spec_l3Copy_2 : IR := .ops l_spec_l3Copy_2
@[go_sem] theorem w_spec_l3Copy_2 : wp P spec_l3Copy_2 Q e H = wpL P l_spec_l3Copy_2 (Q .normal) e H := idE rfl
@[go_sem] def l_spec_l3Copy_3 : List GOp := [⟨(some 6), .mv (.t 4), none⟩,
    ⟨(some 7), .mv (.t 0), none⟩,
    ⟨(some 8), .len (.t 7), none⟩,
    ⟨(some 9), .bin .lss (.t 6) (.t 8), none⟩]
def spec_l3Copy_3 : IR := .ops l_spec_l3Copy_3
@[go_sem] theorem w_spec_l3Copy_3 : wp P spec_l3Copy_3 Q e H = wpL P l_spec_l3Copy_3 (Q .normal) e H := idE rfl
def spec_l3Copy_4 : IR := .cond (.t 9) .skip (.exit 0)
@[go_sem] theorem w_spec_l3Copy_4 : wp P spec_l3Copy_4 Q e H = condW P ((.t 9) : X) .skip (.exit 0) Q e H := idE rfl
@[go_sem] def l_spec_l3Copy_5 : List GOp := [⟨(some 12), .mv (.t 3), none⟩,
    ⟨(some 13), .mv (.t 0), none⟩,
    ⟨(some 14), .mv (.t 4), none⟩,
    ⟨(some 15), .iaddr (.t 13) (.t 14) 1, none⟩,
    ⟨(some 16), .load (.t 15) 1 false, none⟩,
    ⟨(some 17), .bslc 1 1 [(.int .i64 0)] [(0, (.t 16))], none⟩,
    ⟨(some 18), .app 1 8 (.t 12) (.t 17), none⟩,
    ⟨(some 3), .mv (.t 18), none⟩]
def spec_l3Copy_5 : IR := .ops l_spec_l3Copy_5
@[go_sem] theorem w_spec_l3Copy_5 : wp P spec_l3Copy_5 Q e H = wpL P l_spec_l3Copy_5 (Q .normal) e H := idE rfl
def spec_l3Copy_6 : IR := .block 1 spec_l3Copy_5
@[go_sem] theorem w_spec_l3Copy_6 : wp P spec_l3Copy_6 Q e H = wp P spec_l3Copy_5 (blockQ 1 Q) e H := idE rfl
@[go_sem] def l_spec_l3Copy_7 : List GOp := [⟨(some 10), .mv (.t 4), none⟩,
    ⟨(some 11), .bin .add (.t 10) (.c (.int .i64 1)), none⟩,
    ⟨(some 4), .mv (.t 11), none⟩]
def spec_l3Copy_7 : IR := .ops l_spec_l3Copy_7
@[go_sem] theorem w_spec_l3Copy_7 : wp P spec_l3Copy_7 Q e H = wpL P l_spec_l3Copy_7 (Q .normal) e H := idE rfl
def spec_l3Copy_8 : IR := .loop (.seq (.seq spec_l3Copy_3 spec_l3Copy_4) (.seq spec_l3Copy_6 spec_l3Copy_7))
def spec_l3Copy_9 : IR := .block 0 spec_l3Copy_8
@[go_sem] theorem w_spec_l3Copy_9 : wp P spec_l3Copy_9 Q e H = wp P spec_l3Copy_8 (blockQ 0 Q) e H := idE rfl
@[go_sem] def l_spec_l3Copy_10 : List GOp := [⟨(some 19), .mv (.t 3), none⟩,
    ⟨(some 2), .mv (.t 19), none⟩]
def spec_l3Copy_10 : IR := .ops l_spec_l3Copy_10
@[go_sem] theorem w_spec_l3Copy_10 : wp P spec_l3Copy_10 Q e H = wpL P l_spec_l3Copy_10 (Q .normal) e H := idE rfl
def F_spec_l3Copy : IFn := ⟨1, 20, [.t 2], (.seq spec_l3Copy_0 (.seq spec_l3Copy_1 (.seq (.seq spec_l3Copy_2 spec_l3Copy_9) (.seq spec_l3Copy_10 .ret))))⟩
theorem c_spec_l3Copy : compFn Try.prog [(0, [], []), (1, [], []), (2, [], []), (3, [], []), (5, [], []), (4, [], []), (6, [], [])] Try.f88 = some F_spec_l3Copy := by kernel_rfl
theorem a_spec_l3Copy (hl : args.length = 1) (h : wp Try.prog (.seq spec_l3Copy_0 (.seq spec_l3Copy_1 (.seq (.seq spec_l3Copy_2 spec_l3Copy_9) (.seq spec_l3Copy_10 .ret)))) (postQ [.t 2] R) (env0 args) H) : ACall Try.prog n_spec_l3Copy args H R :=
  acall_of_wp mixed Try.func88 c_spec_l3Copy (by kernel_rfl) hl h
@[go_sem] def l_spec_l12Not_0 : List GOp := [⟨(some 4), .mv (.c (.sl none 0 0 true 0)), none⟩]
def spec_l12Not_0 : IR := .ops l_spec_l12Not_0
@[go_sem] theorem w_spec_l12Not_0 : wp P spec_l12Not_0 Q e H = wpL P l_spec_l12Not_0 (Q .normal) e H := idE rfl
@[go_sem] def l_spec_l12Not_1 : List GOp := [⟨(some 9), .bslc 1 0 [(.int .i64 0)] [], none⟩,
    ⟨(some 5), .mv (.t 9), none⟩]
def spec_l12Not_1 : IR := .ops l_spec_l12Not_1
@[go_sem] theorem w_spec_l12Not_1 : wp P spec_l12Not_1 Q e H = wpL P l_spec_l12Not_1 (Q .normal) e H := idE rfl
@[go_sem] def l_spec_l12Not_2 : List GOp := [⟨(some 6), .mv (.c (.int .i64 0)), none⟩]
def spec_l12Not_2 : IR := .ops l_spec_l12Not_2
@[go_sem] theorem w_spec_l12Not_2 : wp P spec_l12Not_2 Q e H = wpL P l_spec_l12Not_2 (Q .normal) e H := idE rfl
@[go_sem] def l_spec_l12Not_3 : List GOp := [⟨(some 10), .mv (.t 6), none⟩,
    ⟨(some 11), .mv (.t 0), none⟩,
    ⟨(some 12), .len (.t 11), none⟩,
    ⟨(some 13), .bin .lss (.t 10) (.t 12), none⟩]
def spec_l12Not_3 : IR := .ops l_spec_l12Not_3
@[go_sem] theorem w_spec_l12Not_3 : wp P spec_l12Not_3 Q e H = wpL P l_spec_l12Not_3 (Q .normal) e H := idE rfl
def spec_l12Not_4 : IR := .cond (.t 13) .skip (.exit 0)
@[go_sem] theorem w_spec_l12Not_4 : wp P spec_l12Not_4 Q e H = condW P ((.t 13) : X) .skip (.exit 0) Q e H := idE rfl
@[go_sem] def l_spec_l12Not_5 : List GOp := [⟨(some 16), .mv (.t 5), none⟩,
    ⟨(some 17), .mv (.t 0), none⟩,
    ⟨(some 18), .mv (.t 6), none⟩,
    ⟨(some 19), .iaddr (.t 17) (.t 18) 1, none⟩,
    ⟨(some 20), .load (.t 19) 1 false, none⟩,
    ⟨(some 21), .un .neg (.t 20), none⟩,
    ⟨(some 22), .bslc 1 1 [(.int .i64 0)] [(0, (.t 21))], none⟩,
    ⟨(some 23), .app 1 8 (.t 16) (.t 22), none⟩,
    ⟨(some 5), .mv (.t 23), none⟩]
def spec_l12Not_5 : IR := .ops l_spec_l12Not_5
@[go_sem] theorem w_spec_l12Not_5 : wp P spec_l12Not_5 Q e H = wpL P l_spec_l12Not_5 (Q .normal) e H := idE rfl
def spec_l12Not_6 : IR := .block 1 spec_l12Not_5
@[go_sem] theorem w_spec_l12Not_6 : wp P spec_l12Not_6 Q e H = wp P spec_l12Not_5 (blockQ 1 Q) e H := idE rfl
@[go_sem] def l_spec_l12Not_7 : List GOp := [⟨(some 14), .mv (.t 6), none⟩,
    ⟨(some 15), .bin .add (.t 14) (.c (.int .i64 1)), none⟩,
    ⟨(some 6), .mv (.t 15), none⟩]
def spec_l12Not_7 : IR := .ops l_spec_l12Not_7
@[go_sem] theorem w_spec_l12Not_7 : wp P spec_l12Not_7 Q e H = wpL P l_spec_l12Not_7 (Q .normal) e H := idE rfl
def spec_l12Not_8 : IR := .loop (.seq (.seq spec_l12Not_3 spec_l12Not_4) (.seq spec_l12Not_6 spec_l12Not_7))
def spec_l12Not_9 : IR := .block 0 spec_l12Not_8
@[go_sem] theorem w_spec_l12Not_9 : wp P spec_l12Not_9 Q e H = wp P spec_l12Not_8 (blockQ 0 Q) e H := idE rfl
@[go_sem] def l_spec_l12Not_10 : List GOp := [⟨(some 25), .mv (.t 5), none⟩,
    ⟨(some 26), .mv (.t 1), none⟩,
    ⟨(some 27), .call (n_spec_l11Clause) [(.t 25), (.t 26)], none⟩,
    ⟨(some 24), .mv (.t 27), none⟩,
    ⟨(some 28), .ext (.t 24) 0, none⟩,
    ⟨(some 29), .ext (.t 24) 1, none⟩,
    ⟨(some 7), .mv (.t 28), none⟩,
    ⟨(some 8), .mv (.t 29), none⟩]
def spec_l12Not_10 : IR := .ops l_spec_l12Not_10
@[go_sem] theorem w_spec_l12Not_10 : wp P spec_l12Not_10 Q e H = wpL P l_spec_l12Not_10 (Q .normal) e H := idE rfl
@[go_sem] def l_spec_l12Not_11 : List GOp := [⟨(some 30), .mv (.t 7), none⟩,
    ⟨(some 4), .mv (.t 30), none⟩]
def spec_l12Not_11 : IR := .ops l_spec_l12Not_11
@[go_sem] theorem w_spec_l12Not_11 : wp P spec_l12Not_11 Q e H = wpL P l_spec_l12Not_11 (Q .normal) e H := idE rfl
def F_spec_l12Not : IFn := ⟨2, 31, [.t 4], (.seq spec_l12Not_0 (.seq spec_l12Not_1 (.seq (.seq spec_l12Not_2 spec_l12Not_9) (.seq spec_l12Not_10 (.seq spec_l12Not_11 .ret)))))⟩
theorem c_spec_l12Not : compFn Try.prog [(0, [], []), (1, [], []), (2, [], []), (3, [], []), (5, [], []), (4, [], []), (6, [], []), (7, [], [])] Try.f135 = some F_spec_l12Not := by kernel_rfl
theorem a_spec_l12Not (hl : args.length = 2) (h : wp Try.prog (.seq spec_l12Not_0 (.seq spec_l12Not_1 (.seq (.seq spec_l12Not_2 spec_l12Not_9) (.seq spec_l12Not_10 (.seq spec_l12Not_11 .ret))))) (postQ [.t 4] R) (env0 args) H) : ACall Try.prog n_spec_l12Not args H R :=
  acall_of_wp mixed Try.func135 c_spec_l12Not (by kernel_rfl) hl h
@[go_sem] def l_spec_l12Try_0 : List GOp := [⟨(some 3), .box (.t 0), none⟩,
    ⟨(some 6), .alloc [(.sl none 0 0 true 0), (.sl none 0 0 true 0), (.int .i64 0), (.bool false)], none⟩,
    ⟨(some 7), .mv (.c (.sl none 0 0 true 0)), none⟩,
    ⟨(some 8), .mv (.c (.bool false)), none⟩]
def spec_l12Try_0 : IR := .ops l_spec_l12Try_0
@[go_sem] theorem w_spec_l12Try_0 : wp P spec_l12Try_0 Q e H = wpL P l_spec_l12Try_0 (Q .normal) e H := idE rfl
@[go_sem] def l_spec_l12Try_1 : List GOp := [⟨(some 17), .mv (.t 1), none⟩,
    ⟨(some 18), .mv (.t 2), none⟩,
    ⟨(some 19), .call (n_spec_l11Given) [(.t 17), (.t 18)], none⟩,
    ⟨(some 9), .mv (.t 19), none⟩]
def spec_l12Try_1 : IR := .ops l_spec_l12Try_1
@[go_sem] theorem w_spec_l12Try_1 : wp P spec_l12Try_1 Q e H = wpL P l_spec_l12Try_1 (Q .normal) e H := idE rfl
@[go_sem] def l_spec_l12Try_2 : List GOp := [⟨(some 20), .faddr (.t 3) 0, none⟩,
    ⟨(some 21), .load (.t 20) 1 false, none⟩,
    ⟨(some 22), .mv (.t 9), none⟩,
    ⟨(some 23), .call (n_spec_l11Force) [(.t 21), (.t 22)], none⟩]
def spec_l12Try_2 : IR := .ops l_spec_l12Try_2
@[go_sem] theorem w_spec_l12Try_2 : wp P spec_l12Try_2 Q e H = wpL P l_spec_l12Try_2 (Q .normal) e H := idE rfl
@[go_sem] def l_spec_l12Try_3 : List GOp := [⟨(some 24), .mv (.t 9), none⟩,
    ⟨(some 25), .call (n_spec_l12Next) [(.t 24)], none⟩,
    ⟨(some 10), .mv (.t 25), none⟩]
def spec_l12Try_3 : IR := .ops l_spec_l12Try_3
@[go_sem] theorem w_spec_l12Try_3 : wp P spec_l12Try_3 Q e H = wpL P l_spec_l12Try_3 (Q .normal) e H := idE rfl
@[go_sem] def l_spec_l12Try_4 : List GOp := [⟨(some 26), .mv (.t 10), none⟩,
    ⟨(some 27), .bin .eql (.t 26) (.c (.int .i64 0)), none⟩]
def spec_l12Try_4 : IR := .ops l_spec_l12Try_4
@[go_sem] theorem w_spec_l12Try_4 : wp P spec_l12Try_4 Q e H = wpL P l_spec_l12Try_4 (Q .normal) e H := idE rfl
def l_spec_l12Try_5 : List GOp := [⟨(some 28), .load (.t 3) 4 true, none⟩,
    ⟨(some 29), .mv (.t 9), none⟩,
    ⟨(some 30), .call (n_spec_l12Values) [(.t 29)], none⟩,
    ⟨none, .store (.t 6) 4 (.t 28), none⟩,
    ⟨(some 7), .mv (.t 30), none⟩,
    ⟨(some 8), .mv (.c (.bool true)), none⟩]
@[go_sem] theorem g_spec_l12Try_5_0 : gAt l_spec_l12Try_5 0 = ⟨(some 28), .load (.t 3) 4 true, none⟩ := idE rfl
@[go_sem] theorem g_spec_l12Try_5_1 : gAt l_spec_l12Try_5 1 = ⟨(some 29), .mv (.t 9), none⟩ := idE rfl
@[go_sem] theorem g_spec_l12Try_5_2 : gAt l_spec_l12Try_5 2 = ⟨(some 30), .call (n_spec_l12Values) [(.t 29)], none⟩ := idE rfl
@[go_sem] theorem g_spec_l12Try_5_3 : gAt l_spec_l12Try_5 3 = ⟨none, .store (.t 6) 4 (.t 28), none⟩ := idE rfl
@[go_sem] theorem g_spec_l12Try_5_4 : gAt l_spec_l12Try_5 4 = ⟨(some 7), .mv (.t 30), none⟩ := idE rfl
@[go_sem] theorem g_spec_l12Try_5_5 : gAt l_spec_l12Try_5 5 = ⟨(some 8), .mv (.c (.bool true)), none⟩ := idE rfl
def spec_l12Try_5 : IR := .dops l_spec_l12Try_5 [(0, []), (1, []), (2, [0]), (3, []), (4, []), (5, [])]
@[go_sem] theorem w_spec_l12Try_5 : wp P spec_l12Try_5 Q e H = wpD P l_spec_l12Try_5 [(0, []), (1, []), (2, [0]), (3, []), (4, []), (5, [])] (Q .normal) e H := idE rfl
def spec_l12Try_6 : IR := .cond (.t 27) (.seq spec_l12Try_5 .ret) .skip
@[go_sem] theorem w_spec_l12Try_6 : wp P spec_l12Try_6 Q e H = condW P ((.t 27) : X) (.seq spec_l12Try_5 .ret) .skip Q e H := idE rfl
@[go_sem] def l_spec_l12Try_7 : List GOp := [⟨(some 31), .faddr (.t 3) 2, none⟩,
    ⟨(some 32), .load (.t 31) 1 false, none⟩,
    ⟨(some 33), .bin .add (.t 32) (.c (.int .i64 1)), none⟩,
    ⟨(some 34), .faddr (.t 3) 2, none⟩,
    ⟨none, .store (.t 34) 1 (.t 33), none⟩]
def spec_l12Try_7 : IR := .ops l_spec_l12Try_7
@[go_sem] theorem w_spec_l12Try_7 : wp P spec_l12Try_7 Q e H = wpL P l_spec_l12Try_7 (Q .normal) e H := idE rfl
def l_spec_l12Try_8 : List GOp := [⟨(some 36), .load (.t 3) 4 true, none⟩,
    ⟨(some 37), .mv (.t 1), none⟩,
    ⟨(some 38), .call (n_spec_l3Copy) [(.t 37)], none⟩,
    ⟨(some 39), .mv (.t 10), none⟩,
    ⟨(some 40), .un .neg (.t 39), none⟩,
    ⟨(some 41), .bslc 1 1 [(.int .i64 0)] [(0, (.t 40))], none⟩,
    ⟨(some 42), .app 1 8 (.t 38) (.t 41), none⟩,
    ⟨(some 43), .mv (.t 2), none⟩,
    ⟨(some 44), .call (n_spec_l12Try) [(.t 36), (.t 42), (.t 43)], none⟩,
    ⟨(some 35), .mv (.t 44), none⟩,
    ⟨(some 45), .ext (.t 35) 0, none⟩,
    ⟨(some 46), .ext (.t 35) 1, none⟩,
    ⟨(some 47), .ext (.t 35) 2, none⟩,
    ⟨(some 11), .alloc [(.sl none 0 0 true 0), (.sl none 0 0 true 0), (.int .i64 0), (.bool false)], none⟩,
    ⟨none, .store (.t 11) 4 (.t 45), none⟩,
    ⟨(some 12), .mv (.t 46), none⟩,
    ⟨(some 13), .mv (.t 47), none⟩]
@[go_sem] theorem g_spec_l12Try_8_0 : gAt l_spec_l12Try_8 0 = ⟨(some 36), .load (.t 3) 4 true, none⟩ := idE rfl
@[go_sem] theorem g_spec_l12Try_8_1 : gAt l_spec_l12Try_8 1 = ⟨(some 37), .mv (.t 1), none⟩ := idE rfl
@[go_sem] theorem g_spec_l12Try_8_2 : gAt l_spec_l12Try_8 2 = ⟨(some 38), .call (n_spec_l3Copy) [(.t 37)], none⟩ := idE rfl
@[go_sem] theorem g_spec_l12Try_8_3 : gAt l_spec_l12Try_8 3 = ⟨(some 39), .mv (.t 10), none⟩ := idE rfl
@[go_sem] theorem g_spec_l12Try_8_4 : gAt l_spec_l12Try_8 4 = ⟨(some 40), .un .neg (.t 39), none⟩ := idE rfl
@[go_sem] theorem g_spec_l12Try_8_5 : gAt l_spec_l12Try_8 5 = ⟨(some 41), .bslc 1 1 [(.int .i64 0)] [(0, (.t 40))], none⟩ := idE rfl
@[go_sem] theorem g_spec_l12Try_8_6 : gAt l_spec_l12Try_8 6 = ⟨(some 42), .app 1 8 (.t 38) (.t 41), none⟩ := idE rfl
@[go_sem] theorem g_spec_l12Try_8_7 : gAt l_spec_l12Try_8 7 = ⟨(some 43), .mv (.t 2), none⟩ := idE rfl
@[go_sem] theorem g_spec_l12Try_8_8 : gAt l_spec_l12Try_8 8 = ⟨(some 44), .call (n_spec_l12Try) [(.t 36), (.t 42), (.t 43)], none⟩ := idE rfl
@[go_sem] theorem g_spec_l12Try_8_9 : gAt l_spec_l12Try_8 9 = ⟨(some 35), .mv (.t 44), none⟩ := idE rfl
@[go_sem] theorem g_spec_l12Try_8_10 : gAt l_spec_l12Try_8 10 = ⟨(some 45), .ext (.t 35) 0, none⟩ := idE rfl
@[go_sem] theorem g_spec_l12Try_8_11 : gAt l_spec_l12Try_8 11 = ⟨(some 46), .ext (.t 35) 1, none⟩ := idE rfl
@[go_sem] theorem g_spec_l12Try_8_12 : gAt l_spec_l12Try_8 12 = ⟨(some 47), .ext (.t 35) 2, none⟩ := idE rfl
@[go_sem] theorem g_spec_l12Try_8_13 : gAt l_spec_l12Try_8 13 = ⟨(some 11), .alloc [(.sl none 0 0 true 0), (.sl none 0 0 true 0), (.int .i64 0), (.bool false)], none⟩ := idE rfl
@[go_sem] theorem g_spec_l12Try_8_14 : gAt l_spec_l12Try_8 14 = ⟨none, .store (.t 11) 4 (.t 45), none⟩ := idE rfl
@[go_sem] theorem g_spec_l12Try_8_15 : gAt l_spec_l12Try_8 15 = ⟨(some 12), .mv (.t 46), none⟩ := idE rfl
@[go_sem] theorem g_spec_l12Try_8_16 : gAt l_spec_l12Try_8 16 = ⟨(some 13), .mv (.t 47), none⟩ := idE rfl
def spec_l12Try_8 : IR := .dops l_spec_l12Try_8 [(0, []), (1, []), (3, []), (4, []), (7, []), (2, [0, 5]), (5, []), (6, [0]), (8, []), (9, []), (10, []), (11, []), (12, []), (13, []), (14, []), (15, []), (16, [])]
@[go_sem] theorem w_spec_l12Try_8 : wp P spec_l12Try_8 Q e H = wpD P l_spec_l12Try_8 [(0, []), (1, []), (3, []), (4, []), (7, []), (2, [0, 5]), (5, []), (6, [0]), (8, []), (9, []), (10, []), (11, []), (12, []), (13, []), (14, []), (15, []), (16, [])] (Q .normal) e H := idE rfl
@[go_sem] def l_spec_l12Try_9 : List GOp := [⟨(some 48), .mv (.t 13), none⟩,
    ⟨(some 49), .mv (.t 48), none⟩,
    ⟨(some 50), .faddr (.t 11) 3, (some (49, false))⟩,
    ⟨(some 51), .load (.t 50) 1 false, (some (49, false))⟩,
    ⟨(some 52), .pick (.t 49) (.c (.bool true)) (.t 51), none⟩]
def spec_l12Try_9 : IR := .ops l_spec_l12Try_9
@[go_sem] theorem w_spec_l12Try_9 : wp P spec_l12Try_9 Q e H = wpL P l_spec_l12Try_9 (Q .normal) e H := idE rfl
@[go_sem] def l_spec_l12Try_10 : List GOp := [⟨(some 53), .load (.t 11) 4 true, none⟩,
    ⟨(some 54), .mv (.t 12), none⟩,
    ⟨(some 55), .mv (.t 13), none⟩,
    ⟨none, .store (.t 6) 4 (.t 53), none⟩,
    ⟨(some 7), .mv (.t 54), none⟩,
    ⟨(some 8), .mv (.t 55), none⟩]
def spec_l12Try_10 : IR := .ops l_spec_l12Try_10
@[go_sem] theorem w_spec_l12Try_10 : wp P spec_l12Try_10 Q e H = wpL P l_spec_l12Try_10 (Q .normal) e H := idE rfl
def spec_l12Try_11 : IR := .cond (.t 52) (.seq spec_l12Try_10 .ret) .skip
@[go_sem] theorem w_spec_l12Try_11 : wp P spec_l12Try_11 Q e H = condW P ((.t 52) : X) (.seq spec_l12Try_10 .ret) .skip Q e H := idE rfl
def l_spec_l12Try_12 : List GOp := [⟨(some 57), .load (.t 11) 4 true, none⟩,
    ⟨(some 58), .mv (.t 1), none⟩,
    ⟨(some 59), .call (n_spec_l3Copy) [(.t 58)], none⟩,
    ⟨(some 60), .mv (.t 10), none⟩,
    ⟨(some 61), .bslc 1 1 [(.int .i64 0)] [(0, (.t 60))], none⟩,
    ⟨(some 62), .app 1 8 (.t 59) (.t 61), none⟩,
    ⟨(some 63), .mv (.t 2), none⟩,
    ⟨(some 64), .call (n_spec_l12Try) [(.t 57), (.t 62), (.t 63)], none⟩,
    ⟨(some 56), .mv (.t 64), none⟩,
    ⟨(some 65), .ext (.t 56) 0, none⟩,
    ⟨(some 66), .ext (.t 56) 1, none⟩,
    ⟨(some 67), .ext (.t 56) 2, none⟩,
    ⟨(some 14), .alloc [(.sl none 0 0 true 0), (.sl none 0 0 true 0), (.int .i64 0), (.bool false)], none⟩,
    ⟨none, .store (.t 14) 4 (.t 65), none⟩,
    ⟨(some 15), .mv (.t 66), none⟩,
    ⟨(some 16), .mv (.t 67), none⟩]
@[go_sem] theorem g_spec_l12Try_12_0 : gAt l_spec_l12Try_12 0 = ⟨(some 57), .load (.t 11) 4 true, none⟩ := idE rfl
@[go_sem] theorem g_spec_l12Try_12_1 : gAt l_spec_l12Try_12 1 = ⟨(some 58), .mv (.t 1), none⟩ := idE rfl
@[go_sem] theorem g_spec_l12Try_12_2 : gAt l_spec_l12Try_12 2 = ⟨(some 59), .call (n_spec_l3Copy) [(.t 58)], none⟩ := idE rfl
@[go_sem] theorem g_spec_l12Try_12_3 : gAt l_spec_l12Try_12 3 = ⟨(some 60), .mv (.t 10), none⟩ := idE rfl
@[go_sem] theorem g_spec_l12Try_12_4 : gAt l_spec_l12Try_12 4 = ⟨(some 61), .bslc 1 1 [(.int .i64 0)] [(0, (.t 60))], none⟩ := idE rfl
@[go_sem] theorem g_spec_l12Try_12_5 : gAt l_spec_l12Try_12 5 = ⟨(some 62), .app 1 8 (.t 59) (.t 61), none⟩ := idE rfl
@[go_sem] theorem g_spec_l12Try_12_6 : gAt l_spec_l12Try_12 6 = ⟨(some 63), .mv (.t 2), none⟩ := idE rfl
@[go_sem] theorem g_spec_l12Try_12_7 : gAt l_spec_l12Try_12 7 = ⟨(some 64), .call (n_spec_l12Try) [(.t 57), (.t 62), (.t 63)], none⟩ := idE rfl
@[go_sem] theorem g_spec_l12Try_12_8 : gAt l_spec_l12Try_12 8 = ⟨(some 56), .mv (.t 64), none⟩ := idE rfl
@[go_sem] theorem g_spec_l12Try_12_9 : gAt l_spec_l12Try_12 9 = ⟨(some 65), .ext (.t 56) 0, none⟩ := idE rfl
@[go_sem] theorem g_spec_l12Try_12_10 : gAt l_spec_l12Try_12 10 = ⟨(some 66), .ext (.t 56) 1, none⟩ := idE rfl
@[go_sem] theorem g_spec_l12Try_12_11 : gAt l_spec_l12Try_12 11 = ⟨(some 67), .ext (.t 56) 2, none⟩ := idE rfl
@[go_sem] theorem g_spec_l12Try_12_12 : gAt l_spec_l12Try_12 12 = ⟨(some 14), .alloc [(.sl none 0 0 true 0), (.sl none 0 0 true 0), (.int .i64 0), (.bool false)], none⟩ := idE rfl
@[go_sem] theorem g_spec_l12Try_12_13 : gAt l_spec_l12Try_12 13 = ⟨none, .store (.t 14) 4 (.t 65), none⟩ := idE rfl
@[go_sem] theorem g_spec_l12Try_12_14 : gAt l_spec_l12Try_12 14 = ⟨(some 15), .mv (.t 66), none⟩ := idE rfl
@[go_sem] theorem g_spec_l12Try_12_15 : gAt l_spec_l12Try_12 15 = ⟨(some 16), .mv (.t 67), none⟩ := idE rfl
def spec_l12Try_12 : IR := .dops l_spec_l12Try_12 [(0, []), (1, []), (3, []), (6, []), (2, [0, 4]), (4, []), (5, [0]), (7, []), (8, []), (9, []), (10, []), (11, []), (12, []), (13, []), (14, []), (15, [])]
@[go_sem] theorem w_spec_l12Try_12 : wp P spec_l12Try_12 Q e H = wpD P l_spec_l12Try_12 [(0, []), (1, []), (3, []), (6, []), (2, [0, 4]), (4, []), (5, [0]), (7, []), (8, []), (9, []), (10, []), (11, []), (12, []), (13, []), (14, []), (15, [])] (Q .normal) e H := idE rfl
@[go_sem] def l_spec_l12Try_13 : List GOp := [⟨(some 68), .mv (.t 16), none⟩,
    ⟨(some 69), .mv (.t 68), none⟩,
    ⟨(some 70), .faddr (.t 14) 3, (some (69, false))⟩,
    ⟨(some 71), .load (.t 70) 1 false, (some (69, false))⟩,
    ⟨(some 72), .pick (.t 69) (.c (.bool true)) (.t 71), none⟩]
def spec_l12Try_13 : IR := .ops l_spec_l12Try_13
@[go_sem] theorem w_spec_l12Try_13 : wp P spec_l12Try_13 Q e H = wpL P l_spec_l12Try_13 (Q .normal) e H := idE rfl
@[go_sem] def l_spec_l12Try_14 : List GOp := [⟨(some 73), .load (.t 14) 4 true, none⟩,
    ⟨(some 74), .mv (.t 15), none⟩,
    ⟨(some 75), .mv (.t 16), none⟩,
    ⟨none, .store (.t 6) 4 (.t 73), none⟩,
    ⟨(some 7), .mv (.t 74), none⟩,
    ⟨(some 8), .mv (.t 75), none⟩]
def spec_l12Try_14 : IR := .ops l_spec_l12Try_14
@[go_sem] theorem w_spec_l12Try_14 : wp P spec_l12Try_14 Q e H = wpL P l_spec_l12Try_14 (Q .normal) e H := idE rfl
def spec_l12Try_15 : IR := .cond (.t 72) (.seq spec_l12Try_14 .ret) .skip
@[go_sem] theorem w_spec_l12Try_15 : wp P spec_l12Try_15 Q e H = condW P ((.t 72) : X) (.seq spec_l12Try_14 .ret) .skip Q e H := idE rfl
@[go_sem] def l_spec_l12Try_16 : List GOp := [⟨(some 76), .load (.t 14) 4 true, none⟩,
    ⟨none, .store (.t 3) 4 (.t 76), none⟩]
def spec_l12Try_16 : IR := .ops l_spec_l12Try_16
@[go_sem] theorem w_spec_l12Try_16 : wp P spec_l12Try_16 Q e H = wpL P l_spec_l12Try_16 (Q .normal) e H := idE rfl
def spec_l12Try_17 : IR := .cond (.t 23) (.seq spec_l12Try_3 (.seq (.seq spec_l12Try_4 spec_l12Try_6) (.seq spec_l12Try_7 (.seq spec_l12Try_8 (.seq (.seq spec_l12Try_9 spec_l12Try_11) (.seq spec_l12Try_12 (.seq (.seq spec_l12Try_13 spec_l12Try_15) spec_l12Try_16))))))) .skip
@[go_sem] theorem w_spec_l12Try_17 : wp P spec_l12Try_17 Q e H = condW P ((.t 23) : X) (.seq spec_l12Try_3 (.seq (.seq spec_l12Try_4 spec_l12Try_6) (.seq spec_l12Try_7 (.seq spec_l12Try_8 (.seq (.seq spec_l12Try_9 spec_l12Try_11) (.seq spec_l12Try_12 (.seq (.seq spec_l12Try_13 spec_l12Try_15) spec_l12Try_16))))))) .skip Q e H := idE rfl
def l_spec_l12Try_18 : List GOp := [⟨(some 77), .faddr (.t 3) 1, none⟩,
    ⟨(some 78), .load (.t 77) 1 false, none⟩,
    ⟨(some 79), .mv (.t 1), none⟩,
    ⟨(some 80), .mv (.t 2), none⟩,
    ⟨(some 81), .call (n_spec_l12Not) [(.t 79), (.t 80)], none⟩,
    ⟨(some 82), .bslc 1 1 [(.sl none 0 0 true 0)] [(0, (.t 81))], none⟩,
    ⟨(some 83), .app 1 24 (.t 78) (.t 82), none⟩,
    ⟨(some 84), .faddr (.t 3) 1, none⟩,
    ⟨none, .store (.t 84) 1 (.t 83), none⟩]
@[go_sem] theorem g_spec_l12Try_18_0 : gAt l_spec_l12Try_18 0 = ⟨(some 77), .faddr (.t 3) 1, none⟩ := idE rfl
@[go_sem] theorem g_spec_l12Try_18_1 : gAt l_spec_l12Try_18 1 = ⟨(some 78), .load (.t 77) 1 false, none⟩ := idE rfl
@[go_sem] theorem g_spec_l12Try_18_2 : gAt l_spec_l12Try_18 2 = ⟨(some 79), .mv (.t 1), none⟩ := idE rfl
@[go_sem] theorem g_spec_l12Try_18_3 : gAt l_spec_l12Try_18 3 = ⟨(some 80), .mv (.t 2), none⟩ := idE rfl
@[go_sem] theorem g_spec_l12Try_18_4 : gAt l_spec_l12Try_18 4 = ⟨(some 81), .call (n_spec_l12Not) [(.t 79), (.t 80)], none⟩ := idE rfl
@[go_sem] theorem g_spec_l12Try_18_5 : gAt l_spec_l12Try_18 5 = ⟨(some 82), .bslc 1 1 [(.sl none 0 0 true 0)] [(0, (.t 81))], none⟩ := idE rfl
@[go_sem] theorem g_spec_l12Try_18_6 : gAt l_spec_l12Try_18 6 = ⟨(some 83), .app 1 24 (.t 78) (.t 82), none⟩ := idE rfl
@[go_sem] theorem g_spec_l12Try_18_7 : gAt l_spec_l12Try_18 7 = ⟨(some 84), .faddr (.t 3) 1, none⟩ := idE rfl
@[go_sem] theorem g_spec_l12Try_18_8 : gAt l_spec_l12Try_18 8 = ⟨none, .store (.t 84) 1 (.t 83), none⟩ := idE rfl
def spec_l12Try_18 : IR := .dops l_spec_l12Try_18 [(0, []), (1, []), (2, []), (3, []), (4, [1]), (5, []), (6, []), (7, []), (8, [])]
@[go_sem] theorem w_spec_l12Try_18 : wp P spec_l12Try_18 Q e H = wpD P l_spec_l12Try_18 [(0, []), (1, []), (2, []), (3, []), (4, [1]), (5, []), (6, []), (7, []), (8, [])] (Q .normal) e H := idE rfl
@[go_sem] def l_spec_l12Try_19 : List GOp := [⟨(some 85), .faddr (.t 3) 1, none⟩,
    ⟨(some 86), .load (.t 85) 1 false, none⟩,
    ⟨(some 87), .len (.t 86), none⟩,
    ⟨(some 88), .bin .gtr (.t 87) (.c (.int .i64 600)), none⟩,
    ⟨(some 89), .faddr (.t 3) 3, none⟩,
    ⟨none, .store (.t 89) 1 (.t 88), none⟩]
def spec_l12Try_19 : IR := .ops l_spec_l12Try_19
@[go_sem] theorem w_spec_l12Try_19 : wp P spec_l12Try_19 Q e H = wpL P l_spec_l12Try_19 (Q .normal) e H := idE rfl
@[go_sem] def l_spec_l12Try_20 : List GOp := [⟨(some 90), .load (.t 3) 4 true, none⟩,
    ⟨none, .store (.t 6) 4 (.t 90), none⟩,
    ⟨(some 7), .mv (.c (.sl none 0 0 true 0)), none⟩,
    ⟨(some 8), .mv (.c (.bool false)), none⟩]
def spec_l12Try_20 : IR := .ops l_spec_l12Try_20
@[go_sem] theorem w_spec_l12Try_20 : wp P spec_l12Try_20 Q e H = wpL P l_spec_l12Try_20 (Q .normal) e H := idE rfl
def F_spec_l12Try : IFn := ⟨3, 91, [.c 6 4 true, .t 7, .t 8], (.seq spec_l12Try_0 (.seq spec_l12Try_1 (.seq (.seq spec_l12Try_2 spec_l12Try_17) (.seq spec_l12Try_18 (.seq spec_l12Try_19 (.seq spec_l12Try_20 .ret))))))⟩
theorem c_spec_l12Try : compFn Try.prog [(0, [], []), (1, [], []), (2, [], []), (3, [], []), (4, [], []), (5, [(0, []), (1, []), (2, [0]), (3, []), (4, []), (5, [])], []), (6, [], []), (7, [(0, []), (1, []), (3, []), (4, []), (7, []), (2, [0, 5]), (5, []), (6, [0]), (8, []), (9, []), (10, []), (11, []), (12, []), (13, []), (14, []), (15, []), (16, [])], []), (8, [], []), (9, [], []), (10, [(0, []), (1, []), (3, []), (6, []), (2, [0, 4]), (4, []), (5, [0]), (7, []), (8, []), (9, []), (10, []), (11, []), (12, []), (13, []), (14, []), (15, [])], []), (11, [], []), (12, [], []), (13, [], []), (14, [(0, []), (1, []), (2, []), (3, []), (4, [1]), (5, []), (6, []), (7, []), (8, [])], []), (15, [], []), (16, [], [])] Try.f97 = some F_spec_l12Try := by kernel_rfl
theorem a_spec_l12Try (hl : args.length = 3) (h : wp Try.prog (.seq spec_l12Try_0 (.seq spec_l12Try_1 (.seq (.seq spec_l12Try_2 spec_l12Try_17) (.seq spec_l12Try_18 (.seq spec_l12Try_19 (.seq spec_l12Try_20 .ret)))))) (postQ [.c 6 4 true, .t 7, .t 8] R) (env0 args) H) : ACall Try.prog n_spec_l12Try args H R :=
  acall_of_wp mixed Try.func97 c_spec_l12Try (by kernel_rfl) hl h
@[go_sem] def l_spec_l12Search_0 : List GOp := [⟨(some 1), .box (.t 0), none⟩,
    ⟨(some 2), .alloc [(.sl none 0 0 true 0), (.sl none 0 0 true 0), (.int .i64 0), (.bool false)], none⟩,
    ⟨(some 3), .mv (.c (.sl none 0 0 true 0)), none⟩,
    ⟨(some 4), .mv (.c (.bool false)), none⟩]
def spec_l12Search_0 : IR := .ops l_spec_l12Search_0
@[go_sem] theorem w_spec_l12Search_0 : wp P spec_l12Search_0 Q e H = wpL P l_spec_l12Search_0 (Q .normal) e H := idE rfl
@[go_sem] def l_spec_l12Search_1 : List GOp := [⟨(some 5), .faddr (.t 1) 1, none⟩,
    ⟨(some 6), .load (.t 5) 1 false, none⟩,
    ⟨(some 7), .bld [(.sl none 0 0 true 0), (.sl none 0 0 true 0), (.int .i64 0), (.bool false)] [(0, 1, (.t 6))], none⟩,
    ⟨(some 8), .bslc 1 0 [(.int .i64 0)] [], none⟩,
    ⟨(some 9), .faddr (.t 1) 0, none⟩,
    ⟨(some 10), .load (.t 9) 1 false, none⟩,
    ⟨(some 11), .call (n_spec_l12Try) [(.t 7), (.t 8), (.t 10)], none⟩,
    ⟨(some 12), .ext (.t 11) 0, none⟩,
    ⟨(some 13), .ext (.t 11) 1, none⟩,
    ⟨(some 14), .ext (.t 11) 2, none⟩,
    ⟨none, .store (.t 2) 4 (.t 12), none⟩,
    ⟨(some 3), .mv (.t 13), none⟩,
    ⟨(some 4), .mv (.t 14), none⟩]
def spec_l12Search_1 : IR := .ops l_spec_l12Search_1
@[go_sem] theorem w_spec_l12Search_1 : wp P spec_l12Search_1 Q e H = wpL P l_spec_l12Search_1 (Q .normal) e H := idE rfl
def F_spec_l12Search : IFn := ⟨1, 15, [.c 2 4 true, .t 3, .t 4], (.seq spec_l12Search_0 (.seq spec_l12Search_1 .ret))⟩
theorem c_spec_l12Search : compFn Try.prog [(0, [], []), (1, [], [])] Try.f63 = some F_spec_l12Search := by kernel_rfl
theorem a_spec_l12Search (hl : args.length = 1) (h : wp Try.prog (.seq spec_l12Search_0 (.seq spec_l12Search_1 .ret)) (postQ [.c 2 4 true, .t 3, .t 4] R) (env0 args) H) : ACall Try.prog n_spec_l12Search args H R :=
  acall_of_wp mixed Try.func63 c_spec_l12Search (by kernel_rfl) hl h
@[go_sem] def l_spec_Refute_0 : List GOp := [⟨(some 1), .box (.t 0), none⟩,
    ⟨(some 2), .mv (.c (.sl none 0 0 true 0)), none⟩,
    ⟨(some 3), .mv (.c (.bool false)), none⟩]
def spec_Refute_0 : IR := .ops l_spec_Refute_0
@[go_sem] theorem w_spec_Refute_0 : wp P spec_Refute_0 Q e H = wpL P l_spec_Refute_0 (Q .normal) e H := idE rfl
@[go_sem] def l_spec_Refute_1 : List GOp := [⟨(some 7), .load (.t 1) 2 true, none⟩,
    ⟨(some 8), .call (n_spec_ClausesValid) [(.t 7)], none⟩,
    ⟨(some 9), .un .not (.t 8), none⟩]
def spec_Refute_1 : IR := .ops l_spec_Refute_1
@[go_sem] theorem w_spec_Refute_1 : wp P spec_Refute_1 Q e H = wpL P l_spec_Refute_1 (Q .normal) e H := idE rfl
@[go_sem] def l_spec_Refute_2 : List GOp := [⟨(some 2), .mv (.c (.sl none 0 0 true 0)), none⟩,
    ⟨(some 3), .mv (.c (.bool false)), none⟩]
def spec_Refute_2 : IR := .ops l_spec_Refute_2
@[go_sem] theorem w_spec_Refute_2 : wp P spec_Refute_2 Q e H = wpL P l_spec_Refute_2 (Q .normal) e H := idE rfl
def spec_Refute_3 : IR := .cond (.t 9) (.seq spec_Refute_2 .ret) .skip
@[go_sem] theorem w_spec_Refute_3 : wp P spec_Refute_3 Q e H = condW P ((.t 9) : X) (.seq spec_Refute_2 .ret) .skip Q e H := idE rfl
@[go_sem] def l_spec_Refute_4 : List GOp := [⟨(some 11), .load (.t 1) 2 true, none⟩,
    ⟨(some 12), .call (n_spec_l12Search) [(.t 11)], none⟩,
    ⟨(some 10), .mv (.t 12), none⟩,
    ⟨(some 13), .ext (.t 10) 0, none⟩,
    ⟨(some 14), .ext (.t 10) 1, none⟩,
    ⟨(some 15), .ext (.t 10) 2, none⟩,
    ⟨(some 4), .alloc [(.sl none 0 0 true 0), (.sl none 0 0 true 0), (.int .i64 0), (.bool false)], none⟩,
    ⟨none, .store (.t 4) 4 (.t 13), none⟩,
    ⟨(some 5), .mv (.t 14), none⟩,
    ⟨(some 6), .mv (.t 15), none⟩]
def spec_Refute_4 : IR := .ops l_spec_Refute_4
@[go_sem] theorem w_spec_Refute_4 : wp P spec_Refute_4 Q e H = wpL P l_spec_Refute_4 (Q .normal) e H := idE rfl
@[go_sem] def l_spec_Refute_5 : List GOp := [⟨(some 16), .mv (.t 6), none⟩,
    ⟨(some 17), .mv (.t 16), none⟩,
    ⟨(some 18), .faddr (.t 4) 3, (some (17, false))⟩,
    ⟨(some 19), .load (.t 18) 1 false, (some (17, false))⟩,
    ⟨(some 20), .pick (.t 17) (.c (.bool true)) (.t 19), none⟩]
def spec_Refute_5 : IR := .ops l_spec_Refute_5
@[go_sem] theorem w_spec_Refute_5 : wp P spec_Refute_5 Q e H = wpL P l_spec_Refute_5 (Q .normal) e H := idE rfl
@[go_sem] def l_spec_Refute_6 : List GOp := [⟨(some 2), .mv (.c (.sl none 0 0 true 0)), none⟩,
    ⟨(some 3), .mv (.c (.bool false)), none⟩]
def spec_Refute_6 : IR := .ops l_spec_Refute_6
@[go_sem] theorem w_spec_Refute_6 : wp P spec_Refute_6 Q e H = wpL P l_spec_Refute_6 (Q .normal) e H := idE rfl
def spec_Refute_7 : IR := .cond (.t 20) (.seq spec_Refute_6 .ret) .skip
@[go_sem] theorem w_spec_Refute_7 : wp P spec_Refute_7 Q e H = condW P ((.t 20) : X) (.seq spec_Refute_6 .ret) .skip Q e H := idE rfl
@[go_sem] def l_spec_Refute_8 : List GOp := [⟨(some 21), .faddr (.t 4) 1, none⟩,
    ⟨(some 22), .load (.t 21) 1 false, none⟩,
    ⟨(some 2), .mv (.t 22), none⟩,
    ⟨(some 3), .mv (.c (.bool true)), none⟩]
def spec_Refute_8 : IR := .ops l_spec_Refute_8
@[go_sem] theorem w_spec_Refute_8 : wp P spec_Refute_8 Q e H = wpL P l_spec_Refute_8 (Q .normal) e H := idE rfl
def F_spec_Refute : IFn := ⟨1, 23, [.t 2, .t 3], (.seq spec_Refute_0 (.seq (.seq spec_Refute_1 spec_Refute_3) (.seq spec_Refute_4 (.seq (.seq spec_Refute_5 spec_Refute_7) (.seq spec_Refute_8 .ret)))))⟩
theorem c_spec_Refute : compFn Try.prog [(0, [], []), (1, [], []), (2, [], []), (3, [], []), (4, [], []), (5, [], []), (6, [], [])] Try.f26 = some F_spec_Refute := by kernel_rfl
theorem a_spec_Refute (hl : args.length = 1) (h : wp Try.prog (.seq spec_Refute_0 (.seq (.seq spec_Refute_1 spec_Refute_3) (.seq spec_Refute_4 (.seq (.seq spec_Refute_5 spec_Refute_7) (.seq spec_Refute_8 .ret))))) (postQ [.t 2, .t 3] R) (env0 args) H) : ACall Try.prog n_spec_Refute args H R :=
  acall_of_wp mixed Try.func26 c_spec_Refute (by kernel_rfl) hl h
@[go_sem] def l_impl_Forced_0 : List GOp := [⟨(some 2), .box (.t 0), none⟩,
    ⟨(some 4), .mv (.c (.sl none 0 0 true 0)), none⟩,
    ⟨(some 5), .mv (.c (.bool false)), none⟩]
def impl_Forced_0 : IR := .ops l_impl_Forced_0
@[go_sem] theorem w_impl_Forced_0 : wp P impl_Forced_0 Q e H = wpL P l_impl_Forced_0 (Q .normal) e H := idE rfl
@[go_sem] def l_impl_Forced_1 : List GOp := [⟨(some 10), .load (.t 2) 2 true, none⟩,
    ⟨(some 11), .call (n_impl_ClausesValid) [(.t 10)], none⟩,
    ⟨(some 12), .un .not (.t 11), none⟩,
    ⟨(some 13), .mv (.t 12), none⟩,
    ⟨(some 14), .mv (.t 1), (some (13, false))⟩,
    ⟨(some 15), .faddr (.t 2) 0, (some (13, false))⟩,
    ⟨(some 16), .load (.t 15) 1 false, (some (13, false))⟩,
    ⟨(some 17), .call (n_impl_ClauseValid) [(.t 14), (.t 16)], (some (13, false))⟩,
    ⟨(some 18), .un .not (.t 17), (some (13, false))⟩,
    ⟨(some 19), .pick (.t 13) (.c (.bool true)) (.t 18), none⟩]
def impl_Forced_1 : IR := .ops l_impl_Forced_1
@[go_sem] theorem w_impl_Forced_1 : wp P impl_Forced_1 Q e H = wpL P l_impl_Forced_1 (Q .normal) e H := idE rfl
@[go_sem] def l_impl_Forced_2 : List GOp := [⟨(some 4), .mv (.c (.sl none 0 0 true 0)), none⟩,
    ⟨(some 5), .mv (.c (.bool false)), none⟩]
def impl_Forced_2 : IR := .ops l_impl_Forced_2
@[go_sem] theorem w_impl_Forced_2 : wp P impl_Forced_2 Q e H = wpL P l_impl_Forced_2 (Q .normal) e H := idE rfl
def impl_Forced_3 : IR := .cond (.t 19) (.seq impl_Forced_2 .ret) .skip
@[go_sem] theorem w_impl_Forced_3 : wp P impl_Forced_3 Q e H = condW P ((.t 19) : X) (.seq impl_Forced_2 .ret) .skip Q e H := idE rfl
@[go_sem] def l_impl_Forced_4 : List GOp := [⟨(some 20), .faddr (.t 2) 0, none⟩,
    ⟨(some 21), .load (.t 20) 1 false, none⟩,
    ⟨(some 22), .mv (.t 1), none⟩,
    ⟨(some 23), .call (n_impl_signs) [(.t 21), (.t 22)], none⟩,
    ⟨(some 6), .mv (.t 23), none⟩]
def impl_Forced_4 : IR := .ops l_impl_Forced_4
@[go_sem] theorem w_impl_Forced_4 : wp P impl_Forced_4 Q e H = wpL P l_impl_Forced_4 (Q .normal) e H := idE rfl
@[go_sem] def l_impl_Forced_5 : List GOp := [⟨(some 24), .faddr (.t 2) 1, none⟩,
    ⟨(some 25), .load (.t 24) 1 false, none⟩,
    ⟨(some 26), .mv (.t 6), none⟩,
    ⟨(some 27), .call (n_impl_forced) [(.t 25), (.t 26)], none⟩,
    ⟨(some 28), .un .not (.t 27), none⟩]
def impl_Forced_5 : IR := .ops l_impl_Forced_5
@[go_sem] theorem w_impl_Forced_5 : wp P impl_Forced_5 Q e H = wpL P l_impl_Forced_5 (Q .normal) e H := idE rfl
@[go_sem] def l_impl_Forced_6 : List GOp := [⟨(some 4), .mv (.c (.sl none 0 0 true 0)), none⟩,
    ⟨(some 5), .mv (.c (.bool false)), none⟩]
def impl_Forced_6 : IR := .ops l_impl_Forced_6
@[go_sem] theorem w_impl_Forced_6 : wp P impl_Forced_6 Q e H = wpL P l_impl_Forced_6 (Q .normal) e H := idE rfl
def impl_Forced_7 : IR := .cond (.t 28) (.seq impl_Forced_6 .ret) .skip
@[go_sem] theorem w_impl_Forced_7 : wp P impl_Forced_7 Q e H = condW P ((.t 28) : X) (.seq impl_Forced_6 .ret) .skip Q e H := idE rfl
@[go_sem] def l_impl_Forced_8 : List GOp := [⟨(some 7), .mv (.c (.sl none 0 0 true 0)), none⟩]
def impl_Forced_8 : IR := .ops l_impl_Forced_8
@[go_sem] theorem w_impl_Forced_8 : wp P impl_Forced_8 Q e H = wpL P l_impl_Forced_8 (Q .normal) e H := idE rfl
@[go_sem] def l_impl_Forced_9 : List GOp := [⟨(some 29), .mv (.t 6), none⟩,
    ⟨(some 30), .len (.t 29), none⟩,
    ⟨(some 31), .mv (.c (.int .i64 0)), none⟩]
def impl_Forced_9 : IR := .ops l_impl_Forced_9
@[go_sem] theorem w_impl_Forced_9 : wp P impl_Forced_9 Q e H = wpL P l_impl_Forced_9 (Q .normal) e H := idE rfl
@[go_sem] def l_impl_Forced_10 : List GOp := [⟨(some 32), .bin .lss (.t 31) (.t 30), none⟩]
def impl_Forced_10 : IR := .ops l_impl_Forced_10
@[go_sem] theorem w_impl_Forced_10 : wp P impl_Forced_10 Q e H = wpL P l_impl_Forced_10 (Q .normal) e H := idE rfl
def impl_Forced_11 : IR := .cond (.t 32) .skip (.exit 0)
@[go_sem] theorem w_impl_Forced_11 : wp P impl_Forced_11 Q e H = condW P ((.t 32) : X) .skip (.exit 0) Q e H := idE rfl
@[go_sem] def l_impl_Forced_12 : List GOp := [⟨(some 33), .mv (.t 31), none⟩,
    ⟨(some 34), .iaddr (.t 29) (.t 31) 1, none⟩,
    ⟨(some 35), .load (.t 34) 1 false, none⟩,
    ⟨(some 8), .mv (.t 33), none⟩,
    ⟨(some 9), .mv (.t 35), none⟩]
def impl_Forced_12 : IR := .ops l_impl_Forced_12
@[go_sem] theorem w_impl_Forced_12 : wp P impl_Forced_12 Q e H = wpL P l_impl_Forced_12 (Q .normal) e H := idE rfl
@[go_sem] def l_impl_Forced_13 : List GOp := [⟨(some 36), .mv (.t 9), none⟩,
    ⟨(some 37), .bin .neq (.t 36) (.c (.int .i64 0)), none⟩]
def impl_Forced_13 : IR := .ops l_impl_Forced_13
@[go_sem] theorem w_impl_Forced_13 : wp P impl_Forced_13 Q e H = wpL P l_impl_Forced_13 (Q .normal) e H := idE rfl
@[go_sem] def l_impl_Forced_14 : List GOp := [⟨(some 38), .mv (.t 7), none⟩,
    ⟨(some 39), .mv (.t 8), none⟩,
    ⟨(some 40), .mv (.t 9), none⟩,
    ⟨(some 41), .bin .mul (.t 39) (.t 40), none⟩,
    ⟨(some 42), .bslc 1 1 [(.int .i64 0)] [(0, (.t 41))], none⟩,
    ⟨(some 43), .app 1 8 (.t 38) (.t 42), none⟩,
    ⟨(some 7), .mv (.t 43), none⟩]
def impl_Forced_14 : IR := .ops l_impl_Forced_14
@[go_sem] theorem w_impl_Forced_14 : wp P impl_Forced_14 Q e H = wpL P l_impl_Forced_14 (Q .normal) e H := idE rfl
def impl_Forced_15 : IR := .cond (.t 37) impl_Forced_14 .skip
@[go_sem] theorem w_impl_Forced_15 : wp P impl_Forced_15 Q e H = condW P ((.t 37) : X) impl_Forced_14 .skip Q e H := idE rfl
def impl_Forced_16 : IR := .block 1 (.seq impl_Forced_12 (.seq impl_Forced_13 impl_Forced_15))
@[go_sem] theorem w_impl_Forced_16 : wp P impl_Forced_16 Q e H = wp P (.seq impl_Forced_12 (.seq impl_Forced_13 impl_Forced_15)) (blockQ 1 Q) e H := idE rfl
@[go_sem] def l_impl_Forced_17 : List GOp := [⟨(some 44), .bin .add (.t 31) (.c (.int .i64 1)), none⟩,
    ⟨(some 31), .mv (.t 44), none⟩]
def impl_Forced_17 : IR := .ops l_impl_Forced_17
@[go_sem] theorem w_impl_Forced_17 : wp P impl_Forced_17 Q e H = wpL P l_impl_Forced_17 (Q .normal) e H := idE rfl
def impl_Forced_18 : IR := .loop (.seq impl_Forced_10 (.seq impl_Forced_11 (.seq impl_Forced_16 impl_Forced_17)))
def impl_Forced_19 : IR := .block 0 impl_Forced_18
@[go_sem] theorem w_impl_Forced_19 : wp P impl_Forced_19 Q e H = wp P impl_Forced_18 (blockQ 0 Q) e H := idE rfl
@[go_sem] def l_impl_Forced_20 : List GOp := [⟨(some 45), .mv (.t 7), none⟩,
    ⟨(some 46), .call (n_impl_clone_int) [(.t 45)], none⟩,
    ⟨(some 4), .mv (.t 46), none⟩,
    ⟨(some 5), .mv (.c (.bool true)), none⟩]
def impl_Forced_20 : IR := .ops l_impl_Forced_20
@[go_sem] theorem w_impl_Forced_20 : wp P impl_Forced_20 Q e H = wpL P l_impl_Forced_20 (Q .normal) e H := idE rfl
def F_impl_Forced : IFn := ⟨2, 47, [.t 4, .t 5], (.seq impl_Forced_0 (.seq (.seq impl_Forced_1 impl_Forced_3) (.seq impl_Forced_4 (.seq (.seq impl_Forced_5 impl_Forced_7) (.seq impl_Forced_8 (.seq (.seq impl_Forced_9 impl_Forced_19) (.seq impl_Forced_20 .ret)))))))⟩
theorem c_impl_Forced : compFn Try.prog [(0, [], []), (1, [], []), (2, [], []), (3, [], []), (4, [], []), (5, [], []), (6, [], []), (7, [], []), (8, [], []), (9, [], []), (10, [], []), (11, [], []), (12, [], []), (13, [], [])] Try.f29 = some F_impl_Forced := by kernel_rfl
theorem a_impl_Forced (hl : args.length = 2) (h : wp Try.prog (.seq impl_Forced_0 (.seq (.seq impl_Forced_1 impl_Forced_3) (.seq impl_Forced_4 (.seq (.seq impl_Forced_5 impl_Forced_7) (.seq impl_Forced_8 (.seq (.seq impl_Forced_9 impl_Forced_19) (.seq impl_Forced_20 .ret))))))) (postQ [.t 4, .t 5] R) (env0 args) H) : ACall Try.prog n_impl_Forced args H R :=
  acall_of_wp mixed Try.func29 c_impl_Forced (by kernel_rfl) hl h
@[go_sem] def l_laws_FnRefuteSteps_0 : List GOp := [⟨(some 2), .mv (.c (.bool false)), none⟩]
def laws_FnRefuteSteps_0 : IR := .ops l_laws_FnRefuteSteps_0
@[go_sem] theorem w_laws_FnRefuteSteps_0 : wp P laws_FnRefuteSteps_0 Q e H = wpL P l_laws_FnRefuteSteps_0 (Q .normal) e H := idE rfl
@[go_sem] def l_laws_FnRefuteSteps_1 : List GOp := [⟨(some 16), .mv (.t 0), none⟩,
    ⟨(some 17), .len (.t 16), none⟩,
    ⟨(some 18), .bin .gtr (.t 17) (.c (.int .i64 1048576)), none⟩]
def laws_FnRefuteSteps_1 : IR := .ops l_laws_FnRefuteSteps_1
@[go_sem] theorem w_laws_FnRefuteSteps_1 : wp P laws_FnRefuteSteps_1 Q e H = wpL P l_laws_FnRefuteSteps_1 (Q .normal) e H := idE rfl
@[go_sem] def l_laws_FnRefuteSteps_2 : List GOp := [⟨(some 2), .mv (.c (.bool true)), none⟩]
def laws_FnRefuteSteps_2 : IR := .ops l_laws_FnRefuteSteps_2
@[go_sem] theorem w_laws_FnRefuteSteps_2 : wp P laws_FnRefuteSteps_2 Q e H = wpL P l_laws_FnRefuteSteps_2 (Q .normal) e H := idE rfl
def laws_FnRefuteSteps_3 : IR := .cond (.t 18) (.seq laws_FnRefuteSteps_2 .ret) .skip
@[go_sem] theorem w_laws_FnRefuteSteps_3 : wp P laws_FnRefuteSteps_3 Q e H = condW P ((.t 18) : X) (.seq laws_FnRefuteSteps_2 .ret) .skip Q e H := idE rfl
@[go_sem] def l_laws_FnRefuteSteps_4 : List GOp := [⟨(some 19), .mv (.t 0), none⟩,
    ⟨(some 20), .call (n_spec_DrawRefute) [(.t 19)], none⟩,
    ⟨(some 3), .alloc [(.int .i64 0), (.sl none 0 0 true 0)], none⟩,
    ⟨none, .store (.t 3) 2 (.t 20), none⟩]
def laws_FnRefuteSteps_4 : IR := .ops l_laws_FnRefuteSteps_4
@[go_sem] theorem w_laws_FnRefuteSteps_4 : wp P laws_FnRefuteSteps_4 Q e H = wpL P l_laws_FnRefuteSteps_4 (Q .normal) e H := idE rfl
@[go_sem] def l_laws_FnRefuteSteps_5 : List GOp := [⟨(some 22), .load (.t 3) 2 true, none⟩,
    ⟨(some 23), .call (n_impl_Refute) [(.t 22)], none⟩,
    ⟨(some 21), .mv (.t 23), none⟩,
    ⟨(some 24), .ext (.t 21) 0, none⟩,
    ⟨(some 25), .ext (.t 21) 1, none⟩,
    ⟨(some 4), .mv (.t 24), none⟩,
    ⟨(some 5), .mv (.t 25), none⟩]
def laws_FnRefuteSteps_5 : IR := .ops l_laws_FnRefuteSteps_5
@[go_sem] theorem w_laws_FnRefuteSteps_5 : wp P laws_FnRefuteSteps_5 Q e H = wpL P l_laws_FnRefuteSteps_5 (Q .normal) e H := idE rfl
@[go_sem] def l_laws_FnRefuteSteps_6 : List GOp := [⟨(some 27), .load (.t 3) 2 true, none⟩,
    ⟨(some 28), .call (n_spec_Refute) [(.t 27)], none⟩,
    ⟨(some 26), .mv (.t 28), none⟩,
    ⟨(some 29), .ext (.t 26) 0, none⟩,
    ⟨(some 30), .ext (.t 26) 1, none⟩,
    ⟨(some 6), .mv (.t 29), none⟩,
    ⟨(some 7), .mv (.t 30), none⟩]
def laws_FnRefuteSteps_6 : IR := .ops l_laws_FnRefuteSteps_6
@[go_sem] theorem w_laws_FnRefuteSteps_6 : wp P laws_FnRefuteSteps_6 Q e H = wpL P l_laws_FnRefuteSteps_6 (Q .normal) e H := idE rfl
def l_laws_FnRefuteSteps_7 : List GOp := [⟨(some 31), .mv (.t 5), none⟩,
    ⟨(some 32), .mv (.t 7), none⟩,
    ⟨(some 33), .beq true (.t 31) (.t 32), none⟩,
    ⟨(some 34), .mv (.t 33), none⟩,
    ⟨(some 35), .mv (.t 4), (some (34, false))⟩,
    ⟨(some 36), .len (.t 35), (some (34, false))⟩,
    ⟨(some 37), .mv (.t 6), (some (34, false))⟩,
    ⟨(some 38), .len (.t 37), (some (34, false))⟩,
    ⟨(some 39), .bin .neq (.t 36) (.t 38), (some (34, false))⟩,
    ⟨(some 40), .pick (.t 34) (.c (.bool true)) (.t 39), none⟩,
    ⟨(some 41), .mv (.t 40), none⟩,
    ⟨(some 42), .load (.t 3) 2 true, (some (41, false))⟩,
    ⟨(some 43), .call (n_impl_ClausesValid) [(.t 42)], (some (41, false))⟩,
    ⟨(some 44), .load (.t 3) 2 true, (some (41, false))⟩,
    ⟨(some 45), .call (n_spec_ClausesValid) [(.t 44)], (some (41, false))⟩,
    ⟨(some 46), .beq true (.t 43) (.t 45), (some (41, false))⟩,
    ⟨(some 47), .pick (.t 41) (.c (.bool true)) (.t 46), none⟩]
@[go_sem] theorem g_laws_FnRefuteSteps_7_0 : gAt l_laws_FnRefuteSteps_7 0 = ⟨(some 31), .mv (.t 5), none⟩ := idE rfl
@[go_sem] theorem g_laws_FnRefuteSteps_7_1 : gAt l_laws_FnRefuteSteps_7 1 = ⟨(some 32), .mv (.t 7), none⟩ := idE rfl
@[go_sem] theorem g_laws_FnRefuteSteps_7_2 : gAt l_laws_FnRefuteSteps_7 2 = ⟨(some 33), .beq true (.t 31) (.t 32), none⟩ := idE rfl
@[go_sem] theorem g_laws_FnRefuteSteps_7_3 : gAt l_laws_FnRefuteSteps_7 3 = ⟨(some 34), .mv (.t 33), none⟩ := idE rfl
@[go_sem] theorem g_laws_FnRefuteSteps_7_4 : gAt l_laws_FnRefuteSteps_7 4 = ⟨(some 35), .mv (.t 4), (some (34, false))⟩ := idE rfl
@[go_sem] theorem g_laws_FnRefuteSteps_7_5 : gAt l_laws_FnRefuteSteps_7 5 = ⟨(some 36), .len (.t 35), (some (34, false))⟩ := idE rfl
@[go_sem] theorem g_laws_FnRefuteSteps_7_6 : gAt l_laws_FnRefuteSteps_7 6 = ⟨(some 37), .mv (.t 6), (some (34, false))⟩ := idE rfl
@[go_sem] theorem g_laws_FnRefuteSteps_7_7 : gAt l_laws_FnRefuteSteps_7 7 = ⟨(some 38), .len (.t 37), (some (34, false))⟩ := idE rfl
@[go_sem] theorem g_laws_FnRefuteSteps_7_8 : gAt l_laws_FnRefuteSteps_7 8 = ⟨(some 39), .bin .neq (.t 36) (.t 38), (some (34, false))⟩ := idE rfl
@[go_sem] theorem g_laws_FnRefuteSteps_7_9 : gAt l_laws_FnRefuteSteps_7 9 = ⟨(some 40), .pick (.t 34) (.c (.bool true)) (.t 39), none⟩ := idE rfl
@[go_sem] theorem g_laws_FnRefuteSteps_7_10 : gAt l_laws_FnRefuteSteps_7 10 = ⟨(some 41), .mv (.t 40), none⟩ := idE rfl
@[go_sem] theorem g_laws_FnRefuteSteps_7_11 : gAt l_laws_FnRefuteSteps_7 11 = ⟨(some 42), .load (.t 3) 2 true, (some (41, false))⟩ := idE rfl
@[go_sem] theorem g_laws_FnRefuteSteps_7_12 : gAt l_laws_FnRefuteSteps_7 12 = ⟨(some 43), .call (n_impl_ClausesValid) [(.t 42)], (some (41, false))⟩ := idE rfl
@[go_sem] theorem g_laws_FnRefuteSteps_7_13 : gAt l_laws_FnRefuteSteps_7 13 = ⟨(some 44), .load (.t 3) 2 true, (some (41, false))⟩ := idE rfl
@[go_sem] theorem g_laws_FnRefuteSteps_7_14 : gAt l_laws_FnRefuteSteps_7 14 = ⟨(some 45), .call (n_spec_ClausesValid) [(.t 44)], (some (41, false))⟩ := idE rfl
@[go_sem] theorem g_laws_FnRefuteSteps_7_15 : gAt l_laws_FnRefuteSteps_7 15 = ⟨(some 46), .beq true (.t 43) (.t 45), (some (41, false))⟩ := idE rfl
@[go_sem] theorem g_laws_FnRefuteSteps_7_16 : gAt l_laws_FnRefuteSteps_7 16 = ⟨(some 47), .pick (.t 41) (.c (.bool true)) (.t 46), none⟩ := idE rfl
def laws_FnRefuteSteps_7 : IR := .dops l_laws_FnRefuteSteps_7 [(0, []), (1, []), (2, []), (3, []), (4, []), (5, []), (6, []), (7, []), (8, []), (9, []), (10, []), (11, []), (13, []), (12, [13]), (14, []), (15, []), (16, [])]
@[go_sem] theorem w_laws_FnRefuteSteps_7 : wp P laws_FnRefuteSteps_7 Q e H = wpD P l_laws_FnRefuteSteps_7 [(0, []), (1, []), (2, []), (3, []), (4, []), (5, []), (6, []), (7, []), (8, []), (9, []), (10, []), (11, []), (13, []), (12, [13]), (14, []), (15, []), (16, [])] (Q .normal) e H := idE rfl
@[go_sem] def l_laws_FnRefuteSteps_8 : List GOp := [⟨(some 2), .mv (.c (.bool false)), none⟩]
def laws_FnRefuteSteps_8 : IR := .ops l_laws_FnRefuteSteps_8
@[go_sem] theorem w_laws_FnRefuteSteps_8 : wp P laws_FnRefuteSteps_8 Q e H = wpL P l_laws_FnRefuteSteps_8 (Q .normal) e H := idE rfl
def laws_FnRefuteSteps_9 : IR := .cond (.t 47) (.seq laws_FnRefuteSteps_8 .ret) .skip
@[go_sem] theorem w_laws_FnRefuteSteps_9 : wp P laws_FnRefuteSteps_9 Q e H = condW P ((.t 47) : X) (.seq laws_FnRefuteSteps_8 .ret) .skip Q e H := idE rfl
def l_laws_FnRefuteSteps_10 : List GOp := [⟨(some 48), .faddr (.t 3) 0, none⟩,
    ⟨(some 49), .load (.t 48) 1 false, none⟩,
    ⟨(some 50), .bslc 1 0 [(.sl none 0 0 true 0)] [], none⟩,
    ⟨(some 51), .faddr (.t 3) 1, none⟩,
    ⟨(some 52), .load (.t 51) 1 false, none⟩,
    ⟨(some 53), .app 1 24 (.t 50) (.t 52), none⟩,
    ⟨(some 54), .bld [(.int .i64 0), (.sl none 0 0 true 0)] [(0, 1, (.t 49)), (1, 1, (.t 53))], none⟩,
    ⟨(some 8), .alloc [(.int .i64 0), (.sl none 0 0 true 0)], none⟩,
    ⟨none, .store (.t 8) 2 (.t 54), none⟩]
@[go_sem] theorem g_laws_FnRefuteSteps_10_0 : gAt l_laws_FnRefuteSteps_10 0 = ⟨(some 48), .faddr (.t 3) 0, none⟩ := idE rfl
@[go_sem] theorem g_laws_FnRefuteSteps_10_1 : gAt l_laws_FnRefuteSteps_10 1 = ⟨(some 49), .load (.t 48) 1 false, none⟩ := idE rfl
@[go_sem] theorem g_laws_FnRefuteSteps_10_2 : gAt l_laws_FnRefuteSteps_10 2 = ⟨(some 50), .bslc 1 0 [(.sl none 0 0 true 0)] [], none⟩ := idE rfl
@[go_sem] theorem g_laws_FnRefuteSteps_10_3 : gAt l_laws_FnRefuteSteps_10 3 = ⟨(some 51), .faddr (.t 3) 1, none⟩ := idE rfl
@[go_sem] theorem g_laws_FnRefuteSteps_10_4 : gAt l_laws_FnRefuteSteps_10 4 = ⟨(some 52), .load (.t 51) 1 false, none⟩ := idE rfl
@[go_sem] theorem g_laws_FnRefuteSteps_10_5 : gAt l_laws_FnRefuteSteps_10 5 = ⟨(some 53), .app 1 24 (.t 50) (.t 52), none⟩ := idE rfl
@[go_sem] theorem g_laws_FnRefuteSteps_10_6 : gAt l_laws_FnRefuteSteps_10 6 = ⟨(some 54), .bld [(.int .i64 0), (.sl none 0 0 true 0)] [(0, 1, (.t 49)), (1, 1, (.t 53))], none⟩ := idE rfl
@[go_sem] theorem g_laws_FnRefuteSteps_10_7 : gAt l_laws_FnRefuteSteps_10 7 = ⟨(some 8), .alloc [(.int .i64 0), (.sl none 0 0 true 0)], none⟩ := idE rfl
@[go_sem] theorem g_laws_FnRefuteSteps_10_8 : gAt l_laws_FnRefuteSteps_10 8 = ⟨none, .store (.t 8) 2 (.t 54), none⟩ := idE rfl
def laws_FnRefuteSteps_10 : IR := .dops l_laws_FnRefuteSteps_10 [(0, []), (1, []), (3, []), (4, []), (2, []), (5, [1]), (6, []), (7, []), (8, [])]
@[go_sem] theorem w_laws_FnRefuteSteps_10 : wp P laws_FnRefuteSteps_10 Q e H = wpD P l_laws_FnRefuteSteps_10 [(0, []), (1, []), (3, []), (4, []), (2, []), (5, [1]), (6, []), (7, []), (8, [])] (Q .normal) e H := idE rfl
@[go_sem] def l_laws_FnRefuteSteps_11 : List GOp := [⟨(some 55), .mv (.t 4), none⟩,
    ⟨(some 56), .len (.t 55), none⟩,
    ⟨(some 57), .mv (.c (.int .i64 0)), none⟩]
def laws_FnRefuteSteps_11 : IR := .ops l_laws_FnRefuteSteps_11
@[go_sem] theorem w_laws_FnRefuteSteps_11 : wp P laws_FnRefuteSteps_11 Q e H = wpL P l_laws_FnRefuteSteps_11 (Q .normal) e H := idE rfl
@[go_sem] def l_laws_FnRefuteSteps_12 : List GOp := [⟨(some 58), .bin .lss (.t 57) (.t 56), none⟩]
def laws_FnRefuteSteps_12 : IR := .ops l_laws_FnRefuteSteps_12
@[go_sem] theorem w_laws_FnRefuteSteps_12 : wp P laws_FnRefuteSteps_12 Q e H = wpL P l_laws_FnRefuteSteps_12 (Q .normal) e H := idE rfl
def laws_FnRefuteSteps_13 : IR := .cond (.t 58) .skip (.exit 0)
@[go_sem] theorem w_laws_FnRefuteSteps_13 : wp P laws_FnRefuteSteps_13 Q e H = condW P ((.t 58) : X) .skip (.exit 0) Q e H := idE rfl
@[go_sem] def l_laws_FnRefuteSteps_14 : List GOp := [⟨(some 59), .iaddr (.t 55) (.t 57) 1, none⟩,
    ⟨(some 60), .load (.t 59) 1 false, none⟩,
    ⟨(some 10), .mv (.t 60), none⟩]
def laws_FnRefuteSteps_14 : IR := .ops l_laws_FnRefuteSteps_14
@[go_sem] theorem w_laws_FnRefuteSteps_14 : wp P laws_FnRefuteSteps_14 Q e H = wpL P l_laws_FnRefuteSteps_14 (Q .normal) e H := idE rfl
@[go_sem] def l_laws_FnRefuteSteps_15 : List GOp := [⟨(some 61), .bslc 1 0 [(.int .i64 0)] [], none⟩,
    ⟨(some 11), .mv (.t 61), none⟩]
def laws_FnRefuteSteps_15 : IR := .ops l_laws_FnRefuteSteps_15
@[go_sem] theorem w_laws_FnRefuteSteps_15 : wp P laws_FnRefuteSteps_15 Q e H = wpL P l_laws_FnRefuteSteps_15 (Q .normal) e H := idE rfl
@[go_sem] def l_laws_FnRefuteSteps_16 : List GOp := [⟨(some 62), .mv (.t 10), none⟩,
    ⟨(some 63), .len (.t 62), none⟩,
    ⟨(some 64), .mv (.c (.int .i64 0)), none⟩]
def laws_FnRefuteSteps_16 : IR := .ops l_laws_FnRefuteSteps_16
@[go_sem] theorem w_laws_FnRefuteSteps_16 : wp P laws_FnRefuteSteps_16 Q e H = wpL P l_laws_FnRefuteSteps_16 (Q .normal) e H := idE rfl
@[go_sem] def l_laws_FnRefuteSteps_17 : List GOp := [⟨(some 65), .bin .lss (.t 64) (.t 63), none⟩]
def laws_FnRefuteSteps_17 : IR := .ops l_laws_FnRefuteSteps_17
@[go_sem] theorem w_laws_FnRefuteSteps_17 : wp P laws_FnRefuteSteps_17 Q e H = wpL P l_laws_FnRefuteSteps_17 (Q .normal) e H := idE rfl
def laws_FnRefuteSteps_18 : IR := .cond (.t 65) .skip (.exit 2)
@[go_sem] theorem w_laws_FnRefuteSteps_18 : wp P laws_FnRefuteSteps_18 Q e H = condW P ((.t 65) : X) .skip (.exit 2) Q e H := idE rfl
@[go_sem] def l_laws_FnRefuteSteps_19 : List GOp := [⟨(some 66), .iaddr (.t 62) (.t 64) 1, none⟩,
    ⟨(some 67), .load (.t 66) 1 false, none⟩,
    ⟨(some 13), .mv (.t 67), none⟩]
def laws_FnRefuteSteps_19 : IR := .ops l_laws_FnRefuteSteps_19
@[go_sem] theorem w_laws_FnRefuteSteps_19 : wp P laws_FnRefuteSteps_19 Q e H = wpL P l_laws_FnRefuteSteps_19 (Q .normal) e H := idE rfl
@[go_sem] def l_laws_FnRefuteSteps_20 : List GOp := [⟨(some 68), .mv (.t 11), none⟩,
    ⟨(some 69), .mv (.t 13), none⟩,
    ⟨(some 70), .un .neg (.t 69), none⟩,
    ⟨(some 71), .bslc 1 1 [(.int .i64 0)] [(0, (.t 70))], none⟩,
    ⟨(some 72), .app 1 8 (.t 68) (.t 71), none⟩,
    ⟨(some 11), .mv (.t 72), none⟩]
def laws_FnRefuteSteps_20 : IR := .ops l_laws_FnRefuteSteps_20
@[go_sem] theorem w_laws_FnRefuteSteps_20 : wp P laws_FnRefuteSteps_20 Q e H = wpL P l_laws_FnRefuteSteps_20 (Q .normal) e H := idE rfl
def laws_FnRefuteSteps_21 : IR := .block 3 (.seq laws_FnRefuteSteps_19 laws_FnRefuteSteps_20)
@[go_sem] theorem w_laws_FnRefuteSteps_21 : wp P laws_FnRefuteSteps_21 Q e H = wp P (.seq laws_FnRefuteSteps_19 laws_FnRefuteSteps_20) (blockQ 3 Q) e H := idE rfl
@[go_sem] def l_laws_FnRefuteSteps_22 : List GOp := [⟨(some 73), .bin .add (.t 64) (.c (.int .i64 1)), none⟩,
    ⟨(some 64), .mv (.t 73), none⟩]
def laws_FnRefuteSteps_22 : IR := .ops l_laws_FnRefuteSteps_22
@[go_sem] theorem w_laws_FnRefuteSteps_22 : wp P laws_FnRefuteSteps_22 Q e H = wpL P l_laws_FnRefuteSteps_22 (Q .normal) e H := idE rfl
def laws_FnRefuteSteps_23 : IR := .loop (.seq laws_FnRefuteSteps_17 (.seq laws_FnRefuteSteps_18 (.seq laws_FnRefuteSteps_21 laws_FnRefuteSteps_22)))
def laws_FnRefuteSteps_24 : IR := .block 2 laws_FnRefuteSteps_23
@[go_sem] theorem w_laws_FnRefuteSteps_24 : wp P laws_FnRefuteSteps_24 Q e H = wp P laws_FnRefuteSteps_23 (blockQ 2 Q) e H := idE rfl
@[go_sem] def l_laws_FnRefuteSteps_25 : List GOp := [⟨(some 75), .load (.t 8) 2 true, none⟩,
    ⟨(some 76), .mv (.t 11), none⟩,
    ⟨(some 77), .call (n_impl_Forced) [(.t 75), (.t 76)], none⟩,
    ⟨(some 74), .mv (.t 77), none⟩,
    ⟨(some 78), .ext (.t 74) 0, none⟩,
    ⟨(some 79), .ext (.t 74) 1, none⟩,
    ⟨(some 14), .mv (.t 78), none⟩,
    ⟨(some 15), .mv (.t 79), none⟩]
def laws_FnRefuteSteps_25 : IR := .ops l_laws_FnRefuteSteps_25
@[go_sem] theorem w_laws_FnRefuteSteps_25 : wp P laws_FnRefuteSteps_25 Q e H = wpL P l_laws_FnRefuteSteps_25 (Q .normal) e H := idE rfl
@[go_sem] def l_laws_FnRefuteSteps_26 : List GOp := [⟨(some 80), .mv (.t 15), none⟩]
def laws_FnRefuteSteps_26 : IR := .ops l_laws_FnRefuteSteps_26
@[go_sem] theorem w_laws_FnRefuteSteps_26 : wp P laws_FnRefuteSteps_26 Q e H = wpL P l_laws_FnRefuteSteps_26 (Q .normal) e H := idE rfl
@[go_sem] def l_laws_FnRefuteSteps_27 : List GOp := [⟨(some 2), .mv (.c (.bool false)), none⟩]
def laws_FnRefuteSteps_27 : IR := .ops l_laws_FnRefuteSteps_27
@[go_sem] theorem w_laws_FnRefuteSteps_27 : wp P laws_FnRefuteSteps_27 Q e H = wpL P l_laws_FnRefuteSteps_27 (Q .normal) e H := idE rfl
def laws_FnRefuteSteps_28 : IR := .cond (.t 80) (.seq laws_FnRefuteSteps_27 .ret) .skip
@[go_sem] theorem w_laws_FnRefuteSteps_28 : wp P laws_FnRefuteSteps_28 Q e H = condW P ((.t 80) : X) (.seq laws_FnRefuteSteps_27 .ret) .skip Q e H := idE rfl
@[go_sem] def l_laws_FnRefuteSteps_29 : List GOp := [⟨(some 81), .faddr (.t 8) 1, none⟩,
    ⟨(some 82), .load (.t 81) 1 false, none⟩,
    ⟨(some 83), .mv (.t 10), none⟩,
    ⟨(some 84), .bslc 1 1 [(.sl none 0 0 true 0)] [(0, (.t 83))], none⟩,
    ⟨(some 85), .app 1 24 (.t 82) (.t 84), none⟩,
    ⟨(some 86), .faddr (.t 8) 1, none⟩,
    ⟨none, .store (.t 86) 1 (.t 85), none⟩]
def laws_FnRefuteSteps_29 : IR := .ops l_laws_FnRefuteSteps_29
@[go_sem] theorem w_laws_FnRefuteSteps_29 : wp P laws_FnRefuteSteps_29 Q e H = wpL P l_laws_FnRefuteSteps_29 (Q .normal) e H := idE rfl
def laws_FnRefuteSteps_30 : IR := .block 1 (.seq laws_FnRefuteSteps_14 (.seq laws_FnRefuteSteps_15 (.seq (.seq laws_FnRefuteSteps_16 laws_FnRefuteSteps_24) (.seq (.seq laws_FnRefuteSteps_25 (.seq laws_FnRefuteSteps_26 laws_FnRefuteSteps_28)) laws_FnRefuteSteps_29))))
@[go_sem] theorem w_laws_FnRefuteSteps_30 : wp P laws_FnRefuteSteps_30 Q e H = wp P (.seq laws_FnRefuteSteps_14 (.seq laws_FnRefuteSteps_15 (.seq (.seq laws_FnRefuteSteps_16 laws_FnRefuteSteps_24) (.seq (.seq laws_FnRefuteSteps_25 (.seq laws_FnRefuteSteps_26 laws_FnRefuteSteps_28)) laws_FnRefuteSteps_29)))) (blockQ 1 Q) e H := idE rfl
@[go_sem] def l_laws_FnRefuteSteps_31 : List GOp := [⟨(some 87), .bin .add (.t 57) (.c (.int .i64 1)), none⟩,
    ⟨(some 57), .mv (.t 87), none⟩]
def laws_FnRefuteSteps_31 : IR := .ops l_laws_FnRefuteSteps_31
@[go_sem] theorem w_laws_FnRefuteSteps_31 : wp P laws_FnRefuteSteps_31 Q e H = wpL P l_laws_FnRefuteSteps_31 (Q .normal) e H := idE rfl
def laws_FnRefuteSteps_32 : IR := .loop (.seq laws_FnRefuteSteps_12 (.seq laws_FnRefuteSteps_13 (.seq laws_FnRefuteSteps_30 laws_FnRefuteSteps_31)))
def laws_FnRefuteSteps_33 : IR := .block 0 laws_FnRefuteSteps_32
@[go_sem] theorem w_laws_FnRefuteSteps_33 : wp P laws_FnRefuteSteps_33 Q e H = wp P laws_FnRefuteSteps_32 (blockQ 0 Q) e H := idE rfl
@[go_sem] def l_laws_FnRefuteSteps_34 : List GOp := [⟨(some 2), .mv (.c (.bool true)), none⟩]
def laws_FnRefuteSteps_34 : IR := .ops l_laws_FnRefuteSteps_34
@[go_sem] theorem w_laws_FnRefuteSteps_34 : wp P laws_FnRefuteSteps_34 Q e H = wpL P l_laws_FnRefuteSteps_34 (Q .normal) e H := idE rfl
def F_laws_FnRefuteSteps : IFn := ⟨1, 88, [.t 2], (.seq laws_FnRefuteSteps_0 (.seq (.seq laws_FnRefuteSteps_1 laws_FnRefuteSteps_3) (.seq laws_FnRefuteSteps_4 (.seq laws_FnRefuteSteps_5 (.seq laws_FnRefuteSteps_6 (.seq (.seq laws_FnRefuteSteps_7 laws_FnRefuteSteps_9) (.seq laws_FnRefuteSteps_10 (.seq (.seq laws_FnRefuteSteps_11 laws_FnRefuteSteps_33) (.seq laws_FnRefuteSteps_34 .ret)))))))))⟩
theorem c_laws_FnRefuteSteps : compFn Try.prog [(0, [], []), (1, [], []), (2, [], []), (3, [], []), (4, [], []), (5, [], []), (6, [(0, []), (1, []), (2, []), (3, []), (4, []), (5, []), (6, []), (7, []), (8, []), (9, []), (10, []), (11, []), (13, []), (12, [13]), (14, []), (15, []), (16, [])], []), (7, [], []), (8, [(0, []), (1, []), (3, []), (4, []), (2, []), (5, [1]), (6, []), (7, []), (8, [])], []), (9, [], []), (10, [], []), (11, [], []), (12, [], []), (13, [], []), (14, [], []), (15, [], []), (16, [], []), (17, [], []), (18, [], []), (19, [], []), (20, [], []), (21, [], []), (22, [], []), (23, [], [])] Try.f5 = some F_laws_FnRefuteSteps := by kernel_rfl
theorem a_laws_FnRefuteSteps (hl : args.length = 1) (h : wp Try.prog (.seq laws_FnRefuteSteps_0 (.seq (.seq laws_FnRefuteSteps_1 laws_FnRefuteSteps_3) (.seq laws_FnRefuteSteps_4 (.seq laws_FnRefuteSteps_5 (.seq laws_FnRefuteSteps_6 (.seq (.seq laws_FnRefuteSteps_7 laws_FnRefuteSteps_9) (.seq laws_FnRefuteSteps_10 (.seq (.seq laws_FnRefuteSteps_11 laws_FnRefuteSteps_33) (.seq laws_FnRefuteSteps_34 .ret))))))))) (postQ [.t 2] R) (env0 args) H) : ACall Try.prog n_laws_FnRefuteSteps args H R :=
  acall_of_wp mixed Try.func5 c_laws_FnRefuteSteps (by kernel_rfl) hl h
end Go.M2

namespace Go.M2
open Go.Proofs
variable {H : Heap}
theorem s_l1In {n lo hi : Int} : ACall Try.prog n_spec_l1In [.int .i64 n, .int .i64 lo, .int .i64 hi] H (fun r H' => r = .bool (decide (lo ≤ n ∧ n ≤ hi)) ∧ H' = H) := by
  refine a_spec_l1In rfl ?_
  simp (maxSteps := 2000000) (disch := first | omega | assumption | exact idP rfl | exact idP (bL rfl) | (simp only [alloc_size, upd_size]; done) | (simp only [alloc_size, upd_size]; omega) | fail) only [go_sem, reduceIte, Nat.reduceEqDiff]
  refine guardW_dec (fun h => ?_) (fun h => ?_)
  · simp (maxSteps := 2000000) (disch := first | omega | assumption | exact idP rfl | exact idP (bL rfl) | (simp only [alloc_size, upd_size]; done) | (simp only [alloc_size, upd_size]; omega) | fail) only [go_sem, reduceIte, Nat.reduceEqDiff, h, AV.bool.injEq, decide_eq_decide, decide_true]
  · simp (maxSteps := 2000000) (disch := first | omega | assumption | exact idP rfl | exact idP (bL rfl) | (simp only [alloc_size, upd_size]; done) | (simp only [alloc_size, upd_size]; omega) | fail) only [go_sem, reduceIte, Nat.reduceEqDiff, h, AV.bool.injEq, decide_eq_decide, decide_false, Bool.false_eq_true, false_and]
theorem s_in {n lo hi : Int} : ACall Try.prog n_impl_in [.int .i64 n, .int .i64 lo, .int .i64 hi] H (fun r H' => r = .bool (decide (lo ≤ n ∧ n ≤ hi)) ∧ H' = H) := by
  refine a_impl_in rfl ?_
  simp (maxSteps := 2000000) (disch := first | omega | assumption | exact idP rfl | exact idP (bL rfl) | (simp only [alloc_size, upd_size]; done) | (simp only [alloc_size, upd_size]; omega) | fail) only [go_sem, reduceIte, Nat.reduceEqDiff]
  refine guardW_dec (fun h => ?_) (fun h => ?_)
  · simp (maxSteps := 2000000) (disch := first | omega | assumption | exact idP rfl | exact idP (bL rfl) | (simp only [alloc_size, upd_size]; done) | (simp only [alloc_size, upd_size]; omega) | fail) only [go_sem, reduceIte, Nat.reduceEqDiff, h, AV.bool.injEq, decide_eq_decide, decide_true]
  · simp (maxSteps := 2000000) (disch := first | omega | assumption | exact idP rfl | exact idP (bL rfl) | (simp only [alloc_size, upd_size]; done) | (simp only [alloc_size, upd_size]; omega) | fail) only [go_sem, reduceIte, Nat.reduceEqDiff, h, AV.bool.injEq, decide_eq_decide, decide_false, Bool.false_eq_true, false_and]
theorem s_l11Abs {n : Int} (h0 : -9223372036854775808 < n) (h1 : n ≤ 9223372036854775807) : ACall Try.prog n_spec_l11Abs [.int .i64 n] H (fun r H' => r = .int .i64 (n.natAbs : Int) ∧ H' = H) := by
  refine a_spec_l11Abs rfl ?_
  simp (maxSteps := 2000000) (disch := first | omega | assumption | exact idP rfl | exact idP (bL rfl) | (simp only [alloc_size, upd_size]; done) | (simp only [alloc_size, upd_size]; omega) | fail) only [go_sem, reduceIte, Nat.reduceEqDiff]
  refine condV_dec (fun h => ?_) (fun h => ?_)
  · simp (maxSteps := 2000000) (disch := first | omega | assumption | exact idP rfl | exact idP (bL rfl) | (simp only [alloc_size, upd_size]; done) | (simp only [alloc_size, upd_size]; omega) | fail) only [go_sem, reduceIte, Nat.reduceEqDiff, AV.int.injEq]
    omega
  · simp (maxSteps := 2000000) (disch := first | omega | assumption | exact idP rfl | exact idP (bL rfl) | (simp only [alloc_size, upd_size]; done) | (simp only [alloc_size, upd_size]; omega) | fail) only [go_sem, reduceIte, Nat.reduceEqDiff, AV.int.injEq]
    omega
theorem s_atomOf {n : Int} (h0 : -9223372036854775808 < n) (h1 : n ≤ 9223372036854775807) : ACall Try.prog n_impl_atomOf [.int .i64 n] H (fun r H' => r = .int .i64 (n.natAbs : Int) ∧ H' = H) := by
  refine a_impl_atomOf rfl ?_
  simp (maxSteps := 2000000) (disch := first | omega | assumption | exact idP rfl | exact idP (bL rfl) | (simp only [alloc_size, upd_size]; done) | (simp only [alloc_size, upd_size]; omega) | fail) only [go_sem, reduceIte, Nat.reduceEqDiff, AV.int.injEq]
  omega
theorem s_bit {b : Bool} : ACall Try.prog n_impl_bit [.bool b] H (fun r H' => r = .int .i64 (if b then 1 else 0) ∧ H' = H) := by
  refine a_impl_bit rfl ?_
  simp (maxSteps := 2000000) (disch := first | omega | assumption | exact idP rfl | exact idP (bL rfl) | (simp only [alloc_size, upd_size]; done) | (simp only [alloc_size, upd_size]; omega) | fail) only [go_sem, reduceIte, Nat.reduceEqDiff]
  refine condV_split (fun h => ?_) (fun h => ?_)
  · subst h; simp (maxSteps := 2000000) (disch := first | omega | assumption | exact idP rfl | exact idP (bL rfl) | (simp only [alloc_size, upd_size]; done) | (simp only [alloc_size, upd_size]; omega) | fail) only [go_sem, reduceIte, Nat.reduceEqDiff]
  · subst h; simp (maxSteps := 2000000) (disch := first | omega | assumption | exact idP rfl | exact idP (bL rfl) | (simp only [alloc_size, upd_size]; done) | (simp only [alloc_size, upd_size]; omega) | fail) only [go_sem, reduceIte, Nat.reduceEqDiff, Bool.false_eq_true, if_false]
def litOk (n atoms : Int) : Bool := decide (n ≠ 0 ∧ -atoms ≤ n ∧ n ≤ atoms)
theorem s_l11Lit {n atoms : Int} (h0 : 0 ≤ atoms) (h1 : atoms ≤ 700) : ACall Try.prog n_spec_l11Lit [.int .i64 n, .int .i64 atoms] H (fun r H' => r = .bool (litOk n atoms) ∧ H' = H) := by
  refine a_spec_l11Lit rfl ?_
  by_cases h : n = 0
  · simp (maxSteps := 2000000) (disch := first | omega | assumption | exact idP rfl | exact idP (bL rfl) | (simp only [alloc_size, upd_size]; done) | (simp only [alloc_size, upd_size]; omega) | fail) only [go_sem, reduceIte, Nat.reduceEqDiff, h, litOk, AV.bool.injEq, false_and]
  · simp (maxSteps := 2000000) (disch := first | omega | assumption | exact idP rfl | exact idP (bL rfl) | (simp only [alloc_size, upd_size]; done) | (simp only [alloc_size, upd_size]; omega) | fail) only [go_sem, reduceIte, Nat.reduceEqDiff, h]
    refine (s_l1In).mono ?_
    rintro r H' ⟨rfl, rfl⟩
    simp (maxSteps := 2000000) (disch := first | omega | assumption | exact idP rfl | exact idP (bL rfl) | (simp only [alloc_size, upd_size]; done) | (simp only [alloc_size, upd_size]; omega) | fail) only [go_sem, reduceIte, Nat.reduceEqDiff, AV.bool.injEq, litOk, decide_eq_decide, h]
    constructor <;> intro h3 <;> refine ⟨?_, ?_⟩ <;> omega
end Go.M2

namespace Go.M2
open Go.Proofs
variable {H : Heap}
theorem zeros_len {z : List AV} {n : Nat} (h : z.length = 1) : (zeros z n).length = n := by
  induction n with
  | zero => rfl
  | succ n ih => simp only [zeros, List.length_append, h, ih]; omega
theorem oneA_isS {α : Type} {sz : Nat} {E : Heap → α → List AV → Prop} {H : Heap} {v : AV} {xs : List α} (h : IsS sz E H v xs) : oneA v = true ∧ cellsOf v = some [v] := by
  obtain ⟨A, c, ex, k, rfl, _⟩ := h
  exact ⟨rfl, rfl⟩
def Tree (H : Heap) (lo hi : Nat) (r : AV) (xss : List (List Int)) : Prop :=
  ∃ (b : Nat) (l : List AV), r = .sl (some (b, 0)) xss.length xss.length true 1 ∧ lo ≤ b ∧ b < hi ∧ b < H.size ∧ H.blk b = .cells l true ∧ l.length = xss.length ∧
    ∀ j (hj : j < xss.length), ∃ bj, l[j]? = some (.sl (some (bj, 0)) xss[j].length xss[j].length true 1) ∧ lo ≤ bj ∧ bj < hi ∧ bj ≠ b ∧ bj < H.size ∧ ∃ zs : List Int, zs.length = xss[j].length ∧ H.blk bj = .cells (zs.map (AV.int .i64)) true
theorem Tree.le {H H' : Heap} {lo hi lo' hi' : Nat} {r : AV} {xss : List (List Int)} (h : Tree H lo hi r xss) (hl : Le H H') (h1 : lo' ≤ lo) (h2 : hi ≤ hi') : Tree H' lo' hi' r xss := by
  obtain ⟨b, l, rfl, q1, q2, q3, q4, q5, q6⟩ := h
  refine ⟨b, l, rfl, by omega, by omega, Nat.lt_of_lt_of_le q3 hl.1, hl.cells q3 q4, q5, fun j hj => ?_⟩
  obtain ⟨bj, r1, r2, r3, r4, r5, zs, r6, r7⟩ := q6 j hj
  exact ⟨bj, r1, by omega, by omega, r4, Nat.lt_of_lt_of_le r5 hl.1, zs, r6, hl.cells r5 r7⟩
def IsCl (H : Heap) (x : AV) (n : Int) (xss : List (List Int)) : Prop := ∃ v, x = .agg [.int .i64 n, v] ∧ IsII H v xss
theorem IsCl.le {H H' : Heap} {x : AV} {n : Int} {xss : List (List Int)} (h : IsCl H x n xss) (hl : Le H H') : IsCl H' x n xss := by
  obtain ⟨v, h1, h2⟩ := h
  exact ⟨v, h1, h2.le hl⟩
end Go.M2

namespace Go.M2
open Go.Proofs
variable {H : Heap}
end Go.M2

namespace Go.M2
open Go.Proofs
variable {H : Heap}
def okAt (atoms : Int) (xs : List Int) (j : Nat) (h : j < xs.length) : Prop := litOk xs[j] atoms = true ∧ (0 < j → xs[j - 1].natAbs < xs[j].natAbs)
def ClOk (atoms : Int) (xs : List Int) : Prop := ∀ j (h : j < xs.length), okAt atoms xs j h
theorem litOk_iff {n atoms : Int} : litOk n atoms = true ↔ n ≠ 0 ∧ -atoms ≤ n ∧ n ≤ atoms := by simp [litOk]
theorem s_specClauseValid {v : AV} {xs : List Int} {atoms : Int} (hv : IsI H v xs) (hl : xs.length ≤ 1048576) (h0 : 0 ≤ atoms) (h1 : atoms ≤ 700) :
    ACall Try.prog n_spec_ClauseValid [v, .int .i64 atoms] H (fun r H' => H' = H ∧ ∃ b, r = .bool b ∧ (b = true ↔ ClOk atoms xs)) := by
  refine ACall.of fun R hR => a_spec_ClauseValid rfl ?_
  obtain ⟨A, c, ex, k, rfl, hr⟩ := hv.parts
  simp (maxSteps := 2000000) (disch := first | omega | assumption | exact idP rfl | exact idP (bL rfl) | (simp only [alloc_size, upd_size]; done) | (simp only [alloc_size, upd_size]; omega) | fail) only [go_sem, reduceIte, Nat.reduceEqDiff]
  refine wp_loop_k (fun e H' => H' = H ∧ ∃ (i : Nat), i ≤ xs.length ∧ e 0 = .sl A xs.length c ex k ∧ e 1 = .int .i64 atoms ∧ e 5 = .int .i64 (i : Int) ∧ ∀ j (h : j < xs.length), j < i → okAt atoms xs j h) (fun e _ => ctr xs.length (e 5)) ?_ ?_
  · exact ⟨rfl, 0, Nat.zero_le _, by simp (maxSteps := 2000000) (disch := first | omega | assumption | exact idP rfl | exact idP (bL rfl) | (simp only [alloc_size, upd_size]; done) | (simp only [alloc_size, upd_size]; omega) | fail) only [go_sem, reduceIte, Nat.reduceEqDiff], by simp (maxSteps := 2000000) (disch := first | omega | assumption | exact idP rfl | exact idP (bL rfl) | (simp only [alloc_size, upd_size]; done) | (simp only [alloc_size, upd_size]; omega) | fail) only [go_sem, reduceIte, Nat.reduceEqDiff], by simp (maxSteps := 2000000) (disch := first | omega | assumption | exact idP rfl | exact idP (bL rfl) | (simp only [alloc_size, upd_size]; done) | (simp only [alloc_size, upd_size]; omega) | fail) only [go_sem, reduceIte, Nat.reduceEqDiff]; rfl, fun j _ h => by omega⟩
  · rintro e H1 ⟨rfl, i, hi, e0, e1, e5, hj⟩ K hK
    simp (maxSteps := 2000000) (disch := first | omega | assumption | exact idP rfl | exact idP (bL rfl) | (simp only [alloc_size, upd_size]; done) | (simp only [alloc_size, upd_size]; omega) | fail) only [go_sem, reduceIte, Nat.reduceEqDiff, e0, e1, e5]
    refine condV_dec (fun h => ?_) (fun h => ?_)
    · have hi' : i < xs.length := by omega
      have hg := hr i hi'
      rw [Nat.mul_one] at hg
      simp (maxSteps := 2000000) (disch := first | omega | assumption | exact idP rfl | exact idP (bL rfl) | (simp only [alloc_size, upd_size]; done) | (simp only [alloc_size, upd_size]; omega) | fail) only [go_sem, reduceIte, Nat.reduceEqDiff, e0, e1, e5, hg]
      refine (s_l11Lit h0 h1).mono ?_
      rintro r H2 ⟨rfl, rfl⟩
      cases hlit : litOk xs[i] atoms with
      | false =>
        simp (maxSteps := 2000000) (disch := first | omega | assumption | exact idP rfl | exact idP (bL rfl) | (simp only [alloc_size, upd_size]; done) | (simp only [alloc_size, upd_size]; omega) | fail) only [go_sem, reduceIte, Nat.reduceEqDiff]
        refine hR _ _ ⟨rfl, false, rfl, ?_⟩
        simp only [Bool.false_eq_true, false_iff]
        intro hc
        have := (hc i hi').1
        rw [hlit] at this; cases this
      | true =>
        have hb := litOk_iff.1 hlit
        by_cases hi0 : i = 0
        · have hneg : ¬ (0 : Int) < (i : Int) := by omega
          simp (maxSteps := 2000000) (disch := first | omega | assumption | exact idP rfl | exact idP (bL rfl) | (simp only [alloc_size, upd_size]; done) | (simp only [alloc_size, upd_size]; omega) | fail) only [go_sem, reduceIte, Nat.reduceEqDiff, e0, e1, e5, hneg]
          refine hK _ _ ⟨rfl, i + 1, by omega, by simp (maxSteps := 2000000) (disch := first | omega | assumption | exact idP rfl | exact idP (bL rfl) | (simp only [alloc_size, upd_size]; done) | (simp only [alloc_size, upd_size]; omega) | fail) only [go_sem, reduceIte, Nat.reduceEqDiff, e0], by simp (maxSteps := 2000000) (disch := first | omega | assumption | exact idP rfl | exact idP (bL rfl) | (simp only [alloc_size, upd_size]; done) | (simp only [alloc_size, upd_size]; omega) | fail) only [go_sem, reduceIte, Nat.reduceEqDiff, e1], by simp (maxSteps := 2000000) (disch := first | omega | assumption | exact idP rfl | exact idP (bL rfl) | (simp only [alloc_size, upd_size]; done) | (simp only [alloc_size, upd_size]; omega) | fail) only [go_sem, reduceIte, Nat.reduceEqDiff]; rfl, fun j hj1 hj2 => ?_⟩ (by simp (maxSteps := 2000000) (disch := first | omega | assumption | exact idP rfl | exact idP (bL rfl) | (simp only [alloc_size, upd_size]; done) | (simp only [alloc_size, upd_size]; omega) | fail) only [go_sem, reduceIte, Nat.reduceEqDiff, ctr_int, e5]; omega)
          obtain rfl : j = i := by omega
          exact ⟨hlit, fun h => by omega⟩
        · have hpos : (0 : Int) < (i : Int) := by omega
          have hsub : ((i : Int) - 1).toNat = i - 1 := by omega
          have hg2 := hr (i - 1) (by omega)
          rw [Nat.mul_one] at hg2
          have hb2 := litOk_iff.1 (hj (i - 1) (by omega) (by omega)).1
          simp (maxSteps := 2000000) (disch := first | omega | assumption | exact idP rfl | exact idP (bL rfl) | (simp only [alloc_size, upd_size]; done) | (simp only [alloc_size, upd_size]; omega) | fail) only [go_sem, reduceIte, Nat.reduceEqDiff, e0, e1, e5, hpos, hg, hsub, hg2]
          refine (s_l11Abs (n := xs[i]) (by omega) (by omega)).mono ?_
          rintro r H2 ⟨rfl, rfl⟩
          simp (maxSteps := 2000000) (disch := first | omega | assumption | exact idP rfl | exact idP (bL rfl) | (simp only [alloc_size, upd_size]; done) | (simp only [alloc_size, upd_size]; omega) | fail) only [go_sem, reduceIte, Nat.reduceEqDiff, e0, e1, e5, hsub, hg2]
          refine (s_l11Abs (n := xs[i - 1]) (by omega) (by omega)).mono ?_
          rintro r H2 ⟨rfl, rfl⟩
          simp (maxSteps := 2000000) (disch := first | omega | assumption | exact idP rfl | exact idP (bL rfl) | (simp only [alloc_size, upd_size]; done) | (simp only [alloc_size, upd_size]; omega) | fail) only [go_sem, reduceIte, Nat.reduceEqDiff, e0, e1, e5]
          refine condV_dec (fun h3 => ?_) (fun h3 => ?_)
          · simp (maxSteps := 2000000) (disch := first | omega | assumption | exact idP rfl | exact idP (bL rfl) | (simp only [alloc_size, upd_size]; done) | (simp only [alloc_size, upd_size]; omega) | fail) only [go_sem, reduceIte, Nat.reduceEqDiff]
            refine hR _ _ ⟨rfl, false, rfl, ?_⟩
            simp only [Bool.false_eq_true, false_iff]
            intro hc
            have := (hc i hi').2 (by omega)
            omega
          · simp (maxSteps := 2000000) (disch := first | omega | assumption | exact idP rfl | exact idP (bL rfl) | (simp only [alloc_size, upd_size]; done) | (simp only [alloc_size, upd_size]; omega) | fail) only [go_sem, reduceIte, Nat.reduceEqDiff, e0, e1, e5]
            refine hK _ _ ⟨rfl, i + 1, by omega, by simp (maxSteps := 2000000) (disch := first | omega | assumption | exact idP rfl | exact idP (bL rfl) | (simp only [alloc_size, upd_size]; done) | (simp only [alloc_size, upd_size]; omega) | fail) only [go_sem, reduceIte, Nat.reduceEqDiff, e0], by simp (maxSteps := 2000000) (disch := first | omega | assumption | exact idP rfl | exact idP (bL rfl) | (simp only [alloc_size, upd_size]; done) | (simp only [alloc_size, upd_size]; omega) | fail) only [go_sem, reduceIte, Nat.reduceEqDiff, e1], by simp (maxSteps := 2000000) (disch := first | omega | assumption | exact idP rfl | exact idP (bL rfl) | (simp only [alloc_size, upd_size]; done) | (simp only [alloc_size, upd_size]; omega) | fail) only [go_sem, reduceIte, Nat.reduceEqDiff]; rfl, fun j hj1 hj2 => ?_⟩ (by simp (maxSteps := 2000000) (disch := first | omega | assumption | exact idP rfl | exact idP (bL rfl) | (simp only [alloc_size, upd_size]; done) | (simp only [alloc_size, upd_size]; omega) | fail) only [go_sem, reduceIte, Nat.reduceEqDiff, ctr_int, e5]; omega)
            by_cases hji : j = i
            · subst hji; exact ⟨hlit, fun _ => by omega⟩
            · exact hj j hj1 (by omega)
    · simp (maxSteps := 2000000) (disch := first | omega | assumption | exact idP rfl | exact idP (bL rfl) | (simp only [alloc_size, upd_size]; done) | (simp only [alloc_size, upd_size]; omega) | fail) only [go_sem, reduceIte, Nat.reduceEqDiff, e1]
      refine s_l1In.mono ?_
      rintro r H2 ⟨rfl, rfl⟩
      simp (maxSteps := 2000000) (disch := first | omega | assumption | exact idP rfl | exact idP (bL rfl) | (simp only [alloc_size, upd_size]; done) | (simp only [alloc_size, upd_size]; omega) | fail) only [go_sem, reduceIte, Nat.reduceEqDiff]
      refine hR _ _ ⟨rfl, _, rfl, ?_⟩
      simp only [decide_eq_true_eq]
      exact ⟨fun _ j hj1 => hj j hj1 (by omega), fun _ => by omega⟩
end Go.M2

namespace Go.M2
open Go.Proofs
variable {H : Heap}
theorem s_implClauseValid {v : AV} {xs : List Int} {atoms : Int} (hv : IsI H v xs) (hl : xs.length ≤ 1048576) (h0 : 0 ≤ atoms) (h1 : atoms ≤ 700) :
    ACall Try.prog n_impl_ClauseValid [v, .int .i64 atoms] H (fun r H' => H' = H ∧ ∃ b, r = .bool b ∧ (b = true ↔ ClOk atoms xs)) := by
  refine ACall.of fun R hR => a_impl_ClauseValid rfl ?_
  obtain ⟨A, c, ex, k, rfl, hr⟩ := hv.parts
  simp (maxSteps := 2000000) (disch := first | omega | assumption | exact idP rfl | exact idP (bL rfl) | (simp only [alloc_size, upd_size]; done) | (simp only [alloc_size, upd_size]; omega) | fail) only [go_sem, reduceIte, Nat.reduceEqDiff]
  refine s_in.mono ?_
  rintro r H1 ⟨rfl, rfl⟩
  have ha : (0 : Int) ≤ atoms ∧ atoms ≤ 700 := ⟨h0, h1⟩
  simp (maxSteps := 2000000) (disch := first | omega | assumption | exact idP rfl | exact idP (bL rfl) | (simp only [alloc_size, upd_size]; done) | (simp only [alloc_size, upd_size]; omega) | fail) only [go_sem, reduceIte, Nat.reduceEqDiff, ha]
  refine wp_loop_k (fun e H' => H' = H1 ∧ ∃ (i : Nat), i ≤ xs.length ∧ e 0 = .sl A xs.length c ex k ∧ e 10 = .sl A xs.length c ex k ∧ e 11 = .int .i64 (xs.length : Int) ∧ e 1 = .int .i64 atoms ∧ e 12 = .int .i64 (i : Int) ∧ ∀ j (h : j < xs.length), j < i → okAt atoms xs j h) (fun e _ => ctr xs.length (e 12)) ?_ ?_
  · exact ⟨rfl, 0, Nat.zero_le _, by simp (maxSteps := 2000000) (disch := first | omega | assumption | exact idP rfl | exact idP (bL rfl) | (simp only [alloc_size, upd_size]; done) | (simp only [alloc_size, upd_size]; omega) | fail) only [go_sem, reduceIte, Nat.reduceEqDiff], by simp (maxSteps := 2000000) (disch := first | omega | assumption | exact idP rfl | exact idP (bL rfl) | (simp only [alloc_size, upd_size]; done) | (simp only [alloc_size, upd_size]; omega) | fail) only [go_sem, reduceIte, Nat.reduceEqDiff], by simp (maxSteps := 2000000) (disch := first | omega | assumption | exact idP rfl | exact idP (bL rfl) | (simp only [alloc_size, upd_size]; done) | (simp only [alloc_size, upd_size]; omega) | fail) only [go_sem, reduceIte, Nat.reduceEqDiff], by simp (maxSteps := 2000000) (disch := first | omega | assumption | exact idP rfl | exact idP (bL rfl) | (simp only [alloc_size, upd_size]; done) | (simp only [alloc_size, upd_size]; omega) | fail) only [go_sem, reduceIte, Nat.reduceEqDiff], by simp (maxSteps := 2000000) (disch := first | omega | assumption | exact idP rfl | exact idP (bL rfl) | (simp only [alloc_size, upd_size]; done) | (simp only [alloc_size, upd_size]; omega) | fail) only [go_sem, reduceIte, Nat.reduceEqDiff]; rfl, fun j _ h => by omega⟩
  · rintro e H2 ⟨rfl, i, hi, e0, e10, e11, e1, e12, hj⟩ K hK
    simp (maxSteps := 2000000) (disch := first | omega | assumption | exact idP rfl | exact idP (bL rfl) | (simp only [alloc_size, upd_size]; done) | (simp only [alloc_size, upd_size]; omega) | fail) only [go_sem, reduceIte, Nat.reduceEqDiff, e0, e10, e11, e12, e1]
    refine condV_dec (fun h => ?_) (fun h => ?_)
    · have hi' : i < xs.length := by omega
      have hg := hr i hi'
      rw [Nat.mul_one] at hg
      simp (maxSteps := 2000000) (disch := first | omega | assumption | exact idP rfl | exact idP (bL rfl) | (simp only [alloc_size, upd_size]; done) | (simp only [alloc_size, upd_size]; omega) | fail) only [go_sem, reduceIte, Nat.reduceEqDiff, e0, e10, e11, e12, e1, hg]
      refine s_in.mono ?_
      rintro r H3 ⟨rfl, rfl⟩
      have bad : ∀ b : Bool, b = false → litOk xs[i] atoms = false → H3 = H3 ∧ ∃ b', AV.bool b = .bool b' ∧ (b' = true ↔ ClOk atoms xs) := by
        rintro b rfl hlit
        refine ⟨rfl, false, rfl, ?_⟩
        simp only [Bool.false_eq_true, false_iff]
        intro hc
        have := (hc i hi').1
        rw [hlit] at this; cases this
      by_cases hin : 0 - atoms ≤ xs[i] ∧ xs[i] ≤ atoms
      · simp (maxSteps := 2000000) (disch := first | omega | assumption | exact idP rfl | exact idP (bL rfl) | (simp only [alloc_size, upd_size]; done) | (simp only [alloc_size, upd_size]; omega) | fail) only [go_sem, reduceIte, Nat.reduceEqDiff, hin]
        by_cases hz : xs[i] = 0
        · simp (maxSteps := 2000000) (disch := first | omega | assumption | exact idP rfl | exact idP (bL rfl) | (simp only [alloc_size, upd_size]; done) | (simp only [alloc_size, upd_size]; omega) | fail) only [go_sem, reduceIte, Nat.reduceEqDiff, hz, hin]
          refine hR _ _ (bad false rfl ?_)
          simp [litOk, hz]
        · have hlit : litOk xs[i] atoms = true := litOk_iff.2 ⟨hz, by omega, hin.2⟩
          by_cases hi0 : i = 0
          · have hneg : ¬ (0 : Int) < (i : Int) := by omega
            simp (maxSteps := 2000000) (disch := first | omega | assumption | exact idP rfl | exact idP (bL rfl) | (simp only [alloc_size, upd_size]; done) | (simp only [alloc_size, upd_size]; omega) | fail) only [go_sem, reduceIte, Nat.reduceEqDiff, e0, e10, e11, e12, e1, hz, hneg]
            refine hK _ _ ⟨rfl, i + 1, by omega, by simp (maxSteps := 2000000) (disch := first | omega | assumption | exact idP rfl | exact idP (bL rfl) | (simp only [alloc_size, upd_size]; done) | (simp only [alloc_size, upd_size]; omega) | fail) only [go_sem, reduceIte, Nat.reduceEqDiff, e0], by simp (maxSteps := 2000000) (disch := first | omega | assumption | exact idP rfl | exact idP (bL rfl) | (simp only [alloc_size, upd_size]; done) | (simp only [alloc_size, upd_size]; omega) | fail) only [go_sem, reduceIte, Nat.reduceEqDiff, e10], by simp (maxSteps := 2000000) (disch := first | omega | assumption | exact idP rfl | exact idP (bL rfl) | (simp only [alloc_size, upd_size]; done) | (simp only [alloc_size, upd_size]; omega) | fail) only [go_sem, reduceIte, Nat.reduceEqDiff, e11], by simp (maxSteps := 2000000) (disch := first | omega | assumption | exact idP rfl | exact idP (bL rfl) | (simp only [alloc_size, upd_size]; done) | (simp only [alloc_size, upd_size]; omega) | fail) only [go_sem, reduceIte, Nat.reduceEqDiff, e1], by simp (maxSteps := 2000000) (disch := first | omega | assumption | exact idP rfl | exact idP (bL rfl) | (simp only [alloc_size, upd_size]; done) | (simp only [alloc_size, upd_size]; omega) | fail) only [go_sem, reduceIte, Nat.reduceEqDiff]; rfl, fun j hj1 hj2 => ?_⟩ (by simp (maxSteps := 2000000) (disch := first | omega | assumption | exact idP rfl | exact idP (bL rfl) | (simp only [alloc_size, upd_size]; done) | (simp only [alloc_size, upd_size]; omega) | fail) only [go_sem, reduceIte, Nat.reduceEqDiff, ctr_int, e12]; omega)
            obtain rfl : j = i := by omega
            exact ⟨hlit, fun h => by omega⟩
          · have hpos : (0 : Int) < (i : Int) := by omega
            have hsub : ((i : Int) - 1).toNat = i - 1 := by omega
            have hg2 := hr (i - 1) (by omega)
            rw [Nat.mul_one] at hg2
            have hb2 := litOk_iff.1 (hj (i - 1) (by omega) (by omega)).1
            simp (maxSteps := 2000000) (disch := first | omega | assumption | exact idP rfl | exact idP (bL rfl) | (simp only [alloc_size, upd_size]; done) | (simp only [alloc_size, upd_size]; omega) | fail) only [go_sem, reduceIte, Nat.reduceEqDiff, e0, e10, e11, e12, e1, hz, hpos, hsub, hg2]
            refine (s_atomOf (n := xs[i - 1]) (by omega) (by omega)).mono ?_
            rintro r H4 ⟨rfl, rfl⟩
            simp (maxSteps := 2000000) (disch := first | omega | assumption | exact idP rfl | exact idP (bL rfl) | (simp only [alloc_size, upd_size]; done) | (simp only [alloc_size, upd_size]; omega) | fail) only [go_sem, reduceIte, Nat.reduceEqDiff, e0, e10, e11, e12, e1]
            refine (s_atomOf (n := xs[i]) (by omega) (by omega)).mono ?_
            rintro r H5 ⟨rfl, rfl⟩
            simp (maxSteps := 2000000) (disch := first | omega | assumption | exact idP rfl | exact idP (bL rfl) | (simp only [alloc_size, upd_size]; done) | (simp only [alloc_size, upd_size]; omega) | fail) only [go_sem, reduceIte, Nat.reduceEqDiff, e0, e10, e11, e12, e1]
            refine condV_dec (fun h3 => ?_) (fun h3 => ?_)
            · simp (maxSteps := 2000000) (disch := first | omega | assumption | exact idP rfl | exact idP (bL rfl) | (simp only [alloc_size, upd_size]; done) | (simp only [alloc_size, upd_size]; omega) | fail) only [go_sem, reduceIte, Nat.reduceEqDiff]
              refine hR _ _ ⟨rfl, false, rfl, ?_⟩
              simp only [Bool.false_eq_true, false_iff]
              intro hc
              have := (hc i hi').2 (by omega)
              omega
            · simp (maxSteps := 2000000) (disch := first | omega | assumption | exact idP rfl | exact idP (bL rfl) | (simp only [alloc_size, upd_size]; done) | (simp only [alloc_size, upd_size]; omega) | fail) only [go_sem, reduceIte, Nat.reduceEqDiff, e0, e10, e11, e12, e1]
              refine hK _ _ ⟨rfl, i + 1, by omega, by simp (maxSteps := 2000000) (disch := first | omega | assumption | exact idP rfl | exact idP (bL rfl) | (simp only [alloc_size, upd_size]; done) | (simp only [alloc_size, upd_size]; omega) | fail) only [go_sem, reduceIte, Nat.reduceEqDiff, e0], by simp (maxSteps := 2000000) (disch := first | omega | assumption | exact idP rfl | exact idP (bL rfl) | (simp only [alloc_size, upd_size]; done) | (simp only [alloc_size, upd_size]; omega) | fail) only [go_sem, reduceIte, Nat.reduceEqDiff, e10], by simp (maxSteps := 2000000) (disch := first | omega | assumption | exact idP rfl | exact idP (bL rfl) | (simp only [alloc_size, upd_size]; done) | (simp only [alloc_size, upd_size]; omega) | fail) only [go_sem, reduceIte, Nat.reduceEqDiff, e11], by simp (maxSteps := 2000000) (disch := first | omega | assumption | exact idP rfl | exact idP (bL rfl) | (simp only [alloc_size, upd_size]; done) | (simp only [alloc_size, upd_size]; omega) | fail) only [go_sem, reduceIte, Nat.reduceEqDiff, e1], by simp (maxSteps := 2000000) (disch := first | omega | assumption | exact idP rfl | exact idP (bL rfl) | (simp only [alloc_size, upd_size]; done) | (simp only [alloc_size, upd_size]; omega) | fail) only [go_sem, reduceIte, Nat.reduceEqDiff]; rfl, fun j hj1 hj2 => ?_⟩ (by simp (maxSteps := 2000000) (disch := first | omega | assumption | exact idP rfl | exact idP (bL rfl) | (simp only [alloc_size, upd_size]; done) | (simp only [alloc_size, upd_size]; omega) | fail) only [go_sem, reduceIte, Nat.reduceEqDiff, ctr_int, e12]; omega)
              by_cases hji : j = i
              · subst hji; exact ⟨hlit, fun _ => by omega⟩
              · exact hj j hj1 (by omega)
      · simp (maxSteps := 2000000) (disch := first | omega | assumption | exact idP rfl | exact idP (bL rfl) | (simp only [alloc_size, upd_size]; done) | (simp only [alloc_size, upd_size]; omega) | fail) only [go_sem, reduceIte, Nat.reduceEqDiff, hin]
        refine hR _ _ (bad false rfl ?_)
        cases hl : litOk xs[i] atoms with
        | false => rfl
        | true => have := (litOk_iff.1 hl).2; exact absurd ⟨by omega, this.2⟩ hin
    · simp (maxSteps := 2000000) (disch := first | omega | assumption | exact idP rfl | exact idP (bL rfl) | (simp only [alloc_size, upd_size]; done) | (simp only [alloc_size, upd_size]; omega) | fail) only [go_sem, reduceIte, Nat.reduceEqDiff]
      exact hR _ _ ⟨rfl, true, rfl, by simp only [true_iff]; exact fun j hj1 => hj j hj1 (by omega)⟩
structure ClsOk (n : Int) (xss : List (List Int)) : Prop where
  lo : 0 ≤ n
  hi : n ≤ 700
  few : xss.length ≤ 2500
  all : ∀ xs ∈ xss, ClOk n xs
theorem s_specClausesValid {x : AV} {n : Int} {xss : List (List Int)} (hx : IsCl H x n xss) (h0 : xss.length ≤ 1048576) (hl : ∀ xs ∈ xss, xs.length ≤ 1048576) :
    ACall Try.prog n_spec_ClausesValid [x] H (fun r H' => Le H H' ∧ ∃ b, r = .bool b ∧ (b = true ↔ ClsOk n xss)) := by
  refine ACall.of fun R hR => a_spec_ClausesValid rfl ?_
  obtain ⟨v, rfl, hv⟩ := hx
  obtain ⟨A, c, ex, k, rfl, hr⟩ := hv.parts
  simp (maxSteps := 2000000) (disch := first | omega | assumption | exact idP rfl | exact idP (bL rfl) | (simp only [alloc_size, upd_size]; done) | (simp only [alloc_size, upd_size]; omega) | fail) only [go_sem, reduceIte, Nat.reduceEqDiff]
  refine s_l1In.mono ?_
  rintro r H1 ⟨rfl, rfl⟩
  have no : ¬ ClsOk n xss → R (.bool false) (H.alloc [.int .i64 n, .sl A xss.length c ex k]) := fun h => hR _ _ ⟨Le.alloc _ _, false, rfl, by simp only [Bool.false_eq_true, false_iff]; exact h⟩
  by_cases hin : (0 : Int) ≤ n ∧ n ≤ 700
  · simp (maxSteps := 2000000) (disch := first | omega | assumption | exact idP rfl | exact idP (bL rfl) | (simp only [alloc_size, upd_size]; done) | (simp only [alloc_size, upd_size]; omega) | fail) only [go_sem, reduceIte, Nat.reduceEqDiff, hin]
    refine condV_dec (fun h => ?_) (fun h => ?_)
    · simp (maxSteps := 2000000) (disch := first | omega | assumption | exact idP rfl | exact idP (bL rfl) | (simp only [alloc_size, upd_size]; done) | (simp only [alloc_size, upd_size]; omega) | fail) only [go_sem, reduceIte, Nat.reduceEqDiff]
      exact no fun hc => by have := hc.few; omega
    · simp (maxSteps := 2000000) (disch := first | omega | assumption | exact idP rfl | exact idP (bL rfl) | (simp only [alloc_size, upd_size]; done) | (simp only [alloc_size, upd_size]; omega) | fail) only [go_sem, reduceIte, Nat.reduceEqDiff]
      refine wp_loop_k (fun e H' => H' = H.alloc [.int .i64 n, .sl A xss.length c ex k] ∧ ∃ (i : Nat), i ≤ xss.length ∧ e 1 = .ptr (some (H.size, 0)) ∧ e 3 = .int .i64 (i : Int) ∧ ∀ j (h : j < xss.length), j < i → ClOk n xss[j]) (fun e _ => ctr xss.length (e 3)) ?_ ?_
      · exact ⟨rfl, 0, Nat.zero_le _, by simp (maxSteps := 2000000) (disch := first | omega | assumption | exact idP rfl | exact idP (bL rfl) | (simp only [alloc_size, upd_size]; done) | (simp only [alloc_size, upd_size]; omega) | fail) only [go_sem, reduceIte, Nat.reduceEqDiff], by simp (maxSteps := 2000000) (disch := first | omega | assumption | exact idP rfl | exact idP (bL rfl) | (simp only [alloc_size, upd_size]; done) | (simp only [alloc_size, upd_size]; omega) | fail) only [go_sem, reduceIte, Nat.reduceEqDiff]; rfl, fun j _ h => by omega⟩
      · rintro e H2 ⟨rfl, i, hi, e1, e3, hj⟩ K hK
        simp (maxSteps := 2000000) (disch := first | omega | assumption | exact idP rfl | exact idP (bL rfl) | (simp only [alloc_size, upd_size]; done) | (simp only [alloc_size, upd_size]; omega) | fail) only [go_sem, reduceIte, Nat.reduceEqDiff, e1, e3]
        refine condV_dec (fun h => ?_) (fun h => ?_)
        · have hi' : i < xss.length := by omega
          obtain ⟨u, hg, hu⟩ := hr i hi'
          rw [Nat.mul_one] at hg
          have hg' := (Le.alloc H [.int .i64 n, .sl A xss.length c ex k]).get hg
          simp (maxSteps := 2000000) (disch := first | omega | assumption | exact idP rfl | exact idP (bL rfl) | (simp only [alloc_size, upd_size]; done) | (simp only [alloc_size, upd_size]; omega) | fail) only [go_sem, reduceIte, Nat.reduceEqDiff, e1, e3, hg']
          refine (s_specClauseValid (hu.le (Le.alloc _ _)) (hl _ (List.getElem_mem _)) hin.1 hin.2).mono ?_
          rintro r H3 ⟨rfl, b, rfl, hb⟩
          cases b with
          | false =>
            simp (maxSteps := 2000000) (disch := first | omega | assumption | exact idP rfl | exact idP (bL rfl) | (simp only [alloc_size, upd_size]; done) | (simp only [alloc_size, upd_size]; omega) | fail) only [go_sem, reduceIte, Nat.reduceEqDiff]
            exact no fun hc => by have := hb.2 (hc.all _ (List.getElem_mem hi')); cases this
          | true =>
            simp (maxSteps := 2000000) (disch := first | omega | assumption | exact idP rfl | exact idP (bL rfl) | (simp only [alloc_size, upd_size]; done) | (simp only [alloc_size, upd_size]; omega) | fail) only [go_sem, reduceIte, Nat.reduceEqDiff, e1, e3]
            refine hK _ _ ⟨rfl, i + 1, by omega, by simp (maxSteps := 2000000) (disch := first | omega | assumption | exact idP rfl | exact idP (bL rfl) | (simp only [alloc_size, upd_size]; done) | (simp only [alloc_size, upd_size]; omega) | fail) only [go_sem, reduceIte, Nat.reduceEqDiff, e1], by simp (maxSteps := 2000000) (disch := first | omega | assumption | exact idP rfl | exact idP (bL rfl) | (simp only [alloc_size, upd_size]; done) | (simp only [alloc_size, upd_size]; omega) | fail) only [go_sem, reduceIte, Nat.reduceEqDiff]; rfl, fun j hj1 hj2 => ?_⟩ (by simp (maxSteps := 2000000) (disch := first | omega | assumption | exact idP rfl | exact idP (bL rfl) | (simp only [alloc_size, upd_size]; done) | (simp only [alloc_size, upd_size]; omega) | fail) only [go_sem, reduceIte, Nat.reduceEqDiff, ctr_int, e3]; omega)
            by_cases hji : j = i
            · subst hji; exact hb.1 rfl
            · exact hj j hj1 (by omega)
        · simp (maxSteps := 2000000) (disch := first | omega | assumption | exact idP rfl | exact idP (bL rfl) | (simp only [alloc_size, upd_size]; done) | (simp only [alloc_size, upd_size]; omega) | fail) only [go_sem, reduceIte, Nat.reduceEqDiff]
          refine hR _ _ ⟨Le.alloc _ _, true, rfl, ?_⟩
          simp only [true_iff]
          refine ⟨hin.1, hin.2, by omega, fun xs hxs => ?_⟩
          obtain ⟨j, hj1, rfl⟩ := List.getElem_of_mem hxs
          exact hj j hj1 (by omega)
  · simp (maxSteps := 2000000) (disch := first | omega | assumption | exact idP rfl | exact idP (bL rfl) | (simp only [alloc_size, upd_size]; done) | (simp only [alloc_size, upd_size]; omega) | fail) only [go_sem, reduceIte, Nat.reduceEqDiff, hin]
    exact no fun hc => hin ⟨hc.lo, hc.hi⟩
end Go.M2

namespace Go.M2
open Go.Proofs
variable {H : Heap}
theorem s_IndexFuncSS {A : AA} {n c k f : Nat} {ex : Bool} {caps : List AV} {p : (i : Nat) → i < n → Prop} (hn : n ≤ 1048576)
    (hr : ∀ i (h : i < n), ∃ u, H.get A.b (A.o + i) = some u ∧ ∀ H', Le H H' → ACall Try.prog f (u :: caps) H' (fun r H2 => Le H' H2 ∧ ∃ b, r = .bool b ∧ (b = true ↔ p i h))) :
    ACall Try.prog n_slices_IndexFunc_SSint_Sint [.sl A n c ex k, .fn f caps] H (fun r H' => Le H H' ∧ ∃ j : Int, r = .int .i64 j ∧ (0 ≤ j ↔ ∃ i h, p i h)) := by
  refine ACall.of fun R hR => a_slices_IndexFunc_SSint_Sint rfl ?_
  simp (maxSteps := 2000000) (disch := first | omega | assumption | exact idP rfl | exact idP (bL rfl) | (simp only [alloc_size, upd_size]; done) | (simp only [alloc_size, upd_size]; omega) | fail) only [go_sem, reduceIte, Nat.reduceEqDiff]
  refine wp_loop_k (fun e H' => Le H H' ∧ ∃ (i : Nat), i ≤ n ∧ e 0 = .sl A n c ex k ∧ e 1 = .fn f caps ∧ e 7 = .int .i64 (n : Int) ∧ e 8 = .int .i64 (i : Int) ∧ ∀ j (h : j < n), j < i → ¬ p j h) (fun e _ => ctr n (e 8)) ?_ ?_
  · exact ⟨Le.refl _, 0, Nat.zero_le _, by simp (maxSteps := 2000000) (disch := first | omega | assumption | exact idP rfl | exact idP (bL rfl) | (simp only [alloc_size, upd_size]; done) | (simp only [alloc_size, upd_size]; omega) | fail) only [go_sem, reduceIte, Nat.reduceEqDiff], by simp (maxSteps := 2000000) (disch := first | omega | assumption | exact idP rfl | exact idP (bL rfl) | (simp only [alloc_size, upd_size]; done) | (simp only [alloc_size, upd_size]; omega) | fail) only [go_sem, reduceIte, Nat.reduceEqDiff], by simp (maxSteps := 2000000) (disch := first | omega | assumption | exact idP rfl | exact idP (bL rfl) | (simp only [alloc_size, upd_size]; done) | (simp only [alloc_size, upd_size]; omega) | fail) only [go_sem, reduceIte, Nat.reduceEqDiff], by simp (maxSteps := 2000000) (disch := first | omega | assumption | exact idP rfl | exact idP (bL rfl) | (simp only [alloc_size, upd_size]; done) | (simp only [alloc_size, upd_size]; omega) | fail) only [go_sem, reduceIte, Nat.reduceEqDiff]; rfl, fun j _ h => by omega⟩
  · rintro e H1 ⟨hle, i, hi, e0, e1, e7, e8, hj⟩ K hK
    simp (maxSteps := 2000000) (disch := first | omega | assumption | exact idP rfl | exact idP (bL rfl) | (simp only [alloc_size, upd_size]; done) | (simp only [alloc_size, upd_size]; omega) | fail) only [go_sem, reduceIte, Nat.reduceEqDiff, e0, e1, e7, e8]
    refine condV_dec (fun h => ?_) (fun h => ?_)
    · have hi' : i < n := by omega
      obtain ⟨u, hg, hu⟩ := hr i hi'
      have hg' := hle.get hg
      simp (maxSteps := 2000000) (disch := first | omega | assumption | exact idP rfl | exact idP (bL rfl) | (simp only [alloc_size, upd_size]; done) | (simp only [alloc_size, upd_size]; omega) | fail) only [go_sem, reduceIte, Nat.reduceEqDiff, e0, e1, e7, e8, hg']
      refine (hu H1 hle).mono ?_
      rintro r H2 ⟨hle2, b, rfl, hb⟩
      cases b with
      | true =>
        simp (maxSteps := 2000000) (disch := first | omega | assumption | exact idP rfl | exact idP (bL rfl) | (simp only [alloc_size, upd_size]; done) | (simp only [alloc_size, upd_size]; omega) | fail) only [go_sem, reduceIte, Nat.reduceEqDiff, e0, e1, e7, e8]
        exact hR _ _ ⟨hle.trans hle2, i, rfl, ⟨fun _ => ⟨i, hi', hb.1 rfl⟩, fun _ => by omega⟩⟩
      | false =>
        simp (maxSteps := 2000000) (disch := first | omega | assumption | exact idP rfl | exact idP (bL rfl) | (simp only [alloc_size, upd_size]; done) | (simp only [alloc_size, upd_size]; omega) | fail) only [go_sem, reduceIte, Nat.reduceEqDiff, e0, e1, e7, e8]
        refine hK _ _ ⟨hle.trans hle2, i + 1, by omega, by simp (maxSteps := 2000000) (disch := first | omega | assumption | exact idP rfl | exact idP (bL rfl) | (simp only [alloc_size, upd_size]; done) | (simp only [alloc_size, upd_size]; omega) | fail) only [go_sem, reduceIte, Nat.reduceEqDiff, e0], by simp (maxSteps := 2000000) (disch := first | omega | assumption | exact idP rfl | exact idP (bL rfl) | (simp only [alloc_size, upd_size]; done) | (simp only [alloc_size, upd_size]; omega) | fail) only [go_sem, reduceIte, Nat.reduceEqDiff, e1], by simp (maxSteps := 2000000) (disch := first | omega | assumption | exact idP rfl | exact idP (bL rfl) | (simp only [alloc_size, upd_size]; done) | (simp only [alloc_size, upd_size]; omega) | fail) only [go_sem, reduceIte, Nat.reduceEqDiff, e7], by simp (maxSteps := 2000000) (disch := first | omega | assumption | exact idP rfl | exact idP (bL rfl) | (simp only [alloc_size, upd_size]; done) | (simp only [alloc_size, upd_size]; omega) | fail) only [go_sem, reduceIte, Nat.reduceEqDiff]; rfl, fun j hj1 hj2 => ?_⟩ (by simp (maxSteps := 2000000) (disch := first | omega | assumption | exact idP rfl | exact idP (bL rfl) | (simp only [alloc_size, upd_size]; done) | (simp only [alloc_size, upd_size]; omega) | fail) only [go_sem, reduceIte, Nat.reduceEqDiff, ctr_int, e8]; omega)
        by_cases hji : j = i
        · subst hji; intro hp; have := hb.2 hp; cases this
        · exact hj j hj1 (by omega)
    · simp (maxSteps := 2000000) (disch := first | omega | assumption | exact idP rfl | exact idP (bL rfl) | (simp only [alloc_size, upd_size]; done) | (simp only [alloc_size, upd_size]; omega) | fail) only [go_sem, reduceIte, Nat.reduceEqDiff]
      refine hR _ _ ⟨hle, -1, rfl, ⟨fun h => by omega, fun ⟨j, hj1, hp⟩ => absurd hp (hj j hj1 (by omega))⟩⟩
theorem s_ContainsFuncSS {A : AA} {n c k f : Nat} {ex : Bool} {caps : List AV} {p : (i : Nat) → i < n → Prop} (hn : n ≤ 1048576)
    (hr : ∀ i (h : i < n), ∃ u, H.get A.b (A.o + i) = some u ∧ ∀ H', Le H H' → ACall Try.prog f (u :: caps) H' (fun r H2 => Le H' H2 ∧ ∃ b, r = .bool b ∧ (b = true ↔ p i h))) :
    ACall Try.prog n_slices_ContainsFunc_SSint_Sint [.sl A n c ex k, .fn f caps] H (fun r H' => Le H H' ∧ ∃ b : Bool, r = .bool b ∧ (b = true ↔ ∃ i h, p i h)) := by
  refine ACall.of fun R hR => a_slices_ContainsFunc_SSint_Sint rfl ?_
  simp (maxSteps := 2000000) (disch := first | omega | assumption | exact idP rfl | exact idP (bL rfl) | (simp only [alloc_size, upd_size]; done) | (simp only [alloc_size, upd_size]; omega) | fail) only [go_sem, reduceIte, Nat.reduceEqDiff]
  refine (s_IndexFuncSS hn hr).mono ?_
  rintro r H1 ⟨hle, j, rfl, hj⟩
  simp (maxSteps := 2000000) (disch := first | omega | assumption | exact idP rfl | exact idP (bL rfl) | (simp only [alloc_size, upd_size]; done) | (simp only [alloc_size, upd_size]; omega) | fail) only [go_sem, reduceIte, Nat.reduceEqDiff]
  exact hR _ _ ⟨hle, _, rfl, by simpa using hj⟩
theorem s_implClausesValid {x : AV} {n : Int} {xss : List (List Int)} (hx : IsCl H x n xss) (h0 : xss.length ≤ 1048576) (hl : ∀ xs ∈ xss, xs.length ≤ 1048576) :
    ACall Try.prog n_impl_ClausesValid [x] H (fun r H' => Le H H' ∧ ∃ b, r = .bool b ∧ (b = true ↔ ClsOk n xss)) := by
  refine ACall.of fun R hR => a_impl_ClausesValid rfl ?_
  obtain ⟨v, rfl, hv⟩ := hx
  obtain ⟨A, c, ex, k, rfl, hr⟩ := hv.parts
  simp (maxSteps := 2000000) (disch := first | omega | assumption | exact idP rfl | exact idP (bL rfl) | (simp only [alloc_size, upd_size]; done) | (simp only [alloc_size, upd_size]; omega) | fail) only [go_sem, reduceIte, Nat.reduceEqDiff]
  refine s_in.mono ?_
  rintro r H1 ⟨rfl, rfl⟩
  have no : ¬ ClsOk n xss → R (.bool false) (H.alloc [.int .i64 n, .sl A xss.length c ex k]) := fun h => hR _ _ ⟨Le.alloc _ _, false, rfl, by simp only [Bool.false_eq_true, false_iff]; exact h⟩
  by_cases hin : (0 : Int) ≤ n ∧ n ≤ 700
  · by_cases h25 : (xss.length : Int) ≤ 2500
    · simp (maxSteps := 2000000) (disch := first | omega | assumption | exact idP rfl | exact idP (bL rfl) | (simp only [alloc_size, upd_size]; done) | (simp only [alloc_size, upd_size]; omega) | fail) only [go_sem, reduceIte, Nat.reduceEqDiff, hin, h25]
      refine (s_ContainsFuncSS (p := fun i h => ¬ ClOk n xss[i]) h0 fun i hi => ?_).mono ?_
      · obtain ⟨u, hg, hu⟩ := hr i hi
        rw [Nat.mul_one] at hg
        refine ⟨u, (Le.alloc _ _).get hg, fun H' hle => ?_⟩
        refine ACall.of fun R' hR' => a_impl_ClausesValid_1 rfl ?_
        have hg2 : H'.get H.size 0 = some (.int .i64 n) := hle.get (by simp (maxSteps := 2000000) (disch := first | omega | assumption | exact idP rfl | exact idP (bL rfl) | (simp only [alloc_size, upd_size]; done) | (simp only [alloc_size, upd_size]; omega) | fail) only [go_sem, reduceIte, Nat.reduceEqDiff])
        simp (maxSteps := 2000000) (disch := first | omega | assumption | exact idP rfl | exact idP (bL rfl) | (simp only [alloc_size, upd_size]; done) | (simp only [alloc_size, upd_size]; omega) | fail) only [go_sem, reduceIte, Nat.reduceEqDiff, hg2]
        refine (s_implClauseValid (hu.le ((Le.alloc _ _).trans hle)) (hl _ (List.getElem_mem _)) hin.1 hin.2).mono ?_
        rintro r H2 ⟨rfl, b, rfl, hb⟩
        simp (maxSteps := 2000000) (disch := first | omega | assumption | exact idP rfl | exact idP (bL rfl) | (simp only [alloc_size, upd_size]; done) | (simp only [alloc_size, upd_size]; omega) | fail) only [go_sem, reduceIte, Nat.reduceEqDiff]
        refine hR' _ _ ⟨Le.refl _, !b, rfl, ?_⟩
        cases b with
        | true => simp only [Bool.not_true, Bool.false_eq_true, false_iff, Classical.not_not]; exact hb.1 rfl
        | false => simp only [Bool.not_false, true_iff]; intro hc; have := hb.2 hc; cases this
      · rintro r H2 ⟨hle, b, rfl, hb⟩
        simp (maxSteps := 2000000) (disch := first | omega | assumption | exact idP rfl | exact idP (bL rfl) | (simp only [alloc_size, upd_size]; done) | (simp only [alloc_size, upd_size]; omega) | fail) only [go_sem, reduceIte, Nat.reduceEqDiff]
        refine hR _ _ ⟨(Le.alloc _ _).trans hle, !b, rfl, ?_⟩
        cases b with
        | true =>
          simp only [Bool.not_true, Bool.false_eq_true, false_iff]
          intro hc
          obtain ⟨i, hi, hp⟩ := hb.1 rfl
          exact hp (hc.all _ (List.getElem_mem hi))
        | false =>
          simp only [Bool.not_false, true_iff]
          refine ⟨hin.1, hin.2, by omega, fun xs hxs => ?_⟩
          obtain ⟨j, hj1, rfl⟩ := List.getElem_of_mem hxs
          refine Classical.byContradiction fun hn => ?_
          have := hb.2 ⟨j, hj1, hn⟩; cases this
    · simp (maxSteps := 2000000) (disch := first | omega | assumption | exact idP rfl | exact idP (bL rfl) | (simp only [alloc_size, upd_size]; done) | (simp only [alloc_size, upd_size]; omega) | fail) only [go_sem, reduceIte, Nat.reduceEqDiff, hin, h25]
      exact no fun hc => by have := hc.few; omega
  · simp (maxSteps := 2000000) (disch := first | omega | assumption | exact idP rfl | exact idP (bL rfl) | (simp only [alloc_size, upd_size]; done) | (simp only [alloc_size, upd_size]; omega) | fail) only [go_sem, reduceIte, Nat.reduceEqDiff, hin]
    exact no fun hc => hin ⟨hc.lo, hc.hi⟩
end Go.M2

namespace Go.M2
open Go.Proofs
variable {H : Heap}
structure Row (H0 H : Heap) (b : Nat) (l : List Int) : Prop where
  lt : b < H.size
  blk : H.blk b = .cells (l.map (AV.int .i64)) true
  le : Le H0 (H.kill b)
theorem Row.rw {H0 : Heap} {b : Nat} {l : List Int} (h : Row H0 H b l) : H.rwCells b = some (l.map (AV.int .i64)) := rwCells_of h.lt h.blk
theorem Row.get {H0 : Heap} {b : Nat} {l : List Int} (h : Row H0 H b l) {i : Nat} (hi : i < l.length) : H.get b i = some (.int .i64 l[i]) := by
  have := Rd.blk h.lt h.blk i (.int .i64 l[i]) (by simp [hi])
  simpa using this
theorem Row.le' {H0 : Heap} {b : Nat} {l : List Int} (h : Row H0 H b l) : Le H0 H := h.le.trans (Le.kill _ _)
theorem Row.set {H0 : Heap} {b : Nat} {l : List Int} (h : Row H0 H b l) (i : Nat) (v : Int) : Row H0 (H.upd b (.cells ((l.map (AV.int .i64)).set i (.int .i64 v)) true)) b (l.set i v) :=
  ⟨h.lt, by rw [upd_blk_same', List.map_set], by rw [upd_kill]; exact h.le⟩
theorem Row.step {H0 H1 : Heap} {b : Nat} {l : List Int} (h : Row H0 H b l) (hl : Le H H1) : Row H0 H1 b l :=
  ⟨Nat.lt_of_lt_of_le h.lt hl.1, hl.cells h.lt h.blk, h.le.trans (hl.kills _)⟩
theorem zeros_int (n : Nat) : zeros [.int .i64 0] n = (List.replicate n (0 : Int)).map (AV.int .i64) := by
  induction n with
  | zero => rfl
  | succ n ih => simp only [zeros, ih, List.replicate_succ, List.map_cons]; rfl
theorem Row.new {H0 : Heap} (h : Le H0 H) (n : Nat) : Row H0 (H.alloc (zeros [.int .i64 0] n)) H.size (List.replicate n 0) :=
  ⟨Nat.lt_succ_self _, by rw [alloc_new, zeros_int], (h.trans (Le.alloc _ _)).killFresh h.1⟩
def Lits (n : Nat) (xs : List Int) : Prop := ∀ x ∈ xs, x ≠ 0 ∧ x.natAbs ≤ n
def givenF (xs : List Int) (m : List Int) : List Int := xs.foldl (fun m x => m.set x.natAbs x) m
def given (n : Nat) (xs : List Int) : List Int := givenF xs (List.replicate (n + 1) 0)
def sgn (x : Int) : Int := if x = 0 then 0 else if x < 0 then -1 else 1
theorem givenF_len (xs m : List Int) : (givenF xs m).length = m.length := by
  induction xs generalizing m with
  | nil => rfl
  | cons x t ih => simp only [givenF, List.foldl_cons] at ih ⊢; rw [ih]; simp
theorem givenF_take {xs m : List Int} {i : Nat} (h : i < xs.length) : givenF (xs.take (i + 1)) m = (givenF (xs.take i) m).set xs[i].natAbs xs[i] := by
  unfold givenF
  rw [List.take_succ_eq_append_getElem h, List.foldl_append]; rfl
theorem s_l11Given {v : AV} {xs : List Int} {n : Nat} (hv : IsI H v xs) (hl : xs.length ≤ 1048576) (hn : n ≤ 700) (hx : Lits n xs) :
    ACall Try.prog n_spec_l11Given [v, .int .i64 (n : Int)] H (fun r H' => r = .sl (some (H.size, 0)) (n + 1) (n + 1) true 1 ∧ Row H H' H.size (given n xs)) := by
  refine ACall.of fun R hR => a_spec_l11Given rfl ?_
  obtain ⟨A, c, ex, k, rfl, hr⟩ := hv.parts
  simp (maxSteps := 2000000) (disch := first | omega | assumption | exact idP rfl | exact idP (bL rfl) | (simp only [alloc_size, upd_size]; done) | (simp only [alloc_size, upd_size]; omega) | fail) only [go_sem, reduceIte, Nat.reduceEqDiff]
  refine mks_own (by omega) (by simp [mostCells]; omega) (by simp [mostCells]; omega) ?_
  have e1 : ((n : Int) + 1).toNat = n + 1 := by omega
  rw [e1]
  simp (maxSteps := 2000000) (disch := first | omega | assumption | exact idP rfl | exact idP (bL rfl) | (simp only [alloc_size, upd_size]; done) | (simp only [alloc_size, upd_size]; omega) | fail) only [go_sem, reduceIte, Nat.reduceEqDiff]
  refine wp_loop_k (fun e H' => ∃ (i : Nat), i ≤ xs.length ∧ e 0 = .sl A xs.length c ex k ∧ e 5 = .sl (some (H.size, 0)) (n + 1) (n + 1) true 1 ∧ e 6 = .int .i64 (i : Int) ∧ Row H H' H.size (givenF (xs.take i) (List.replicate (n + 1) 0))) (fun e _ => ctr xs.length (e 6)) ?_ ?_
  · exact ⟨0, Nat.zero_le _, by simp (maxSteps := 2000000) (disch := first | omega | assumption | exact idP rfl | exact idP (bL rfl) | (simp only [alloc_size, upd_size]; done) | (simp only [alloc_size, upd_size]; omega) | fail) only [go_sem, reduceIte, Nat.reduceEqDiff], by simp (maxSteps := 2000000) (disch := first | omega | assumption | exact idP rfl | exact idP (bL rfl) | (simp only [alloc_size, upd_size]; done) | (simp only [alloc_size, upd_size]; omega) | fail) only [go_sem, reduceIte, Nat.reduceEqDiff]; rfl, by simp (maxSteps := 2000000) (disch := first | omega | assumption | exact idP rfl | exact idP (bL rfl) | (simp only [alloc_size, upd_size]; done) | (simp only [alloc_size, upd_size]; omega) | fail) only [go_sem, reduceIte, Nat.reduceEqDiff]; rfl, Row.new (Le.refl _) _⟩
  · rintro e H1 ⟨i, hi, e0, e5, e6, hrow⟩ K hK
    simp (maxSteps := 2000000) (disch := first | omega | assumption | exact idP rfl | exact idP (bL rfl) | (simp only [alloc_size, upd_size]; done) | (simp only [alloc_size, upd_size]; omega) | fail) only [go_sem, reduceIte, Nat.reduceEqDiff, e0, e5, e6]
    refine condV_dec (fun h => ?_) (fun h => ?_)
    · have hi' : i < xs.length := by omega
      have hg := hrow.le'.get (hr i hi')
      rw [Nat.mul_one] at hg
      have hxi := hx _ (List.getElem_mem hi')
      have hlen : (givenF (xs.take i) (List.replicate (n + 1) 0)).length = n + 1 := by rw [givenF_len]; simp
      simp (maxSteps := 2000000) (disch := first | omega | assumption | exact idP rfl | exact idP (bL rfl) | (simp only [alloc_size, upd_size]; done) | (simp only [alloc_size, upd_size]; omega) | fail) only [go_sem, reduceIte, Nat.reduceEqDiff, e0, e5, e6, hg]
      refine (s_l11Abs (n := xs[i]) (by omega) (by omega)).mono ?_
      rintro r H2 ⟨rfl, rfl⟩
      simp (maxSteps := 2000000) (disch := first | omega | assumption | exact idP rfl | exact idP (bL rfl) | (simp only [alloc_size, upd_size]; done) | (simp only [alloc_size, upd_size]; omega) | fail) only [go_sem, reduceIte, Nat.reduceEqDiff, e0, e5, e6, hg, hrow.rw, List.length_map, hlen]
      rw [stoK_1 rfl (by simp only [List.length_map, hlen]; omega)]
      simp (maxSteps := 2000000) (disch := first | omega | assumption | exact idP rfl | exact idP (bL rfl) | (simp only [alloc_size, upd_size]; done) | (simp only [alloc_size, upd_size]; omega) | fail) only [go_sem, reduceIte, Nat.reduceEqDiff, e0, e5, e6]
      refine hK _ _ ⟨i + 1, by omega, by simp (maxSteps := 2000000) (disch := first | omega | assumption | exact idP rfl | exact idP (bL rfl) | (simp only [alloc_size, upd_size]; done) | (simp only [alloc_size, upd_size]; omega) | fail) only [go_sem, reduceIte, Nat.reduceEqDiff, e0], by simp (maxSteps := 2000000) (disch := first | omega | assumption | exact idP rfl | exact idP (bL rfl) | (simp only [alloc_size, upd_size]; done) | (simp only [alloc_size, upd_size]; omega) | fail) only [go_sem, reduceIte, Nat.reduceEqDiff, e5], by simp (maxSteps := 2000000) (disch := first | omega | assumption | exact idP rfl | exact idP (bL rfl) | (simp only [alloc_size, upd_size]; done) | (simp only [alloc_size, upd_size]; omega) | fail) only [go_sem, reduceIte, Nat.reduceEqDiff]; rfl, ?_⟩ (by simp (maxSteps := 2000000) (disch := first | omega | assumption | exact idP rfl | exact idP (bL rfl) | (simp only [alloc_size, upd_size]; done) | (simp only [alloc_size, upd_size]; omega) | fail) only [go_sem, reduceIte, Nat.reduceEqDiff, ctr_int, e6]; omega)
      rw [givenF_take hi']
      exact hrow.set _ _
    · simp (maxSteps := 2000000) (disch := first | omega | assumption | exact idP rfl | exact idP (bL rfl) | (simp only [alloc_size, upd_size]; done) | (simp only [alloc_size, upd_size]; omega) | fail) only [go_sem, reduceIte, Nat.reduceEqDiff, e5]
      obtain rfl : i = xs.length := by omega
      rw [List.take_length] at hrow
      exact hR _ _ ⟨rfl, hrow⟩
theorem map_sgn_set (m : List Int) (i : Nat) (x : Int) : (m.set i x).map sgn = (m.map sgn).set i (sgn x) := List.map_set
theorem s_signs {v : AV} {xs : List Int} {n : Nat} (hv : IsI H v xs) (hl : xs.length ≤ 1048576) (hn : n ≤ 700) (hx : Lits n xs) :
    ACall Try.prog n_impl_signs [.int .i64 (n : Int), v] H (fun r H' => r = .sl (some (H.size, 0)) (n + 1) (n + 1) true 1 ∧ Row H H' H.size ((given n xs).map sgn)) := by
  refine ACall.of fun R hR => a_impl_signs rfl ?_
  obtain ⟨A, c, ex, k, rfl, hr⟩ := hv.parts
  simp (maxSteps := 2000000) (disch := first | omega | assumption | exact idP rfl | exact idP (bL rfl) | (simp only [alloc_size, upd_size]; done) | (simp only [alloc_size, upd_size]; omega) | fail) only [go_sem, reduceIte, Nat.reduceEqDiff]
  refine mks_own (by omega) (by simp [mostCells]; omega) (by simp [mostCells]; omega) ?_
  have e1 : ((n : Int) + 1).toNat = n + 1 := by omega
  rw [e1]
  simp (maxSteps := 2000000) (disch := first | omega | assumption | exact idP rfl | exact idP (bL rfl) | (simp only [alloc_size, upd_size]; done) | (simp only [alloc_size, upd_size]; omega) | fail) only [go_sem, reduceIte, Nat.reduceEqDiff]
  refine wp_loop_k (fun e H' => ∃ (i : Nat), i ≤ xs.length ∧ e 11 = .sl A xs.length c ex k ∧ e 12 = .int .i64 (xs.length : Int) ∧ e 5 = .sl (some (H.size, 0)) (n + 1) (n + 1) true 1 ∧ e 13 = .int .i64 (i : Int) ∧ Row H H' H.size ((givenF (xs.take i) (List.replicate (n + 1) 0)).map sgn)) (fun e _ => ctr xs.length (e 13)) ?_ ?_
  · refine ⟨0, Nat.zero_le _, by simp (maxSteps := 2000000) (disch := first | omega | assumption | exact idP rfl | exact idP (bL rfl) | (simp only [alloc_size, upd_size]; done) | (simp only [alloc_size, upd_size]; omega) | fail) only [go_sem, reduceIte, Nat.reduceEqDiff], by simp (maxSteps := 2000000) (disch := first | omega | assumption | exact idP rfl | exact idP (bL rfl) | (simp only [alloc_size, upd_size]; done) | (simp only [alloc_size, upd_size]; omega) | fail) only [go_sem, reduceIte, Nat.reduceEqDiff], by simp (maxSteps := 2000000) (disch := first | omega | assumption | exact idP rfl | exact idP (bL rfl) | (simp only [alloc_size, upd_size]; done) | (simp only [alloc_size, upd_size]; omega) | fail) only [go_sem, reduceIte, Nat.reduceEqDiff]; rfl, by simp (maxSteps := 2000000) (disch := first | omega | assumption | exact idP rfl | exact idP (bL rfl) | (simp only [alloc_size, upd_size]; done) | (simp only [alloc_size, upd_size]; omega) | fail) only [go_sem, reduceIte, Nat.reduceEqDiff]; rfl, ?_⟩
    have := Row.new (H := H) (Le.refl _) (n + 1)
    simpa [givenF, sgn] using this
  · rintro e H1 ⟨i, hi, e11, e12, e5, e13, hrow⟩ K hK
    simp (maxSteps := 2000000) (disch := first | omega | assumption | exact idP rfl | exact idP (bL rfl) | (simp only [alloc_size, upd_size]; done) | (simp only [alloc_size, upd_size]; omega) | fail) only [go_sem, reduceIte, Nat.reduceEqDiff, e11, e12, e5, e13]
    refine condV_dec (fun h => ?_) (fun h => ?_)
    · have hi' : i < xs.length := by omega
      have hg := hrow.le'.get (hr i hi')
      rw [Nat.mul_one] at hg
      have hxi := hx _ (List.getElem_mem hi')
      have hlen : ((givenF (xs.take i) (List.replicate (n + 1) 0)).map sgn).length = n + 1 := by rw [List.length_map, givenF_len]; simp
      simp (maxSteps := 2000000) (disch := first | omega | assumption | exact idP rfl | exact idP (bL rfl) | (simp only [alloc_size, upd_size]; done) | (simp only [alloc_size, upd_size]; omega) | fail) only [go_sem, reduceIte, Nat.reduceEqDiff, e11, e12, e5, e13, hg]
      refine (s_atomOf (n := xs[i]) (by omega) (by omega)).mono ?_
      rintro r H2 ⟨rfl, rfl⟩
      simp (maxSteps := 2000000) (disch := first | omega | assumption | exact idP rfl | exact idP (bL rfl) | (simp only [alloc_size, upd_size]; done) | (simp only [alloc_size, upd_size]; omega) | fail) only [go_sem, reduceIte, Nat.reduceEqDiff, e11, e12, e5, e13]
      refine s_bit.mono ?_
      rintro r H3 ⟨rfl, rfl⟩
      have hsg : (1 : Int) - 2 * (if decide (xs[i] < 0) = true then 1 else 0) = sgn xs[i] := by
        by_cases hlt : xs[i] < 0 <;> simp [sgn, hlt, hxi.1]
      have hw1 : IntKind.i64.wrap (2 * (if decide (xs[i] < 0) = true then 1 else 0)) = 2 * (if decide (xs[i] < 0) = true then 1 else 0) := wrap_in (by split <;> omega) (by split <;> omega)
      have hw2 : IntKind.i64.wrap (sgn xs[i]) = sgn xs[i] := wrap_in (by unfold sgn; split <;> (try split) <;> omega) (by unfold sgn; split <;> (try split) <;> omega)
      simp (maxSteps := 2000000) (disch := first | omega | assumption | exact idP rfl | exact idP (bL rfl) | (simp only [alloc_size, upd_size]; done) | (simp only [alloc_size, upd_size]; omega) | fail) only [go_sem, reduceIte, Nat.reduceEqDiff, e11, e12, e5, e13, hrow.rw, hw1, hsg, hw2]
      rw [stoK_1 rfl (by simp only [List.length_map] at hlen ⊢; omega)]
      simp (maxSteps := 2000000) (disch := first | omega | assumption | exact idP rfl | exact idP (bL rfl) | (simp only [alloc_size, upd_size]; done) | (simp only [alloc_size, upd_size]; omega) | fail) only [go_sem, reduceIte, Nat.reduceEqDiff, e11, e12, e5, e13]
      refine hK _ _ ⟨i + 1, by omega, by simp (maxSteps := 2000000) (disch := first | omega | assumption | exact idP rfl | exact idP (bL rfl) | (simp only [alloc_size, upd_size]; done) | (simp only [alloc_size, upd_size]; omega) | fail) only [go_sem, reduceIte, Nat.reduceEqDiff, e11], by simp (maxSteps := 2000000) (disch := first | omega | assumption | exact idP rfl | exact idP (bL rfl) | (simp only [alloc_size, upd_size]; done) | (simp only [alloc_size, upd_size]; omega) | fail) only [go_sem, reduceIte, Nat.reduceEqDiff, e12], by simp (maxSteps := 2000000) (disch := first | omega | assumption | exact idP rfl | exact idP (bL rfl) | (simp only [alloc_size, upd_size]; done) | (simp only [alloc_size, upd_size]; omega) | fail) only [go_sem, reduceIte, Nat.reduceEqDiff, e5], by simp (maxSteps := 2000000) (disch := first | omega | assumption | exact idP rfl | exact idP (bL rfl) | (simp only [alloc_size, upd_size]; done) | (simp only [alloc_size, upd_size]; omega) | fail) only [go_sem, reduceIte, Nat.reduceEqDiff]; rfl, ?_⟩ (by simp (maxSteps := 2000000) (disch := first | omega | assumption | exact idP rfl | exact idP (bL rfl) | (simp only [alloc_size, upd_size]; done) | (simp only [alloc_size, upd_size]; omega) | fail) only [go_sem, reduceIte, Nat.reduceEqDiff, ctr_int, e13]; omega)
      rw [givenF_take hi', map_sgn_set]
      exact hrow.set _ _
    · simp (maxSteps := 2000000) (disch := first | omega | assumption | exact idP rfl | exact idP (bL rfl) | (simp only [alloc_size, upd_size]; done) | (simp only [alloc_size, upd_size]; omega) | fail) only [go_sem, reduceIte, Nat.reduceEqDiff, e5]
      obtain rfl : i = xs.length := by omega
      rw [List.take_length] at hrow
      exact hR _ _ ⟨rfl, hrow⟩
end Go.M2

namespace Go.M2
open Go.Proofs
variable {H : Heap}
theorem exists_least {p : Nat → Prop} (h : ∃ n, p n) : ∃ n, p n ∧ ∀ m, p m → n ≤ m := by
  obtain ⟨n, hn⟩ := h
  induction n using Nat.strongRecOn with
  | _ n ih =>
    by_cases hx : ∃ m, m < n ∧ p m
    · obtain ⟨m, h1, h2⟩ := hx
      exact ih m h1 h2
    · exact ⟨n, hn, fun m hm => Nat.le_of_not_lt fun hl => hx ⟨m, hl, hm⟩⟩
open Classical in
noncomputable def leastN (p : Nat → Prop) : Nat := if h : ∃ n, p n then Classical.choose (exists_least h) else 0
theorem leastN_spec {p : Nat → Prop} (h : ∃ n, p n) : p (leastN p) ∧ ∀ m, p m → leastN p ≤ m := by
  unfold leastN
  rw [dif_pos h]
  exact Classical.choose_spec (exists_least h)
theorem wp_loop_g {P : Program} {Q : Post} {e : Env} {a : IR} (I : Nat → Env → Heap → Prop) (n : Nat) (h0 : I n e H)
    (hr : ∀ n e H, I n e H → ∀ K : Env → Heap → Prop, (∀ m e' H', m < n → I m e' H' → K e' H') → wp P a (thenQ K Q) e H) : wp P (.loop a) Q e H := by
  refine ⟨fun e H => ∃ n, I n e H, fun e H => leastN fun n => I n e H, ⟨n, h0⟩, fun e H hI => ?_⟩
  have h1 := leastN_spec hI
  exact hr _ e H h1.1 _ fun m e' H' hm hI' => ⟨⟨m, hI'⟩, Nat.lt_of_le_of_lt ((leastN_spec ⟨m, hI'⟩).2 m hI') hm⟩
def leftF (m : List Int) : List Int → Int → Int → Int × Int
  | [], o, l => (o, l)
  | x :: t, o, l => if m.getD x.natAbs 0 = x then (-1, 0) else if m.getD x.natAbs 0 = 0 then leftF m t (o + 1) x else leftF m t o l
theorem leftF_last {m : List Int} : ∀ {xs : List Int} {o l o' l' : Int}, leftF m xs o l = (o', l') → (o' = -1 ∧ l' = 0) ∨ (o' = o ∧ l' = l) ∨ (l' ∈ xs ∧ m.getD l'.natAbs 0 = 0 ∧ o < o' ∧ o' ≤ o + xs.length)
  | [], o, l, o', l', h => by simp only [leftF, Prod.mk.injEq] at h; exact .inr (.inl ⟨h.1.symm, h.2.symm⟩)
  | x :: t, o, l, o', l', h => by
    simp only [leftF] at h
    split at h
    · simp only [Prod.mk.injEq] at h; exact .inl ⟨h.1.symm, h.2.symm⟩
    · split at h
      · rename_i hz
        rcases leftF_last h with h1 | ⟨h1, h2⟩ | ⟨h1, h2, h3, h4⟩
        · exact .inl h1
        · exact .inr (.inr ⟨by rw [h2]; simp, by rw [h2]; exact hz, by omega, by simp only [List.length_cons]; omega⟩)
        · exact .inr (.inr ⟨List.mem_cons_of_mem _ h1, h2, by omega, by simp only [List.length_cons]; omega⟩)
      · rcases leftF_last h with h1 | h1 | ⟨h1, h2, h3, h4⟩
        · exact .inl h1
        · exact .inr (.inl h1)
        · exact .inr (.inr ⟨List.mem_cons_of_mem _ h1, h2, h3, by simp only [List.length_cons]; omega⟩)
def passF : List (List Int) → List Int → Bool → Option (List Int × Bool)
  | [], m, ag => some (m, ag)
  | c :: t, m, ag => if (leftF m c 0 0).1 = 0 then none else if (leftF m c 0 0).1 = 1 then passF t (m.set (leftF m c 0 0).2.natAbs (leftF m c 0 0).2) true else passF t m ag
inductive Force (cl : List (List Int)) : List Int → Option (List Int) → Prop
  | bad {m : List Int} : passF cl m false = none → Force cl m none
  | stop {m m' : List Int} : passF cl m false = some (m', false) → Force cl m (some m')
  | go {m m' : List Int} {r : Option (List Int)} : passF cl m false = some (m', true) → Force cl m' r → Force cl m r
theorem Force.det {cl : List (List Int)} {m : List Int} {r r' : Option (List Int)} (h : Force cl m r) (h' : Force cl m r') : r = r' := by
  induction h with
  | bad h1 => cases h' with
    | bad _ => rfl
    | stop h2 => rw [h1] at h2; cases h2
    | go h2 _ => rw [h1] at h2; cases h2
  | stop h1 => cases h' with
    | bad h2 => rw [h1] at h2; cases h2
    | stop h2 => rw [h1] at h2; cases h2; rfl
    | go h2 _ => rw [h1] at h2; cases h2
  | go h1 _ ih => cases h' with
    | bad h2 => rw [h1] at h2; cases h2
    | stop h2 => rw [h1] at h2; cases h2
    | go h2 h3 => rw [h1] at h2; cases h2; exact ih h3
def zer : List Int → Nat
  | [] => 0
  | x :: t => (if x = 0 then 1 else 0) + zer t
theorem zer_set : ∀ {m : List Int} {i : Nat} {x : Int}, m.getD i 0 = 0 → i < m.length → x ≠ 0 → zer (m.set i x) + 1 = zer m
  | [], i, x, _, h, _ => by simp at h
  | y :: t, 0, x, h, _, hx => by
    simp at h; subst h
    simp [zer, hx]; omega
  | y :: t, i + 1, x, h, hl, hx => by
    have := zer_set (m := t) (i := i) (x := x) (by simpa using h) (by simpa using hl) hx
    simp only [List.set_cons_succ, zer]; omega
theorem s_l11Left {H0 : Heap} {b n : Nat} {v : AV} {xs m : List Int} (hv : IsI H0 v xs) (hl : xs.length ≤ 1048576) (hn : n ≤ 700) (hx : Lits n xs) (hrow : Row H0 H b m) (hm : m.length = n + 1) :
    ACall Try.prog n_spec_l11Left [v, .sl (some (b, 0)) (n + 1) (n + 1) true 1] H (fun r H' => H' = H ∧ r = .tup [.int .i64 (leftF m xs 0 0).1, .int .i64 (leftF m xs 0 0).2]) := by
  refine ACall.of fun R hR => a_spec_l11Left rfl ?_
  obtain ⟨A, c, ex, k, rfl, hr⟩ := hv.parts
  simp (maxSteps := 2000000) (disch := first | omega | assumption | exact idP rfl | exact idP (bL rfl) | (simp only [alloc_size, upd_size]; done) | (simp only [alloc_size, upd_size]; omega) | fail) only [go_sem, reduceIte, Nat.reduceEqDiff]
  refine wp_loop_k (fun e H' => H' = H ∧ ∃ (i : Nat) (o l : Int), i ≤ xs.length ∧ e 0 = .sl A xs.length c ex k ∧ e 1 = .sl (some (b, 0)) (n + 1) (n + 1) true 1 ∧ e 6 = .int .i64 o ∧ e 7 = .int .i64 l ∧ e 8 = .int .i64 (i : Int) ∧ 0 ≤ o ∧ o ≤ i ∧ leftF m xs 0 0 = leftF m (xs.drop i) o l) (fun e _ => ctr xs.length (e 8)) ?_ ?_
  · exact ⟨rfl, 0, 0, 0, Nat.zero_le _, by simp (maxSteps := 2000000) (disch := first | omega | assumption | exact idP rfl | exact idP (bL rfl) | (simp only [alloc_size, upd_size]; done) | (simp only [alloc_size, upd_size]; omega) | fail) only [go_sem, reduceIte, Nat.reduceEqDiff], by simp (maxSteps := 2000000) (disch := first | omega | assumption | exact idP rfl | exact idP (bL rfl) | (simp only [alloc_size, upd_size]; done) | (simp only [alloc_size, upd_size]; omega) | fail) only [go_sem, reduceIte, Nat.reduceEqDiff], by simp (maxSteps := 2000000) (disch := first | omega | assumption | exact idP rfl | exact idP (bL rfl) | (simp only [alloc_size, upd_size]; done) | (simp only [alloc_size, upd_size]; omega) | fail) only [go_sem, reduceIte, Nat.reduceEqDiff], by simp (maxSteps := 2000000) (disch := first | omega | assumption | exact idP rfl | exact idP (bL rfl) | (simp only [alloc_size, upd_size]; done) | (simp only [alloc_size, upd_size]; omega) | fail) only [go_sem, reduceIte, Nat.reduceEqDiff], by simp (maxSteps := 2000000) (disch := first | omega | assumption | exact idP rfl | exact idP (bL rfl) | (simp only [alloc_size, upd_size]; done) | (simp only [alloc_size, upd_size]; omega) | fail) only [go_sem, reduceIte, Nat.reduceEqDiff]; rfl, by omega, by omega, rfl⟩
  · rintro e H1 ⟨rfl, i, o, l, hi, e0, e1, e6, e7, e8, ho, ho2, hleft⟩ K hK
    simp (maxSteps := 2000000) (disch := first | omega | assumption | exact idP rfl | exact idP (bL rfl) | (simp only [alloc_size, upd_size]; done) | (simp only [alloc_size, upd_size]; omega) | fail) only [go_sem, reduceIte, Nat.reduceEqDiff, e0, e1, e6, e7, e8]
    refine condV_dec (fun h => ?_) (fun h => ?_)
    · have hi' : i < xs.length := by omega
      have hg := hrow.le'.get (hr i hi')
      rw [Nat.mul_one] at hg
      have hxi := hx _ (List.getElem_mem hi')
      have hmi : xs[i].natAbs < m.length := by omega
      have hgm := hrow.get hmi
      have hgd : m.getD xs[i].natAbs 0 = m[xs[i].natAbs] := by simp [List.getD, hmi]
      rw [List.drop_eq_getElem_cons hi'] at hleft
      simp only [leftF, hgd] at hleft
      simp (maxSteps := 2000000) (disch := first | omega | assumption | exact idP rfl | exact idP (bL rfl) | (simp only [alloc_size, upd_size]; done) | (simp only [alloc_size, upd_size]; omega) | fail) only [go_sem, reduceIte, Nat.reduceEqDiff, e0, e1, e6, e7, e8, hg]
      refine (s_l11Abs (n := xs[i]) (by omega) (by omega)).mono ?_
      rintro r H2 ⟨rfl, rfl⟩
      have hgm' : H2.get b (0 + xs[i].natAbs) = some (.int .i64 m[xs[i].natAbs]) := by rw [Nat.zero_add]; exact hgm
      simp (maxSteps := 2000000) (disch := first | omega | assumption | exact idP rfl | exact idP (bL rfl) | (simp only [alloc_size, upd_size]; done) | (simp only [alloc_size, upd_size]; omega) | fail) only [go_sem, reduceIte, Nat.reduceEqDiff, e0, e1, e6, e7, e8, hg, hgm, hgm']
      by_cases h1 : m[xs[i].natAbs] = xs[i]
      · rw [if_pos h1] at hleft
        simp (maxSteps := 2000000) (disch := first | omega | assumption | exact idP rfl | exact idP (bL rfl) | (simp only [alloc_size, upd_size]; done) | (simp only [alloc_size, upd_size]; omega) | fail) only [go_sem, reduceIte, Nat.reduceEqDiff, e0, e1, e6, e7, e8, h1]
        exact hR _ _ ⟨rfl, by rw [hleft]⟩
      · rw [if_neg h1] at hleft
        by_cases h2 : m[xs[i].natAbs] = 0
        · rw [if_pos h2] at hleft
          have h1' : ¬ (0 : Int) = xs[i] := by rw [← h2]; exact h1
          simp (maxSteps := 2000000) (disch := first | omega | assumption | exact idP rfl | exact idP (bL rfl) | (simp only [alloc_size, upd_size]; done) | (simp only [alloc_size, upd_size]; omega) | fail) only [go_sem, reduceIte, Nat.reduceEqDiff, e0, e1, e6, e7, e8, h1', h2, hg]
          exact hK _ _ ⟨rfl, i + 1, o + 1, xs[i], by omega, by simp (maxSteps := 2000000) (disch := first | omega | assumption | exact idP rfl | exact idP (bL rfl) | (simp only [alloc_size, upd_size]; done) | (simp only [alloc_size, upd_size]; omega) | fail) only [go_sem, reduceIte, Nat.reduceEqDiff, e0], by simp (maxSteps := 2000000) (disch := first | omega | assumption | exact idP rfl | exact idP (bL rfl) | (simp only [alloc_size, upd_size]; done) | (simp only [alloc_size, upd_size]; omega) | fail) only [go_sem, reduceIte, Nat.reduceEqDiff, e1], by simp (maxSteps := 2000000) (disch := first | omega | assumption | exact idP rfl | exact idP (bL rfl) | (simp only [alloc_size, upd_size]; done) | (simp only [alloc_size, upd_size]; omega) | fail) only [go_sem, reduceIte, Nat.reduceEqDiff], by simp (maxSteps := 2000000) (disch := first | omega | assumption | exact idP rfl | exact idP (bL rfl) | (simp only [alloc_size, upd_size]; done) | (simp only [alloc_size, upd_size]; omega) | fail) only [go_sem, reduceIte, Nat.reduceEqDiff], by simp (maxSteps := 2000000) (disch := first | omega | assumption | exact idP rfl | exact idP (bL rfl) | (simp only [alloc_size, upd_size]; done) | (simp only [alloc_size, upd_size]; omega) | fail) only [go_sem, reduceIte, Nat.reduceEqDiff]; rfl, by omega, by omega, hleft⟩ (by simp (maxSteps := 2000000) (disch := first | omega | assumption | exact idP rfl | exact idP (bL rfl) | (simp only [alloc_size, upd_size]; done) | (simp only [alloc_size, upd_size]; omega) | fail) only [go_sem, reduceIte, Nat.reduceEqDiff, ctr_int, e8]; omega)
        · rw [if_neg h2] at hleft
          simp (maxSteps := 2000000) (disch := first | omega | assumption | exact idP rfl | exact idP (bL rfl) | (simp only [alloc_size, upd_size]; done) | (simp only [alloc_size, upd_size]; omega) | fail) only [go_sem, reduceIte, Nat.reduceEqDiff, e0, e1, e6, e7, e8, h1, h2]
          exact hK _ _ ⟨rfl, i + 1, o, l, by omega, by simp (maxSteps := 2000000) (disch := first | omega | assumption | exact idP rfl | exact idP (bL rfl) | (simp only [alloc_size, upd_size]; done) | (simp only [alloc_size, upd_size]; omega) | fail) only [go_sem, reduceIte, Nat.reduceEqDiff, e0], by simp (maxSteps := 2000000) (disch := first | omega | assumption | exact idP rfl | exact idP (bL rfl) | (simp only [alloc_size, upd_size]; done) | (simp only [alloc_size, upd_size]; omega) | fail) only [go_sem, reduceIte, Nat.reduceEqDiff, e1], by simp (maxSteps := 2000000) (disch := first | omega | assumption | exact idP rfl | exact idP (bL rfl) | (simp only [alloc_size, upd_size]; done) | (simp only [alloc_size, upd_size]; omega) | fail) only [go_sem, reduceIte, Nat.reduceEqDiff, e6], by simp (maxSteps := 2000000) (disch := first | omega | assumption | exact idP rfl | exact idP (bL rfl) | (simp only [alloc_size, upd_size]; done) | (simp only [alloc_size, upd_size]; omega) | fail) only [go_sem, reduceIte, Nat.reduceEqDiff, e7], by simp (maxSteps := 2000000) (disch := first | omega | assumption | exact idP rfl | exact idP (bL rfl) | (simp only [alloc_size, upd_size]; done) | (simp only [alloc_size, upd_size]; omega) | fail) only [go_sem, reduceIte, Nat.reduceEqDiff]; rfl, by omega, by omega, hleft⟩ (by simp (maxSteps := 2000000) (disch := first | omega | assumption | exact idP rfl | exact idP (bL rfl) | (simp only [alloc_size, upd_size]; done) | (simp only [alloc_size, upd_size]; omega) | fail) only [go_sem, reduceIte, Nat.reduceEqDiff, ctr_int, e8]; omega)
    · obtain rfl : i = xs.length := by omega
      rw [List.drop_length] at hleft
      simp only [leftF] at hleft
      simp (maxSteps := 2000000) (disch := first | omega | assumption | exact idP rfl | exact idP (bL rfl) | (simp only [alloc_size, upd_size]; done) | (simp only [alloc_size, upd_size]; omega) | fail) only [go_sem, reduceIte, Nat.reduceEqDiff, e6, e7]
      exact hR _ _ ⟨rfl, by rw [hleft]⟩
end Go.M2

namespace Go.M2
open Go.Proofs
variable {H : Heap}
theorem passF_open {c : List Int} {t : List (List Int)} {m : List Int} {ag : Bool} (h0 : (leftF m c 0 0).1 ≠ 0) (h1 : (leftF m c 0 0).1 ≠ 1) : passF (c :: t) m ag = passF t m ag := by
  simp only [passF]; rw [if_neg h0, if_neg h1]
theorem passF_one {c : List Int} {t : List (List Int)} {m : List Int} {ag : Bool} (h1 : (leftF m c 0 0).1 = 1) : passF (c :: t) m ag = passF t (m.set (leftF m c 0 0).2.natAbs (leftF m c 0 0).2) true := by
  simp only [passF]; rw [if_neg (by omega), if_pos h1]
theorem passF_none {c : List Int} {t : List (List Int)} {m : List Int} {ag : Bool} (h1 : (leftF m c 0 0).1 = 0) : passF (c :: t) m ag = none := by
  simp only [passF]; rw [if_pos h1]
theorem leftF_one {m xs : List Int} (h : (leftF m xs 0 0).1 = 1) : (leftF m xs 0 0).2 ∈ xs ∧ m.getD (leftF m xs 0 0).2.natAbs 0 = 0 := by
  rcases leftF_last (m := m) (xs := xs) (o := 0) (l := 0) (o' := (leftF m xs 0 0).1) (l' := (leftF m xs 0 0).2) rfl with ⟨h1, _⟩ | ⟨h1, _⟩ | ⟨h1, h2, _⟩
  · omega
  · omega
  · exact ⟨h1, h2⟩
theorem s_l11Force {H0 : Heap} {b n : Nat} {v : AV} {xss : List (List Int)} {m : List Int} (hv : IsII H0 v xss) (hl : xss.length ≤ 1048576) (hxl : ∀ xs ∈ xss, xs.length ≤ 1048576) (hn : n ≤ 700) (hx : ∀ xs ∈ xss, Lits n xs) (hrow : Row H0 H b m) (hm : m.length = n + 1) :
    ACall Try.prog n_spec_l11Force [v, .sl (some (b, 0)) (n + 1) (n + 1) true 1] H (fun r H' => ∃ res, Force xss m res ∧ Le (H.kill b) (H'.kill b) ∧ b < H'.size ∧ (res = none → r = .bool false) ∧ ∀ m', res = some m' → r = .bool true ∧ Row H0 H' b m' ∧ m'.length = n + 1) := by
  refine ACall.of fun R hR => a_spec_l11Force rfl ?_
  obtain ⟨A, c, ex, k, rfl, hr⟩ := hv.parts
  simp (maxSteps := 2000000) (disch := first | omega | assumption | exact idP rfl | exact idP (bL rfl) | (simp only [alloc_size, upd_size]; done) | (simp only [alloc_size, upd_size]; omega) | fail) only [go_sem, reduceIte, Nat.reduceEqDiff]
  refine wp_loop_g (fun g e H' => ∃ (mc : List Int) (ag : Bool), Row H0 H' b mc ∧ mc.length = n + 1 ∧ e 0 = .sl A xss.length c ex k ∧ e 1 = .sl (some (b, 0)) (n + 1) (n + 1) true 1 ∧ e 5 = .bool ag ∧ Le (H.kill b) (H'.kill b) ∧ g = zer mc + (if ag then 1 else 0) ∧
    (ag = true → ∀ r, Force xss mc r → Force xss m r) ∧ (ag = false → Force xss m (some mc))) (zer m + 1) ?_ ?_
  · exact ⟨m, true, hrow, hm, by simp (maxSteps := 2000000) (disch := first | omega | assumption | exact idP rfl | exact idP (bL rfl) | (simp only [alloc_size, upd_size]; done) | (simp only [alloc_size, upd_size]; omega) | fail) only [go_sem, reduceIte, Nat.reduceEqDiff], by simp (maxSteps := 2000000) (disch := first | omega | assumption | exact idP rfl | exact idP (bL rfl) | (simp only [alloc_size, upd_size]; done) | (simp only [alloc_size, upd_size]; omega) | fail) only [go_sem, reduceIte, Nat.reduceEqDiff], by simp (maxSteps := 2000000) (disch := first | omega | assumption | exact idP rfl | exact idP (bL rfl) | (simp only [alloc_size, upd_size]; done) | (simp only [alloc_size, upd_size]; omega) | fail) only [go_sem, reduceIte, Nat.reduceEqDiff], Le.refl _, rfl, fun _ _ h => h, fun h => by cases h⟩
  · rintro g e H1 ⟨mc, ag, hr1, hmc, e0, e1, e5, hle, rfl, hag, hag2⟩ K hK
    simp (maxSteps := 2000000) (disch := first | omega | assumption | exact idP rfl | exact idP (bL rfl) | (simp only [alloc_size, upd_size]; done) | (simp only [alloc_size, upd_size]; omega) | fail) only [go_sem, reduceIte, Nat.reduceEqDiff, e0, e1, e5]
    cases ag with
    | false =>
      simp (maxSteps := 2000000) (disch := first | omega | assumption | exact idP rfl | exact idP (bL rfl) | (simp only [alloc_size, upd_size]; done) | (simp only [alloc_size, upd_size]; omega) | fail) only [go_sem, reduceIte, Nat.reduceEqDiff]
      refine hR _ _ ⟨some mc, hag2 rfl, hle, hr1.lt, fun h => (by cases h), fun m' h => ?_⟩
      cases h
      exact ⟨rfl, hr1, hmc⟩
    | true =>
      have hag := hag rfl
      simp (maxSteps := 2000000) (disch := first | omega | assumption | exact idP rfl | exact idP (bL rfl) | (simp only [alloc_size, upd_size]; done) | (simp only [alloc_size, upd_size]; omega) | fail) only [go_sem, reduceIte, Nat.reduceEqDiff]
      refine wp_loop_k (fun e H' => ∃ (j : Nat) (mi : List Int) (ai : Bool), j ≤ xss.length ∧ e 0 = .sl A xss.length c ex k ∧ e 1 = .sl (some (b, 0)) (n + 1) (n + 1) true 1 ∧ e 6 = .int .i64 (j : Int) ∧ e 5 = .bool ai ∧ Row H0 H' b mi ∧ mi.length = n + 1 ∧ Le (H.kill b) (H'.kill b) ∧
        passF xss mc false = passF (xss.drop j) mi ai ∧ zer mi + (if ai then 1 else 0) ≤ zer mc) (fun e _ => ctr xss.length (e 6)) ?_ ?_
      · exact ⟨0, mc, false, Nat.zero_le _, by simp (maxSteps := 2000000) (disch := first | omega | assumption | exact idP rfl | exact idP (bL rfl) | (simp only [alloc_size, upd_size]; done) | (simp only [alloc_size, upd_size]; omega) | fail) only [go_sem, reduceIte, Nat.reduceEqDiff, e0], by simp (maxSteps := 2000000) (disch := first | omega | assumption | exact idP rfl | exact idP (bL rfl) | (simp only [alloc_size, upd_size]; done) | (simp only [alloc_size, upd_size]; omega) | fail) only [go_sem, reduceIte, Nat.reduceEqDiff, e1], by simp (maxSteps := 2000000) (disch := first | omega | assumption | exact idP rfl | exact idP (bL rfl) | (simp only [alloc_size, upd_size]; done) | (simp only [alloc_size, upd_size]; omega) | fail) only [go_sem, reduceIte, Nat.reduceEqDiff]; rfl, by simp (maxSteps := 2000000) (disch := first | omega | assumption | exact idP rfl | exact idP (bL rfl) | (simp only [alloc_size, upd_size]; done) | (simp only [alloc_size, upd_size]; omega) | fail) only [go_sem, reduceIte, Nat.reduceEqDiff], hr1, hmc, hle, rfl, by simp⟩
      · rintro e H2 ⟨j, mi, ai, hj, e0, e1, e6, e5, hr2, hmi, hle2, hpass, hz⟩ K2 hK2
        simp (maxSteps := 2000000) (disch := first | omega | assumption | exact idP rfl | exact idP (bL rfl) | (simp only [alloc_size, upd_size]; done) | (simp only [alloc_size, upd_size]; omega) | fail) only [go_sem, reduceIte, Nat.reduceEqDiff, e0, e1, e5, e6]
        refine condV_dec (fun h => ?_) (fun h => ?_)
        · have hj' : j < xss.length := by omega
          obtain ⟨u, hg, hu⟩ := hr j hj'
          rw [Nat.mul_one] at hg
          have hg' := hr2.le'.get hg
          have hxj := hx _ (List.getElem_mem hj')
          rw [List.drop_eq_getElem_cons hj'] at hpass
          simp (maxSteps := 2000000) (disch := first | omega | assumption | exact idP rfl | exact idP (bL rfl) | (simp only [alloc_size, upd_size]; done) | (simp only [alloc_size, upd_size]; omega) | fail) only [go_sem, reduceIte, Nat.reduceEqDiff, e0, e1, e5, e6, hg']
          refine (s_l11Left hu (hxl _ (List.getElem_mem hj')) hn hxj hr2 hmi).mono ?_
          rintro r H3 ⟨rfl, rfl⟩
          simp (maxSteps := 2000000) (disch := first | omega | assumption | exact idP rfl | exact idP (bL rfl) | (simp only [alloc_size, upd_size]; done) | (simp only [alloc_size, upd_size]; omega) | fail) only [go_sem, reduceIte, Nat.reduceEqDiff, e0, e1, e5, e6]
          refine condV_dec (fun h0 => ?_) (fun h0 => ?_)
          · simp (maxSteps := 2000000) (disch := first | omega | assumption | exact idP rfl | exact idP (bL rfl) | (simp only [alloc_size, upd_size]; done) | (simp only [alloc_size, upd_size]; omega) | fail) only [go_sem, reduceIte, Nat.reduceEqDiff]
            rw [passF_none h0] at hpass
            exact hR _ _ ⟨none, hag _ (.bad hpass), hle2, hr2.lt, fun _ => rfl, fun m' h => (by cases h)⟩
          · simp (maxSteps := 2000000) (disch := first | omega | assumption | exact idP rfl | exact idP (bL rfl) | (simp only [alloc_size, upd_size]; done) | (simp only [alloc_size, upd_size]; omega) | fail) only [go_sem, reduceIte, Nat.reduceEqDiff]
            refine condV_dec (fun h1 => ?_) (fun h1 => ?_)
            · obtain ⟨h3, h4⟩ := leftF_one h1
              have h5 := hxj _ h3
              simp (maxSteps := 2000000) (disch := first | omega | assumption | exact idP rfl | exact idP (bL rfl) | (simp only [alloc_size, upd_size]; done) | (simp only [alloc_size, upd_size]; omega) | fail) only [go_sem, reduceIte, Nat.reduceEqDiff, e0, e1, e5, e6]
              refine (s_l11Abs (n := (leftF mi xss[j] 0 0).2) (by omega) (by omega)).mono ?_
              rintro r H4 ⟨rfl, rfl⟩
              simp (maxSteps := 2000000) (disch := first | omega | assumption | exact idP rfl | exact idP (bL rfl) | (simp only [alloc_size, upd_size]; done) | (simp only [alloc_size, upd_size]; omega) | fail) only [go_sem, reduceIte, Nat.reduceEqDiff, e0, e1, e5, e6, hr2.rw]
              rw [stoK_1 rfl (by simp only [List.length_map, hmi]; omega)]
              simp (maxSteps := 2000000) (disch := first | omega | assumption | exact idP rfl | exact idP (bL rfl) | (simp only [alloc_size, upd_size]; done) | (simp only [alloc_size, upd_size]; omega) | fail) only [go_sem, reduceIte, Nat.reduceEqDiff, e0, e1, e5, e6]
              rw [passF_one h1] at hpass
              refine hK2 _ _ ⟨j + 1, _, true, by omega, by simp (maxSteps := 2000000) (disch := first | omega | assumption | exact idP rfl | exact idP (bL rfl) | (simp only [alloc_size, upd_size]; done) | (simp only [alloc_size, upd_size]; omega) | fail) only [go_sem, reduceIte, Nat.reduceEqDiff, e0], by simp (maxSteps := 2000000) (disch := first | omega | assumption | exact idP rfl | exact idP (bL rfl) | (simp only [alloc_size, upd_size]; done) | (simp only [alloc_size, upd_size]; omega) | fail) only [go_sem, reduceIte, Nat.reduceEqDiff, e1], by simp (maxSteps := 2000000) (disch := first | omega | assumption | exact idP rfl | exact idP (bL rfl) | (simp only [alloc_size, upd_size]; done) | (simp only [alloc_size, upd_size]; omega) | fail) only [go_sem, reduceIte, Nat.reduceEqDiff]; rfl, by simp (maxSteps := 2000000) (disch := first | omega | assumption | exact idP rfl | exact idP (bL rfl) | (simp only [alloc_size, upd_size]; done) | (simp only [alloc_size, upd_size]; omega) | fail) only [go_sem, reduceIte, Nat.reduceEqDiff], hr2.set _ _, by simpa using hmi, ?_, hpass, ?_⟩ (by simp (maxSteps := 2000000) (disch := first | omega | assumption | exact idP rfl | exact idP (bL rfl) | (simp only [alloc_size, upd_size]; done) | (simp only [alloc_size, upd_size]; omega) | fail) only [go_sem, reduceIte, Nat.reduceEqDiff, ctr_int, e6]; omega)
              · rw [upd_kill]; exact hle2
              · have := zer_set h4 (by omega) h5.1
                simp only [if_true]
                split at hz <;> omega
            · rw [passF_open h0 h1] at hpass
              simp (maxSteps := 2000000) (disch := first | omega | assumption | exact idP rfl | exact idP (bL rfl) | (simp only [alloc_size, upd_size]; done) | (simp only [alloc_size, upd_size]; omega) | fail) only [go_sem, reduceIte, Nat.reduceEqDiff, e0, e1, e5, e6]
              exact hK2 _ _ ⟨j + 1, mi, ai, by omega, by simp (maxSteps := 2000000) (disch := first | omega | assumption | exact idP rfl | exact idP (bL rfl) | (simp only [alloc_size, upd_size]; done) | (simp only [alloc_size, upd_size]; omega) | fail) only [go_sem, reduceIte, Nat.reduceEqDiff, e0], by simp (maxSteps := 2000000) (disch := first | omega | assumption | exact idP rfl | exact idP (bL rfl) | (simp only [alloc_size, upd_size]; done) | (simp only [alloc_size, upd_size]; omega) | fail) only [go_sem, reduceIte, Nat.reduceEqDiff, e1], by simp (maxSteps := 2000000) (disch := first | omega | assumption | exact idP rfl | exact idP (bL rfl) | (simp only [alloc_size, upd_size]; done) | (simp only [alloc_size, upd_size]; omega) | fail) only [go_sem, reduceIte, Nat.reduceEqDiff]; rfl, by simp (maxSteps := 2000000) (disch := first | omega | assumption | exact idP rfl | exact idP (bL rfl) | (simp only [alloc_size, upd_size]; done) | (simp only [alloc_size, upd_size]; omega) | fail) only [go_sem, reduceIte, Nat.reduceEqDiff, e5], hr2, hmi, hle2, hpass, hz⟩ (by simp (maxSteps := 2000000) (disch := first | omega | assumption | exact idP rfl | exact idP (bL rfl) | (simp only [alloc_size, upd_size]; done) | (simp only [alloc_size, upd_size]; omega) | fail) only [go_sem, reduceIte, Nat.reduceEqDiff, ctr_int, e6]; omega)
        · obtain rfl : j = xss.length := by omega
          rw [List.drop_length] at hpass
          simp only [passF] at hpass
          simp (maxSteps := 2000000) (disch := first | omega | assumption | exact idP rfl | exact idP (bL rfl) | (simp only [alloc_size, upd_size]; done) | (simp only [alloc_size, upd_size]; omega) | fail) only [go_sem, reduceIte, Nat.reduceEqDiff]
          refine hK _ _ _ ?_ ⟨mi, ai, hr2, hmi, e0, e1, e5, hle2, rfl, ?_, ?_⟩
          · simp only [if_true]; omega
          · rintro rfl r hf
            exact hag _ (.go hpass hf)
          · rintro rfl
            exact hag _ (.stop hpass)
end Go.M2

namespace Go.M2
open Go.Proofs
variable {H : Heap}
def Mk (m : List Int) : Prop := ∀ a (h : a < m.length), m[a] = 0 ∨ m[a].natAbs = a
theorem Mk.set {m : List Int} (h : Mk m) {x : Int} : Mk (m.set x.natAbs x) := by
  intro a ha
  rw [List.getElem_set]
  split
  · rename_i e; exact .inr e
  · exact h a (by simpa using ha)
theorem sgn_zero {x : Int} : sgn x = 0 ↔ x = 0 := by
  unfold sgn
  by_cases h : x = 0
  · simp [h]
  · by_cases h2 : x < 0 <;> simp [h, h2]
theorem sgn_pos {x : Int} : 0 < sgn x ↔ 0 < x := by
  unfold sgn
  by_cases h : x = 0
  · simp [h]
  · by_cases h2 : x < 0 <;> simp [h, h2] <;> omega
theorem mk_eq {m : List Int} (h : Mk m) {x : Int} (hx : x ≠ 0) (hl : x.natAbs < m.length) (hz : m[x.natAbs] ≠ 0) : m[x.natAbs] = x ↔ (0 < sgn m[x.natAbs] ↔ 0 < x) := by
  rw [sgn_pos]
  have := (h _ hl).resolve_left hz
  constructor
  · intro e; rw [e]
  · intro e; omega
theorem s_forced {H0 : Heap} {b n : Nat} {v : AV} {xss : List (List Int)} {m : List Int} (hv : IsII H0 v xss) (hl : xss.length ≤ 1048576) (hxl : ∀ xs ∈ xss, xs.length ≤ 1048576) (hn : n ≤ 700) (hx : ∀ xs ∈ xss, Lits n xs) (hrow : Row H0 H b (m.map sgn)) (hm : m.length = n + 1) (hmk : Mk m) :
    ACall Try.prog n_impl_forced [v, .sl (some (b, 0)) (n + 1) (n + 1) true 1] H (fun r H' => ∃ res, Force xss m res ∧ Le (H.kill b) (H'.kill b) ∧ b < H'.size ∧ (res = none → r = .bool false) ∧ ∀ m', res = some m' → r = .bool true ∧ Row H0 H' b (m'.map sgn) ∧ m'.length = n + 1 ∧ Mk m') := by
  refine ACall.of fun R hR => a_impl_forced rfl ?_
  obtain ⟨A, c, ex, k, rfl, hr⟩ := hv.parts
  simp (maxSteps := 2000000) (disch := first | omega | assumption | exact idP rfl | exact idP (bL rfl) | (simp only [alloc_size, upd_size]; done) | (simp only [alloc_size, upd_size]; omega) | fail) only [go_sem, reduceIte, Nat.reduceEqDiff]
  refine wp_loop_g (fun g e H' => ∃ (mc : List Int) (ag : Bool), Row H0 H' b (mc.map sgn) ∧ mc.length = n + 1 ∧ Mk mc ∧ e 0 = .sl A xss.length c ex k ∧ e 1 = .sl (some (b, 0)) (n + 1) (n + 1) true 1 ∧ e 5 = .bool ag ∧ Le (H.kill b) (H'.kill b) ∧ g = zer mc + (if ag then 1 else 0) ∧
    (ag = true → ∀ r, Force xss mc r → Force xss m r) ∧ (ag = false → Force xss m (some mc))) (zer m + 1) ?_ ?_
  · exact ⟨m, true, hrow, hm, hmk, by simp (maxSteps := 2000000) (disch := first | omega | assumption | exact idP rfl | exact idP (bL rfl) | (simp only [alloc_size, upd_size]; done) | (simp only [alloc_size, upd_size]; omega) | fail) only [go_sem, reduceIte, Nat.reduceEqDiff], by simp (maxSteps := 2000000) (disch := first | omega | assumption | exact idP rfl | exact idP (bL rfl) | (simp only [alloc_size, upd_size]; done) | (simp only [alloc_size, upd_size]; omega) | fail) only [go_sem, reduceIte, Nat.reduceEqDiff], by simp (maxSteps := 2000000) (disch := first | omega | assumption | exact idP rfl | exact idP (bL rfl) | (simp only [alloc_size, upd_size]; done) | (simp only [alloc_size, upd_size]; omega) | fail) only [go_sem, reduceIte, Nat.reduceEqDiff], Le.refl _, rfl, fun _ _ h => h, fun h => by cases h⟩
  · rintro g e H1 ⟨mc, ag, hr1, hmc, hmk1, e0, e1, e5, hle, rfl, hag, hag2⟩ K hK
    simp (maxSteps := 2000000) (disch := first | omega | assumption | exact idP rfl | exact idP (bL rfl) | (simp only [alloc_size, upd_size]; done) | (simp only [alloc_size, upd_size]; omega) | fail) only [go_sem, reduceIte, Nat.reduceEqDiff, e0, e1, e5]
    cases ag with
    | false =>
      simp (maxSteps := 2000000) (disch := first | omega | assumption | exact idP rfl | exact idP (bL rfl) | (simp only [alloc_size, upd_size]; done) | (simp only [alloc_size, upd_size]; omega) | fail) only [go_sem, reduceIte, Nat.reduceEqDiff]
      refine hR _ _ ⟨some mc, hag2 rfl, hle, hr1.lt, fun h => (by cases h), fun m' h => ?_⟩
      cases h
      exact ⟨rfl, hr1, hmc, hmk1⟩
    | true =>
      have hag := hag rfl
      simp (maxSteps := 2000000) (disch := first | omega | assumption | exact idP rfl | exact idP (bL rfl) | (simp only [alloc_size, upd_size]; done) | (simp only [alloc_size, upd_size]; omega) | fail) only [go_sem, reduceIte, Nat.reduceEqDiff, e0]
      refine wp_loop_k (fun e H' => ∃ (j : Nat) (mi : List Int) (ai : Bool), j ≤ xss.length ∧ e 0 = .sl A xss.length c ex k ∧ e 15 = .sl A xss.length c ex k ∧ e 16 = .int .i64 (xss.length : Int) ∧ e 1 = .sl (some (b, 0)) (n + 1) (n + 1) true 1 ∧ e 17 = .int .i64 (j : Int) ∧ e 5 = .bool ai ∧ Row H0 H' b (mi.map sgn) ∧ mi.length = n + 1 ∧ Mk mi ∧ Le (H.kill b) (H'.kill b) ∧
        passF xss mc false = passF (xss.drop j) mi ai ∧ zer mi + (if ai then 1 else 0) ≤ zer mc) (fun e _ => ctr xss.length (e 17)) ?_ ?_
      · exact ⟨0, mc, false, Nat.zero_le _, by simp (maxSteps := 2000000) (disch := first | omega | assumption | exact idP rfl | exact idP (bL rfl) | (simp only [alloc_size, upd_size]; done) | (simp only [alloc_size, upd_size]; omega) | fail) only [go_sem, reduceIte, Nat.reduceEqDiff, e0], by simp (maxSteps := 2000000) (disch := first | omega | assumption | exact idP rfl | exact idP (bL rfl) | (simp only [alloc_size, upd_size]; done) | (simp only [alloc_size, upd_size]; omega) | fail) only [go_sem, reduceIte, Nat.reduceEqDiff], by simp (maxSteps := 2000000) (disch := first | omega | assumption | exact idP rfl | exact idP (bL rfl) | (simp only [alloc_size, upd_size]; done) | (simp only [alloc_size, upd_size]; omega) | fail) only [go_sem, reduceIte, Nat.reduceEqDiff], by simp (maxSteps := 2000000) (disch := first | omega | assumption | exact idP rfl | exact idP (bL rfl) | (simp only [alloc_size, upd_size]; done) | (simp only [alloc_size, upd_size]; omega) | fail) only [go_sem, reduceIte, Nat.reduceEqDiff, e1], by simp (maxSteps := 2000000) (disch := first | omega | assumption | exact idP rfl | exact idP (bL rfl) | (simp only [alloc_size, upd_size]; done) | (simp only [alloc_size, upd_size]; omega) | fail) only [go_sem, reduceIte, Nat.reduceEqDiff]; rfl, by simp (maxSteps := 2000000) (disch := first | omega | assumption | exact idP rfl | exact idP (bL rfl) | (simp only [alloc_size, upd_size]; done) | (simp only [alloc_size, upd_size]; omega) | fail) only [go_sem, reduceIte, Nat.reduceEqDiff], hr1, hmc, hmk1, hle, rfl, by simp⟩
      · rintro e H2 ⟨j, mi, ai, hj, e0, e15, e16, e1, e17, e5, hr2, hmi, hmk2, hle2, hpass, hz⟩ K2 hK2
        simp (maxSteps := 2000000) (disch := first | omega | assumption | exact idP rfl | exact idP (bL rfl) | (simp only [alloc_size, upd_size]; done) | (simp only [alloc_size, upd_size]; omega) | fail) only [go_sem, reduceIte, Nat.reduceEqDiff, e0, e1, e5, e15, e16, e17]
        refine condV_dec (fun h => ?_) (fun h => ?_)
        · have hj' : j < xss.length := by omega
          obtain ⟨u, hg, hu⟩ := hr j hj'
          rw [Nat.mul_one] at hg
          have hg' := hr2.le'.get hg
          have hxj := hx _ (List.getElem_mem hj')
          have hlj := hxl _ (List.getElem_mem hj')
          have e17o := e17
          rw [List.drop_eq_getElem_cons hj'] at hpass
          obtain ⟨A', c', ex', k', rfl, hr'⟩ := hu.parts
          simp (maxSteps := 2000000) (disch := first | omega | assumption | exact idP rfl | exact idP (bL rfl) | (simp only [alloc_size, upd_size]; done) | (simp only [alloc_size, upd_size]; omega) | fail) only [go_sem, reduceIte, Nat.reduceEqDiff, e0, e1, e5, e15, e16, e17, hg']
          refine wp_loop_k (fun e H' => H' = H2 ∧ ∃ (i : Nat) (o l : Int) (dn : Bool), i ≤ xss[j].length ∧ e 0 = .sl A xss.length c ex k ∧ e 15 = .sl A xss.length c ex k ∧ e 16 = .int .i64 (xss.length : Int) ∧ e 1 = .sl (some (b, 0)) (n + 1) (n + 1) true 1 ∧ e 17 = .int .i64 (j : Int) ∧ e 5 = .bool ai ∧
            e 21 = .sl A' xss[j].length c' ex' k' ∧ e 22 = .int .i64 (xss[j].length : Int) ∧ e 23 = .int .i64 (i : Int) ∧ e 8 = .int .i64 l ∧ e 9 = .int .i64 o ∧ e 10 = .bool dn ∧ 0 ≤ o ∧ o ≤ i ∧ (dn = false → leftF mi xss[j] 0 0 = leftF mi (xss[j].drop i) o l) ∧ (dn = true → (leftF mi xss[j] 0 0).1 = -1)) (fun e _ => ctr xss[j].length (e 23)) ?_ ?_
          · exact ⟨rfl, 0, 0, 0, false, Nat.zero_le _, by simp (maxSteps := 2000000) (disch := first | omega | assumption | exact idP rfl | exact idP (bL rfl) | (simp only [alloc_size, upd_size]; done) | (simp only [alloc_size, upd_size]; omega) | fail) only [go_sem, reduceIte, Nat.reduceEqDiff, e0], by simp (maxSteps := 2000000) (disch := first | omega | assumption | exact idP rfl | exact idP (bL rfl) | (simp only [alloc_size, upd_size]; done) | (simp only [alloc_size, upd_size]; omega) | fail) only [go_sem, reduceIte, Nat.reduceEqDiff, e15], by simp (maxSteps := 2000000) (disch := first | omega | assumption | exact idP rfl | exact idP (bL rfl) | (simp only [alloc_size, upd_size]; done) | (simp only [alloc_size, upd_size]; omega) | fail) only [go_sem, reduceIte, Nat.reduceEqDiff, e16], by simp (maxSteps := 2000000) (disch := first | omega | assumption | exact idP rfl | exact idP (bL rfl) | (simp only [alloc_size, upd_size]; done) | (simp only [alloc_size, upd_size]; omega) | fail) only [go_sem, reduceIte, Nat.reduceEqDiff, e1], by simp (maxSteps := 2000000) (disch := first | omega | assumption | exact idP rfl | exact idP (bL rfl) | (simp only [alloc_size, upd_size]; done) | (simp only [alloc_size, upd_size]; omega) | fail) only [go_sem, reduceIte, Nat.reduceEqDiff, e17], by simp (maxSteps := 2000000) (disch := first | omega | assumption | exact idP rfl | exact idP (bL rfl) | (simp only [alloc_size, upd_size]; done) | (simp only [alloc_size, upd_size]; omega) | fail) only [go_sem, reduceIte, Nat.reduceEqDiff, e5], by simp (maxSteps := 2000000) (disch := first | omega | assumption | exact idP rfl | exact idP (bL rfl) | (simp only [alloc_size, upd_size]; done) | (simp only [alloc_size, upd_size]; omega) | fail) only [go_sem, reduceIte, Nat.reduceEqDiff], by simp (maxSteps := 2000000) (disch := first | omega | assumption | exact idP rfl | exact idP (bL rfl) | (simp only [alloc_size, upd_size]; done) | (simp only [alloc_size, upd_size]; omega) | fail) only [go_sem, reduceIte, Nat.reduceEqDiff], by simp (maxSteps := 2000000) (disch := first | omega | assumption | exact idP rfl | exact idP (bL rfl) | (simp only [alloc_size, upd_size]; done) | (simp only [alloc_size, upd_size]; omega) | fail) only [go_sem, reduceIte, Nat.reduceEqDiff]; rfl, by simp (maxSteps := 2000000) (disch := first | omega | assumption | exact idP rfl | exact idP (bL rfl) | (simp only [alloc_size, upd_size]; done) | (simp only [alloc_size, upd_size]; omega) | fail) only [go_sem, reduceIte, Nat.reduceEqDiff], by simp (maxSteps := 2000000) (disch := first | omega | assumption | exact idP rfl | exact idP (bL rfl) | (simp only [alloc_size, upd_size]; done) | (simp only [alloc_size, upd_size]; omega) | fail) only [go_sem, reduceIte, Nat.reduceEqDiff], by simp (maxSteps := 2000000) (disch := first | omega | assumption | exact idP rfl | exact idP (bL rfl) | (simp only [alloc_size, upd_size]; done) | (simp only [alloc_size, upd_size]; omega) | fail) only [go_sem, reduceIte, Nat.reduceEqDiff], by omega, by omega, fun _ => rfl, fun h => by cases h⟩
          · rintro e H3 ⟨rfl, i, o, l, dn, hi, e0, e15, e16, e1, e17, e5, e21, e22, e23, e8, e9, e10, ho1, ho2, hd1, hd2⟩ K3 hK3
            simp (maxSteps := 2000000) (disch := first | omega | assumption | exact idP rfl | exact idP (bL rfl) | (simp only [alloc_size, upd_size]; done) | (simp only [alloc_size, upd_size]; omega) | fail) only [go_sem, reduceIte, Nat.reduceEqDiff, e21, e22, e23]
            refine condV_dec (fun h => ?_) (fun h => ?_)
            · have hi' : i < xss[j].length := by omega
              have hg2 := hr2.le'.get (hr' i hi')
              rw [Nat.mul_one] at hg2
              have hxi := hxj _ (List.getElem_mem hi')
              have hml : xss[j][i].natAbs < mi.length := by omega
              have hgm := hr2.get (i := xss[j][i].natAbs) (by simpa using hml)
              simp only [List.getElem_map] at hgm
              have hgd : mi.getD xss[j][i].natAbs 0 = mi[xss[j][i].natAbs] := by simp [List.getD, hml]
              rw [List.drop_eq_getElem_cons hi'] at hd1
              simp only [leftF, hgd] at hd1
              simp (maxSteps := 2000000) (disch := first | omega | assumption | exact idP rfl | exact idP (bL rfl) | (simp only [alloc_size, upd_size]; done) | (simp only [alloc_size, upd_size]; omega) | fail) only [go_sem, reduceIte, Nat.reduceEqDiff, e21, e22, e23, e1, hg2]
              refine (s_atomOf (n := xss[j][i]) (by omega) (by omega)).mono ?_
              rintro r H4 ⟨rfl, rfl⟩
              simp (maxSteps := 2000000) (disch := first | omega | assumption | exact idP rfl | exact idP (bL rfl) | (simp only [alloc_size, upd_size]; done) | (simp only [alloc_size, upd_size]; omega) | fail) only [go_sem, reduceIte, Nat.reduceEqDiff, e21, e22, e23, e1, hgm]
              by_cases hz0 : mi[xss[j][i].natAbs] = 0
              · have hs0 : sgn mi[xss[j][i].natAbs] = 0 := sgn_zero.2 hz0
                have hne : ¬ mi[xss[j][i].natAbs] = xss[j][i] := by rw [hz0]; exact fun e => hxi.1 e.symm
                rw [if_neg hne, if_pos hz0] at hd1
                simp (maxSteps := 2000000) (disch := first | omega | assumption | exact idP rfl | exact idP (bL rfl) | (simp only [alloc_size, upd_size]; done) | (simp only [alloc_size, upd_size]; omega) | fail) only [go_sem, reduceIte, Nat.reduceEqDiff, hs0, e9, e23]
                refine hK3 _ _ ⟨rfl, i + 1, o + 1, xss[j][i], dn, by omega, by simp (maxSteps := 2000000) (disch := first | omega | assumption | exact idP rfl | exact idP (bL rfl) | (simp only [alloc_size, upd_size]; done) | (simp only [alloc_size, upd_size]; omega) | fail) only [go_sem, reduceIte, Nat.reduceEqDiff, e0], by simp (maxSteps := 2000000) (disch := first | omega | assumption | exact idP rfl | exact idP (bL rfl) | (simp only [alloc_size, upd_size]; done) | (simp only [alloc_size, upd_size]; omega) | fail) only [go_sem, reduceIte, Nat.reduceEqDiff, e15], by simp (maxSteps := 2000000) (disch := first | omega | assumption | exact idP rfl | exact idP (bL rfl) | (simp only [alloc_size, upd_size]; done) | (simp only [alloc_size, upd_size]; omega) | fail) only [go_sem, reduceIte, Nat.reduceEqDiff, e16], by simp (maxSteps := 2000000) (disch := first | omega | assumption | exact idP rfl | exact idP (bL rfl) | (simp only [alloc_size, upd_size]; done) | (simp only [alloc_size, upd_size]; omega) | fail) only [go_sem, reduceIte, Nat.reduceEqDiff, e1], by simp (maxSteps := 2000000) (disch := first | omega | assumption | exact idP rfl | exact idP (bL rfl) | (simp only [alloc_size, upd_size]; done) | (simp only [alloc_size, upd_size]; omega) | fail) only [go_sem, reduceIte, Nat.reduceEqDiff, e17], by simp (maxSteps := 2000000) (disch := first | omega | assumption | exact idP rfl | exact idP (bL rfl) | (simp only [alloc_size, upd_size]; done) | (simp only [alloc_size, upd_size]; omega) | fail) only [go_sem, reduceIte, Nat.reduceEqDiff, e5], by simp (maxSteps := 2000000) (disch := first | omega | assumption | exact idP rfl | exact idP (bL rfl) | (simp only [alloc_size, upd_size]; done) | (simp only [alloc_size, upd_size]; omega) | fail) only [go_sem, reduceIte, Nat.reduceEqDiff, e21], by simp (maxSteps := 2000000) (disch := first | omega | assumption | exact idP rfl | exact idP (bL rfl) | (simp only [alloc_size, upd_size]; done) | (simp only [alloc_size, upd_size]; omega) | fail) only [go_sem, reduceIte, Nat.reduceEqDiff, e22], by simp (maxSteps := 2000000) (disch := first | omega | assumption | exact idP rfl | exact idP (bL rfl) | (simp only [alloc_size, upd_size]; done) | (simp only [alloc_size, upd_size]; omega) | fail) only [go_sem, reduceIte, Nat.reduceEqDiff]; rfl, by simp (maxSteps := 2000000) (disch := first | omega | assumption | exact idP rfl | exact idP (bL rfl) | (simp only [alloc_size, upd_size]; done) | (simp only [alloc_size, upd_size]; omega) | fail) only [go_sem, reduceIte, Nat.reduceEqDiff], by simp (maxSteps := 2000000) (disch := first | omega | assumption | exact idP rfl | exact idP (bL rfl) | (simp only [alloc_size, upd_size]; done) | (simp only [alloc_size, upd_size]; omega) | fail) only [go_sem, reduceIte, Nat.reduceEqDiff], by simp (maxSteps := 2000000) (disch := first | omega | assumption | exact idP rfl | exact idP (bL rfl) | (simp only [alloc_size, upd_size]; done) | (simp only [alloc_size, upd_size]; omega) | fail) only [go_sem, reduceIte, Nat.reduceEqDiff, e10], by omega, by omega, hd1, hd2⟩ (by simp (maxSteps := 2000000) (disch := first | omega | assumption | exact idP rfl | exact idP (bL rfl) | (simp only [alloc_size, upd_size]; done) | (simp only [alloc_size, upd_size]; omega) | fail) only [go_sem, reduceIte, Nat.reduceEqDiff, ctr_int, e23]; omega)
              · have hs0 : ¬ sgn mi[xss[j][i].natAbs] = 0 := fun e => hz0 (sgn_zero.1 e)
                have hme := mk_eq hmk2 hxi.1 hml hz0
                simp (maxSteps := 2000000) (disch := first | omega | assumption | exact idP rfl | exact idP (bL rfl) | (simp only [alloc_size, upd_size]; done) | (simp only [alloc_size, upd_size]; omega) | fail) only [go_sem, reduceIte, Nat.reduceEqDiff, hs0]
                by_cases hq : mi[xss[j][i].natAbs] = xss[j][i]
                · have hb : (decide (0 < sgn mi[xss[j][i].natAbs]) == decide (0 < xss[j][i])) = true := by
                    have := hme.1 hq
                    simp [this]
                  rw [if_pos hq] at hd1
                  simp (maxSteps := 2000000) (disch := first | omega | assumption | exact idP rfl | exact idP (bL rfl) | (simp only [alloc_size, upd_size]; done) | (simp only [alloc_size, upd_size]; omega) | fail) only [go_sem, reduceIte, Nat.reduceEqDiff, hb, e23]
                  refine hK3 _ _ ⟨rfl, i + 1, o, l, true, by omega, by simp (maxSteps := 2000000) (disch := first | omega | assumption | exact idP rfl | exact idP (bL rfl) | (simp only [alloc_size, upd_size]; done) | (simp only [alloc_size, upd_size]; omega) | fail) only [go_sem, reduceIte, Nat.reduceEqDiff, e0], by simp (maxSteps := 2000000) (disch := first | omega | assumption | exact idP rfl | exact idP (bL rfl) | (simp only [alloc_size, upd_size]; done) | (simp only [alloc_size, upd_size]; omega) | fail) only [go_sem, reduceIte, Nat.reduceEqDiff, e15], by simp (maxSteps := 2000000) (disch := first | omega | assumption | exact idP rfl | exact idP (bL rfl) | (simp only [alloc_size, upd_size]; done) | (simp only [alloc_size, upd_size]; omega) | fail) only [go_sem, reduceIte, Nat.reduceEqDiff, e16], by simp (maxSteps := 2000000) (disch := first | omega | assumption | exact idP rfl | exact idP (bL rfl) | (simp only [alloc_size, upd_size]; done) | (simp only [alloc_size, upd_size]; omega) | fail) only [go_sem, reduceIte, Nat.reduceEqDiff, e1], by simp (maxSteps := 2000000) (disch := first | omega | assumption | exact idP rfl | exact idP (bL rfl) | (simp only [alloc_size, upd_size]; done) | (simp only [alloc_size, upd_size]; omega) | fail) only [go_sem, reduceIte, Nat.reduceEqDiff, e17], by simp (maxSteps := 2000000) (disch := first | omega | assumption | exact idP rfl | exact idP (bL rfl) | (simp only [alloc_size, upd_size]; done) | (simp only [alloc_size, upd_size]; omega) | fail) only [go_sem, reduceIte, Nat.reduceEqDiff, e5], by simp (maxSteps := 2000000) (disch := first | omega | assumption | exact idP rfl | exact idP (bL rfl) | (simp only [alloc_size, upd_size]; done) | (simp only [alloc_size, upd_size]; omega) | fail) only [go_sem, reduceIte, Nat.reduceEqDiff, e21], by simp (maxSteps := 2000000) (disch := first | omega | assumption | exact idP rfl | exact idP (bL rfl) | (simp only [alloc_size, upd_size]; done) | (simp only [alloc_size, upd_size]; omega) | fail) only [go_sem, reduceIte, Nat.reduceEqDiff, e22], by simp (maxSteps := 2000000) (disch := first | omega | assumption | exact idP rfl | exact idP (bL rfl) | (simp only [alloc_size, upd_size]; done) | (simp only [alloc_size, upd_size]; omega) | fail) only [go_sem, reduceIte, Nat.reduceEqDiff]; rfl, by simp (maxSteps := 2000000) (disch := first | omega | assumption | exact idP rfl | exact idP (bL rfl) | (simp only [alloc_size, upd_size]; done) | (simp only [alloc_size, upd_size]; omega) | fail) only [go_sem, reduceIte, Nat.reduceEqDiff, e8], by simp (maxSteps := 2000000) (disch := first | omega | assumption | exact idP rfl | exact idP (bL rfl) | (simp only [alloc_size, upd_size]; done) | (simp only [alloc_size, upd_size]; omega) | fail) only [go_sem, reduceIte, Nat.reduceEqDiff, e9], by simp (maxSteps := 2000000) (disch := first | omega | assumption | exact idP rfl | exact idP (bL rfl) | (simp only [alloc_size, upd_size]; done) | (simp only [alloc_size, upd_size]; omega) | fail) only [go_sem, reduceIte, Nat.reduceEqDiff], by omega, by omega, fun h => (by cases h), fun _ => ?_⟩ (by simp (maxSteps := 2000000) (disch := first | omega | assumption | exact idP rfl | exact idP (bL rfl) | (simp only [alloc_size, upd_size]; done) | (simp only [alloc_size, upd_size]; omega) | fail) only [go_sem, reduceIte, Nat.reduceEqDiff, ctr_int, e23]; omega)
                  cases dn with
                  | false => rw [hd1 rfl]
                  | true => exact hd2 rfl
                · have hb : (decide (0 < sgn mi[xss[j][i].natAbs]) == decide (0 < xss[j][i])) = false := by
                    have : ¬ (0 < sgn mi[xss[j][i].natAbs] ↔ 0 < xss[j][i]) := fun e => hq (hme.2 e)
                    by_cases ha : 0 < sgn mi[xss[j][i].natAbs] <;> by_cases hb : 0 < xss[j][i] <;> simp_all
                  rw [if_neg hq, if_neg hz0] at hd1
                  simp (maxSteps := 2000000) (disch := first | omega | assumption | exact idP rfl | exact idP (bL rfl) | (simp only [alloc_size, upd_size]; done) | (simp only [alloc_size, upd_size]; omega) | fail) only [go_sem, reduceIte, Nat.reduceEqDiff, hb, e23]
                  exact hK3 _ _ ⟨rfl, i + 1, o, l, dn, by omega, by simp (maxSteps := 2000000) (disch := first | omega | assumption | exact idP rfl | exact idP (bL rfl) | (simp only [alloc_size, upd_size]; done) | (simp only [alloc_size, upd_size]; omega) | fail) only [go_sem, reduceIte, Nat.reduceEqDiff, e0], by simp (maxSteps := 2000000) (disch := first | omega | assumption | exact idP rfl | exact idP (bL rfl) | (simp only [alloc_size, upd_size]; done) | (simp only [alloc_size, upd_size]; omega) | fail) only [go_sem, reduceIte, Nat.reduceEqDiff, e15], by simp (maxSteps := 2000000) (disch := first | omega | assumption | exact idP rfl | exact idP (bL rfl) | (simp only [alloc_size, upd_size]; done) | (simp only [alloc_size, upd_size]; omega) | fail) only [go_sem, reduceIte, Nat.reduceEqDiff, e16], by simp (maxSteps := 2000000) (disch := first | omega | assumption | exact idP rfl | exact idP (bL rfl) | (simp only [alloc_size, upd_size]; done) | (simp only [alloc_size, upd_size]; omega) | fail) only [go_sem, reduceIte, Nat.reduceEqDiff, e1], by simp (maxSteps := 2000000) (disch := first | omega | assumption | exact idP rfl | exact idP (bL rfl) | (simp only [alloc_size, upd_size]; done) | (simp only [alloc_size, upd_size]; omega) | fail) only [go_sem, reduceIte, Nat.reduceEqDiff, e17], by simp (maxSteps := 2000000) (disch := first | omega | assumption | exact idP rfl | exact idP (bL rfl) | (simp only [alloc_size, upd_size]; done) | (simp only [alloc_size, upd_size]; omega) | fail) only [go_sem, reduceIte, Nat.reduceEqDiff, e5], by simp (maxSteps := 2000000) (disch := first | omega | assumption | exact idP rfl | exact idP (bL rfl) | (simp only [alloc_size, upd_size]; done) | (simp only [alloc_size, upd_size]; omega) | fail) only [go_sem, reduceIte, Nat.reduceEqDiff, e21], by simp (maxSteps := 2000000) (disch := first | omega | assumption | exact idP rfl | exact idP (bL rfl) | (simp only [alloc_size, upd_size]; done) | (simp only [alloc_size, upd_size]; omega) | fail) only [go_sem, reduceIte, Nat.reduceEqDiff, e22], by simp (maxSteps := 2000000) (disch := first | omega | assumption | exact idP rfl | exact idP (bL rfl) | (simp only [alloc_size, upd_size]; done) | (simp only [alloc_size, upd_size]; omega) | fail) only [go_sem, reduceIte, Nat.reduceEqDiff]; rfl, by simp (maxSteps := 2000000) (disch := first | omega | assumption | exact idP rfl | exact idP (bL rfl) | (simp only [alloc_size, upd_size]; done) | (simp only [alloc_size, upd_size]; omega) | fail) only [go_sem, reduceIte, Nat.reduceEqDiff, e8], by simp (maxSteps := 2000000) (disch := first | omega | assumption | exact idP rfl | exact idP (bL rfl) | (simp only [alloc_size, upd_size]; done) | (simp only [alloc_size, upd_size]; omega) | fail) only [go_sem, reduceIte, Nat.reduceEqDiff, e9], by simp (maxSteps := 2000000) (disch := first | omega | assumption | exact idP rfl | exact idP (bL rfl) | (simp only [alloc_size, upd_size]; done) | (simp only [alloc_size, upd_size]; omega) | fail) only [go_sem, reduceIte, Nat.reduceEqDiff, e10], by omega, by omega, hd1, hd2⟩ (by simp (maxSteps := 2000000) (disch := first | omega | assumption | exact idP rfl | exact idP (bL rfl) | (simp only [alloc_size, upd_size]; done) | (simp only [alloc_size, upd_size]; omega) | fail) only [go_sem, reduceIte, Nat.reduceEqDiff, ctr_int, e23]; omega)
            · obtain rfl : i = xss[j].length := by omega
              rw [List.drop_length] at hd1
              simp only [leftF] at hd1
              simp (maxSteps := 2000000) (disch := first | omega | assumption | exact idP rfl | exact idP (bL rfl) | (simp only [alloc_size, upd_size]; done) | (simp only [alloc_size, upd_size]; omega) | fail) only [go_sem, reduceIte, Nat.reduceEqDiff, e10]
              cases dn with
              | true =>
                have hm1 := hd2 rfl
                rw [passF_open (by omega) (by omega)] at hpass
                simp (maxSteps := 2000000) (disch := first | omega | assumption | exact idP rfl | exact idP (bL rfl) | (simp only [alloc_size, upd_size]; done) | (simp only [alloc_size, upd_size]; omega) | fail) only [go_sem, reduceIte, Nat.reduceEqDiff, e17]
                exact hK2 _ _ ⟨j + 1, mi, ai, by omega, by simp (maxSteps := 2000000) (disch := first | omega | assumption | exact idP rfl | exact idP (bL rfl) | (simp only [alloc_size, upd_size]; done) | (simp only [alloc_size, upd_size]; omega) | fail) only [go_sem, reduceIte, Nat.reduceEqDiff, e0], by simp (maxSteps := 2000000) (disch := first | omega | assumption | exact idP rfl | exact idP (bL rfl) | (simp only [alloc_size, upd_size]; done) | (simp only [alloc_size, upd_size]; omega) | fail) only [go_sem, reduceIte, Nat.reduceEqDiff, e15], by simp (maxSteps := 2000000) (disch := first | omega | assumption | exact idP rfl | exact idP (bL rfl) | (simp only [alloc_size, upd_size]; done) | (simp only [alloc_size, upd_size]; omega) | fail) only [go_sem, reduceIte, Nat.reduceEqDiff, e16], by simp (maxSteps := 2000000) (disch := first | omega | assumption | exact idP rfl | exact idP (bL rfl) | (simp only [alloc_size, upd_size]; done) | (simp only [alloc_size, upd_size]; omega) | fail) only [go_sem, reduceIte, Nat.reduceEqDiff, e1], by simp (maxSteps := 2000000) (disch := first | omega | assumption | exact idP rfl | exact idP (bL rfl) | (simp only [alloc_size, upd_size]; done) | (simp only [alloc_size, upd_size]; omega) | fail) only [go_sem, reduceIte, Nat.reduceEqDiff]; rfl, by simp (maxSteps := 2000000) (disch := first | omega | assumption | exact idP rfl | exact idP (bL rfl) | (simp only [alloc_size, upd_size]; done) | (simp only [alloc_size, upd_size]; omega) | fail) only [go_sem, reduceIte, Nat.reduceEqDiff, e5], hr2, hmi, hmk2, hle2, hpass, hz⟩ (by simp (maxSteps := 2000000) (disch := first | omega | assumption | exact idP rfl | exact idP (bL rfl) | (simp only [alloc_size, upd_size]; done) | (simp only [alloc_size, upd_size]; omega) | fail) only [go_sem, reduceIte, Nat.reduceEqDiff, ctr_int, e17o]; omega)
              | false =>
                have hd1 := hd1 rfl
                simp (maxSteps := 2000000) (disch := first | omega | assumption | exact idP rfl | exact idP (bL rfl) | (simp only [alloc_size, upd_size]; done) | (simp only [alloc_size, upd_size]; omega) | fail) only [go_sem, reduceIte, Nat.reduceEqDiff, e9]
                refine condV_dec (fun h0 => ?_) (fun h0 => ?_)
                · simp (maxSteps := 2000000) (disch := first | omega | assumption | exact idP rfl | exact idP (bL rfl) | (simp only [alloc_size, upd_size]; done) | (simp only [alloc_size, upd_size]; omega) | fail) only [go_sem, reduceIte, Nat.reduceEqDiff]
                  rw [passF_none (by rw [hd1]; exact h0)] at hpass
                  exact hR _ _ ⟨none, hag _ (.bad hpass), hle2, hr2.lt, fun _ => rfl, fun m' h => (by cases h)⟩
                · simp (maxSteps := 2000000) (disch := first | omega | assumption | exact idP rfl | exact idP (bL rfl) | (simp only [alloc_size, upd_size]; done) | (simp only [alloc_size, upd_size]; omega) | fail) only [go_sem, reduceIte, Nat.reduceEqDiff, e9]
                  refine condV_dec (fun h1 => ?_) (fun h1 => ?_)
                  · have hone : (leftF mi xss[j] 0 0).1 = 1 := by rw [hd1]; exact h1
                    obtain ⟨h3, h4⟩ := leftF_one hone
                    rw [passF_one hone] at hpass
                    rw [hd1] at h3 h4 hpass
                    have h5 := hxj _ h3
                    simp only at h3 h4 hpass h5
                    simp (maxSteps := 2000000) (disch := first | omega | assumption | exact idP rfl | exact idP (bL rfl) | (simp only [alloc_size, upd_size]; done) | (simp only [alloc_size, upd_size]; omega) | fail) only [go_sem, reduceIte, Nat.reduceEqDiff, e1, e8]
                    refine (s_atomOf (n := l) (by omega) (by omega)).mono ?_
                    rintro r H4 ⟨rfl, rfl⟩
                    simp (maxSteps := 2000000) (disch := first | omega | assumption | exact idP rfl | exact idP (bL rfl) | (simp only [alloc_size, upd_size]; done) | (simp only [alloc_size, upd_size]; omega) | fail) only [go_sem, reduceIte, Nat.reduceEqDiff, e1, e8]
                    refine s_bit.mono ?_
                    rintro r H5 ⟨rfl, rfl⟩
                    have hsg : (1 : Int) - 2 * (if decide (l < 0) = true then 1 else 0) = sgn l := by
                      by_cases hlt : l < 0 <;> simp [sgn, hlt, h5.1]
                    have hw1 : IntKind.i64.wrap (2 * (if decide (l < 0) = true then 1 else 0)) = 2 * (if decide (l < 0) = true then 1 else 0) := wrap_in (by split <;> omega) (by split <;> omega)
                    have hw2 : IntKind.i64.wrap (sgn l) = sgn l := wrap_in (by unfold sgn; split <;> (try split) <;> omega) (by unfold sgn; split <;> (try split) <;> omega)
                    simp (maxSteps := 2000000) (disch := first | omega | assumption | exact idP rfl | exact idP (bL rfl) | (simp only [alloc_size, upd_size]; done) | (simp only [alloc_size, upd_size]; omega) | fail) only [go_sem, reduceIte, Nat.reduceEqDiff, hr2.rw, hw1, hsg, hw2]
                    rw [stoK_1 rfl (by simp only [List.length_map, hmi]; omega)]
                    simp (maxSteps := 2000000) (disch := first | omega | assumption | exact idP rfl | exact idP (bL rfl) | (simp only [alloc_size, upd_size]; done) | (simp only [alloc_size, upd_size]; omega) | fail) only [go_sem, reduceIte, Nat.reduceEqDiff, e17]
                    refine hK2 _ _ ⟨j + 1, mi.set l.natAbs l, true, by omega, by simp (maxSteps := 2000000) (disch := first | omega | assumption | exact idP rfl | exact idP (bL rfl) | (simp only [alloc_size, upd_size]; done) | (simp only [alloc_size, upd_size]; omega) | fail) only [go_sem, reduceIte, Nat.reduceEqDiff, e0], by simp (maxSteps := 2000000) (disch := first | omega | assumption | exact idP rfl | exact idP (bL rfl) | (simp only [alloc_size, upd_size]; done) | (simp only [alloc_size, upd_size]; omega) | fail) only [go_sem, reduceIte, Nat.reduceEqDiff, e15], by simp (maxSteps := 2000000) (disch := first | omega | assumption | exact idP rfl | exact idP (bL rfl) | (simp only [alloc_size, upd_size]; done) | (simp only [alloc_size, upd_size]; omega) | fail) only [go_sem, reduceIte, Nat.reduceEqDiff, e16], by simp (maxSteps := 2000000) (disch := first | omega | assumption | exact idP rfl | exact idP (bL rfl) | (simp only [alloc_size, upd_size]; done) | (simp only [alloc_size, upd_size]; omega) | fail) only [go_sem, reduceIte, Nat.reduceEqDiff, e1], by simp (maxSteps := 2000000) (disch := first | omega | assumption | exact idP rfl | exact idP (bL rfl) | (simp only [alloc_size, upd_size]; done) | (simp only [alloc_size, upd_size]; omega) | fail) only [go_sem, reduceIte, Nat.reduceEqDiff]; rfl, by simp (maxSteps := 2000000) (disch := first | omega | assumption | exact idP rfl | exact idP (bL rfl) | (simp only [alloc_size, upd_size]; done) | (simp only [alloc_size, upd_size]; omega) | fail) only [go_sem, reduceIte, Nat.reduceEqDiff], ?_, by simpa using hmi, hmk2.set, ?_, hpass, ?_⟩ (by simp (maxSteps := 2000000) (disch := first | omega | assumption | exact idP rfl | exact idP (bL rfl) | (simp only [alloc_size, upd_size]; done) | (simp only [alloc_size, upd_size]; omega) | fail) only [go_sem, reduceIte, Nat.reduceEqDiff, ctr_int, e17o]; omega)
                    · rw [map_sgn_set]; exact hr2.set _ _
                    · rw [upd_kill]; exact hle2
                    · have := zer_set h4 (by omega) h5.1
                      simp only [if_true]
                      split at hz <;> omega
                  · rw [passF_open (by rw [hd1]; exact h0) (by rw [hd1]; exact h1)] at hpass
                    simp (maxSteps := 2000000) (disch := first | omega | assumption | exact idP rfl | exact idP (bL rfl) | (simp only [alloc_size, upd_size]; done) | (simp only [alloc_size, upd_size]; omega) | fail) only [go_sem, reduceIte, Nat.reduceEqDiff, e17]
                    exact hK2 _ _ ⟨j + 1, mi, ai, by omega, by simp (maxSteps := 2000000) (disch := first | omega | assumption | exact idP rfl | exact idP (bL rfl) | (simp only [alloc_size, upd_size]; done) | (simp only [alloc_size, upd_size]; omega) | fail) only [go_sem, reduceIte, Nat.reduceEqDiff, e0], by simp (maxSteps := 2000000) (disch := first | omega | assumption | exact idP rfl | exact idP (bL rfl) | (simp only [alloc_size, upd_size]; done) | (simp only [alloc_size, upd_size]; omega) | fail) only [go_sem, reduceIte, Nat.reduceEqDiff, e15], by simp (maxSteps := 2000000) (disch := first | omega | assumption | exact idP rfl | exact idP (bL rfl) | (simp only [alloc_size, upd_size]; done) | (simp only [alloc_size, upd_size]; omega) | fail) only [go_sem, reduceIte, Nat.reduceEqDiff, e16], by simp (maxSteps := 2000000) (disch := first | omega | assumption | exact idP rfl | exact idP (bL rfl) | (simp only [alloc_size, upd_size]; done) | (simp only [alloc_size, upd_size]; omega) | fail) only [go_sem, reduceIte, Nat.reduceEqDiff, e1], by simp (maxSteps := 2000000) (disch := first | omega | assumption | exact idP rfl | exact idP (bL rfl) | (simp only [alloc_size, upd_size]; done) | (simp only [alloc_size, upd_size]; omega) | fail) only [go_sem, reduceIte, Nat.reduceEqDiff]; rfl, by simp (maxSteps := 2000000) (disch := first | omega | assumption | exact idP rfl | exact idP (bL rfl) | (simp only [alloc_size, upd_size]; done) | (simp only [alloc_size, upd_size]; omega) | fail) only [go_sem, reduceIte, Nat.reduceEqDiff, e5], hr2, hmi, hmk2, hle2, hpass, hz⟩ (by simp (maxSteps := 2000000) (disch := first | omega | assumption | exact idP rfl | exact idP (bL rfl) | (simp only [alloc_size, upd_size]; done) | (simp only [alloc_size, upd_size]; omega) | fail) only [go_sem, reduceIte, Nat.reduceEqDiff, ctr_int, e17o]; omega)
        · obtain rfl : j = xss.length := by omega
          rw [List.drop_length] at hpass
          simp only [passF] at hpass
          simp (maxSteps := 2000000) (disch := first | omega | assumption | exact idP rfl | exact idP (bL rfl) | (simp only [alloc_size, upd_size]; done) | (simp only [alloc_size, upd_size]; omega) | fail) only [go_sem, reduceIte, Nat.reduceEqDiff]
          refine hK _ _ _ ?_ ⟨mi, ai, hr2, hmi, hmk2, by simp (maxSteps := 2000000) (disch := first | omega | assumption | exact idP rfl | exact idP (bL rfl) | (simp only [alloc_size, upd_size]; done) | (simp only [alloc_size, upd_size]; omega) | fail) only [go_sem, reduceIte, Nat.reduceEqDiff, e0], by simp (maxSteps := 2000000) (disch := first | omega | assumption | exact idP rfl | exact idP (bL rfl) | (simp only [alloc_size, upd_size]; done) | (simp only [alloc_size, upd_size]; omega) | fail) only [go_sem, reduceIte, Nat.reduceEqDiff, e1], by simp (maxSteps := 2000000) (disch := first | omega | assumption | exact idP rfl | exact idP (bL rfl) | (simp only [alloc_size, upd_size]; done) | (simp only [alloc_size, upd_size]; omega) | fail) only [go_sem, reduceIte, Nat.reduceEqDiff, e5], hle2, rfl, ?_, ?_⟩
          · simp only [if_true]; omega
          · rintro rfl r hf
            exact hag _ (.go hpass hf)
          · rintro rfl
            exact hag _ (.stop hpass)
end Go.M2

namespace Go.M2
open Go.Proofs
variable {H : Heap}
def IsNext (m : List Int) (a : Nat) : Prop := (a = 0 ∧ ∀ i (h : i < m.length), 1 ≤ i → m[i] ≠ 0) ∨ (1 ≤ a ∧ (∃ h : a < m.length, m[a] = 0) ∧ ∀ i (h : i < m.length), 1 ≤ i → i < a → m[i] ≠ 0)
theorem s_l12Next {H0 : Heap} {b N : Nat} {m : List Int} (hrow : Row H0 H b m) (hm : m.length = N) (hN : N ≤ 701) :
    ACall Try.prog n_spec_l12Next [.sl (some (b, 0)) N N true 1] H (fun r H' => H' = H ∧ ∃ a : Nat, r = .int .i64 (a : Int) ∧ IsNext m a) := by
  refine ACall.of fun R hR => a_spec_l12Next rfl ?_
  simp (maxSteps := 2000000) (disch := first | omega | assumption | exact idP rfl | exact idP (bL rfl) | (simp only [alloc_size, upd_size]; done) | (simp only [alloc_size, upd_size]; omega) | fail) only [go_sem, reduceIte, Nat.reduceEqDiff]
  refine wp_loop_k (fun e H' => H' = H ∧ ∃ (i : Nat), 1 ≤ i ∧ (i ≤ N ∨ i = 1) ∧ e 0 = .sl (some (b, 0)) N N true 1 ∧ e 3 = .int .i64 (i : Int) ∧ ∀ j (h : j < m.length), 1 ≤ j → j < i → m[j] ≠ 0) (fun e _ => ctr N (e 3)) ?_ ?_
  · exact ⟨rfl, 1, by omega, .inr rfl, by simp (maxSteps := 2000000) (disch := first | omega | assumption | exact idP rfl | exact idP (bL rfl) | (simp only [alloc_size, upd_size]; done) | (simp only [alloc_size, upd_size]; omega) | fail) only [go_sem, reduceIte, Nat.reduceEqDiff], by simp (maxSteps := 2000000) (disch := first | omega | assumption | exact idP rfl | exact idP (bL rfl) | (simp only [alloc_size, upd_size]; done) | (simp only [alloc_size, upd_size]; omega) | fail) only [go_sem, reduceIte, Nat.reduceEqDiff]; rfl, fun j _ h1 h2 => by omega⟩
  · rintro e H1 ⟨rfl, i, hi1, hi, e0, e3, hj⟩ K hK
    simp (maxSteps := 2000000) (disch := first | omega | assumption | exact idP rfl | exact idP (bL rfl) | (simp only [alloc_size, upd_size]; done) | (simp only [alloc_size, upd_size]; omega) | fail) only [go_sem, reduceIte, Nat.reduceEqDiff, e0, e3]
    refine condV_dec (fun h => ?_) (fun h => ?_)
    · have hi' : i < m.length := by omega
      have hg := hrow.get hi'
      simp (maxSteps := 2000000) (disch := first | omega | assumption | exact idP rfl | exact idP (bL rfl) | (simp only [alloc_size, upd_size]; done) | (simp only [alloc_size, upd_size]; omega) | fail) only [go_sem, reduceIte, Nat.reduceEqDiff, e0, e3, hg]
      refine condV_dec (fun h0 => ?_) (fun h0 => ?_)
      · simp (maxSteps := 2000000) (disch := first | omega | assumption | exact idP rfl | exact idP (bL rfl) | (simp only [alloc_size, upd_size]; done) | (simp only [alloc_size, upd_size]; omega) | fail) only [go_sem, reduceIte, Nat.reduceEqDiff, e3]
        exact hR _ _ ⟨rfl, i, rfl, .inr ⟨hi1, ⟨hi', h0⟩, hj⟩⟩
      · simp (maxSteps := 2000000) (disch := first | omega | assumption | exact idP rfl | exact idP (bL rfl) | (simp only [alloc_size, upd_size]; done) | (simp only [alloc_size, upd_size]; omega) | fail) only [go_sem, reduceIte, Nat.reduceEqDiff, e3]
        refine hK _ _ ⟨rfl, i + 1, by omega, .inl (by omega), by simp (maxSteps := 2000000) (disch := first | omega | assumption | exact idP rfl | exact idP (bL rfl) | (simp only [alloc_size, upd_size]; done) | (simp only [alloc_size, upd_size]; omega) | fail) only [go_sem, reduceIte, Nat.reduceEqDiff, e0], by simp (maxSteps := 2000000) (disch := first | omega | assumption | exact idP rfl | exact idP (bL rfl) | (simp only [alloc_size, upd_size]; done) | (simp only [alloc_size, upd_size]; omega) | fail) only [go_sem, reduceIte, Nat.reduceEqDiff]; rfl, fun j hj1 hj2 hj3 => ?_⟩ (by simp (maxSteps := 2000000) (disch := first | omega | assumption | exact idP rfl | exact idP (bL rfl) | (simp only [alloc_size, upd_size]; done) | (simp only [alloc_size, upd_size]; omega) | fail) only [go_sem, reduceIte, Nat.reduceEqDiff, ctr_int, e3]; omega)
        by_cases hji : j = i
        · subst hji; exact h0
        · exact hj j hj1 hj2 (by omega)
    · simp (maxSteps := 2000000) (disch := first | omega | assumption | exact idP rfl | exact idP (bL rfl) | (simp only [alloc_size, upd_size]; done) | (simp only [alloc_size, upd_size]; omega) | fail) only [go_sem, reduceIte, Nat.reduceEqDiff]
      exact hR _ _ ⟨rfl, 0, rfl, .inl ⟨rfl, fun j hj1 hj2 => hj j hj1 hj2 (by omega)⟩⟩
def valF (x : Int) : Int := if 0 < x then 1 else 0
theorem drop_take_succ {m : List Int} {i : Nat} (h : i + 1 < m.length) : (m.drop 1).take (i + 1) = (m.drop 1).take i ++ [m[i + 1]] := by
  rw [List.take_succ_eq_append_getElem (by simp; omega)]
  simp [Nat.add_comm]
theorem s_l12Values {H0 : Heap} {b N : Nat} {m : List Int} (hrow : Row H0 H b m) (hm : m.length = N) (hN : N ≤ 701) (hN1 : 1 ≤ N) :
    ACall Try.prog n_spec_l12Values [.sl (some (b, 0)) N N true 1] H (fun r H' => Own 1 H' r (((m.drop 1).map valF).map (AV.int .i64)) ∧ Le H (base H' r) ∧ newer H.size r) := by
  refine ACall.of fun R hR => a_spec_l12Values rfl ?_
  simp (maxSteps := 2000000) (disch := first | omega | assumption | exact idP rfl | exact idP (bL rfl) | (simp only [alloc_size, upd_size]; done) | (simp only [alloc_size, upd_size]; omega) | fail) only [go_sem, reduceIte, Nat.reduceEqDiff]
  refine wp_loop_k (fun e H' => ∃ (i : Nat), i + 1 ≤ N ∧ e 0 = .sl (some (b, 0)) N N true 1 ∧ e 4 = .int .i64 ((i : Int) + 1) ∧ Own 1 H' (e 3) ((((m.drop 1).take i).map valF).map (AV.int .i64)) ∧ Le H (base H' (e 3)) ∧ newer H.size (e 3)) (fun e _ => ctr N (e 4)) ?_ ?_
  · exact ⟨0, by omega, by simp (maxSteps := 2000000) (disch := first | omega | assumption | exact idP rfl | exact idP (bL rfl) | (simp only [alloc_size, upd_size]; done) | (simp only [alloc_size, upd_size]; omega) | fail) only [go_sem, reduceIte, Nat.reduceEqDiff], by simp (maxSteps := 2000000) (disch := first | omega | assumption | exact idP rfl | exact idP (bL rfl) | (simp only [alloc_size, upd_size]; done) | (simp only [alloc_size, upd_size]; omega) | fail) only [go_sem, reduceIte, Nat.reduceEqDiff]; rfl, by simp (maxSteps := 2000000) (disch := first | omega | assumption | exact idP rfl | exact idP (bL rfl) | (simp only [alloc_size, upd_size]; done) | (simp only [alloc_size, upd_size]; omega) | fail) only [go_sem, reduceIte, Nat.reduceEqDiff]; exact Own.new rfl, by simp (maxSteps := 2000000) (disch := first | omega | assumption | exact idP rfl | exact idP (bL rfl) | (simp only [alloc_size, upd_size]; done) | (simp only [alloc_size, upd_size]; omega) | fail) only [go_sem, reduceIte, Nat.reduceEqDiff]; exact (Le.alloc _ _).killFresh (Nat.le_refl _), by simp (maxSteps := 2000000) (disch := first | omega | assumption | exact idP rfl | exact idP (bL rfl) | (simp only [alloc_size, upd_size]; done) | (simp only [alloc_size, upd_size]; omega) | fail) only [go_sem, reduceIte, Nat.reduceEqDiff]; exact Nat.le_refl _⟩
  · rintro e H1 ⟨i, hi, e0, e4, ho, hle, hnew⟩ K hK
    simp (maxSteps := 2000000) (disch := first | omega | assumption | exact idP rfl | exact idP (bL rfl) | (simp only [alloc_size, upd_size]; done) | (simp only [alloc_size, upd_size]; omega) | fail) only [go_sem, reduceIte, Nat.reduceEqDiff, e0, e4]
    refine condV_dec (fun h => ?_) (fun h => ?_)
    · have hi' : i + 1 < m.length := by omega
      have hg := (hle.trans (base_le _ _)).get (hrow.get hi')
      have e1 : ((i : Int) + 1).toNat = i + 1 := by omega
      have fin : ∀ (w : Int) (Q : Env → Heap → Prop) (e2 : Env), w = valF m[i + 1] → (∀ s' H', Own 1 H' s' ((((m.drop 1).take (i + 1)).map valF).map (AV.int .i64)) → Le H (base H' s') → newer H.size s' → Q (upd e2 19 s') H') →
          appP 1 8 (e 3) (.sl (some (H1.size, 0)) 1 1 true 1) (H1.alloc [.int .i64 w]) (fun s' H' => Q (upd e2 19 s') H') := by
        rintro w Q e2 rfl hq
        refine app_own (sz := 1) (by omega) (ho.le (Le.alloc _ _)) (Rd.blk (Nat.lt_succ_self _) (alloc_new _ _)) rfl rfl (by simp [mostCells]; omega) (by simp [mostCells]; omega) ?_
        intro s H2 hs hle2 hn2
        refine hq s H2 ?_ (hle.trans ((base_mono (Le.alloc _ _) _).trans hle2)) (hn2 _ (Nat.le_trans (hle.trans (base_le _ _)).1 (Nat.le_succ _)) hnew)
        rw [drop_take_succ hi']; simpa using hs
      simp (maxSteps := 2000000) (disch := first | omega | assumption | exact idP rfl | exact idP (bL rfl) | (simp only [alloc_size, upd_size]; done) | (simp only [alloc_size, upd_size]; omega) | fail) only [go_sem, reduceIte, Nat.reduceEqDiff, e0, e4, e1, hg]
      refine condV_dec (fun h0 => ?_) (fun h0 => ?_)
      · simp (maxSteps := 2000000) (disch := first | omega | assumption | exact idP rfl | exact idP (bL rfl) | (simp only [alloc_size, upd_size]; done) | (simp only [alloc_size, upd_size]; omega) | fail) only [go_sem, reduceIte, Nat.reduceEqDiff, e0, e4]
        refine app_own (sz := 1) (by omega) (ho.le (Le.alloc _ _)) (Rd.blk (Nat.lt_succ_self _) (alloc_new _ _)) rfl rfl (by simp [mostCells]; omega) (by simp [mostCells]; omega) ?_
        intro s H2 hs hle2 hn2
        simp (maxSteps := 2000000) (disch := first | omega | assumption | exact idP rfl | exact idP (bL rfl) | (simp only [alloc_size, upd_size]; done) | (simp only [alloc_size, upd_size]; omega) | fail) only [go_sem, reduceIte, Nat.reduceEqDiff, e0, e4]
        refine hK _ _ ⟨i + 1, by omega, by simp (maxSteps := 2000000) (disch := first | omega | assumption | exact idP rfl | exact idP (bL rfl) | (simp only [alloc_size, upd_size]; done) | (simp only [alloc_size, upd_size]; omega) | fail) only [go_sem, reduceIte, Nat.reduceEqDiff, e0], by simp (maxSteps := 2000000) (disch := first | omega | assumption | exact idP rfl | exact idP (bL rfl) | (simp only [alloc_size, upd_size]; done) | (simp only [alloc_size, upd_size]; omega) | fail) only [go_sem, reduceIte, Nat.reduceEqDiff]; rfl, ?_, ?_, ?_⟩ (by simp (maxSteps := 2000000) (disch := first | omega | assumption | exact idP rfl | exact idP (bL rfl) | (simp only [alloc_size, upd_size]; done) | (simp only [alloc_size, upd_size]; omega) | fail) only [go_sem, reduceIte, Nat.reduceEqDiff, ctr_int, e4]; omega)
        · simp (maxSteps := 2000000) (disch := first | omega | assumption | exact idP rfl | exact idP (bL rfl) | (simp only [alloc_size, upd_size]; done) | (simp only [alloc_size, upd_size]; omega) | fail) only [go_sem, reduceIte, Nat.reduceEqDiff]
          rw [drop_take_succ hi']
          have hv : valF m[i + 1] = 1 := by simp [valF, h0]
          simpa [hv] using hs
        · simp (maxSteps := 2000000) (disch := first | omega | assumption | exact idP rfl | exact idP (bL rfl) | (simp only [alloc_size, upd_size]; done) | (simp only [alloc_size, upd_size]; omega) | fail) only [go_sem, reduceIte, Nat.reduceEqDiff]; exact hle.trans ((base_mono (Le.alloc _ _) _).trans hle2)
        · simp (maxSteps := 2000000) (disch := first | omega | assumption | exact idP rfl | exact idP (bL rfl) | (simp only [alloc_size, upd_size]; done) | (simp only [alloc_size, upd_size]; omega) | fail) only [go_sem, reduceIte, Nat.reduceEqDiff]; exact hn2 _ (Nat.le_trans (hle.trans (base_le _ _)).1 (Nat.le_succ _)) hnew
      · simp (maxSteps := 2000000) (disch := first | omega | assumption | exact idP rfl | exact idP (bL rfl) | (simp only [alloc_size, upd_size]; done) | (simp only [alloc_size, upd_size]; omega) | fail) only [go_sem, reduceIte, Nat.reduceEqDiff, e0, e4]
        refine app_own (sz := 1) (by omega) (ho.le (Le.alloc _ _)) (Rd.blk (Nat.lt_succ_self _) (alloc_new _ _)) rfl rfl (by simp [mostCells]; omega) (by simp [mostCells]; omega) ?_
        intro s H2 hs hle2 hn2
        simp (maxSteps := 2000000) (disch := first | omega | assumption | exact idP rfl | exact idP (bL rfl) | (simp only [alloc_size, upd_size]; done) | (simp only [alloc_size, upd_size]; omega) | fail) only [go_sem, reduceIte, Nat.reduceEqDiff, e0, e4]
        refine hK _ _ ⟨i + 1, by omega, by simp (maxSteps := 2000000) (disch := first | omega | assumption | exact idP rfl | exact idP (bL rfl) | (simp only [alloc_size, upd_size]; done) | (simp only [alloc_size, upd_size]; omega) | fail) only [go_sem, reduceIte, Nat.reduceEqDiff, e0], by simp (maxSteps := 2000000) (disch := first | omega | assumption | exact idP rfl | exact idP (bL rfl) | (simp only [alloc_size, upd_size]; done) | (simp only [alloc_size, upd_size]; omega) | fail) only [go_sem, reduceIte, Nat.reduceEqDiff]; rfl, ?_, ?_, ?_⟩ (by simp (maxSteps := 2000000) (disch := first | omega | assumption | exact idP rfl | exact idP (bL rfl) | (simp only [alloc_size, upd_size]; done) | (simp only [alloc_size, upd_size]; omega) | fail) only [go_sem, reduceIte, Nat.reduceEqDiff, ctr_int, e4]; omega)
        · simp (maxSteps := 2000000) (disch := first | omega | assumption | exact idP rfl | exact idP (bL rfl) | (simp only [alloc_size, upd_size]; done) | (simp only [alloc_size, upd_size]; omega) | fail) only [go_sem, reduceIte, Nat.reduceEqDiff]
          rw [drop_take_succ hi']
          have hv : valF m[i + 1] = 0 := by simp [valF]; omega
          simpa [hv] using hs
        · simp (maxSteps := 2000000) (disch := first | omega | assumption | exact idP rfl | exact idP (bL rfl) | (simp only [alloc_size, upd_size]; done) | (simp only [alloc_size, upd_size]; omega) | fail) only [go_sem, reduceIte, Nat.reduceEqDiff]; exact hle.trans ((base_mono (Le.alloc _ _) _).trans hle2)
        · simp (maxSteps := 2000000) (disch := first | omega | assumption | exact idP rfl | exact idP (bL rfl) | (simp only [alloc_size, upd_size]; done) | (simp only [alloc_size, upd_size]; omega) | fail) only [go_sem, reduceIte, Nat.reduceEqDiff]; exact hn2 _ (Nat.le_trans (hle.trans (base_le _ _)).1 (Nat.le_succ _)) hnew
    · simp (maxSteps := 2000000) (disch := first | omega | assumption | exact idP rfl | exact idP (bL rfl) | (simp only [alloc_size, upd_size]; done) | (simp only [alloc_size, upd_size]; omega) | fail) only [go_sem, reduceIte, Nat.reduceEqDiff]
      have hix : (m.drop 1).take i = m.drop 1 := by rw [List.take_of_length_le]; simp; omega
      rw [hix] at ho
      exact hR _ _ ⟨ho, hle, hnew⟩
end Go.M2

namespace Go.M2
open Go.Proofs
variable {H : Heap}
theorem app1 {H0 : Heap} {by_ : Nat} {s x : AV} {l : List AV} {K : AV → Heap → Prop} (ho : Own 1 H s l) (hle : Le H0 (base H s)) (hnew : newer H0.size s) (hx : oneA x = true) (hb : l.length + 1 ≤ 68719476736) (hby : by_ ≤ 16)
    (hk : ∀ s' H', Own 1 H' s' (l ++ [x]) → Le H0 (base H' s') → newer H0.size s' → Le (base H s) (base H' s') → K s' H') : appP 1 by_ s (.sl (some (H.size, 0)) 1 1 true 1) (H.alloc [x]) K := by
  refine app_own (sz := 1) (by omega) (ho.le (Le.alloc _ _)) (Rd.blk (Nat.lt_succ_self _) (alloc_new _ _)) rfl (by simp [hx]) ?_ (by simp [mostCells]; omega) ?_
  · have : (l.length + 1) * by_ ≤ (l.length + 1) * 16 := Nat.mul_le_mul_left _ hby
    simp only [mostCells]; omega
  · intro s' H' h1 h2 h3
    exact hk s' H' h1 (hle.trans ((base_mono (Le.alloc _ _) _).trans h2)) (h3 _ (Nat.le_trans (hle.trans (base_le _ _)).1 (Nat.le_succ _)) hnew) ((base_mono (Le.alloc _ _) _).trans h2)
def Contr (n : Nat) (xs : List Int) : Prop := ∃ i, ∃ h : i < xs.length, (givenF (xs.take i) (List.replicate (n + 1) 0)).getD xs[i].natAbs 0 ≠ 0 ∧ (givenF (xs.take i) (List.replicate (n + 1) 0)).getD xs[i].natAbs 0 ≠ xs[i]
def marked (m : List Int) : List Int := (m.drop 1).filter (· ≠ 0)
theorem s_l11Clause {v : AV} {xs : List Int} {n : Nat} (hv : IsI H v xs) (hl : xs.length ≤ 1048576) (hn : n ≤ 700) (hx : Lits n xs) :
    ACall Try.prog n_spec_l11Clause [v, .int .i64 (n : Int)] H (fun r H' => (Contr n xs → r = .tup [.sl none 0 0 true 0, .bool false] ∧ Le H H') ∧
      (¬ Contr n xs → ∃ u, r = .tup [u, .bool true] ∧ Own 1 H' u ((marked (given n xs)).map (AV.int .i64)) ∧ Le H (base H' u) ∧ newer H.size u)) := by
  refine ACall.of fun R hR => a_spec_l11Clause rfl ?_
  obtain ⟨A, c, ex, k, rfl, hr⟩ := hv.parts
  simp (maxSteps := 2000000) (disch := first | omega | assumption | exact idP rfl | exact idP (bL rfl) | (simp only [alloc_size, upd_size]; done) | (simp only [alloc_size, upd_size]; omega) | fail) only [go_sem, reduceIte, Nat.reduceEqDiff]
  refine mks_own (by omega) (by simp [mostCells]; omega) (by simp [mostCells]; omega) ?_
  have e1 : ((n : Int) + 1).toNat = n + 1 := by omega
  rw [e1]
  simp (maxSteps := 2000000) (disch := first | omega | assumption | exact idP rfl | exact idP (bL rfl) | (simp only [alloc_size, upd_size]; done) | (simp only [alloc_size, upd_size]; omega) | fail) only [go_sem, reduceIte, Nat.reduceEqDiff]
  refine wp_loop_k (fun e H' => ∃ (i : Nat), i ≤ xs.length ∧ e 0 = .sl A xs.length c ex k ∧ e 1 = .int .i64 (n : Int) ∧ e 6 = .sl (some (H.size, 0)) (n + 1) (n + 1) true 1 ∧ e 7 = .int .i64 (i : Int) ∧ Row H H' H.size (givenF (xs.take i) (List.replicate (n + 1) 0)) ∧
    ∀ j (h : j < xs.length), j < i → (givenF (xs.take j) (List.replicate (n + 1) 0)).getD xs[j].natAbs 0 = 0 ∨ (givenF (xs.take j) (List.replicate (n + 1) 0)).getD xs[j].natAbs 0 = xs[j]) (fun e _ => ctr xs.length (e 7)) ?_ ?_
  · exact ⟨0, Nat.zero_le _, by simp (maxSteps := 2000000) (disch := first | omega | assumption | exact idP rfl | exact idP (bL rfl) | (simp only [alloc_size, upd_size]; done) | (simp only [alloc_size, upd_size]; omega) | fail) only [go_sem, reduceIte, Nat.reduceEqDiff], by simp (maxSteps := 2000000) (disch := first | omega | assumption | exact idP rfl | exact idP (bL rfl) | (simp only [alloc_size, upd_size]; done) | (simp only [alloc_size, upd_size]; omega) | fail) only [go_sem, reduceIte, Nat.reduceEqDiff], by simp (maxSteps := 2000000) (disch := first | omega | assumption | exact idP rfl | exact idP (bL rfl) | (simp only [alloc_size, upd_size]; done) | (simp only [alloc_size, upd_size]; omega) | fail) only [go_sem, reduceIte, Nat.reduceEqDiff]; rfl, by simp (maxSteps := 2000000) (disch := first | omega | assumption | exact idP rfl | exact idP (bL rfl) | (simp only [alloc_size, upd_size]; done) | (simp only [alloc_size, upd_size]; omega) | fail) only [go_sem, reduceIte, Nat.reduceEqDiff]; rfl, Row.new (Le.refl _) _, fun j _ h => by omega⟩
  · rintro e H1 ⟨i, hi, e0, e1, e6, e7, hrow, hok⟩ K hK
    have hlen : (givenF (xs.take i) (List.replicate (n + 1) 0)).length = n + 1 := by rw [givenF_len]; simp
    simp (maxSteps := 2000000) (disch := first | omega | assumption | exact idP rfl | exact idP (bL rfl) | (simp only [alloc_size, upd_size]; done) | (simp only [alloc_size, upd_size]; omega) | fail) only [go_sem, reduceIte, Nat.reduceEqDiff, e0, e6, e7]
    refine condV_dec (fun h => ?_) (fun h => ?_)
    · have hi' : i < xs.length := by omega
      have hg := hrow.le'.get (hr i hi')
      rw [Nat.mul_one] at hg
      have hxi := hx _ (List.getElem_mem hi')
      have hml : xs[i].natAbs < (givenF (xs.take i) (List.replicate (n + 1) 0)).length := by omega
      have hgm := hrow.get hml
      have hgd : (givenF (xs.take i) (List.replicate (n + 1) 0)).getD xs[i].natAbs 0 = (givenF (xs.take i) (List.replicate (n + 1) 0))[xs[i].natAbs] := by simp [List.getD, hml]
      simp (maxSteps := 2000000) (disch := first | omega | assumption | exact idP rfl | exact idP (bL rfl) | (simp only [alloc_size, upd_size]; done) | (simp only [alloc_size, upd_size]; omega) | fail) only [go_sem, reduceIte, Nat.reduceEqDiff, e0, e6, e7, hg]
      refine (s_l11Abs (n := xs[i]) (by omega) (by omega)).mono ?_
      rintro r H2 ⟨rfl, rfl⟩
      have go : (givenF (xs.take i) (List.replicate (n + 1) 0)).getD xs[i].natAbs 0 = 0 ∨ (givenF (xs.take i) (List.replicate (n + 1) 0)).getD xs[i].natAbs 0 = xs[i] →
          ∀ j (h : j < xs.length), j < i + 1 → (givenF (xs.take j) (List.replicate (n + 1) 0)).getD xs[j].natAbs 0 = 0 ∨ (givenF (xs.take j) (List.replicate (n + 1) 0)).getD xs[j].natAbs 0 = xs[j] := by
        intro hq j hj1 hj2
        by_cases hji : j = i
        · subst hji; exact hq
        · exact hok j hj1 (by omega)
      simp (maxSteps := 2000000) (disch := first | omega | assumption | exact idP rfl | exact idP (bL rfl) | (simp only [alloc_size, upd_size]; done) | (simp only [alloc_size, upd_size]; omega) | fail) only [go_sem, reduceIte, Nat.reduceEqDiff, e0, e6, e7, hg, hgm]
      by_cases hz : (givenF (xs.take i) (List.replicate (n + 1) 0))[xs[i].natAbs] = 0
      · simp (maxSteps := 2000000) (disch := first | omega | assumption | exact idP rfl | exact idP (bL rfl) | (simp only [alloc_size, upd_size]; done) | (simp only [alloc_size, upd_size]; omega) | fail) only [go_sem, reduceIte, Nat.reduceEqDiff, e0, e6, e7, hz, hg, hrow.rw]
        rw [stoK_1 rfl (by simp only [List.length_map]; exact hml)]
        simp (maxSteps := 2000000) (disch := first | omega | assumption | exact idP rfl | exact idP (bL rfl) | (simp only [alloc_size, upd_size]; done) | (simp only [alloc_size, upd_size]; omega) | fail) only [go_sem, reduceIte, Nat.reduceEqDiff, e0, e6, e7]
        refine hK _ _ ⟨i + 1, by omega, by simp (maxSteps := 2000000) (disch := first | omega | assumption | exact idP rfl | exact idP (bL rfl) | (simp only [alloc_size, upd_size]; done) | (simp only [alloc_size, upd_size]; omega) | fail) only [go_sem, reduceIte, Nat.reduceEqDiff, e0], by simp (maxSteps := 2000000) (disch := first | omega | assumption | exact idP rfl | exact idP (bL rfl) | (simp only [alloc_size, upd_size]; done) | (simp only [alloc_size, upd_size]; omega) | fail) only [go_sem, reduceIte, Nat.reduceEqDiff, e1], by simp (maxSteps := 2000000) (disch := first | omega | assumption | exact idP rfl | exact idP (bL rfl) | (simp only [alloc_size, upd_size]; done) | (simp only [alloc_size, upd_size]; omega) | fail) only [go_sem, reduceIte, Nat.reduceEqDiff, e6], by simp (maxSteps := 2000000) (disch := first | omega | assumption | exact idP rfl | exact idP (bL rfl) | (simp only [alloc_size, upd_size]; done) | (simp only [alloc_size, upd_size]; omega) | fail) only [go_sem, reduceIte, Nat.reduceEqDiff]; rfl, ?_, go (.inl (hgd.trans hz))⟩ (by simp (maxSteps := 2000000) (disch := first | omega | assumption | exact idP rfl | exact idP (bL rfl) | (simp only [alloc_size, upd_size]; done) | (simp only [alloc_size, upd_size]; omega) | fail) only [go_sem, reduceIte, Nat.reduceEqDiff, ctr_int, e7]; omega)
        rw [givenF_take hi']; exact hrow.set _ _
      · by_cases hq : (givenF (xs.take i) (List.replicate (n + 1) 0))[xs[i].natAbs] = xs[i]
        · simp (maxSteps := 2000000) (disch := first | omega | assumption | exact idP rfl | exact idP (bL rfl) | (simp only [alloc_size, upd_size]; done) | (simp only [alloc_size, upd_size]; omega) | fail) only [go_sem, reduceIte, Nat.reduceEqDiff, e0, e6, e7, hgm, hq, hxi.1, hg, hrow.rw]
          rw [stoK_1 rfl (by simp only [List.length_map]; exact hml)]
          simp (maxSteps := 2000000) (disch := first | omega | assumption | exact idP rfl | exact idP (bL rfl) | (simp only [alloc_size, upd_size]; done) | (simp only [alloc_size, upd_size]; omega) | fail) only [go_sem, reduceIte, Nat.reduceEqDiff, e0, e6, e7]
          refine hK _ _ ⟨i + 1, by omega, by simp (maxSteps := 2000000) (disch := first | omega | assumption | exact idP rfl | exact idP (bL rfl) | (simp only [alloc_size, upd_size]; done) | (simp only [alloc_size, upd_size]; omega) | fail) only [go_sem, reduceIte, Nat.reduceEqDiff, e0], by simp (maxSteps := 2000000) (disch := first | omega | assumption | exact idP rfl | exact idP (bL rfl) | (simp only [alloc_size, upd_size]; done) | (simp only [alloc_size, upd_size]; omega) | fail) only [go_sem, reduceIte, Nat.reduceEqDiff, e1], by simp (maxSteps := 2000000) (disch := first | omega | assumption | exact idP rfl | exact idP (bL rfl) | (simp only [alloc_size, upd_size]; done) | (simp only [alloc_size, upd_size]; omega) | fail) only [go_sem, reduceIte, Nat.reduceEqDiff, e6], by simp (maxSteps := 2000000) (disch := first | omega | assumption | exact idP rfl | exact idP (bL rfl) | (simp only [alloc_size, upd_size]; done) | (simp only [alloc_size, upd_size]; omega) | fail) only [go_sem, reduceIte, Nat.reduceEqDiff]; rfl, ?_, go (.inr (hgd.trans hq))⟩ (by simp (maxSteps := 2000000) (disch := first | omega | assumption | exact idP rfl | exact idP (bL rfl) | (simp only [alloc_size, upd_size]; done) | (simp only [alloc_size, upd_size]; omega) | fail) only [go_sem, reduceIte, Nat.reduceEqDiff, ctr_int, e7]; omega)
          rw [givenF_take hi']; exact hrow.set _ _
        · simp (maxSteps := 2000000) (disch := first | omega | assumption | exact idP rfl | exact idP (bL rfl) | (simp only [alloc_size, upd_size]; done) | (simp only [alloc_size, upd_size]; omega) | fail) only [go_sem, reduceIte, Nat.reduceEqDiff, e0, e6, e7, hgm, hq, hz, hg]
          exact hR _ _ ⟨fun _ => ⟨rfl, hrow.le'⟩, fun hc => absurd ⟨i, hi', by rw [hgd]; exact hz, by rw [hgd]; exact hq⟩ hc⟩
    · obtain rfl : i = xs.length := by omega
      rw [List.take_length] at hrow hlen
      have hnc : ¬ Contr n xs := by
        rintro ⟨j, hj1, h1, h2⟩
        rcases hok j hj1 hj1 with h3 | h3
        · exact h1 h3
        · exact h2 h3
      generalize hmg : givenF xs (List.replicate (n + 1) 0) = m at hrow hlen
      have hmm : given n xs = m := hmg
      simp (maxSteps := 2000000) (disch := first | omega | assumption | exact idP rfl | exact idP (bL rfl) | (simp only [alloc_size, upd_size]; done) | (simp only [alloc_size, upd_size]; omega) | fail) only [go_sem, reduceIte, Nat.reduceEqDiff, e1]
      refine wp_loop_k (fun e H' => ∃ (i : Nat), i ≤ n ∧ e 6 = .sl (some (H.size, 0)) (n + 1) (n + 1) true 1 ∧ e 1 = .int .i64 (n : Int) ∧ e 10 = .int .i64 ((i : Int) + 1) ∧ Own 1 H' (e 9) ((((m.drop 1).take i).filter (· ≠ 0)).map (AV.int .i64)) ∧ Le H1 (base H' (e 9)) ∧ newer H1.size (e 9)) (fun e _ => ctr (n + 1) (e 10)) ?_ ?_
      · exact ⟨0, by omega, by simp (maxSteps := 2000000) (disch := first | omega | assumption | exact idP rfl | exact idP (bL rfl) | (simp only [alloc_size, upd_size]; done) | (simp only [alloc_size, upd_size]; omega) | fail) only [go_sem, reduceIte, Nat.reduceEqDiff, e6], by simp (maxSteps := 2000000) (disch := first | omega | assumption | exact idP rfl | exact idP (bL rfl) | (simp only [alloc_size, upd_size]; done) | (simp only [alloc_size, upd_size]; omega) | fail) only [go_sem, reduceIte, Nat.reduceEqDiff, e1], by simp (maxSteps := 2000000) (disch := first | omega | assumption | exact idP rfl | exact idP (bL rfl) | (simp only [alloc_size, upd_size]; done) | (simp only [alloc_size, upd_size]; omega) | fail) only [go_sem, reduceIte, Nat.reduceEqDiff]; rfl, by simp (maxSteps := 2000000) (disch := first | omega | assumption | exact idP rfl | exact idP (bL rfl) | (simp only [alloc_size, upd_size]; done) | (simp only [alloc_size, upd_size]; omega) | fail) only [go_sem, reduceIte, Nat.reduceEqDiff]; exact Own.new rfl, by simp (maxSteps := 2000000) (disch := first | omega | assumption | exact idP rfl | exact idP (bL rfl) | (simp only [alloc_size, upd_size]; done) | (simp only [alloc_size, upd_size]; omega) | fail) only [go_sem, reduceIte, Nat.reduceEqDiff]; exact (Le.alloc _ _).killFresh (Nat.le_refl _), by simp (maxSteps := 2000000) (disch := first | omega | assumption | exact idP rfl | exact idP (bL rfl) | (simp only [alloc_size, upd_size]; done) | (simp only [alloc_size, upd_size]; omega) | fail) only [go_sem, reduceIte, Nat.reduceEqDiff]; exact Nat.le_refl _⟩
      · rintro e H2 ⟨i, hi, e6, e1, e10, ho, hle, hnew⟩ K2 hK2
        simp (maxSteps := 2000000) (disch := first | omega | assumption | exact idP rfl | exact idP (bL rfl) | (simp only [alloc_size, upd_size]; done) | (simp only [alloc_size, upd_size]; omega) | fail) only [go_sem, reduceIte, Nat.reduceEqDiff, e1, e10]
        refine condV_dec (fun h => ?_) (fun h => ?_)
        · have hi' : i + 1 < m.length := by omega
          have hg := (hle.trans (base_le _ _)).get (hrow.get hi')
          have e2 : ((i : Int) + 1).toNat = i + 1 := by omega
          have hll : (((m.drop 1).take i).filter (· ≠ 0)).length ≤ 701 := by
            refine Nat.le_trans (List.length_filter_le _ _) ?_
            rw [List.length_take]; omega
          simp (maxSteps := 2000000) (disch := first | omega | assumption | exact idP rfl | exact idP (bL rfl) | (simp only [alloc_size, upd_size]; done) | (simp only [alloc_size, upd_size]; omega) | fail) only [go_sem, reduceIte, Nat.reduceEqDiff, e6, e10, e2, hg]
          refine condV_split (fun h0 => ?_) (fun h0 => ?_)
          · have h0 : ¬ m[i + 1] = 0 := by simpa using h0
            simp (maxSteps := 2000000) (disch := first | omega | assumption | exact idP rfl | exact idP (bL rfl) | (simp only [alloc_size, upd_size]; done) | (simp only [alloc_size, upd_size]; omega) | fail) only [go_sem, reduceIte, Nat.reduceEqDiff, e6, e10, e2, hg]
            refine app1 ho hle hnew rfl (by simp only [List.length_map]; omega) (by omega) ?_
            intro s H3 hs hle2 hn2 _
            simp (maxSteps := 2000000) (disch := first | omega | assumption | exact idP rfl | exact idP (bL rfl) | (simp only [alloc_size, upd_size]; done) | (simp only [alloc_size, upd_size]; omega) | fail) only [go_sem, reduceIte, Nat.reduceEqDiff, e10]
            refine hK2 _ _ ⟨i + 1, by omega, by simp (maxSteps := 2000000) (disch := first | omega | assumption | exact idP rfl | exact idP (bL rfl) | (simp only [alloc_size, upd_size]; done) | (simp only [alloc_size, upd_size]; omega) | fail) only [go_sem, reduceIte, Nat.reduceEqDiff, e6], by simp (maxSteps := 2000000) (disch := first | omega | assumption | exact idP rfl | exact idP (bL rfl) | (simp only [alloc_size, upd_size]; done) | (simp only [alloc_size, upd_size]; omega) | fail) only [go_sem, reduceIte, Nat.reduceEqDiff, e1], by simp (maxSteps := 2000000) (disch := first | omega | assumption | exact idP rfl | exact idP (bL rfl) | (simp only [alloc_size, upd_size]; done) | (simp only [alloc_size, upd_size]; omega) | fail) only [go_sem, reduceIte, Nat.reduceEqDiff]; rfl, ?_, by simp (maxSteps := 2000000) (disch := first | omega | assumption | exact idP rfl | exact idP (bL rfl) | (simp only [alloc_size, upd_size]; done) | (simp only [alloc_size, upd_size]; omega) | fail) only [go_sem, reduceIte, Nat.reduceEqDiff]; exact hle2, by simp (maxSteps := 2000000) (disch := first | omega | assumption | exact idP rfl | exact idP (bL rfl) | (simp only [alloc_size, upd_size]; done) | (simp only [alloc_size, upd_size]; omega) | fail) only [go_sem, reduceIte, Nat.reduceEqDiff]; exact hn2⟩ (by simp (maxSteps := 2000000) (disch := first | omega | assumption | exact idP rfl | exact idP (bL rfl) | (simp only [alloc_size, upd_size]; done) | (simp only [alloc_size, upd_size]; omega) | fail) only [go_sem, reduceIte, Nat.reduceEqDiff, ctr_int, e10]; omega)
            simp (maxSteps := 2000000) (disch := first | omega | assumption | exact idP rfl | exact idP (bL rfl) | (simp only [alloc_size, upd_size]; done) | (simp only [alloc_size, upd_size]; omega) | fail) only [go_sem, reduceIte, Nat.reduceEqDiff]
            rw [drop_take_succ hi', List.filter_append, List.map_append]
            simpa [h0] using hs
          · have h0 : m[i + 1] = 0 := by simpa using h0
            simp (maxSteps := 2000000) (disch := first | omega | assumption | exact idP rfl | exact idP (bL rfl) | (simp only [alloc_size, upd_size]; done) | (simp only [alloc_size, upd_size]; omega) | fail) only [go_sem, reduceIte, Nat.reduceEqDiff, e10]
            refine hK2 _ _ ⟨i + 1, by omega, by simp (maxSteps := 2000000) (disch := first | omega | assumption | exact idP rfl | exact idP (bL rfl) | (simp only [alloc_size, upd_size]; done) | (simp only [alloc_size, upd_size]; omega) | fail) only [go_sem, reduceIte, Nat.reduceEqDiff, e6], by simp (maxSteps := 2000000) (disch := first | omega | assumption | exact idP rfl | exact idP (bL rfl) | (simp only [alloc_size, upd_size]; done) | (simp only [alloc_size, upd_size]; omega) | fail) only [go_sem, reduceIte, Nat.reduceEqDiff, e1], by simp (maxSteps := 2000000) (disch := first | omega | assumption | exact idP rfl | exact idP (bL rfl) | (simp only [alloc_size, upd_size]; done) | (simp only [alloc_size, upd_size]; omega) | fail) only [go_sem, reduceIte, Nat.reduceEqDiff]; rfl, ?_, by simp (maxSteps := 2000000) (disch := first | omega | assumption | exact idP rfl | exact idP (bL rfl) | (simp only [alloc_size, upd_size]; done) | (simp only [alloc_size, upd_size]; omega) | fail) only [go_sem, reduceIte, Nat.reduceEqDiff]; exact hle, by simp (maxSteps := 2000000) (disch := first | omega | assumption | exact idP rfl | exact idP (bL rfl) | (simp only [alloc_size, upd_size]; done) | (simp only [alloc_size, upd_size]; omega) | fail) only [go_sem, reduceIte, Nat.reduceEqDiff]; exact hnew⟩ (by simp (maxSteps := 2000000) (disch := first | omega | assumption | exact idP rfl | exact idP (bL rfl) | (simp only [alloc_size, upd_size]; done) | (simp only [alloc_size, upd_size]; omega) | fail) only [go_sem, reduceIte, Nat.reduceEqDiff, ctr_int, e10]; omega)
            simp (maxSteps := 2000000) (disch := first | omega | assumption | exact idP rfl | exact idP (bL rfl) | (simp only [alloc_size, upd_size]; done) | (simp only [alloc_size, upd_size]; omega) | fail) only [go_sem, reduceIte, Nat.reduceEqDiff]
            rw [drop_take_succ hi', List.filter_append, List.map_append]
            simpa [h0] using ho
        · simp (maxSteps := 2000000) (disch := first | omega | assumption | exact idP rfl | exact idP (bL rfl) | (simp only [alloc_size, upd_size]; done) | (simp only [alloc_size, upd_size]; omega) | fail) only [go_sem, reduceIte, Nat.reduceEqDiff]
          have hix : (m.drop 1).take i = m.drop 1 := by rw [List.take_of_length_le]; simp; omega
          rw [hix] at ho
          exact hR _ _ ⟨fun hc => absurd hc hnc, fun _ => ⟨_, rfl, by rw [hmm]; exact ho, hrow.le'.trans hle, hnew.mono hrow.le'.1⟩⟩
end Go.M2

namespace Go.M2
open Go.Proofs
variable {H : Heap}
def Asc (xs : List Int) : Prop := xs.Pairwise fun x y => x.natAbs < y.natAbs
theorem givenF_getD {a : Nat} : ∀ {xs m : List Int}, (∀ x ∈ xs, x.natAbs ≠ a) → (givenF xs m).getD a 0 = m.getD a 0
  | [], m, h => rfl
  | x :: t, m, h => by
    have := givenF_getD (a := a) (xs := t) (m := m.set x.natAbs x) fun y hy => h y (List.mem_cons_of_mem _ hy)
    simp only [givenF, List.foldl_cons] at this ⊢
    rw [this]
    have hne : x.natAbs ≠ a := h x (by simp)
    simp [List.getD, List.getElem?_set_ne hne]
theorem zero_getD (n a : Nat) : (List.replicate n (0 : Int)).getD a 0 = 0 := by
  simp only [List.getD, List.getElem?_replicate]
  split <;> rfl
theorem asc_take {xs : List Int} (h : Asc xs) {i : Nat} (hi : i < xs.length) : ∀ x ∈ xs.take i, x.natAbs < xs[i].natAbs := by
  intro x hx
  obtain ⟨j, hj, rfl⟩ := List.getElem_of_mem hx
  have hj' : j < i := by simp at hj; omega
  have := List.pairwise_iff_getElem.1 h j i (by omega) hi hj'
  simpa using this
theorem asc_contr {xs : List Int} {n : Nat} (h : Asc xs) : ¬ Contr n xs := by
  rintro ⟨i, hi, h1, _⟩
  rw [givenF_getD fun x hx => by have := asc_take h hi x hx; omega, zero_getD] at h1
  exact h1 rfl
theorem filter_set : ∀ {l : List Int} {i : Nat} {x : Int}, x ≠ 0 → i < l.length → (∀ j, i ≤ j → l.getD j 0 = 0) → (l.set i x).filter (· ≠ 0) = l.filter (· ≠ 0) ++ [x]
  | [], i, x, _, h, _ => by simp at h
  | y :: t, 0, x, hx, _, h => by
    have h0 : y = 0 := by simpa using h 0 (Nat.le_refl _)
    have ht : t.filter (· ≠ 0) = [] := by
      rw [List.filter_eq_nil_iff]
      intro z hz
      obtain ⟨j, hj, rfl⟩ := List.getElem_of_mem hz
      have := h (j + 1) (Nat.zero_le _)
      simp [List.getD, hj] at this
      simp [this]
    subst h0
    simp only [List.set_cons_zero, List.filter_cons, ht]
    simp [hx]
  | y :: t, i + 1, x, hx, hi, h => by
    have := filter_set (l := t) (i := i) hx (by simpa using hi) fun j hj => by simpa using h (j + 1) (by omega)
    simp only [List.set_cons_succ, List.filter_cons, this]
    split <;> simp
theorem marked_given {n : Nat} : ∀ {xs : List Int}, Asc xs → Lits n xs → marked (given n xs) = xs := by
  intro xs h hx
  have key : ∀ i, i ≤ xs.length → marked (givenF (xs.take i) (List.replicate (n + 1) 0)) = xs.take i := by
    intro i
    induction i with
    | zero =>
      intro _
      simp only [List.take_zero, givenF, List.foldl_nil, marked]
      rw [List.filter_eq_nil_iff]
      intro z hz
      have := List.eq_of_mem_replicate (List.mem_of_mem_drop hz)
      simp [this]
    | succ i ih =>
      intro hi
      have hi' : i < xs.length := by omega
      have hxi := hx _ (List.getElem_mem hi')
      have hlen : (givenF (xs.take i) (List.replicate (n + 1) 0)).length = n + 1 := by rw [givenF_len]; simp
      rw [givenF_take hi', List.take_succ_eq_append_getElem hi']
      refine Eq.trans ?_ (congrArg (· ++ [xs[i]]) (ih (by omega)))
      simp only [marked]
      have hpos : 1 ≤ xs[i].natAbs := by have := hxi.1; omega
      obtain ⟨a, ha⟩ : ∃ a, xs[i].natAbs = a + 1 := ⟨xs[i].natAbs - 1, by omega⟩
      rw [List.drop_set, if_neg (by omega), ha, show a + 1 - 1 = a by omega]
      have hla : a < ((givenF (xs.take i) (List.replicate (n + 1) 0)).drop 1).length := by have := hxi.2; rw [List.length_drop, hlen]; omega
      refine filter_set (l := (givenF (xs.take i) (List.replicate (n + 1) 0)).drop 1) (i := a) (x := xs[i]) hxi.1 hla fun j hj => ?_
      have e : ((givenF (xs.take i) (List.replicate (n + 1) 0)).drop 1).getD j 0 = (givenF (xs.take i) (List.replicate (n + 1) 0)).getD (j + 1) 0 := by
        simp [List.getD, List.getElem?_drop, Nat.add_comm]
      rw [e, givenF_getD fun x hx2 => by have := asc_take h hi' x hx2; omega, zero_getD]
  have := key xs.length (Nat.le_refl _)
  rwa [List.take_length] at this
def negs (xs : List Int) : List Int := xs.map (0 - ·)
theorem negs_asc {xs : List Int} (h : Asc xs) : Asc (negs xs) := by
  unfold Asc negs
  rw [List.pairwise_map]
  exact h.imp fun h => by omega
theorem negs_lits {n : Nat} {xs : List Int} (h : Lits n xs) : Lits n (negs xs) := by
  intro x hx
  obtain ⟨y, hy, rfl⟩ := List.mem_map.1 hx
  have := h y hy
  omega
theorem negs_take {xs : List Int} {i : Nat} (h : i < xs.length) : negs (xs.take (i + 1)) = negs (xs.take i) ++ [0 - xs[i]] := by
  unfold negs
  rw [List.take_succ_eq_append_getElem h, List.map_append]; rfl
theorem s_l12Not {v : AV} {xs : List Int} {n : Nat} (hv : IsI H v xs) (hl : xs.length ≤ 1048576) (hn : n ≤ 700) (hx : Lits n xs) (ha : Asc xs) :
    ACall Try.prog n_spec_l12Not [v, .int .i64 (n : Int)] H (fun r H' => Own 1 H' r ((negs xs).map (AV.int .i64)) ∧ Le H (base H' r) ∧ newer H.size r) := by
  refine ACall.of fun R hR => a_spec_l12Not rfl ?_
  obtain ⟨A, c, ex, k, rfl, hr⟩ := hv.parts
  simp (maxSteps := 2000000) (disch := first | omega | assumption | exact idP rfl | exact idP (bL rfl) | (simp only [alloc_size, upd_size]; done) | (simp only [alloc_size, upd_size]; omega) | fail) only [go_sem, reduceIte, Nat.reduceEqDiff]
  refine wp_loop_k (fun e H' => ∃ i : Nat, i ≤ xs.length ∧ e 0 = .sl A xs.length c ex k ∧ e 1 = .int .i64 (n : Int) ∧ e 6 = .int .i64 (i : Int) ∧ Own 1 H' (e 5) ((negs (xs.take i)).map (AV.int .i64)) ∧ Le H (base H' (e 5)) ∧ newer H.size (e 5)) (fun e _ => ctr xs.length (e 6)) ?_ ?_
  · exact ⟨0, Nat.zero_le _, by simp (maxSteps := 2000000) (disch := first | omega | assumption | exact idP rfl | exact idP (bL rfl) | (simp only [alloc_size, upd_size]; done) | (simp only [alloc_size, upd_size]; omega) | fail) only [go_sem, reduceIte, Nat.reduceEqDiff], by simp (maxSteps := 2000000) (disch := first | omega | assumption | exact idP rfl | exact idP (bL rfl) | (simp only [alloc_size, upd_size]; done) | (simp only [alloc_size, upd_size]; omega) | fail) only [go_sem, reduceIte, Nat.reduceEqDiff], by simp (maxSteps := 2000000) (disch := first | omega | assumption | exact idP rfl | exact idP (bL rfl) | (simp only [alloc_size, upd_size]; done) | (simp only [alloc_size, upd_size]; omega) | fail) only [go_sem, reduceIte, Nat.reduceEqDiff]; rfl, by simp (maxSteps := 2000000) (disch := first | omega | assumption | exact idP rfl | exact idP (bL rfl) | (simp only [alloc_size, upd_size]; done) | (simp only [alloc_size, upd_size]; omega) | fail) only [go_sem, reduceIte, Nat.reduceEqDiff]; exact Own.new rfl, by simp (maxSteps := 2000000) (disch := first | omega | assumption | exact idP rfl | exact idP (bL rfl) | (simp only [alloc_size, upd_size]; done) | (simp only [alloc_size, upd_size]; omega) | fail) only [go_sem, reduceIte, Nat.reduceEqDiff]; exact (Le.alloc _ _).killFresh (Nat.le_refl _), by simp (maxSteps := 2000000) (disch := first | omega | assumption | exact idP rfl | exact idP (bL rfl) | (simp only [alloc_size, upd_size]; done) | (simp only [alloc_size, upd_size]; omega) | fail) only [go_sem, reduceIte, Nat.reduceEqDiff]; exact Nat.le_refl _⟩
  · rintro e H1 ⟨i, hi, e0, e1, e6, ho, hle, hnew⟩ K hK
    simp (maxSteps := 2000000) (disch := first | omega | assumption | exact idP rfl | exact idP (bL rfl) | (simp only [alloc_size, upd_size]; done) | (simp only [alloc_size, upd_size]; omega) | fail) only [go_sem, reduceIte, Nat.reduceEqDiff, e0, e6]
    refine condV_dec (fun h => ?_) (fun h => ?_)
    · have hi' : i < xs.length := by omega
      have hg := (hle.trans (base_le _ _)).get (hr i hi')
      rw [Nat.mul_one] at hg
      have hxi := hx _ (List.getElem_mem hi')
      simp (maxSteps := 2000000) (disch := first | omega | assumption | exact idP rfl | exact idP (bL rfl) | (simp only [alloc_size, upd_size]; done) | (simp only [alloc_size, upd_size]; omega) | fail) only [go_sem, reduceIte, Nat.reduceEqDiff, e0, e6, hg]
      refine app1 ho hle hnew rfl (by simp [negs]; omega) (by omega) ?_
      intro s H2 hs hle2 hn2 _
      simp (maxSteps := 2000000) (disch := first | omega | assumption | exact idP rfl | exact idP (bL rfl) | (simp only [alloc_size, upd_size]; done) | (simp only [alloc_size, upd_size]; omega) | fail) only [go_sem, reduceIte, Nat.reduceEqDiff, e6]
      refine hK _ _ ⟨i + 1, by omega, by simp (maxSteps := 2000000) (disch := first | omega | assumption | exact idP rfl | exact idP (bL rfl) | (simp only [alloc_size, upd_size]; done) | (simp only [alloc_size, upd_size]; omega) | fail) only [go_sem, reduceIte, Nat.reduceEqDiff, e0], by simp (maxSteps := 2000000) (disch := first | omega | assumption | exact idP rfl | exact idP (bL rfl) | (simp only [alloc_size, upd_size]; done) | (simp only [alloc_size, upd_size]; omega) | fail) only [go_sem, reduceIte, Nat.reduceEqDiff, e1], by simp (maxSteps := 2000000) (disch := first | omega | assumption | exact idP rfl | exact idP (bL rfl) | (simp only [alloc_size, upd_size]; done) | (simp only [alloc_size, upd_size]; omega) | fail) only [go_sem, reduceIte, Nat.reduceEqDiff]; rfl, ?_, by simp (maxSteps := 2000000) (disch := first | omega | assumption | exact idP rfl | exact idP (bL rfl) | (simp only [alloc_size, upd_size]; done) | (simp only [alloc_size, upd_size]; omega) | fail) only [go_sem, reduceIte, Nat.reduceEqDiff]; exact hle2, by simp (maxSteps := 2000000) (disch := first | omega | assumption | exact idP rfl | exact idP (bL rfl) | (simp only [alloc_size, upd_size]; done) | (simp only [alloc_size, upd_size]; omega) | fail) only [go_sem, reduceIte, Nat.reduceEqDiff]; exact hn2⟩ (by simp (maxSteps := 2000000) (disch := first | omega | assumption | exact idP rfl | exact idP (bL rfl) | (simp only [alloc_size, upd_size]; done) | (simp only [alloc_size, upd_size]; omega) | fail) only [go_sem, reduceIte, Nat.reduceEqDiff, ctr_int, e6]; omega)
      simp (maxSteps := 2000000) (disch := first | omega | assumption | exact idP rfl | exact idP (bL rfl) | (simp only [alloc_size, upd_size]; done) | (simp only [alloc_size, upd_size]; omega) | fail) only [go_sem, reduceIte, Nat.reduceEqDiff]
      rw [negs_take hi', List.map_append]; exact hs
    · simp (maxSteps := 2000000) (disch := first | omega | assumption | exact idP rfl | exact idP (bL rfl) | (simp only [alloc_size, upd_size]; done) | (simp only [alloc_size, upd_size]; omega) | fail) only [go_sem, reduceIte, Nat.reduceEqDiff, e1]
      obtain rfl : i = xs.length := by omega
      rw [List.take_length] at ho
      refine (s_l11Clause ho.isI (by simp [negs]; omega) hn (negs_lits hx)).mono ?_
      rintro r H2 ⟨_, h2⟩
      obtain ⟨u, rfl, h3, h4, h5⟩ := h2 (asc_contr (negs_asc ha))
      rw [marked_given (negs_asc ha) (negs_lits hx)] at h3
      simp (maxSteps := 2000000) (disch := first | omega | assumption | exact idP rfl | exact idP (bL rfl) | (simp only [alloc_size, upd_size]; done) | (simp only [alloc_size, upd_size]; omega) | fail) only [go_sem, reduceIte, Nat.reduceEqDiff]
      refine hR _ _ ⟨h3, (hle.trans (base_le _ _)).trans h4, h5.mono (hle.trans (base_le _ _)).1⟩
end Go.M2

namespace Go.M2
theorem IsNext.det {m : List Int} {a b : Nat} (h : IsNext m a) (k : IsNext m b) : a = b := by
  rcases h with ⟨rfl, h⟩ | ⟨h1, ⟨h2, h3⟩, h4⟩
  · rcases k with ⟨rfl, _⟩ | ⟨k1, ⟨k2, k3⟩, k4⟩
    · rfl
    · exact absurd k3 (h b k2 k1)
  · rcases k with ⟨rfl, k⟩ | ⟨k1, ⟨k2, k3⟩, k4⟩
    · exact absurd h3 (k a h2 h1)
    · rcases Nat.lt_trichotomy a b with hab | hab | hab
      · exact absurd h3 (k4 a h2 h1 hab)
      · exact hab
      · exact absurd k3 (h4 b k2 k1 hab)
inductive Res where
  | sat (m : List Int)
  | cut
  | no
inductive Try (cl : List (List Int)) (n : Nat) : List Int → List (List Int) → Nat → Res → List (List Int) → Nat → Prop
  | sat {g : List Int} {P : List (List Int)} {d : Nat} {m : List Int} : Force cl (given n g) (some m) → IsNext m 0 → Try cl n g P d (.sat m) P d
  | left {g : List Int} {P P1 : List (List Int)} {d d1 a : Nat} {m : List Int} {r : Res} : Force cl (given n g) (some m) → IsNext m a → a ≠ 0 → Try cl n (g ++ [-(a : Int)]) P (d + 1) r P1 d1 → r ≠ .no → Try cl n g P d r P1 d1
  | right {g : List Int} {P P1 P2 : List (List Int)} {d d1 d2 a : Nat} {m : List Int} {r : Res} : Force cl (given n g) (some m) → IsNext m a → a ≠ 0 → Try cl n (g ++ [-(a : Int)]) P (d + 1) .no P1 d1 → Try cl n (g ++ [(a : Int)]) P1 d1 r P2 d2 → r ≠ .no → Try cl n g P d r P2 d2
  | bothC {g : List Int} {P P1 P2 : List (List Int)} {d d1 d2 a : Nat} {m : List Int} : Force cl (given n g) (some m) → IsNext m a → a ≠ 0 → Try cl n (g ++ [-(a : Int)]) P (d + 1) .no P1 d1 → Try cl n (g ++ [(a : Int)]) P1 d1 .no P2 d2 → P2.length = 600 → Try cl n g P d .cut P2 d2
  | bothN {g : List Int} {P P1 P2 : List (List Int)} {d d1 d2 a : Nat} {m : List Int} : Force cl (given n g) (some m) → IsNext m a → a ≠ 0 → Try cl n (g ++ [-(a : Int)]) P (d + 1) .no P1 d1 → Try cl n (g ++ [(a : Int)]) P1 d1 .no P2 d2 → P2.length ≠ 600 → Try cl n g P d .no (P2 ++ [negs g]) d2
  | confC {g : List Int} {P : List (List Int)} {d : Nat} : Force cl (given n g) none → P.length = 600 → Try cl n g P d .cut P d
  | confN {g : List Int} {P : List (List Int)} {d : Nat} : Force cl (given n g) none → P.length ≠ 600 → Try cl n g P d .no (P ++ [negs g]) d
theorem step_det {cl : List (List Int)} {n : Nat} {g : List Int} {m m' : List Int} {a a' : Nat} (h : Force cl (given n g) (some m)) (h' : Force cl (given n g) (some m')) (k : IsNext m a) (k' : IsNext m' a') : m = m' ∧ a = a' := by
  have := h.det h'
  cases this
  exact ⟨rfl, k.det k'⟩
theorem Try.det {cl : List (List Int)} {n : Nat} {g : List Int} {P P1 P2 : List (List Int)} {d d1 d2 : Nat} {r r' : Res} (h : Try cl n g P d r P1 d1) (h' : Try cl n g P d r' P2 d2) : r = r' ∧ P1 = P2 ∧ d1 = d2 := by
  induction h generalizing r' P2 d2 with
  | sat f k =>
    cases h' with
    | sat f' k' => obtain ⟨rfl, _⟩ := step_det f f' k k'; exact ⟨rfl, rfl, rfl⟩
    | left f' k' ha _ _ => exact absurd (step_det f f' k k').2.symm ha
    | right f' k' ha _ _ _ => exact absurd (step_det f f' k k').2.symm ha
    | bothC f' k' ha _ _ _ => exact absurd (step_det f f' k k').2.symm ha
    | bothN f' k' ha _ _ _ => exact absurd (step_det f f' k k').2.symm ha
    | confC f' _ => cases f.det f'
    | confN f' _ => cases f.det f'
  | left f k ha t hr ih =>
    cases h' with
    | sat f' k' => exact absurd (step_det f f' k k').2 ha
    | left f' k' ha' t' hr' => obtain ⟨rfl, rfl⟩ := step_det f f' k k'; exact ih t'
    | right f' k' ha' t' _ _ => obtain ⟨rfl, rfl⟩ := step_det f f' k k'; exact absurd (ih t').1 hr
    | bothC f' k' ha' t' _ _ => obtain ⟨rfl, rfl⟩ := step_det f f' k k'; exact absurd (ih t').1 hr
    | bothN f' k' ha' t' _ _ => obtain ⟨rfl, rfl⟩ := step_det f f' k k'; exact absurd (ih t').1 hr
    | confC f' _ => cases f.det f'
    | confN f' _ => cases f.det f'
  | right f k ha t u hr ih1 ih2 =>
    cases h' with
    | sat f' k' => exact absurd (step_det f f' k k').2 ha
    | left f' k' ha' t' hr' => obtain ⟨rfl, rfl⟩ := step_det f f' k k'; exact absurd (ih1 t').1.symm hr'
    | right f' k' ha' t' u' hr' => obtain ⟨rfl, rfl⟩ := step_det f f' k k'; obtain ⟨_, rfl, rfl⟩ := ih1 t'; exact ih2 u'
    | bothC f' k' ha' t' u' _ => obtain ⟨rfl, rfl⟩ := step_det f f' k k'; obtain ⟨_, rfl, rfl⟩ := ih1 t'; exact absurd (ih2 u').1 hr
    | bothN f' k' ha' t' u' _ => obtain ⟨rfl, rfl⟩ := step_det f f' k k'; obtain ⟨_, rfl, rfl⟩ := ih1 t'; exact absurd (ih2 u').1 hr
    | confC f' _ => cases f.det f'
    | confN f' _ => cases f.det f'
  | bothC f k ha t u hp ih1 ih2 =>
    cases h' with
    | sat f' k' => exact absurd (step_det f f' k k').2 ha
    | left f' k' ha' t' hr' => obtain ⟨rfl, rfl⟩ := step_det f f' k k'; exact absurd (ih1 t').1.symm hr'
    | right f' k' ha' t' u' hr' => obtain ⟨rfl, rfl⟩ := step_det f f' k k'; obtain ⟨_, rfl, rfl⟩ := ih1 t'; exact absurd (ih2 u').1.symm hr'
    | bothC f' k' ha' t' u' _ => obtain ⟨rfl, rfl⟩ := step_det f f' k k'; obtain ⟨_, rfl, rfl⟩ := ih1 t'; obtain ⟨_, rfl, rfl⟩ := ih2 u'; exact ⟨rfl, rfl, rfl⟩
    | bothN f' k' ha' t' u' hp' => obtain ⟨rfl, rfl⟩ := step_det f f' k k'; obtain ⟨_, rfl, rfl⟩ := ih1 t'; obtain ⟨_, rfl, rfl⟩ := ih2 u'; exact absurd hp hp'
    | confC f' _ => cases f.det f'
    | confN f' _ => cases f.det f'
  | bothN f k ha t u hp ih1 ih2 =>
    cases h' with
    | sat f' k' => exact absurd (step_det f f' k k').2 ha
    | left f' k' ha' t' hr' => obtain ⟨rfl, rfl⟩ := step_det f f' k k'; exact absurd (ih1 t').1.symm hr'
    | right f' k' ha' t' u' hr' => obtain ⟨rfl, rfl⟩ := step_det f f' k k'; obtain ⟨_, rfl, rfl⟩ := ih1 t'; exact absurd (ih2 u').1.symm hr'
    | bothC f' k' ha' t' u' hp' => obtain ⟨rfl, rfl⟩ := step_det f f' k k'; obtain ⟨_, rfl, rfl⟩ := ih1 t'; obtain ⟨_, rfl, rfl⟩ := ih2 u'; exact absurd hp' hp
    | bothN f' k' ha' t' u' _ => obtain ⟨rfl, rfl⟩ := step_det f f' k k'; obtain ⟨_, rfl, rfl⟩ := ih1 t'; obtain ⟨_, rfl, rfl⟩ := ih2 u'; exact ⟨rfl, rfl, rfl⟩
    | confC f' _ => cases f.det f'
    | confN f' _ => cases f.det f'
  | confC f hp =>
    cases h' with
    | sat f' _ => cases f.det f'
    | left f' _ _ _ _ => cases f.det f'
    | right f' _ _ _ _ _ => cases f.det f'
    | bothC f' _ _ _ _ _ => cases f.det f'
    | bothN f' _ _ _ _ _ => cases f.det f'
    | confC _ _ => exact ⟨rfl, rfl, rfl⟩
    | confN _ hp' => exact absurd hp hp'
  | confN f hp =>
    cases h' with
    | sat f' _ => cases f.det f'
    | left f' _ _ _ _ => cases f.det f'
    | right f' _ _ _ _ _ => cases f.det f'
    | bothC f' _ _ _ _ _ => cases f.det f'
    | bothN f' _ _ _ _ _ => cases f.det f'
    | confC _ hp' => exact absurd hp' hp
    | confN _ _ => exact ⟨rfl, rfl, rfl⟩
end Go.M2

namespace Go.M2
def Sub (m M : List Int) : Prop := ∀ a, m.getD a 0 ≠ 0 → M.getD a 0 = m.getD a 0
def Fix (cl : List (List Int)) (M : List Int) : Prop := ∀ c ∈ cl, (leftF M c 0 0).1 ≠ 0 ∧ (leftF M c 0 0).1 ≠ 1
theorem Sub.refl (m : List Int) : Sub m m := fun _ _ => rfl
theorem Sub.trans {a b c : List Int} (h : Sub a b) (k : Sub b c) : Sub a c := fun i hi => by rw [k i (by rw [h i hi]; exact hi), h i hi]
theorem getD_set_eq {m : List Int} {i : Nat} {v : Int} (h : i < m.length) : (m.set i v).getD i 0 = v := by simp [List.getD, h]
theorem getD_set_ne {m : List Int} {i j : Nat} {v : Int} (h : i ≠ j) : (m.set i v).getD j 0 = m.getD j 0 := by simp [List.getD, List.getElem?_set_ne h]
theorem getD_set_out {m : List Int} {i j : Nat} {v : Int} (h : ¬ i < m.length) : (m.set i v).getD j 0 = m.getD j 0 := by rw [List.set_eq_of_length_le (by omega)]
theorem Sub.set {m M : List Int} {i : Nat} {v : Int} (h : Sub m M) (hv : M.getD i 0 = v) : Sub (m.set i v) M := by
  intro a ha
  by_cases hi : i = a
  · subst hi
    by_cases hl : i < m.length
    · rw [getD_set_eq hl]; exact hv
    · rw [getD_set_out hl] at ha ⊢; exact h _ ha
  · rw [getD_set_ne hi] at ha ⊢; exact h _ ha
theorem Sub.up {m : List Int} {i : Nat} {v : Int} (h : m.getD i 0 = 0) : Sub m (m.set i v) := by
  intro a ha
  by_cases hi : i = a
  · subst hi; exact absurd h ha
  · rw [getD_set_ne hi]
theorem leftF_shut {m M : List Int} (hs : Sub m M) : ∀ {c : List Int} {o l l' : Int}, 0 ≤ o → leftF m c o l = (o, l') → ∀ o1 l1, leftF M c o1 l1 = (o1, l1)
  | [], o, l, l', _, h, o1, l1 => rfl
  | y :: t, o, l, l', ho, h, o1, l1 => by
    simp only [leftF] at h ⊢
    split at h
    · simp only [Prod.mk.injEq] at h; omega
    · rename_i h1
      split at h
      · rcases leftF_last h with ⟨h2, _⟩ | ⟨h2, _⟩ | ⟨_, _, h2, _⟩ <;> omega
      · rename_i h2
        have h3 := hs y.natAbs h2
        rw [h3, if_neg h1, if_neg h2]
        exact leftF_shut hs ho h o1 l1
theorem leftF_mono {m M : List Int} (hs : Sub m M) : ∀ {c : List Int} {o l x : Int}, 0 ≤ o → leftF m c o l = (o + 1, x) → M.getD x.natAbs 0 = x ∨ (leftF M c o l).1 = o ∨ (leftF M c o l).1 = o + 1
  | [], o, l, x, _, h => by simp only [leftF, Prod.mk.injEq] at h; omega
  | y :: t, o, l, x, ho, h => by
    simp only [leftF] at h ⊢
    split at h
    · simp only [Prod.mk.injEq] at h; omega
    · rename_i h1
      split at h
      · rename_i h2
        have hx : x = y := by
          rcases leftF_last h with ⟨h3, _⟩ | ⟨_, h3⟩ | ⟨_, _, h3, _⟩
          · omega
          · exact h3
          · omega
        subst hx
        have h4 := leftF_shut hs (by omega) h
        by_cases h5 : M.getD x.natAbs 0 = x
        · exact .inl h5
        · rw [if_neg h5, h4]
          by_cases h6 : M.getD x.natAbs 0 = 0
          · rw [if_pos h6]; exact .inr (.inr rfl)
          · rw [if_neg h6, h4]; exact .inr (.inl rfl)
      · rename_i h2
        have h3 := hs y.natAbs h2
        rw [h3, if_neg h1, if_neg h2]
        exact leftF_mono hs ho h
theorem passF_sub {M : List Int} : ∀ {t : List (List Int)} {m m' : List Int} {ag ag' : Bool}, Fix t M → Sub m M → passF t m ag = some (m', ag') → Sub m' M
  | [], m, m', ag, ag', hf, hs, h => by simp only [passF, Option.some.injEq, Prod.mk.injEq] at h; obtain ⟨rfl, _⟩ := h; exact hs
  | c :: t, m, m', ag, ag', hf, hs, h => by
    have hft : Fix t M := fun c hc => hf c (List.mem_cons_of_mem _ hc)
    simp only [passF] at h
    split at h
    · cases h
    · split at h
      · rename_i h1
        refine passF_sub hft (hs.set ?_) h
        have h2 : leftF m c 0 0 = ((0 : Int) + 1, (leftF m c 0 0).2) := Prod.ext (by simpa using h1) rfl
        have hc := hf c (by simp)
        rcases leftF_mono hs (by omega) h2 with h3 | h3 | h3
        · exact h3
        · exact absurd h3 hc.1
        · exact absurd h3 hc.2
      · exact passF_sub hft hs h
theorem passF_up : ∀ {t : List (List Int)} {m m' : List Int} {ag ag' : Bool}, passF t m ag = some (m', ag') → Sub m m'
  | [], m, m', ag, ag', h => by simp only [passF, Option.some.injEq, Prod.mk.injEq] at h; obtain ⟨rfl, _⟩ := h; exact Sub.refl _
  | c :: t, m, m', ag, ag', h => by
    simp only [passF] at h
    split at h
    · cases h
    · split at h
      · rename_i h1
        exact (Sub.up (leftF_one h1).2).trans (passF_up h)
      · exact passF_up h
theorem passF_true : ∀ {t : List (List Int)} {m m' : List Int} {ag' : Bool}, passF t m true = some (m', ag') → ag' = true
  | [], m, m', ag', h => by simp only [passF, Option.some.injEq, Prod.mk.injEq] at h; exact h.2.symm
  | c :: t, m, m', ag', h => by
    simp only [passF] at h
    split at h
    · cases h
    · split at h
      · exact passF_true h
      · exact passF_true h
theorem passF_fix : ∀ {t : List (List Int)} {m m' : List Int}, passF t m false = some (m', false) → m' = m ∧ Fix t m
  | [], m, m', h => by simp only [passF, Option.some.injEq, Prod.mk.injEq] at h; exact ⟨h.1.symm, fun c hc => nomatch hc⟩
  | c :: t, m, m', h => by
    simp only [passF] at h
    split at h
    · cases h
    · rename_i h0
      split at h
      · have := passF_true h; cases this
      · rename_i h1
        obtain ⟨rfl, h2⟩ := passF_fix h
        refine ⟨rfl, fun c' hc => ?_⟩
        rcases List.mem_cons.1 hc with rfl | hc
        · exact ⟨h0, h1⟩
        · exact h2 c' hc
theorem Force.up {cl : List (List Int)} {m : List Int} {r : Option (List Int)} (h : Force cl m r) : ∀ m', r = some m' → Sub m m' ∧ Fix cl m' := by
  induction h with
  | bad _ => intro m' e; cases e
  | stop h => intro m' e; cases e; obtain ⟨rfl, hf⟩ := passF_fix h; exact ⟨Sub.refl _, hf⟩
  | go h _ ih => intro m' e; obtain ⟨h1, h2⟩ := ih m' e; exact ⟨(passF_up h).trans h1, h2⟩
theorem Force.mono {cl : List (List Int)} {m M : List Int} {r : Option (List Int)} (h : Force cl m r) (hM : Fix cl M) : Sub m M → ∀ m', r = some m' → Sub m' M := by
  induction h with
  | bad _ => intro _ m' e; cases e
  | stop h => intro hs m' e; cases e; exact passF_sub hM hs h
  | go h _ ih => intro hs m' e; exact ih (passF_sub hM hs h) m' e
structure Low (cl : List (List Int)) (n : Nat) (g : List Int) (k : Nat) : Prop where
  asc : Asc g
  lits : Lits n g
  le : ∀ x ∈ g, x.natAbs ≤ k
  low : ∀ m, Force cl (given n g) (some m) → ∀ i, 1 ≤ i → i ≤ k → m.getD i 0 ≠ 0
theorem Low.nil (cl : List (List Int)) (n : Nat) : Low cl n [] 0 := ⟨List.Pairwise.nil, fun x h => (nomatch h), fun x h => (nomatch h), fun m _ i h1 h2 => by omega⟩
theorem given_snoc {n : Nat} {g : List Int} {x : Int} : given n (g ++ [x]) = (given n g).set x.natAbs x := by simp [given, givenF, List.foldl_append]
theorem given_len {n : Nat} {g : List Int} : (given n g).length = n + 1 := by rw [given, givenF_len]; simp
theorem Low.next {cl : List (List Int)} {n : Nat} {g m : List Int} {k a : Nat} {x : Int} (h : Low cl n g k) (hm : Force cl (given n g) (some m)) (hlm : m.length = n + 1) (ha : IsNext m a) (h0 : a ≠ 0) (hx : x.natAbs = a) : k < a ∧ Low cl n (g ++ [x]) a := by
  obtain ⟨e, _⟩ | ⟨h1, ⟨h2, h3⟩, h4⟩ := ha
  · exact absurd e h0
  have hka : k < a := by
    refine Classical.byContradiction fun hn => ?_
    have := h.low m hm a h1 (by omega)
    exact this (by simp [List.getD, h2, h3])
  refine ⟨hka, ?_, ?_, ?_, ?_⟩
  · refine List.pairwise_append.2 ⟨h.asc, List.pairwise_singleton _ _, fun y hy z hz => ?_⟩
    simp only [List.mem_singleton] at hz
    subst hz
    have := h.le y hy
    omega
  · intro y hy
    rcases List.mem_append.1 hy with hy | hy
    · exact h.lits y hy
    · simp only [List.mem_singleton] at hy
      subst hy
      exact ⟨by intro e; subst e; simp at hx; omega, by omega⟩
  · intro y hy
    rcases List.mem_append.1 hy with hy | hy
    · have := h.le y hy; omega
    · simp only [List.mem_singleton] at hy
      subst hy; omega
  · intro M hM i hi1 hi2
    obtain ⟨u1, u2⟩ := hM.up M rfl
    have hz : (given n g).getD x.natAbs 0 = 0 := by
      rw [given, givenF_getD fun y hy => by have := h.le y hy; omega, zero_getD]
    rw [given_snoc] at u1
    by_cases hia : i = a
    · subst hia
      have := u1 x.natAbs (by rw [getD_set_eq (by rw [given_len]; omega)]; intro e; subst e; simp at hx; omega)
      rw [hx] at this
      rw [this, ← hx, getD_set_eq (by rw [given_len]; omega)]
      intro e; subst e; simp at hx; omega
    · have h5 : m.getD i 0 ≠ 0 := by
        have hil : i < m.length := by omega
        have := h4 i hil hi1 (by omega)
        simpa [List.getD, hil] using this
      have h6 := hm.mono u2 ((Sub.up hz).trans u1) m rfl i h5
      rw [h6]; exact h5
end Go.M2

namespace Go.M2
open Go.Proofs
variable {H : Heap}
theorem asc_len {g : List Int} {k : Nat} (h : Asc g) (h1 : ∀ x ∈ g, x ≠ 0) (h2 : ∀ x ∈ g, x.natAbs ≤ k) : g.length ≤ k := by
  have key : ∀ i (hi : i < g.length), i + 1 ≤ g[i].natAbs := by
    intro i
    induction i with
    | zero => intro hi; have := h1 _ (List.getElem_mem hi); omega
    | succ i ih =>
      intro hi
      have h3 := ih (by omega)
      have h4 := List.pairwise_iff_getElem.1 h i (i + 1) (by omega) hi (by omega)
      omega
  rcases Nat.eq_zero_or_pos g.length with h3 | h3
  · omega
  · have h4 := key (g.length - 1) (by omega)
    have h5 := h2 _ (List.getElem_mem (show g.length - 1 < g.length by omega))
    omega
def apart (b : Nat) : AV → Prop
  | .sl (some (b', _)) _ _ _ _ => b' ≠ b
  | _ => True
theorem base_blk {v : AV} {b : Nat} (h : apart b v) : (base H v).blk b = H.blk b := by
  unfold base
  unfold apart at h
  split
  · exact kill_ne (fun e => h e.symm)
  · rfl
theorem base_size {v : AV} : (base H v).size = H.size := by
  unfold base
  split <;> rfl
theorem base_rw {v : AV} {b : Nat} {c : List AV} (h : apart b v) (hc : H.rwCells b = some c) : (base H v).rwCells b = some c := by
  obtain ⟨h1, h2⟩ := Heap.rwCells_blk hc
  exact rwCells_of (by rw [base_size]; exact h1) (by rw [base_blk h]; exact h2)
theorem apart_of {v : AV} {b : Nat} {c : List AV} (h : (base H v).rwCells b = some c) : apart b v := by
  obtain ⟨_, h2⟩ := Heap.rwCells_blk h
  unfold apart
  split
  · rintro rfl
    simp only [base] at h2
    rw [kill_dead] at h2; cases h2
  · trivial
theorem base_upd {v : AV} {b : Nat} {x : Blk} (h : apart b v) : base (H.upd b x) v = (base H v).upd b x := by
  unfold base
  unfold apart at h
  split
  · simp only at h
    rename_i b' _ _ _ _ _
    unfold Heap.kill Heap.upd
    simp only [Heap.mk.injEq, true_and]
    funext i
    by_cases h1 : i = b
    · subst h1; rw [if_neg (fun e => h e.symm), if_pos rfl, if_pos rfl]
    · by_cases h2 : i = b'
      · subst h2; rw [if_pos rfl, if_neg h1, if_pos rfl]
      · rw [if_neg h2, if_neg h1, if_neg h1, if_neg h2]
  · rfl
theorem apart_fresh {sz : Nat} {v : AV} {l : List AV} (h : Own sz H v l) {b : Nat} (hb : H.size ≤ b) : apart b v := by
  obtain ⟨A, n, ex, k, rfl, h1, h2, h3⟩ := h
  unfold apart
  split
  · rename_i b' o n' c' ex' k' e
    cases e
    have := (h3 b' o rfl).2.2.1
    omega
  · trivial
def Nd (B B' : Heap) : Prop := Le B B' ∧ ∀ b, b < B.size → B.blk b = .dead → B'.blk b = .dead
theorem Nd.refl (B : Heap) : Nd B B := ⟨Le.refl _, fun _ _ h => h⟩
theorem Nd.trans {A B C : Heap} (h : Nd A B) (k : Nd B C) : Nd A C := ⟨h.1.trans k.1, fun b hb hd => k.2 b (Nat.lt_of_lt_of_le hb h.1.1) (h.2 b hb hd)⟩
def Heap.pad (B : Heap) (n : Nat) : Heap := ⟨n, fun b => if b < B.size then B.blk b else .dead⟩
theorem pad_nd {B : Heap} {n : Nat} (h : B.size ≤ n) : Nd B (B.pad n) := ⟨⟨h, fun b hb => .inr (by simp [Heap.pad, hb])⟩, fun b hb hd => by simp [Heap.pad, hb, hd]⟩
theorem pad_dead {B : Heap} {n b : Nat} (h : B.size ≤ b) : (B.pad n).blk b = .dead := by simp [Heap.pad, Nat.not_lt.2 h]
theorem pad_size (B : Heap) (n : Nat) : (B.pad n).size = n := rfl
theorem pad_le {B H : Heap} {n : Nat} (h : Le B H) (hn : n ≤ H.size) : Le (B.pad n) H := ⟨hn, fun b hb => by
  by_cases h1 : b < B.size
  · simp only [Heap.pad, h1, if_true]; exact h.2 b h1
  · simp only [Heap.pad, h1, if_false]; exact .inl trivial⟩
def Heap.over (B H : Heap) : Heap := ⟨H.size, fun b => if b < B.size then B.blk b else H.blk b⟩
theorem over_nd {B H : Heap} (h : B.size ≤ H.size) : Nd B (B.over H) := ⟨⟨h, fun b hb => .inr (by simp [Heap.over, hb])⟩, fun b hb hd => by simp [Heap.over, hb, hd]⟩
theorem over_le {B H H' : Heap} (h : Le B H') (hs : H.size = H'.size) (hf : ∀ b, B.size ≤ b → H'.blk b = H.blk b) : Le (B.over H) H' := ⟨by simp only [Heap.over]; omega, fun b hb => by
  by_cases h1 : b < B.size
  · simp only [Heap.over, h1, if_true]; exact h.2 b h1
  · simp only [Heap.over, h1, if_false]; exact .inr (hf b (by omega))⟩
theorem later_over (B H : Heap) : Le (H.later B.size) (B.over H) := ⟨Nat.le_refl _, fun b hb => by
  by_cases h1 : b < B.size
  · simp only [Heap.later, h1, if_true]; exact .inl trivial
  · simp only [Heap.later, Heap.over, h1, if_false]; exact .inr trivial⟩
def PL (B H : Heap) (p : AV) (P : List (List Int)) : Prop := Le B (base H p) ∧ ∃ pc : List AV, Own 1 H p pc ∧ pc.length = P.length ∧ ∀ i (h : i < P.length), ∃ u, pc[i]? = some u ∧ IsI B u P[i]
theorem PL.own {B : Heap} {p : AV} {P : List (List Int)} (h : PL B H p P) : ∃ pc, Own 1 H p pc ∧ pc.length = P.length := by
  obtain ⟨_, pc, h1, h2, _⟩ := h; exact ⟨pc, h1, h2⟩
theorem PL.len {B : Heap} {p : AV} {P : List (List Int)} (h : PL B H p P) : lenF p = some (.int .i64 (P.length : Int)) := by
  obtain ⟨_, pc, h1, h2, _⟩ := h
  obtain ⟨A, n, ex, k, rfl, h3, _⟩ := h1
  have : n = P.length := by omega
  subst this; rfl
theorem PL.one {B : Heap} {p : AV} {P : List (List Int)} (h : PL B H p P) : oneA p = true ∧ cellsOf p = some [p] := by
  obtain ⟨_, pc, h1, _⟩ := h
  obtain ⟨A, n, ex, k, rfl, _⟩ := h1
  exact ⟨rfl, rfl⟩
theorem PL.le {B H' : Heap} {p : AV} {P : List (List Int)} (h : PL B H p P) (hl : Le H H') : PL B H' p P := by
  obtain ⟨h0, pc, h1, h2, h3⟩ := h
  exact ⟨h0.trans (base_mono hl p), pc, h1.le hl, h2, h3⟩
theorem PL.at {B B' : Heap} {p : AV} {P : List (List Int)} (h : PL B H p P) (hB : Le B B') (hl : Le B' (base H p)) : PL B' H p P := by
  obtain ⟨h0, pc, h1, h2, h3⟩ := h
  refine ⟨hl, pc, h1, h2, fun i hi => ?_⟩
  obtain ⟨u, h4, h5⟩ := h3 i hi
  exact ⟨u, h4, h5.le hB⟩
theorem PL.upd {B : Heap} {p : AV} {P : List (List Int)} {b : Nat} {x : Blk} (h : PL B H p P) (ha : apart b p) (hd : B.blk b = .dead) : PL B (H.upd b x) p P := by
  obtain ⟨h0, pc, h1, h2, h3⟩ := h
  refine ⟨by rw [base_upd ha]; exact h0.updDead hd x, pc, ?_, h2, h3⟩
  obtain ⟨A, n, ex, k, rfl, q1, q2, q3⟩ := h1
  refine ⟨A, n, ex, k, rfl, q1, q2, fun b' o e => ?_⟩
  subst e
  obtain ⟨r1, r2, r3, r4⟩ := q3 b' o rfl
  have hne : b' ≠ b := ha
  exact ⟨r1, r2, r3, by rw [upd_blk_ne hne]; exact r4⟩
theorem pl_app {B B1 : Heap} {by_ : Nat} {p u : AV} {P : List (List Int)} {c : List Int} {K : AV → Heap → Prop} (h : PL B H p P) (hB : Le B B1) (hB1 : Le B1 (base H p)) (hu : IsI B1 u c) (hb : P.length ≤ 1048576) (hby : by_ ≤ 64)
    (hk : ∀ p' H', PL B1 H' p' (P ++ [c]) → Le (base H p) (base H' p') → K p' H') : appP 1 by_ p (.sl (some (H.size, 0)) 1 1 true 1) (H.alloc [u]) K := by
  obtain ⟨_, pc, h1, h2, h3⟩ := h
  have ho : oneA u = true := by obtain ⟨A, c, ex, k, rfl, _⟩ := hu; rfl
  refine app_own (sz := 1) (by omega) (h1.le (Le.alloc _ _)) (Rd.blk (Nat.lt_succ_self _) (alloc_new _ _)) rfl (by simp [ho]) ?_ (by simp [mostCells]; omega) ?_
  · have : (pc.length + 1) * by_ ≤ (pc.length + 1) * 64 := Nat.mul_le_mul_left _ hby
    simp only [mostCells]; omega
  · intro p' H' q1 q2 _
    have q3 := (base_mono (Le.alloc H [u]) p).trans q2
    refine hk p' H' ⟨hB1.trans q3, pc ++ [u], q1, by simp [h2], fun i hi => ?_⟩ q3
    by_cases hi2 : i < P.length
    · obtain ⟨w, h4, h5⟩ := h3 i hi2
      refine ⟨w, by rw [List.getElem?_append_left (by omega)]; exact h4, ?_⟩
      rw [List.getElem_append_left hi2]; exact h5.le hB
    · have : i = P.length := by simp at hi; omega
      subst this
      refine ⟨u, by rw [List.getElem?_append_right (by omega), h2]; simp, ?_⟩
      rw [List.getElem_append_right (by omega)]
      simpa using hu
end Go.M2

namespace Go.M2
open Go.Proofs
variable {H : Heap}
@[go_sem] theorem retP_ctt {R : AV → Heap → Prop} {e : Env} {a n b c : Nat} {ag : Bool} : retP [.c a n ag, .t b, .t c] R e H = optP ((loadF H n ag (e a)).map fun v => .tup [v, e b, e c]) H R := by
  unfold retP retV optP
  simp only [resVs, resV]
  cases loadF H n ag (e a) <;> rfl
theorem try_leaf {B : Heap} {e : Env} {t3 t6 n d : Nat} {g : List Int} {P : List (List Int)} {fl p gv : AV} {c6 : List AV} {R : AV → Heap → Prop} (hn : n ≤ 700) (hasc : Asc g) (hlits : Lits n g) (hlg : g.length ≤ 700) (hP : P.length ≤ 600) (hof : oneA fl = true)
    (e1 : e 1 = gv) (e2 : e 2 = .int .i64 (n : Int)) (e3 : e 3 = .ptr (some (t3, 0))) (e6 : e 6 = .ptr (some (t6, 0))) (h36 : t3 ≠ t6) (h6 : c6.length = 4) (hs : B.size = H.size) (hd3 : B.blk t3 = .dead) (hd6 : B.blk t6 = .dead)
    (w3 : (base H p).rwCells t3 = some [fl, p, .int .i64 (d : Int), .bool false]) (w6 : (base H p).rwCells t6 = some c6) (hp : PL B H p P) (hgv : IsI B gv g)
    (hR : ∀ B' H' p', Nd B B' → PL B' H' p' (P ++ [negs g]) → Le (((base H p).kill t3).kill t6) (base H' p') → R (.tup [.agg [fl, p', .int .i64 (d : Int), .bool (decide ((600 : Int) < (((P ++ [negs g]).length : Nat) : Int)))], .sl none 0 0 true 0, .bool false]) H') :
    wp Try.prog (.seq spec_l12Try_18 (.seq spec_l12Try_19 (.seq spec_l12Try_20 .ret))) (postQ [RV.c 6 4 true, RV.t 7, RV.t 8] R) e H := by
  have g3 : H.get t3 1 = some p := by
    obtain ⟨q1, q2⟩ := Heap.rwCells_blk ((base_le H p).rwCells w3)
    exact Rd.blk q1 q2 1 p rfl
  have hBH : Le B H := hp.1.trans (base_le H p)
  simp (maxSteps := 2000000) (disch := first | omega | assumption | exact idP rfl | exact idP (bL rfl) | (simp only [alloc_size, upd_size]; done) | (simp only [alloc_size, upd_size]; omega) | fail) only [go_sem, reduceIte, Nat.reduceEqDiff, e1, e2, e3, e6, g3]
  refine (s_l12Not (hgv.le hBH) (by omega) hn hlits hasc).mono ?_
  rintro u H1 ⟨hu, hle1, hnew⟩
  obtain ⟨pc, hown, hpc⟩ := hp.own
  have hH1 : Le H H1 := hle1.trans (base_le _ _)
  have g3' := hH1.get g3
  have hui : IsI (B.over H1) u (negs g) := (hu.later hnew).isI.le (by rw [← hs]; exact later_over B H1)
  have hB1 : Le (B.over H1) (base H1 p) := over_le (hp.1.trans (base_mono hH1 p)) base_size.symm fun b hb => base_blk (apart_fresh hown (by omega))
  have hnd : Nd B (B.over H1) := over_nd (by have := hH1.1; omega)
  have hu1 := oneA_isS hui
  simp (maxSteps := 2000000) (disch := first | omega | assumption | exact idP rfl | exact idP (bL rfl) | (simp only [alloc_size, upd_size]; done) | (simp only [alloc_size, upd_size]; omega) | fail) only [go_sem, reduceIte, Nat.reduceEqDiff, e1, e2, e3, e6, g3', hu1.2]
  refine pl_app (hp.le hH1) hnd.1 hB1 hui (by omega) (by omega) ?_
  intro p' H2 hp2 hle2
  have b3 := hle2.rwCells ((base_mono hH1 p).rwCells w3)
  have b6 := hle2.rwCells ((base_mono hH1 p).rwCells w6)
  have a3 := apart_of b3
  have a6 := apart_of b6
  have w3' := (base_le H2 p').rwCells b3
  have w6' := (base_le H2 p').rwCells b6
  have hp2o := hp2.one.1
  have l3 := (Heap.rwCells_blk w3').1
  have l6 := (Heap.rwCells_blk w6').1
  have h63 : t6 ≠ t3 := fun e => h36 e.symm
  have d3 := hnd.2 t3 (by rw [hs]; exact (Heap.rwCells_blk ((base_le H p).rwCells w3)).1) hd3
  have d6 := hnd.2 t6 (by rw [hs]; exact (Heap.rwCells_blk ((base_le H p).rwCells w6)).1) hd6
  obtain ⟨x1, x2, x3, x4, rfl⟩ : ∃ x1 x2 x3 x4, c6 = [x1, x2, x3, x4] := by
    match c6, h6 with
    | [x1, x2, x3, x4], _ => exact ⟨x1, x2, x3, x4, rfl⟩
  simp (maxSteps := 2000000) (disch := first | omega | assumption | exact idP rfl | exact idP (bL rfl) | (simp only [alloc_size, upd_size]; done) | (simp only [alloc_size, upd_size]; omega) | fail) only [go_sem, reduceIte, Nat.reduceEqDiff, e3, e6, w3', w6', hp2.one.2, hp2.len]
  refine hR (B.over H1) _ p' hnd ?_ ?_
  · exact ((hp2.upd a3 d3).upd a3 d3).upd a6 d6
  · rw [base_upd a6, base_upd a3, base_upd a3]
    have hL : Le (((base H p).kill t3).kill t6) (base H2 p') := ((Le.kill _ _).trans (Le.kill _ _)).trans ((base_mono hH1 p).trans hle2)
    have k3 : (((base H p).kill t3).kill t6).blk t3 = .dead := by rw [kill_ne h36]; exact kill_dead _ _
    have k6 : (((base H p).kill t3).kill t6).blk t6 = .dead := kill_dead _ _
    exact ((hL.updDead k3 _).updDead k3 _).updDead k6 _
end Go.M2
