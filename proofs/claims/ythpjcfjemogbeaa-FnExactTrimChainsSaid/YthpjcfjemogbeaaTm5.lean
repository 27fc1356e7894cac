/- The functions, turned for the memory: printed by program. -/
import Derived.Test.YthpjcfjemogbeaaTm4
import Derived.Test.YthpjcfjemogbeaaProg
import Derived.KernelRfl
import Derived.Shelf.SlSortCmp.NoneTotal
set_option linter.unusedVariables false
set_option linter.unusedSimpArgs false
set_option maxRecDepth 10000
set_option maxHeartbeats 4000000
namespace Go.M2
open Go.Proofs
variable {P : Program} {Q : Post} {e : Env} {H : Heap} {args : List AV} {R : AV → Heap → Prop}
@[go_sem] def l_impl_trimChains_0 : List GOp := [⟨(some 2), .mv (.c (.sl none 0 0 true 0)), none⟩]
def impl_trimChains_0 : IR := .ops l_impl_trimChains_0
@[go_sem] theorem w_impl_trimChains_0 : wp P impl_trimChains_0 Q e H = wpL P l_impl_trimChains_0 (Q .normal) e H := idE rfl
@[go_sem] def l_impl_trimChains_1 : List GOp := [⟨(some 8), .mv (.t 0), none⟩,
    ⟨(some 9), .len (.t 8), none⟩,
    ⟨(some 10), .mks [(.int .i64 0)] 8 (.t 9), none⟩,
    ⟨(some 3), .mv (.t 10), none⟩]
def impl_trimChains_1 : IR := .ops l_impl_trimChains_1
@[go_sem] theorem w_impl_trimChains_1 : wp P impl_trimChains_1 Q e H = wpL P l_impl_trimChains_1 (Q .normal) e H := idE rfl
@[go_sem] def l_impl_trimChains_2 : List GOp := [⟨(some 4), .mv (.c (.sl none 0 0 true 0)), none⟩]
def impl_trimChains_2 : IR := .ops l_impl_trimChains_2
@[go_sem] theorem w_impl_trimChains_2 : wp P impl_trimChains_2 Q e H = wpL P l_impl_trimChains_2 (Q .normal) e H := idE rfl
@[go_sem] def l_impl_trimChains_3 : List GOp := [⟨(some 11), .mv (.t 0), none⟩,
    ⟨(some 12), .call (n_impl_neededSteps) [(.t 11)], none⟩,
    ⟨(some 13), .len (.t 12), none⟩,
    ⟨(some 14), .mv (.c (.int .i64 0)), none⟩]
def impl_trimChains_3 : IR := .ops l_impl_trimChains_3
@[go_sem] theorem w_impl_trimChains_3 : wp P impl_trimChains_3 Q e H = wpL P l_impl_trimChains_3 (Q .normal) e H := idE rfl
@[go_sem] def l_impl_trimChains_4 : List GOp := [⟨(some 15), .bin .lss (.t 14) (.t 13), none⟩]
def impl_trimChains_4 : IR := .ops l_impl_trimChains_4
@[go_sem] theorem w_impl_trimChains_4 : wp P impl_trimChains_4 Q e H = wpL P l_impl_trimChains_4 (Q .normal) e H := idE rfl
def impl_trimChains_5 : IR := .cond (.t 15) .skip (.exit 0)
@[go_sem] theorem w_impl_trimChains_5 : wp P impl_trimChains_5 Q e H = condW P ((.t 15) : X) .skip (.exit 0) Q e H := idE rfl
@[go_sem] def l_impl_trimChains_6 : List GOp := [⟨(some 16), .mv (.t 14), none⟩,
    ⟨(some 17), .iaddr (.t 12) (.t 14) 1, none⟩,
    ⟨(some 18), .load (.t 17) 1 false, none⟩,
    ⟨(some 5), .mv (.t 16), none⟩,
    ⟨(some 6), .mv (.t 18), none⟩]
def impl_trimChains_6 : IR := .ops l_impl_trimChains_6
@[go_sem] theorem w_impl_trimChains_6 : wp P impl_trimChains_6 Q e H = wpL P l_impl_trimChains_6 (Q .normal) e H := idE rfl
@[go_sem] def l_impl_trimChains_7 : List GOp := [⟨(some 19), .mv (.t 6), none⟩,
    ⟨(some 20), .un .not (.t 19), none⟩]
def impl_trimChains_7 : IR := .ops l_impl_trimChains_7
@[go_sem] theorem w_impl_trimChains_7 : wp P impl_trimChains_7 Q e H = wpL P l_impl_trimChains_7 (Q .normal) e H := idE rfl
def impl_trimChains_8 : IR := .cond (.t 20) (.exit 1) .skip
@[go_sem] theorem w_impl_trimChains_8 : wp P impl_trimChains_8 Q e H = condW P ((.t 20) : X) (.exit 1) .skip Q e H := idE rfl
@[go_sem] def l_impl_trimChains_9 : List GOp := [⟨(some 21), .mv (.t 0), none⟩,
    ⟨(some 22), .mv (.t 5), none⟩,
    ⟨(some 23), .iaddr (.t 21) (.t 22) 5, none⟩,
    ⟨(some 24), .load (.t 23) 5 true, none⟩,
    ⟨(some 7), .alloc [(.int .i64 0), (.int .i64 0), (.int .i64 0), (.int .i64 0), (.sl none 0 0 true 0)], none⟩,
    ⟨none, .store (.t 7) 5 (.t 24), none⟩]
def impl_trimChains_9 : IR := .ops l_impl_trimChains_9
@[go_sem] theorem w_impl_trimChains_9 : wp P impl_trimChains_9 Q e H = wpL P l_impl_trimChains_9 (Q .normal) e H := idE rfl
@[go_sem] def l_impl_trimChains_10 : List GOp := [⟨(some 25), .faddr (.t 7) 4, none⟩,
    ⟨(some 26), .load (.t 25) 1 false, none⟩,
    ⟨(some 27), .call (n_impl_clone_int) [(.t 26)], none⟩,
    ⟨(some 28), .faddr (.t 7) 4, none⟩,
    ⟨none, .store (.t 28) 1 (.t 27), none⟩]
def impl_trimChains_10 : IR := .ops l_impl_trimChains_10
@[go_sem] theorem w_impl_trimChains_10 : wp P impl_trimChains_10 Q e H = wpL P l_impl_trimChains_10 (Q .normal) e H := idE rfl
@[go_sem] def l_impl_trimChains_11 : List GOp := [⟨(some 29), .faddr (.t 7) 0, none⟩,
    ⟨(some 30), .load (.t 29) 1 false, none⟩,
    ⟨(some 31), .bin .eql (.t 30) (.c (.int .i64 (-1))), none⟩]
def impl_trimChains_11 : IR := .ops l_impl_trimChains_11
@[go_sem] theorem w_impl_trimChains_11 : wp P impl_trimChains_11 Q e H = wpL P l_impl_trimChains_11 (Q .normal) e H := idE rfl
def l_impl_trimChains_12 : List GOp := [⟨(some 32), .mv (.t 3), none⟩,
    ⟨(some 33), .faddr (.t 7) 1, none⟩,
    ⟨(some 34), .load (.t 33) 1 false, none⟩,
    ⟨(some 35), .iaddr (.t 32) (.t 34) 1, none⟩,
    ⟨(some 36), .load (.t 35) 1 false, none⟩,
    ⟨(some 37), .mv (.t 3), none⟩,
    ⟨(some 38), .faddr (.t 7) 2, none⟩,
    ⟨(some 39), .load (.t 38) 1 false, none⟩,
    ⟨(some 40), .iaddr (.t 37) (.t 39) 1, none⟩,
    ⟨(some 41), .load (.t 40) 1 false, none⟩,
    ⟨(some 42), .faddr (.t 7) 1, none⟩,
    ⟨none, .store (.t 42) 1 (.t 36), none⟩,
    ⟨(some 43), .faddr (.t 7) 2, none⟩,
    ⟨none, .store (.t 43) 1 (.t 41), none⟩]
@[go_sem] theorem g_impl_trimChains_12_0 : gAt l_impl_trimChains_12 0 = ⟨(some 32), .mv (.t 3), none⟩ := idE rfl
@[go_sem] theorem g_impl_trimChains_12_1 : gAt l_impl_trimChains_12 1 = ⟨(some 33), .faddr (.t 7) 1, none⟩ := idE rfl
@[go_sem] theorem g_impl_trimChains_12_2 : gAt l_impl_trimChains_12 2 = ⟨(some 34), .load (.t 33) 1 false, none⟩ := idE rfl
@[go_sem] theorem g_impl_trimChains_12_3 : gAt l_impl_trimChains_12 3 = ⟨(some 35), .iaddr (.t 32) (.t 34) 1, none⟩ := idE rfl
@[go_sem] theorem g_impl_trimChains_12_4 : gAt l_impl_trimChains_12 4 = ⟨(some 36), .load (.t 35) 1 false, none⟩ := idE rfl
@[go_sem] theorem g_impl_trimChains_12_5 : gAt l_impl_trimChains_12 5 = ⟨(some 37), .mv (.t 3), none⟩ := idE rfl
@[go_sem] theorem g_impl_trimChains_12_6 : gAt l_impl_trimChains_12 6 = ⟨(some 38), .faddr (.t 7) 2, none⟩ := idE rfl
@[go_sem] theorem g_impl_trimChains_12_7 : gAt l_impl_trimChains_12 7 = ⟨(some 39), .load (.t 38) 1 false, none⟩ := idE rfl
@[go_sem] theorem g_impl_trimChains_12_8 : gAt l_impl_trimChains_12 8 = ⟨(some 40), .iaddr (.t 37) (.t 39) 1, none⟩ := idE rfl
@[go_sem] theorem g_impl_trimChains_12_9 : gAt l_impl_trimChains_12 9 = ⟨(some 41), .load (.t 40) 1 false, none⟩ := idE rfl
@[go_sem] theorem g_impl_trimChains_12_10 : gAt l_impl_trimChains_12 10 = ⟨(some 42), .faddr (.t 7) 1, none⟩ := idE rfl
@[go_sem] theorem g_impl_trimChains_12_11 : gAt l_impl_trimChains_12 11 = ⟨none, .store (.t 42) 1 (.t 36), none⟩ := idE rfl
@[go_sem] theorem g_impl_trimChains_12_12 : gAt l_impl_trimChains_12 12 = ⟨(some 43), .faddr (.t 7) 2, none⟩ := idE rfl
@[go_sem] theorem g_impl_trimChains_12_13 : gAt l_impl_trimChains_12 13 = ⟨none, .store (.t 43) 1 (.t 41), none⟩ := idE rfl
def impl_trimChains_12 : IR := .dops l_impl_trimChains_12 [(0, []), (1, []), (2, []), (3, []), (4, []), (5, []), (6, []), (7, []), (8, []), (9, []), (10, []), (11, [9]), (12, []), (13, [])]
@[go_sem] theorem w_impl_trimChains_12 : wp P impl_trimChains_12 Q e H = wpD P l_impl_trimChains_12 [(0, []), (1, []), (2, []), (3, []), (4, []), (5, []), (6, []), (7, []), (8, []), (9, []), (10, []), (11, [9]), (12, []), (13, [])] (Q .normal) e H := idE rfl
def impl_trimChains_13 : IR := .cond (.t 31) impl_trimChains_12 .skip
@[go_sem] theorem w_impl_trimChains_13 : wp P impl_trimChains_13 Q e H = condW P ((.t 31) : X) impl_trimChains_12 .skip Q e H := idE rfl
@[go_sem] def l_impl_trimChains_14 : List GOp := [⟨(some 44), .mv (.t 3), none⟩,
    ⟨(some 45), .mv (.t 5), none⟩,
    ⟨(some 46), .mv (.t 4), none⟩,
    ⟨(some 47), .len (.t 46), none⟩,
    ⟨(some 48), .iaddr (.t 44) (.t 45) 1, none⟩,
    ⟨none, .store (.t 48) 1 (.t 47), none⟩]
def impl_trimChains_14 : IR := .ops l_impl_trimChains_14
@[go_sem] theorem w_impl_trimChains_14 : wp P impl_trimChains_14 Q e H = wpL P l_impl_trimChains_14 (Q .normal) e H := idE rfl
@[go_sem] def l_impl_trimChains_15 : List GOp := [⟨(some 49), .mv (.t 4), none⟩,
    ⟨(some 50), .load (.t 7) 5 true, none⟩,
    ⟨(some 51), .bslc 5 1 [(.int .i64 0), (.int .i64 0), (.int .i64 0), (.int .i64 0), (.sl none 0 0 true 0)] [(0, (.t 50))], none⟩,
    ⟨(some 52), .app 5 56 (.t 49) (.t 51), none⟩,
    ⟨(some 4), .mv (.t 52), none⟩]
def impl_trimChains_15 : IR := .ops l_impl_trimChains_15
@[go_sem] theorem w_impl_trimChains_15 : wp P impl_trimChains_15 Q e H = wpL P l_impl_trimChains_15 (Q .normal) e H := idE rfl
def impl_trimChains_16 : IR := .block 1 (.seq impl_trimChains_6 (.seq (.seq impl_trimChains_7 impl_trimChains_8) (.seq impl_trimChains_9 (.seq impl_trimChains_10 (.seq (.seq impl_trimChains_11 impl_trimChains_13) (.seq impl_trimChains_14 impl_trimChains_15))))))
@[go_sem] theorem w_impl_trimChains_16 : wp P impl_trimChains_16 Q e H = wp P (.seq impl_trimChains_6 (.seq (.seq impl_trimChains_7 impl_trimChains_8) (.seq impl_trimChains_9 (.seq impl_trimChains_10 (.seq (.seq impl_trimChains_11 impl_trimChains_13) (.seq impl_trimChains_14 impl_trimChains_15)))))) (blockQ 1 Q) e H := idE rfl
@[go_sem] def l_impl_trimChains_17 : List GOp := [⟨(some 53), .bin .add (.t 14) (.c (.int .i64 1)), none⟩,
    ⟨(some 14), .mv (.t 53), none⟩]
def impl_trimChains_17 : IR := .ops l_impl_trimChains_17
@[go_sem] theorem w_impl_trimChains_17 : wp P impl_trimChains_17 Q e H = wpL P l_impl_trimChains_17 (Q .normal) e H := idE rfl
def impl_trimChains_18 : IR := .loop (.seq impl_trimChains_4 (.seq impl_trimChains_5 (.seq impl_trimChains_16 impl_trimChains_17)))
def impl_trimChains_19 : IR := .block 0 impl_trimChains_18
@[go_sem] theorem w_impl_trimChains_19 : wp P impl_trimChains_19 Q e H = wp P impl_trimChains_18 (blockQ 0 Q) e H := idE rfl
@[go_sem] def l_impl_trimChains_20 : List GOp := [⟨(some 54), .mv (.t 4), none⟩,
    ⟨(some 55), .call (n_impl_clone_impl_Chain) [(.t 54)], none⟩,
    ⟨(some 2), .mv (.t 55), none⟩]
def impl_trimChains_20 : IR := .ops l_impl_trimChains_20
@[go_sem] theorem w_impl_trimChains_20 : wp P impl_trimChains_20 Q e H = wpL P l_impl_trimChains_20 (Q .normal) e H := idE rfl
def F_impl_trimChains : IFn := ⟨1, 56, [.t 2], (.seq impl_trimChains_0 (.seq impl_trimChains_1 (.seq impl_trimChains_2 (.seq (.seq impl_trimChains_3 impl_trimChains_19) (.seq impl_trimChains_20 .ret)))))⟩
theorem c_impl_trimChains : compFn Try.prog [(0, [], []), (1, [], []), (2, [], []), (3, [], []), (4, [], []), (5, [], []), (6, [], []), (7, [], []), (8, [], []), (9, [], []), (10, [(0, []), (1, []), (2, []), (3, []), (4, []), (5, []), (6, []), (7, []), (8, []), (9, []), (10, []), (11, [9]), (12, []), (13, [])], []), (11, [], []), (12, [], []), (13, [], []), (14, [], [])] Try.f89 = some F_impl_trimChains := by kernel_rfl
theorem a_impl_trimChains (hl : args.length = 1) (h : wp Try.prog (.seq impl_trimChains_0 (.seq impl_trimChains_1 (.seq impl_trimChains_2 (.seq (.seq impl_trimChains_3 impl_trimChains_19) (.seq impl_trimChains_20 .ret))))) (postQ [.t 2] R) (env0 args) H) : ACall Try.prog n_impl_trimChains args H R :=
  acall_of_wp mixed Try.func89 c_impl_trimChains (by kernel_rfl) hl h
@[go_sem] def l_impl_TrimChains_0 : List GOp := [⟨(some 2), .box (.t 0), none⟩,
    ⟨(some 4), .mv (.c (.sl none 0 0 true 0)), none⟩]
def impl_TrimChains_0 : IR := .ops l_impl_TrimChains_0
@[go_sem] theorem w_impl_TrimChains_0 : wp P impl_TrimChains_0 Q e H = wpL P l_impl_TrimChains_0 (Q .normal) e H := idE rfl
@[go_sem] def l_impl_TrimChains_1 : List GOp := [⟨(some 5), .load (.t 2) 2 true, none⟩,
    ⟨(some 6), .mv (.t 1), none⟩,
    ⟨(some 7), .call (n_impl_CheckChains) [(.t 5), (.t 6)], none⟩,
    ⟨(some 8), .un .not (.t 7), none⟩]
def impl_TrimChains_1 : IR := .ops l_impl_TrimChains_1
@[go_sem] theorem w_impl_TrimChains_1 : wp P impl_TrimChains_1 Q e H = wpL P l_impl_TrimChains_1 (Q .normal) e H := idE rfl
@[go_sem] def l_impl_TrimChains_2 : List GOp := [⟨(some 4), .mv (.c (.sl none 0 0 true 0)), none⟩]
def impl_TrimChains_2 : IR := .ops l_impl_TrimChains_2
@[go_sem] theorem w_impl_TrimChains_2 : wp P impl_TrimChains_2 Q e H = wpL P l_impl_TrimChains_2 (Q .normal) e H := idE rfl
def impl_TrimChains_3 : IR := .cond (.t 8) (.seq impl_TrimChains_2 .ret) .skip
@[go_sem] theorem w_impl_TrimChains_3 : wp P impl_TrimChains_3 Q e H = condW P ((.t 8) : X) (.seq impl_TrimChains_2 .ret) .skip Q e H := idE rfl
@[go_sem] def l_impl_TrimChains_4 : List GOp := [⟨(some 9), .mv (.t 1), none⟩,
    ⟨(some 10), .call (n_impl_trimChains) [(.t 9)], none⟩,
    ⟨(some 4), .mv (.t 10), none⟩]
def impl_TrimChains_4 : IR := .ops l_impl_TrimChains_4
@[go_sem] theorem w_impl_TrimChains_4 : wp P impl_TrimChains_4 Q e H = wpL P l_impl_TrimChains_4 (Q .normal) e H := idE rfl
def F_impl_TrimChains : IFn := ⟨2, 11, [.t 4], (.seq impl_TrimChains_0 (.seq (.seq impl_TrimChains_1 impl_TrimChains_3) (.seq impl_TrimChains_4 .ret)))⟩
theorem c_impl_TrimChains : compFn Try.prog [(0, [], []), (1, [], []), (2, [], []), (3, [], [])] Try.f50 = some F_impl_TrimChains := by kernel_rfl
theorem a_impl_TrimChains (hl : args.length = 2) (h : wp Try.prog (.seq impl_TrimChains_0 (.seq (.seq impl_TrimChains_1 impl_TrimChains_3) (.seq impl_TrimChains_4 .ret))) (postQ [.t 4] R) (env0 args) H) : ACall Try.prog n_impl_TrimChains args H R :=
  acall_of_wp mixed Try.func50 c_impl_TrimChains (by kernel_rfl) hl h
@[go_sem] def l_laws_eqIntS_0 : List GOp := [⟨(some 4), .mv (.c (.bool false)), none⟩]
def laws_eqIntS_0 : IR := .ops l_laws_eqIntS_0
@[go_sem] theorem w_laws_eqIntS_0 : wp P laws_eqIntS_0 Q e H = wpL P l_laws_eqIntS_0 (Q .normal) e H := idE rfl
@[go_sem] def l_laws_eqIntS_1 : List GOp := [⟨(some 6), .mv (.t 0), none⟩,
    ⟨(some 7), .len (.t 6), none⟩,
    ⟨(some 8), .mv (.t 1), none⟩,
    ⟨(some 9), .len (.t 8), none⟩,
    ⟨(some 10), .bin .neq (.t 7) (.t 9), none⟩]
def laws_eqIntS_1 : IR := .ops l_laws_eqIntS_1
@[go_sem] theorem w_laws_eqIntS_1 : wp P laws_eqIntS_1 Q e H = wpL P l_laws_eqIntS_1 (Q .normal) e H := idE rfl
@[go_sem] def l_laws_eqIntS_2 : List GOp := [⟨(some 4), .mv (.c (.bool false)), none⟩]
def laws_eqIntS_2 : IR := .ops l_laws_eqIntS_2
@[go_sem] theorem w_laws_eqIntS_2 : wp P laws_eqIntS_2 Q e H = wpL P l_laws_eqIntS_2 (Q .normal) e H := idE rfl
def laws_eqIntS_3 : IR := .cond (.t 10) (.seq laws_eqIntS_2 .ret) .skip
@[go_sem] theorem w_laws_eqIntS_3 : wp P laws_eqIntS_3 Q e H = condW P ((.t 10) : X) (.seq laws_eqIntS_2 .ret) .skip Q e H := idE rfl
@[go_sem] def l_laws_eqIntS_4 : List GOp := [⟨(some 5), .mv (.c (.int .i64 0)), none⟩]
def laws_eqIntS_4 : IR := .ops l_laws_eqIntS_4
@[go_sem] theorem w_laws_eqIntS_4 : wp P laws_eqIntS_4 Q e H = wpL P l_laws_eqIntS_4 (Q .normal) e H := idE rfl
@[go_sem] def l_laws_eqIntS_5 : List GOp := [⟨(some 11), .mv (.t 5), none⟩,
    ⟨(some 12), .mv (.t 0), none⟩,
    ⟨(some 13), .len (.t 12), none⟩,
    ⟨(some 14), .bin .lss (.t 11) (.t 13), none⟩]
def laws_eqIntS_5 : IR := .ops l_laws_eqIntS_5
@[go_sem] theorem w_laws_eqIntS_5 : wp P laws_eqIntS_5 Q e H = wpL P l_laws_eqIntS_5 (Q .normal) e H := idE rfl
def laws_eqIntS_6 : IR := .cond (.t 14) .skip (.exit 0)
@[go_sem] theorem w_laws_eqIntS_6 : wp P laws_eqIntS_6 Q e H = condW P ((.t 14) : X) .skip (.exit 0) Q e H := idE rfl
def l_laws_eqIntS_7 : List GOp := [⟨(some 17), .mv (.t 0), none⟩,
    ⟨(some 18), .mv (.t 5), none⟩,
    ⟨(some 19), .iaddr (.t 17) (.t 18) 1, none⟩,
    ⟨(some 20), .load (.t 19) 1 false, none⟩,
    ⟨(some 21), .mv (.t 1), none⟩,
    ⟨(some 22), .mv (.t 5), none⟩,
    ⟨(some 23), .iaddr (.t 21) (.t 22) 1, none⟩,
    ⟨(some 24), .load (.t 23) 1 false, none⟩,
    ⟨(some 25), .bin .neq (.t 20) (.t 24), none⟩]
@[go_sem] theorem g_laws_eqIntS_7_0 : gAt l_laws_eqIntS_7 0 = ⟨(some 17), .mv (.t 0), none⟩ := idE rfl
@[go_sem] theorem g_laws_eqIntS_7_1 : gAt l_laws_eqIntS_7 1 = ⟨(some 18), .mv (.t 5), none⟩ := idE rfl
@[go_sem] theorem g_laws_eqIntS_7_2 : gAt l_laws_eqIntS_7 2 = ⟨(some 19), .iaddr (.t 17) (.t 18) 1, none⟩ := idE rfl
@[go_sem] theorem g_laws_eqIntS_7_3 : gAt l_laws_eqIntS_7 3 = ⟨(some 20), .load (.t 19) 1 false, none⟩ := idE rfl
@[go_sem] theorem g_laws_eqIntS_7_4 : gAt l_laws_eqIntS_7 4 = ⟨(some 21), .mv (.t 1), none⟩ := idE rfl
@[go_sem] theorem g_laws_eqIntS_7_5 : gAt l_laws_eqIntS_7 5 = ⟨(some 22), .mv (.t 5), none⟩ := idE rfl
@[go_sem] theorem g_laws_eqIntS_7_6 : gAt l_laws_eqIntS_7 6 = ⟨(some 23), .iaddr (.t 21) (.t 22) 1, none⟩ := idE rfl
@[go_sem] theorem g_laws_eqIntS_7_7 : gAt l_laws_eqIntS_7 7 = ⟨(some 24), .load (.t 23) 1 false, none⟩ := idE rfl
@[go_sem] theorem g_laws_eqIntS_7_8 : gAt l_laws_eqIntS_7 8 = ⟨(some 25), .bin .neq (.t 20) (.t 24), none⟩ := idE rfl
def laws_eqIntS_7 : IR := .dops l_laws_eqIntS_7 [(0, []), (1, []), (2, []), (3, []), (4, []), (5, []), (6, []), (7, []), (8, [])]
@[go_sem] theorem w_laws_eqIntS_7 : wp P laws_eqIntS_7 Q e H = wpD P l_laws_eqIntS_7 [(0, []), (1, []), (2, []), (3, []), (4, []), (5, []), (6, []), (7, []), (8, [])] (Q .normal) e H := idE rfl
@[go_sem] def l_laws_eqIntS_8 : List GOp := [⟨(some 4), .mv (.c (.bool false)), none⟩]
def laws_eqIntS_8 : IR := .ops l_laws_eqIntS_8
@[go_sem] theorem w_laws_eqIntS_8 : wp P laws_eqIntS_8 Q e H = wpL P l_laws_eqIntS_8 (Q .normal) e H := idE rfl
def laws_eqIntS_9 : IR := .cond (.t 25) (.seq laws_eqIntS_8 .ret) .skip
@[go_sem] theorem w_laws_eqIntS_9 : wp P laws_eqIntS_9 Q e H = condW P ((.t 25) : X) (.seq laws_eqIntS_8 .ret) .skip Q e H := idE rfl
def laws_eqIntS_10 : IR := .block 1 (.seq laws_eqIntS_7 laws_eqIntS_9)
@[go_sem] theorem w_laws_eqIntS_10 : wp P laws_eqIntS_10 Q e H = wp P (.seq laws_eqIntS_7 laws_eqIntS_9) (blockQ 1 Q) e H := idE rfl
@[go_sem] def l_laws_eqIntS_11 : List GOp := [⟨(some 15), .mv (.t 5), none⟩,
    ⟨(some 16), .bin .add (.t 15) (.c (.int .i64 1)), none⟩,
    ⟨(some 5), .mv (.t 16), none⟩]
def laws_eqIntS_11 : IR := .ops l_laws_eqIntS_11
@[go_sem] theorem w_laws_eqIntS_11 : wp P laws_eqIntS_11 Q e H = wpL P l_laws_eqIntS_11 (Q .normal) e H := idE rfl
def laws_eqIntS_12 : IR := .loop (.seq (.seq laws_eqIntS_5 laws_eqIntS_6) (.seq laws_eqIntS_10 laws_eqIntS_11))
def laws_eqIntS_13 : IR := .block 0 laws_eqIntS_12
@[go_sem] theorem w_laws_eqIntS_13 : wp P laws_eqIntS_13 Q e H = wp P laws_eqIntS_12 (blockQ 0 Q) e H := idE rfl
@[go_sem] def l_laws_eqIntS_14 : List GOp := [⟨(some 4), .mv (.c (.bool true)), none⟩]
def laws_eqIntS_14 : IR := .ops l_laws_eqIntS_14
@[go_sem] theorem w_laws_eqIntS_14 : wp P laws_eqIntS_14 Q e H = wpL P l_laws_eqIntS_14 (Q .normal) e H := idE rfl
def F_laws_eqIntS : IFn := ⟨2, 26, [.t 4], (.seq laws_eqIntS_0 (.seq (.seq laws_eqIntS_1 laws_eqIntS_3) (.seq (.seq laws_eqIntS_4 laws_eqIntS_13) (.seq laws_eqIntS_14 .ret))))⟩
theorem c_laws_eqIntS : compFn Try.prog [(0, [], []), (1, [], []), (2, [], []), (3, [], []), (4, [], []), (6, [(0, []), (1, []), (2, []), (3, []), (4, []), (5, []), (6, []), (7, []), (8, [])], []), (7, [], []), (5, [], []), (8, [], [])] Try.f32 = some F_laws_eqIntS := by kernel_rfl
theorem a_laws_eqIntS (hl : args.length = 2) (h : wp Try.prog (.seq laws_eqIntS_0 (.seq (.seq laws_eqIntS_1 laws_eqIntS_3) (.seq (.seq laws_eqIntS_4 laws_eqIntS_13) (.seq laws_eqIntS_14 .ret)))) (postQ [.t 4] R) (env0 args) H) : ACall Try.prog n_laws_eqIntS args H R :=
  acall_of_wp mixed Try.func32 c_laws_eqIntS (by kernel_rfl) hl h
@[go_sem] def l_laws_eqChain_0 : List GOp := [⟨(some 2), .box (.t 0), none⟩,
    ⟨(some 3), .box (.t 1), none⟩,
    ⟨(some 4), .mv (.c (.bool false)), none⟩]
def laws_eqChain_0 : IR := .ops l_laws_eqChain_0
@[go_sem] theorem w_laws_eqChain_0 : wp P laws_eqChain_0 Q e H = wpL P l_laws_eqChain_0 (Q .normal) e H := idE rfl
@[go_sem] def l_laws_eqChain_1 : List GOp := [⟨(some 5), .faddr (.t 2) 0, none⟩,
    ⟨(some 6), .load (.t 5) 1 false, none⟩,
    ⟨(some 7), .faddr (.t 3) 0, none⟩,
    ⟨(some 8), .load (.t 7) 1 false, none⟩,
    ⟨(some 9), .bin .neq (.t 6) (.t 8), none⟩]
def laws_eqChain_1 : IR := .ops l_laws_eqChain_1
@[go_sem] theorem w_laws_eqChain_1 : wp P laws_eqChain_1 Q e H = wpL P l_laws_eqChain_1 (Q .normal) e H := idE rfl
@[go_sem] def l_laws_eqChain_2 : List GOp := [⟨(some 4), .mv (.c (.bool false)), none⟩]
def laws_eqChain_2 : IR := .ops l_laws_eqChain_2
@[go_sem] theorem w_laws_eqChain_2 : wp P laws_eqChain_2 Q e H = wpL P l_laws_eqChain_2 (Q .normal) e H := idE rfl
def laws_eqChain_3 : IR := .cond (.t 9) (.seq laws_eqChain_2 .ret) .skip
@[go_sem] theorem w_laws_eqChain_3 : wp P laws_eqChain_3 Q e H = condW P ((.t 9) : X) (.seq laws_eqChain_2 .ret) .skip Q e H := idE rfl
@[go_sem] def l_laws_eqChain_4 : List GOp := [⟨(some 10), .faddr (.t 2) 1, none⟩,
    ⟨(some 11), .load (.t 10) 1 false, none⟩,
    ⟨(some 12), .faddr (.t 3) 1, none⟩,
    ⟨(some 13), .load (.t 12) 1 false, none⟩,
    ⟨(some 14), .bin .neq (.t 11) (.t 13), none⟩]
def laws_eqChain_4 : IR := .ops l_laws_eqChain_4
@[go_sem] theorem w_laws_eqChain_4 : wp P laws_eqChain_4 Q e H = wpL P l_laws_eqChain_4 (Q .normal) e H := idE rfl
@[go_sem] def l_laws_eqChain_5 : List GOp := [⟨(some 4), .mv (.c (.bool false)), none⟩]
def laws_eqChain_5 : IR := .ops l_laws_eqChain_5
@[go_sem] theorem w_laws_eqChain_5 : wp P laws_eqChain_5 Q e H = wpL P l_laws_eqChain_5 (Q .normal) e H := idE rfl
def laws_eqChain_6 : IR := .cond (.t 14) (.seq laws_eqChain_5 .ret) .skip
@[go_sem] theorem w_laws_eqChain_6 : wp P laws_eqChain_6 Q e H = condW P ((.t 14) : X) (.seq laws_eqChain_5 .ret) .skip Q e H := idE rfl
@[go_sem] def l_laws_eqChain_7 : List GOp := [⟨(some 15), .faddr (.t 2) 2, none⟩,
    ⟨(some 16), .load (.t 15) 1 false, none⟩,
    ⟨(some 17), .faddr (.t 3) 2, none⟩,
    ⟨(some 18), .load (.t 17) 1 false, none⟩,
    ⟨(some 19), .bin .neq (.t 16) (.t 18), none⟩]
def laws_eqChain_7 : IR := .ops l_laws_eqChain_7
@[go_sem] theorem w_laws_eqChain_7 : wp P laws_eqChain_7 Q e H = wpL P l_laws_eqChain_7 (Q .normal) e H := idE rfl
@[go_sem] def l_laws_eqChain_8 : List GOp := [⟨(some 4), .mv (.c (.bool false)), none⟩]
def laws_eqChain_8 : IR := .ops l_laws_eqChain_8
@[go_sem] theorem w_laws_eqChain_8 : wp P laws_eqChain_8 Q e H = wpL P l_laws_eqChain_8 (Q .normal) e H := idE rfl
def laws_eqChain_9 : IR := .cond (.t 19) (.seq laws_eqChain_8 .ret) .skip
@[go_sem] theorem w_laws_eqChain_9 : wp P laws_eqChain_9 Q e H = condW P ((.t 19) : X) (.seq laws_eqChain_8 .ret) .skip Q e H := idE rfl
@[go_sem] def l_laws_eqChain_10 : List GOp := [⟨(some 20), .faddr (.t 2) 3, none⟩,
    ⟨(some 21), .load (.t 20) 1 false, none⟩,
    ⟨(some 22), .faddr (.t 3) 3, none⟩,
    ⟨(some 23), .load (.t 22) 1 false, none⟩,
    ⟨(some 24), .bin .neq (.t 21) (.t 23), none⟩]
def laws_eqChain_10 : IR := .ops l_laws_eqChain_10
@[go_sem] theorem w_laws_eqChain_10 : wp P laws_eqChain_10 Q e H = wpL P l_laws_eqChain_10 (Q .normal) e H := idE rfl
@[go_sem] def l_laws_eqChain_11 : List GOp := [⟨(some 4), .mv (.c (.bool false)), none⟩]
def laws_eqChain_11 : IR := .ops l_laws_eqChain_11
@[go_sem] theorem w_laws_eqChain_11 : wp P laws_eqChain_11 Q e H = wpL P l_laws_eqChain_11 (Q .normal) e H := idE rfl
def laws_eqChain_12 : IR := .cond (.t 24) (.seq laws_eqChain_11 .ret) .skip
@[go_sem] theorem w_laws_eqChain_12 : wp P laws_eqChain_12 Q e H = condW P ((.t 24) : X) (.seq laws_eqChain_11 .ret) .skip Q e H := idE rfl
@[go_sem] def l_laws_eqChain_13 : List GOp := [⟨(some 25), .faddr (.t 2) 4, none⟩,
    ⟨(some 26), .load (.t 25) 1 false, none⟩,
    ⟨(some 27), .faddr (.t 3) 4, none⟩,
    ⟨(some 28), .load (.t 27) 1 false, none⟩,
    ⟨(some 29), .call (n_laws_eqIntS) [(.t 26), (.t 28)], none⟩,
    ⟨(some 30), .un .not (.t 29), none⟩]
def laws_eqChain_13 : IR := .ops l_laws_eqChain_13
@[go_sem] theorem w_laws_eqChain_13 : wp P laws_eqChain_13 Q e H = wpL P l_laws_eqChain_13 (Q .normal) e H := idE rfl
@[go_sem] def l_laws_eqChain_14 : List GOp := [⟨(some 4), .mv (.c (.bool false)), none⟩]
def laws_eqChain_14 : IR := .ops l_laws_eqChain_14
@[go_sem] theorem w_laws_eqChain_14 : wp P laws_eqChain_14 Q e H = wpL P l_laws_eqChain_14 (Q .normal) e H := idE rfl
def laws_eqChain_15 : IR := .cond (.t 30) (.seq laws_eqChain_14 .ret) .skip
@[go_sem] theorem w_laws_eqChain_15 : wp P laws_eqChain_15 Q e H = condW P ((.t 30) : X) (.seq laws_eqChain_14 .ret) .skip Q e H := idE rfl
@[go_sem] def l_laws_eqChain_16 : List GOp := [⟨(some 4), .mv (.c (.bool true)), none⟩]
def laws_eqChain_16 : IR := .ops l_laws_eqChain_16
@[go_sem] theorem w_laws_eqChain_16 : wp P laws_eqChain_16 Q e H = wpL P l_laws_eqChain_16 (Q .normal) e H := idE rfl
def F_laws_eqChain : IFn := ⟨2, 31, [.t 4], (.seq laws_eqChain_0 (.seq (.seq laws_eqChain_1 laws_eqChain_3) (.seq (.seq laws_eqChain_4 laws_eqChain_6) (.seq (.seq laws_eqChain_7 laws_eqChain_9) (.seq (.seq laws_eqChain_10 laws_eqChain_12) (.seq (.seq laws_eqChain_13 laws_eqChain_15) (.seq laws_eqChain_16 .ret)))))))⟩
theorem c_laws_eqChain : compFn Try.prog [(0, [], []), (1, [], []), (2, [], []), (3, [], []), (4, [], []), (5, [], []), (6, [], []), (7, [], []), (8, [], []), (9, [], []), (10, [], []), (11, [], [])] Try.f62 = some F_laws_eqChain := by kernel_rfl
theorem a_laws_eqChain (hl : args.length = 2) (h : wp Try.prog (.seq laws_eqChain_0 (.seq (.seq laws_eqChain_1 laws_eqChain_3) (.seq (.seq laws_eqChain_4 laws_eqChain_6) (.seq (.seq laws_eqChain_7 laws_eqChain_9) (.seq (.seq laws_eqChain_10 laws_eqChain_12) (.seq (.seq laws_eqChain_13 laws_eqChain_15) (.seq laws_eqChain_16 .ret))))))) (postQ [.t 4] R) (env0 args) H) : ACall Try.prog n_laws_eqChain args H R :=
  acall_of_wp mixed Try.func62 c_laws_eqChain (by kernel_rfl) hl h
@[go_sem] def l_laws_eqChainS_0 : List GOp := [⟨(some 4), .mv (.c (.bool false)), none⟩]
def laws_eqChainS_0 : IR := .ops l_laws_eqChainS_0
@[go_sem] theorem w_laws_eqChainS_0 : wp P laws_eqChainS_0 Q e H = wpL P l_laws_eqChainS_0 (Q .normal) e H := idE rfl
@[go_sem] def l_laws_eqChainS_1 : List GOp := [⟨(some 6), .mv (.t 0), none⟩,
    ⟨(some 7), .len (.t 6), none⟩,
    ⟨(some 8), .mv (.t 1), none⟩,
    ⟨(some 9), .len (.t 8), none⟩,
    ⟨(some 10), .bin .neq (.t 7) (.t 9), none⟩]
def laws_eqChainS_1 : IR := .ops l_laws_eqChainS_1
@[go_sem] theorem w_laws_eqChainS_1 : wp P laws_eqChainS_1 Q e H = wpL P l_laws_eqChainS_1 (Q .normal) e H := idE rfl
@[go_sem] def l_laws_eqChainS_2 : List GOp := [⟨(some 4), .mv (.c (.bool false)), none⟩]
def laws_eqChainS_2 : IR := .ops l_laws_eqChainS_2
@[go_sem] theorem w_laws_eqChainS_2 : wp P laws_eqChainS_2 Q e H = wpL P l_laws_eqChainS_2 (Q .normal) e H := idE rfl
def laws_eqChainS_3 : IR := .cond (.t 10) (.seq laws_eqChainS_2 .ret) .skip
@[go_sem] theorem w_laws_eqChainS_3 : wp P laws_eqChainS_3 Q e H = condW P ((.t 10) : X) (.seq laws_eqChainS_2 .ret) .skip Q e H := idE rfl
@[go_sem] def l_laws_eqChainS_4 : List GOp := [⟨(some 5), .mv (.c (.int .i64 0)), none⟩]
def laws_eqChainS_4 : IR := .ops l_laws_eqChainS_4
@[go_sem] theorem w_laws_eqChainS_4 : wp P laws_eqChainS_4 Q e H = wpL P l_laws_eqChainS_4 (Q .normal) e H := idE rfl
@[go_sem] def l_laws_eqChainS_5 : List GOp := [⟨(some 11), .mv (.t 5), none⟩,
    ⟨(some 12), .mv (.t 0), none⟩,
    ⟨(some 13), .len (.t 12), none⟩,
    ⟨(some 14), .bin .lss (.t 11) (.t 13), none⟩]
def laws_eqChainS_5 : IR := .ops l_laws_eqChainS_5
@[go_sem] theorem w_laws_eqChainS_5 : wp P laws_eqChainS_5 Q e H = wpL P l_laws_eqChainS_5 (Q .normal) e H := idE rfl
def laws_eqChainS_6 : IR := .cond (.t 14) .skip (.exit 0)
@[go_sem] theorem w_laws_eqChainS_6 : wp P laws_eqChainS_6 Q e H = condW P ((.t 14) : X) .skip (.exit 0) Q e H := idE rfl
def l_laws_eqChainS_7 : List GOp := [⟨(some 17), .mv (.t 0), none⟩,
    ⟨(some 18), .mv (.t 5), none⟩,
    ⟨(some 19), .iaddr (.t 17) (.t 18) 5, none⟩,
    ⟨(some 20), .load (.t 19) 5 true, none⟩,
    ⟨(some 21), .mv (.t 1), none⟩,
    ⟨(some 22), .mv (.t 5), none⟩,
    ⟨(some 23), .iaddr (.t 21) (.t 22) 5, none⟩,
    ⟨(some 24), .load (.t 23) 5 true, none⟩,
    ⟨(some 25), .call (n_laws_eqChain) [(.t 20), (.t 24)], none⟩,
    ⟨(some 26), .un .not (.t 25), none⟩]
@[go_sem] theorem g_laws_eqChainS_7_0 : gAt l_laws_eqChainS_7 0 = ⟨(some 17), .mv (.t 0), none⟩ := idE rfl
@[go_sem] theorem g_laws_eqChainS_7_1 : gAt l_laws_eqChainS_7 1 = ⟨(some 18), .mv (.t 5), none⟩ := idE rfl
@[go_sem] theorem g_laws_eqChainS_7_2 : gAt l_laws_eqChainS_7 2 = ⟨(some 19), .iaddr (.t 17) (.t 18) 5, none⟩ := idE rfl
@[go_sem] theorem g_laws_eqChainS_7_3 : gAt l_laws_eqChainS_7 3 = ⟨(some 20), .load (.t 19) 5 true, none⟩ := idE rfl
@[go_sem] theorem g_laws_eqChainS_7_4 : gAt l_laws_eqChainS_7 4 = ⟨(some 21), .mv (.t 1), none⟩ := idE rfl
@[go_sem] theorem g_laws_eqChainS_7_5 : gAt l_laws_eqChainS_7 5 = ⟨(some 22), .mv (.t 5), none⟩ := idE rfl
@[go_sem] theorem g_laws_eqChainS_7_6 : gAt l_laws_eqChainS_7 6 = ⟨(some 23), .iaddr (.t 21) (.t 22) 5, none⟩ := idE rfl
@[go_sem] theorem g_laws_eqChainS_7_7 : gAt l_laws_eqChainS_7 7 = ⟨(some 24), .load (.t 23) 5 true, none⟩ := idE rfl
@[go_sem] theorem g_laws_eqChainS_7_8 : gAt l_laws_eqChainS_7 8 = ⟨(some 25), .call (n_laws_eqChain) [(.t 20), (.t 24)], none⟩ := idE rfl
@[go_sem] theorem g_laws_eqChainS_7_9 : gAt l_laws_eqChainS_7 9 = ⟨(some 26), .un .not (.t 25), none⟩ := idE rfl
def laws_eqChainS_7 : IR := .dops l_laws_eqChainS_7 [(0, []), (1, []), (2, []), (3, []), (4, []), (5, []), (6, []), (7, []), (8, []), (9, [])]
@[go_sem] theorem w_laws_eqChainS_7 : wp P laws_eqChainS_7 Q e H = wpD P l_laws_eqChainS_7 [(0, []), (1, []), (2, []), (3, []), (4, []), (5, []), (6, []), (7, []), (8, []), (9, [])] (Q .normal) e H := idE rfl
@[go_sem] def l_laws_eqChainS_8 : List GOp := [⟨(some 4), .mv (.c (.bool false)), none⟩]
def laws_eqChainS_8 : IR := .ops l_laws_eqChainS_8
@[go_sem] theorem w_laws_eqChainS_8 : wp P laws_eqChainS_8 Q e H = wpL P l_laws_eqChainS_8 (Q .normal) e H := idE rfl
def laws_eqChainS_9 : IR := .cond (.t 26) (.seq laws_eqChainS_8 .ret) .skip
@[go_sem] theorem w_laws_eqChainS_9 : wp P laws_eqChainS_9 Q e H = condW P ((.t 26) : X) (.seq laws_eqChainS_8 .ret) .skip Q e H := idE rfl
def laws_eqChainS_10 : IR := .block 1 (.seq laws_eqChainS_7 laws_eqChainS_9)
@[go_sem] theorem w_laws_eqChainS_10 : wp P laws_eqChainS_10 Q e H = wp P (.seq laws_eqChainS_7 laws_eqChainS_9) (blockQ 1 Q) e H := idE rfl
@[go_sem] def l_laws_eqChainS_11 : List GOp := [⟨(some 15), .mv (.t 5), none⟩,
    ⟨(some 16), .bin .add (.t 15) (.c (.int .i64 1)), none⟩,
    ⟨(some 5), .mv (.t 16), none⟩]
def laws_eqChainS_11 : IR := .ops l_laws_eqChainS_11
@[go_sem] theorem w_laws_eqChainS_11 : wp P laws_eqChainS_11 Q e H = wpL P l_laws_eqChainS_11 (Q .normal) e H := idE rfl
def laws_eqChainS_12 : IR := .loop (.seq (.seq laws_eqChainS_5 laws_eqChainS_6) (.seq laws_eqChainS_10 laws_eqChainS_11))
def laws_eqChainS_13 : IR := .block 0 laws_eqChainS_12
@[go_sem] theorem w_laws_eqChainS_13 : wp P laws_eqChainS_13 Q e H = wp P laws_eqChainS_12 (blockQ 0 Q) e H := idE rfl
@[go_sem] def l_laws_eqChainS_14 : List GOp := [⟨(some 4), .mv (.c (.bool true)), none⟩]
def laws_eqChainS_14 : IR := .ops l_laws_eqChainS_14
@[go_sem] theorem w_laws_eqChainS_14 : wp P laws_eqChainS_14 Q e H = wpL P l_laws_eqChainS_14 (Q .normal) e H := idE rfl
def F_laws_eqChainS : IFn := ⟨2, 27, [.t 4], (.seq laws_eqChainS_0 (.seq (.seq laws_eqChainS_1 laws_eqChainS_3) (.seq (.seq laws_eqChainS_4 laws_eqChainS_13) (.seq laws_eqChainS_14 .ret))))⟩
theorem c_laws_eqChainS : compFn Try.prog [(0, [], []), (1, [], []), (2, [], []), (3, [], []), (4, [], []), (6, [(0, []), (1, []), (2, []), (3, []), (4, []), (5, []), (6, []), (7, []), (8, []), (9, [])], []), (7, [], []), (5, [], []), (8, [], [])] Try.f21 = some F_laws_eqChainS := by kernel_rfl
theorem a_laws_eqChainS (hl : args.length = 2) (h : wp Try.prog (.seq laws_eqChainS_0 (.seq (.seq laws_eqChainS_1 laws_eqChainS_3) (.seq (.seq laws_eqChainS_4 laws_eqChainS_13) (.seq laws_eqChainS_14 .ret)))) (postQ [.t 4] R) (env0 args) H) : ACall Try.prog n_laws_eqChainS args H R :=
  acall_of_wp mixed Try.func21 c_laws_eqChainS (by kernel_rfl) hl h
@[go_sem] def l_laws_eqIntSS_0 : List GOp := [⟨(some 4), .mv (.c (.bool false)), none⟩]
def laws_eqIntSS_0 : IR := .ops l_laws_eqIntSS_0
@[go_sem] theorem w_laws_eqIntSS_0 : wp P laws_eqIntSS_0 Q e H = wpL P l_laws_eqIntSS_0 (Q .normal) e H := idE rfl
@[go_sem] def l_laws_eqIntSS_1 : List GOp := [⟨(some 6), .mv (.t 0), none⟩,
    ⟨(some 7), .len (.t 6), none⟩,
    ⟨(some 8), .mv (.t 1), none⟩,
    ⟨(some 9), .len (.t 8), none⟩,
    ⟨(some 10), .bin .neq (.t 7) (.t 9), none⟩]
def laws_eqIntSS_1 : IR := .ops l_laws_eqIntSS_1
@[go_sem] theorem w_laws_eqIntSS_1 : wp P laws_eqIntSS_1 Q e H = wpL P l_laws_eqIntSS_1 (Q .normal) e H := idE rfl
@[go_sem] def l_laws_eqIntSS_2 : List GOp := [⟨(some 4), .mv (.c (.bool false)), none⟩]
def laws_eqIntSS_2 : IR := .ops l_laws_eqIntSS_2
@[go_sem] theorem w_laws_eqIntSS_2 : wp P laws_eqIntSS_2 Q e H = wpL P l_laws_eqIntSS_2 (Q .normal) e H := idE rfl
def laws_eqIntSS_3 : IR := .cond (.t 10) (.seq laws_eqIntSS_2 .ret) .skip
@[go_sem] theorem w_laws_eqIntSS_3 : wp P laws_eqIntSS_3 Q e H = condW P ((.t 10) : X) (.seq laws_eqIntSS_2 .ret) .skip Q e H := idE rfl
@[go_sem] def l_laws_eqIntSS_4 : List GOp := [⟨(some 5), .mv (.c (.int .i64 0)), none⟩]
def laws_eqIntSS_4 : IR := .ops l_laws_eqIntSS_4
@[go_sem] theorem w_laws_eqIntSS_4 : wp P laws_eqIntSS_4 Q e H = wpL P l_laws_eqIntSS_4 (Q .normal) e H := idE rfl
@[go_sem] def l_laws_eqIntSS_5 : List GOp := [⟨(some 11), .mv (.t 5), none⟩,
    ⟨(some 12), .mv (.t 0), none⟩,
    ⟨(some 13), .len (.t 12), none⟩,
    ⟨(some 14), .bin .lss (.t 11) (.t 13), none⟩]
def laws_eqIntSS_5 : IR := .ops l_laws_eqIntSS_5
@[go_sem] theorem w_laws_eqIntSS_5 : wp P laws_eqIntSS_5 Q e H = wpL P l_laws_eqIntSS_5 (Q .normal) e H := idE rfl
def laws_eqIntSS_6 : IR := .cond (.t 14) .skip (.exit 0)
@[go_sem] theorem w_laws_eqIntSS_6 : wp P laws_eqIntSS_6 Q e H = condW P ((.t 14) : X) .skip (.exit 0) Q e H := idE rfl
def l_laws_eqIntSS_7 : List GOp := [⟨(some 17), .mv (.t 0), none⟩,
    ⟨(some 18), .mv (.t 5), none⟩,
    ⟨(some 19), .iaddr (.t 17) (.t 18) 1, none⟩,
    ⟨(some 20), .load (.t 19) 1 false, none⟩,
    ⟨(some 21), .mv (.t 1), none⟩,
    ⟨(some 22), .mv (.t 5), none⟩,
    ⟨(some 23), .iaddr (.t 21) (.t 22) 1, none⟩,
    ⟨(some 24), .load (.t 23) 1 false, none⟩,
    ⟨(some 25), .call (n_laws_eqIntS) [(.t 20), (.t 24)], none⟩,
    ⟨(some 26), .un .not (.t 25), none⟩]
@[go_sem] theorem g_laws_eqIntSS_7_0 : gAt l_laws_eqIntSS_7 0 = ⟨(some 17), .mv (.t 0), none⟩ := idE rfl
@[go_sem] theorem g_laws_eqIntSS_7_1 : gAt l_laws_eqIntSS_7 1 = ⟨(some 18), .mv (.t 5), none⟩ := idE rfl
@[go_sem] theorem g_laws_eqIntSS_7_2 : gAt l_laws_eqIntSS_7 2 = ⟨(some 19), .iaddr (.t 17) (.t 18) 1, none⟩ := idE rfl
@[go_sem] theorem g_laws_eqIntSS_7_3 : gAt l_laws_eqIntSS_7 3 = ⟨(some 20), .load (.t 19) 1 false, none⟩ := idE rfl
@[go_sem] theorem g_laws_eqIntSS_7_4 : gAt l_laws_eqIntSS_7 4 = ⟨(some 21), .mv (.t 1), none⟩ := idE rfl
@[go_sem] theorem g_laws_eqIntSS_7_5 : gAt l_laws_eqIntSS_7 5 = ⟨(some 22), .mv (.t 5), none⟩ := idE rfl
@[go_sem] theorem g_laws_eqIntSS_7_6 : gAt l_laws_eqIntSS_7 6 = ⟨(some 23), .iaddr (.t 21) (.t 22) 1, none⟩ := idE rfl
@[go_sem] theorem g_laws_eqIntSS_7_7 : gAt l_laws_eqIntSS_7 7 = ⟨(some 24), .load (.t 23) 1 false, none⟩ := idE rfl
@[go_sem] theorem g_laws_eqIntSS_7_8 : gAt l_laws_eqIntSS_7 8 = ⟨(some 25), .call (n_laws_eqIntS) [(.t 20), (.t 24)], none⟩ := idE rfl
@[go_sem] theorem g_laws_eqIntSS_7_9 : gAt l_laws_eqIntSS_7 9 = ⟨(some 26), .un .not (.t 25), none⟩ := idE rfl
def laws_eqIntSS_7 : IR := .dops l_laws_eqIntSS_7 [(0, []), (1, []), (2, []), (3, []), (4, []), (5, []), (6, []), (7, []), (8, []), (9, [])]
@[go_sem] theorem w_laws_eqIntSS_7 : wp P laws_eqIntSS_7 Q e H = wpD P l_laws_eqIntSS_7 [(0, []), (1, []), (2, []), (3, []), (4, []), (5, []), (6, []), (7, []), (8, []), (9, [])] (Q .normal) e H := idE rfl
@[go_sem] def l_laws_eqIntSS_8 : List GOp := [⟨(some 4), .mv (.c (.bool false)), none⟩]
def laws_eqIntSS_8 : IR := .ops l_laws_eqIntSS_8
@[go_sem] theorem w_laws_eqIntSS_8 : wp P laws_eqIntSS_8 Q e H = wpL P l_laws_eqIntSS_8 (Q .normal) e H := idE rfl
def laws_eqIntSS_9 : IR := .cond (.t 26) (.seq laws_eqIntSS_8 .ret) .skip
@[go_sem] theorem w_laws_eqIntSS_9 : wp P laws_eqIntSS_9 Q e H = condW P ((.t 26) : X) (.seq laws_eqIntSS_8 .ret) .skip Q e H := idE rfl
def laws_eqIntSS_10 : IR := .block 1 (.seq laws_eqIntSS_7 laws_eqIntSS_9)
@[go_sem] theorem w_laws_eqIntSS_10 : wp P laws_eqIntSS_10 Q e H = wp P (.seq laws_eqIntSS_7 laws_eqIntSS_9) (blockQ 1 Q) e H := idE rfl
@[go_sem] def l_laws_eqIntSS_11 : List GOp := [⟨(some 15), .mv (.t 5), none⟩,
    ⟨(some 16), .bin .add (.t 15) (.c (.int .i64 1)), none⟩,
    ⟨(some 5), .mv (.t 16), none⟩]
def laws_eqIntSS_11 : IR := .ops l_laws_eqIntSS_11
@[go_sem] theorem w_laws_eqIntSS_11 : wp P laws_eqIntSS_11 Q e H = wpL P l_laws_eqIntSS_11 (Q .normal) e H := idE rfl
def laws_eqIntSS_12 : IR := .loop (.seq (.seq laws_eqIntSS_5 laws_eqIntSS_6) (.seq laws_eqIntSS_10 laws_eqIntSS_11))
def laws_eqIntSS_13 : IR := .block 0 laws_eqIntSS_12
@[go_sem] theorem w_laws_eqIntSS_13 : wp P laws_eqIntSS_13 Q e H = wp P laws_eqIntSS_12 (blockQ 0 Q) e H := idE rfl
@[go_sem] def l_laws_eqIntSS_14 : List GOp := [⟨(some 4), .mv (.c (.bool true)), none⟩]
def laws_eqIntSS_14 : IR := .ops l_laws_eqIntSS_14
@[go_sem] theorem w_laws_eqIntSS_14 : wp P laws_eqIntSS_14 Q e H = wpL P l_laws_eqIntSS_14 (Q .normal) e H := idE rfl
def F_laws_eqIntSS : IFn := ⟨2, 27, [.t 4], (.seq laws_eqIntSS_0 (.seq (.seq laws_eqIntSS_1 laws_eqIntSS_3) (.seq (.seq laws_eqIntSS_4 laws_eqIntSS_13) (.seq laws_eqIntSS_14 .ret))))⟩
theorem c_laws_eqIntSS : compFn Try.prog [(0, [], []), (1, [], []), (2, [], []), (3, [], []), (4, [], []), (6, [(0, []), (1, []), (2, []), (3, []), (4, []), (5, []), (6, []), (7, []), (8, []), (9, [])], []), (7, [], []), (5, [], []), (8, [], [])] Try.f36 = some F_laws_eqIntSS := by kernel_rfl
theorem a_laws_eqIntSS (hl : args.length = 2) (h : wp Try.prog (.seq laws_eqIntSS_0 (.seq (.seq laws_eqIntSS_1 laws_eqIntSS_3) (.seq (.seq laws_eqIntSS_4 laws_eqIntSS_13) (.seq laws_eqIntSS_14 .ret)))) (postQ [.t 4] R) (env0 args) H) : ACall Try.prog n_laws_eqIntSS args H R :=
  acall_of_wp mixed Try.func36 c_laws_eqIntSS (by kernel_rfl) hl h
@[go_sem] def l_laws_eqClauses_0 : List GOp := [⟨(some 2), .box (.t 0), none⟩,
    ⟨(some 3), .box (.t 1), none⟩,
    ⟨(some 4), .mv (.c (.bool false)), none⟩]
def laws_eqClauses_0 : IR := .ops l_laws_eqClauses_0
@[go_sem] theorem w_laws_eqClauses_0 : wp P laws_eqClauses_0 Q e H = wpL P l_laws_eqClauses_0 (Q .normal) e H := idE rfl
@[go_sem] def l_laws_eqClauses_1 : List GOp := [⟨(some 5), .faddr (.t 2) 0, none⟩,
    ⟨(some 6), .load (.t 5) 1 false, none⟩,
    ⟨(some 7), .faddr (.t 3) 0, none⟩,
    ⟨(some 8), .load (.t 7) 1 false, none⟩,
    ⟨(some 9), .bin .neq (.t 6) (.t 8), none⟩]
def laws_eqClauses_1 : IR := .ops l_laws_eqClauses_1
@[go_sem] theorem w_laws_eqClauses_1 : wp P laws_eqClauses_1 Q e H = wpL P l_laws_eqClauses_1 (Q .normal) e H := idE rfl
@[go_sem] def l_laws_eqClauses_2 : List GOp := [⟨(some 4), .mv (.c (.bool false)), none⟩]
def laws_eqClauses_2 : IR := .ops l_laws_eqClauses_2
@[go_sem] theorem w_laws_eqClauses_2 : wp P laws_eqClauses_2 Q e H = wpL P l_laws_eqClauses_2 (Q .normal) e H := idE rfl
def laws_eqClauses_3 : IR := .cond (.t 9) (.seq laws_eqClauses_2 .ret) .skip
@[go_sem] theorem w_laws_eqClauses_3 : wp P laws_eqClauses_3 Q e H = condW P ((.t 9) : X) (.seq laws_eqClauses_2 .ret) .skip Q e H := idE rfl
@[go_sem] def l_laws_eqClauses_4 : List GOp := [⟨(some 10), .faddr (.t 2) 1, none⟩,
    ⟨(some 11), .load (.t 10) 1 false, none⟩,
    ⟨(some 12), .faddr (.t 3) 1, none⟩,
    ⟨(some 13), .load (.t 12) 1 false, none⟩,
    ⟨(some 14), .call (n_laws_eqIntSS) [(.t 11), (.t 13)], none⟩,
    ⟨(some 15), .un .not (.t 14), none⟩]
def laws_eqClauses_4 : IR := .ops l_laws_eqClauses_4
@[go_sem] theorem w_laws_eqClauses_4 : wp P laws_eqClauses_4 Q e H = wpL P l_laws_eqClauses_4 (Q .normal) e H := idE rfl
@[go_sem] def l_laws_eqClauses_5 : List GOp := [⟨(some 4), .mv (.c (.bool false)), none⟩]
def laws_eqClauses_5 : IR := .ops l_laws_eqClauses_5
@[go_sem] theorem w_laws_eqClauses_5 : wp P laws_eqClauses_5 Q e H = wpL P l_laws_eqClauses_5 (Q .normal) e H := idE rfl
def laws_eqClauses_6 : IR := .cond (.t 15) (.seq laws_eqClauses_5 .ret) .skip
@[go_sem] theorem w_laws_eqClauses_6 : wp P laws_eqClauses_6 Q e H = condW P ((.t 15) : X) (.seq laws_eqClauses_5 .ret) .skip Q e H := idE rfl
@[go_sem] def l_laws_eqClauses_7 : List GOp := [⟨(some 4), .mv (.c (.bool true)), none⟩]
def laws_eqClauses_7 : IR := .ops l_laws_eqClauses_7
@[go_sem] theorem w_laws_eqClauses_7 : wp P laws_eqClauses_7 Q e H = wpL P l_laws_eqClauses_7 (Q .normal) e H := idE rfl
def F_laws_eqClauses : IFn := ⟨2, 16, [.t 4], (.seq laws_eqClauses_0 (.seq (.seq laws_eqClauses_1 laws_eqClauses_3) (.seq (.seq laws_eqClauses_4 laws_eqClauses_6) (.seq laws_eqClauses_7 .ret))))⟩
theorem c_laws_eqClauses : compFn Try.prog [(0, [], []), (1, [], []), (2, [], []), (3, [], []), (4, [], []), (5, [], [])] Try.f20 = some F_laws_eqClauses := by kernel_rfl
theorem a_laws_eqClauses (hl : args.length = 2) (h : wp Try.prog (.seq laws_eqClauses_0 (.seq (.seq laws_eqClauses_1 laws_eqClauses_3) (.seq (.seq laws_eqClauses_4 laws_eqClauses_6) (.seq laws_eqClauses_7 .ret)))) (postQ [.t 4] R) (env0 args) H) : ACall Try.prog n_laws_eqClauses args H R :=
  acall_of_wp mixed Try.func20 c_laws_eqClauses (by kernel_rfl) hl h
@[go_sem] def l_laws_markIntS_0 : List GOp := [⟨(some 4), .mv (.c (.int .i64 0)), none⟩]
def laws_markIntS_0 : IR := .ops l_laws_markIntS_0
@[go_sem] theorem w_laws_markIntS_0 : wp P laws_markIntS_0 Q e H = wpL P l_laws_markIntS_0 (Q .normal) e H := idE rfl
@[go_sem] def l_laws_markIntS_1 : List GOp := [⟨(some 5), .mv (.c (.int .i64 0)), none⟩]
def laws_markIntS_1 : IR := .ops l_laws_markIntS_1
@[go_sem] theorem w_laws_markIntS_1 : wp P laws_markIntS_1 Q e H = wpL P l_laws_markIntS_1 (Q .normal) e H := idE rfl
@[go_sem] def l_laws_markIntS_2 : List GOp := [⟨(some 6), .mv (.t 5), none⟩,
    ⟨(some 7), .mv (.t 0), none⟩,
    ⟨(some 8), .len (.t 7), none⟩,
    ⟨(some 9), .bin .lss (.t 6) (.t 8), none⟩]
def laws_markIntS_2 : IR := .ops l_laws_markIntS_2
@[go_sem] theorem w_laws_markIntS_2 : wp P laws_markIntS_2 Q e H = wpL P l_laws_markIntS_2 (Q .normal) e H := idE rfl
def laws_markIntS_3 : IR := .cond (.t 9) .skip (.exit 0)
@[go_sem] theorem w_laws_markIntS_3 : wp P laws_markIntS_3 Q e H = condW P ((.t 9) : X) .skip (.exit 0) Q e H := idE rfl
@[go_sem] def l_laws_markIntS_4 : List GOp := [⟨(some 12), .mv (.t 0), none⟩,
    ⟨(some 13), .mv (.t 5), none⟩,
    ⟨(some 14), .mv (.t 1), none⟩,
    ⟨(some 15), .iaddr (.t 12) (.t 13) 1, none⟩,
    ⟨none, .store (.t 15) 1 (.t 14), none⟩]
def laws_markIntS_4 : IR := .ops l_laws_markIntS_4
@[go_sem] theorem w_laws_markIntS_4 : wp P laws_markIntS_4 Q e H = wpL P l_laws_markIntS_4 (Q .normal) e H := idE rfl
@[go_sem] def l_laws_markIntS_5 : List GOp := [⟨(some 16), .mv (.t 1), none⟩,
    ⟨(some 17), .bin .add (.t 16) (.c (.int .i64 1)), none⟩,
    ⟨(some 1), .mv (.t 17), none⟩]
def laws_markIntS_5 : IR := .ops l_laws_markIntS_5
@[go_sem] theorem w_laws_markIntS_5 : wp P laws_markIntS_5 Q e H = wpL P l_laws_markIntS_5 (Q .normal) e H := idE rfl
def laws_markIntS_6 : IR := .block 1 (.seq laws_markIntS_4 laws_markIntS_5)
@[go_sem] theorem w_laws_markIntS_6 : wp P laws_markIntS_6 Q e H = wp P (.seq laws_markIntS_4 laws_markIntS_5) (blockQ 1 Q) e H := idE rfl
@[go_sem] def l_laws_markIntS_7 : List GOp := [⟨(some 10), .mv (.t 5), none⟩,
    ⟨(some 11), .bin .add (.t 10) (.c (.int .i64 1)), none⟩,
    ⟨(some 5), .mv (.t 11), none⟩]
def laws_markIntS_7 : IR := .ops l_laws_markIntS_7
@[go_sem] theorem w_laws_markIntS_7 : wp P laws_markIntS_7 Q e H = wpL P l_laws_markIntS_7 (Q .normal) e H := idE rfl
def laws_markIntS_8 : IR := .loop (.seq (.seq laws_markIntS_2 laws_markIntS_3) (.seq laws_markIntS_6 laws_markIntS_7))
def laws_markIntS_9 : IR := .block 0 laws_markIntS_8
@[go_sem] theorem w_laws_markIntS_9 : wp P laws_markIntS_9 Q e H = wp P laws_markIntS_8 (blockQ 0 Q) e H := idE rfl
@[go_sem] def l_laws_markIntS_10 : List GOp := [⟨(some 18), .mv (.t 1), none⟩,
    ⟨(some 4), .mv (.t 18), none⟩]
def laws_markIntS_10 : IR := .ops l_laws_markIntS_10
@[go_sem] theorem w_laws_markIntS_10 : wp P laws_markIntS_10 Q e H = wpL P l_laws_markIntS_10 (Q .normal) e H := idE rfl
def F_laws_markIntS : IFn := ⟨2, 19, [.t 4], (.seq laws_markIntS_0 (.seq (.seq laws_markIntS_1 laws_markIntS_9) (.seq laws_markIntS_10 .ret)))⟩
theorem c_laws_markIntS : compFn Try.prog [(0, [], []), (1, [], []), (2, [], []), (4, [], []), (5, [], []), (3, [], []), (6, [], [])] Try.f34 = some F_laws_markIntS := by kernel_rfl
theorem a_laws_markIntS (hl : args.length = 2) (h : wp Try.prog (.seq laws_markIntS_0 (.seq (.seq laws_markIntS_1 laws_markIntS_9) (.seq laws_markIntS_10 .ret))) (postQ [.t 4] R) (env0 args) H) : ACall Try.prog n_laws_markIntS args H R :=
  acall_of_wp mixed Try.func34 c_laws_markIntS (by kernel_rfl) hl h
@[go_sem] def l_laws_markIntSS_0 : List GOp := [⟨(some 4), .mv (.c (.int .i64 0)), none⟩]
def laws_markIntSS_0 : IR := .ops l_laws_markIntSS_0
@[go_sem] theorem w_laws_markIntSS_0 : wp P laws_markIntSS_0 Q e H = wpL P l_laws_markIntSS_0 (Q .normal) e H := idE rfl
@[go_sem] def l_laws_markIntSS_1 : List GOp := [⟨(some 5), .mv (.c (.int .i64 0)), none⟩]
def laws_markIntSS_1 : IR := .ops l_laws_markIntSS_1
@[go_sem] theorem w_laws_markIntSS_1 : wp P laws_markIntSS_1 Q e H = wpL P l_laws_markIntSS_1 (Q .normal) e H := idE rfl
@[go_sem] def l_laws_markIntSS_2 : List GOp := [⟨(some 6), .mv (.t 5), none⟩,
    ⟨(some 7), .mv (.t 0), none⟩,
    ⟨(some 8), .len (.t 7), none⟩,
    ⟨(some 9), .bin .lss (.t 6) (.t 8), none⟩]
def laws_markIntSS_2 : IR := .ops l_laws_markIntSS_2
@[go_sem] theorem w_laws_markIntSS_2 : wp P laws_markIntSS_2 Q e H = wpL P l_laws_markIntSS_2 (Q .normal) e H := idE rfl
def laws_markIntSS_3 : IR := .cond (.t 9) .skip (.exit 0)
@[go_sem] theorem w_laws_markIntSS_3 : wp P laws_markIntSS_3 Q e H = condW P ((.t 9) : X) .skip (.exit 0) Q e H := idE rfl
@[go_sem] def l_laws_markIntSS_4 : List GOp := [⟨(some 12), .mv (.t 0), none⟩,
    ⟨(some 13), .mv (.t 5), none⟩,
    ⟨(some 14), .iaddr (.t 12) (.t 13) 1, none⟩,
    ⟨(some 15), .load (.t 14) 1 false, none⟩,
    ⟨(some 16), .mv (.t 1), none⟩,
    ⟨(some 17), .call (n_laws_markIntS) [(.t 15), (.t 16)], none⟩,
    ⟨(some 1), .mv (.t 17), none⟩]
def laws_markIntSS_4 : IR := .ops l_laws_markIntSS_4
@[go_sem] theorem w_laws_markIntSS_4 : wp P laws_markIntSS_4 Q e H = wpL P l_laws_markIntSS_4 (Q .normal) e H := idE rfl
def laws_markIntSS_5 : IR := .block 1 laws_markIntSS_4
@[go_sem] theorem w_laws_markIntSS_5 : wp P laws_markIntSS_5 Q e H = wp P laws_markIntSS_4 (blockQ 1 Q) e H := idE rfl
@[go_sem] def l_laws_markIntSS_6 : List GOp := [⟨(some 10), .mv (.t 5), none⟩,
    ⟨(some 11), .bin .add (.t 10) (.c (.int .i64 1)), none⟩,
    ⟨(some 5), .mv (.t 11), none⟩]
def laws_markIntSS_6 : IR := .ops l_laws_markIntSS_6
@[go_sem] theorem w_laws_markIntSS_6 : wp P laws_markIntSS_6 Q e H = wpL P l_laws_markIntSS_6 (Q .normal) e H := idE rfl
def laws_markIntSS_7 : IR := .loop (.seq (.seq laws_markIntSS_2 laws_markIntSS_3) (.seq laws_markIntSS_5 laws_markIntSS_6))
def laws_markIntSS_8 : IR := .block 0 laws_markIntSS_7
@[go_sem] theorem w_laws_markIntSS_8 : wp P laws_markIntSS_8 Q e H = wp P laws_markIntSS_7 (blockQ 0 Q) e H := idE rfl
@[go_sem] def l_laws_markIntSS_9 : List GOp := [⟨(some 18), .mv (.t 1), none⟩,
    ⟨(some 4), .mv (.t 18), none⟩]
def laws_markIntSS_9 : IR := .ops l_laws_markIntSS_9
@[go_sem] theorem w_laws_markIntSS_9 : wp P laws_markIntSS_9 Q e H = wpL P l_laws_markIntSS_9 (Q .normal) e H := idE rfl
def F_laws_markIntSS : IFn := ⟨2, 19, [.t 4], (.seq laws_markIntSS_0 (.seq (.seq laws_markIntSS_1 laws_markIntSS_8) (.seq laws_markIntSS_9 .ret)))⟩
theorem c_laws_markIntSS : compFn Try.prog [(0, [], []), (1, [], []), (2, [], []), (4, [], []), (3, [], []), (5, [], [])] Try.f37 = some F_laws_markIntSS := by kernel_rfl
theorem a_laws_markIntSS (hl : args.length = 2) (h : wp Try.prog (.seq laws_markIntSS_0 (.seq (.seq laws_markIntSS_1 laws_markIntSS_8) (.seq laws_markIntSS_9 .ret))) (postQ [.t 4] R) (env0 args) H) : ACall Try.prog n_laws_markIntSS args H R :=
  acall_of_wp mixed Try.func37 c_laws_markIntSS (by kernel_rfl) hl h
@[go_sem] def l_laws_markClauses_0 : List GOp := [⟨(some 2), .box (.t 0), none⟩,
    ⟨(some 4), .mv (.c (.int .i64 0)), none⟩]
def laws_markClauses_0 : IR := .ops l_laws_markClauses_0
@[go_sem] theorem w_laws_markClauses_0 : wp P laws_markClauses_0 Q e H = wpL P l_laws_markClauses_0 (Q .normal) e H := idE rfl
@[go_sem] def l_laws_markClauses_1 : List GOp := [⟨(some 5), .faddr (.t 2) 1, none⟩,
    ⟨(some 6), .load (.t 5) 1 false, none⟩,
    ⟨(some 7), .mv (.t 1), none⟩,
    ⟨(some 8), .call (n_laws_markIntSS) [(.t 6), (.t 7)], none⟩,
    ⟨(some 1), .mv (.t 8), none⟩]
def laws_markClauses_1 : IR := .ops l_laws_markClauses_1
@[go_sem] theorem w_laws_markClauses_1 : wp P laws_markClauses_1 Q e H = wpL P l_laws_markClauses_1 (Q .normal) e H := idE rfl
@[go_sem] def l_laws_markClauses_2 : List GOp := [⟨(some 9), .mv (.t 1), none⟩,
    ⟨(some 4), .mv (.t 9), none⟩]
def laws_markClauses_2 : IR := .ops l_laws_markClauses_2
@[go_sem] theorem w_laws_markClauses_2 : wp P laws_markClauses_2 Q e H = wpL P l_laws_markClauses_2 (Q .normal) e H := idE rfl
def F_laws_markClauses : IFn := ⟨2, 10, [.t 4], (.seq laws_markClauses_0 (.seq laws_markClauses_1 (.seq laws_markClauses_2 .ret)))⟩
theorem c_laws_markClauses : compFn Try.prog [(0, [], []), (1, [], []), (2, [], [])] Try.f33 = some F_laws_markClauses := by kernel_rfl
theorem a_laws_markClauses (hl : args.length = 2) (h : wp Try.prog (.seq laws_markClauses_0 (.seq laws_markClauses_1 (.seq laws_markClauses_2 .ret))) (postQ [.t 4] R) (env0 args) H) : ACall Try.prog n_laws_markClauses args H R :=
  acall_of_wp mixed Try.func33 c_laws_markClauses (by kernel_rfl) hl h
@[go_sem] def l_laws_markChainS_0 : List GOp := [⟨(some 4), .mv (.c (.int .i64 0)), none⟩]
def laws_markChainS_0 : IR := .ops l_laws_markChainS_0
@[go_sem] theorem w_laws_markChainS_0 : wp P laws_markChainS_0 Q e H = wpL P l_laws_markChainS_0 (Q .normal) e H := idE rfl
@[go_sem] def l_laws_markChainS_1 : List GOp := [⟨(some 5), .mv (.c (.int .i64 0)), none⟩]
def laws_markChainS_1 : IR := .ops l_laws_markChainS_1
@[go_sem] theorem w_laws_markChainS_1 : wp P laws_markChainS_1 Q e H = wpL P l_laws_markChainS_1 (Q .normal) e H := idE rfl
@[go_sem] def l_laws_markChainS_2 : List GOp := [⟨(some 6), .mv (.t 5), none⟩,
    ⟨(some 7), .mv (.t 0), none⟩,
    ⟨(some 8), .len (.t 7), none⟩,
    ⟨(some 9), .bin .lss (.t 6) (.t 8), none⟩]
def laws_markChainS_2 : IR := .ops l_laws_markChainS_2
@[go_sem] theorem w_laws_markChainS_2 : wp P laws_markChainS_2 Q e H = wpL P l_laws_markChainS_2 (Q .normal) e H := idE rfl
def laws_markChainS_3 : IR := .cond (.t 9) .skip (.exit 0)
@[go_sem] theorem w_laws_markChainS_3 : wp P laws_markChainS_3 Q e H = condW P ((.t 9) : X) .skip (.exit 0) Q e H := idE rfl
@[go_sem] def l_laws_markChainS_4 : List GOp := [⟨(some 12), .mv (.t 0), none⟩,
    ⟨(some 13), .mv (.t 5), none⟩,
    ⟨(some 14), .mv (.t 1), none⟩,
    ⟨(some 15), .iaddr (.t 12) (.t 13) 5, none⟩,
    ⟨(some 16), .faddr (.t 15) 0, none⟩,
    ⟨none, .store (.t 16) 1 (.t 14), none⟩]
def laws_markChainS_4 : IR := .ops l_laws_markChainS_4
@[go_sem] theorem w_laws_markChainS_4 : wp P laws_markChainS_4 Q e H = wpL P l_laws_markChainS_4 (Q .normal) e H := idE rfl
@[go_sem] def l_laws_markChainS_5 : List GOp := [⟨(some 17), .mv (.t 1), none⟩,
    ⟨(some 18), .bin .add (.t 17) (.c (.int .i64 1)), none⟩,
    ⟨(some 1), .mv (.t 18), none⟩]
def laws_markChainS_5 : IR := .ops l_laws_markChainS_5
@[go_sem] theorem w_laws_markChainS_5 : wp P laws_markChainS_5 Q e H = wpL P l_laws_markChainS_5 (Q .normal) e H := idE rfl
@[go_sem] def l_laws_markChainS_6 : List GOp := [⟨(some 19), .mv (.t 0), none⟩,
    ⟨(some 20), .mv (.t 5), none⟩,
    ⟨(some 21), .mv (.t 1), none⟩,
    ⟨(some 22), .iaddr (.t 19) (.t 20) 5, none⟩,
    ⟨(some 23), .faddr (.t 22) 1, none⟩,
    ⟨none, .store (.t 23) 1 (.t 21), none⟩]
def laws_markChainS_6 : IR := .ops l_laws_markChainS_6
@[go_sem] theorem w_laws_markChainS_6 : wp P laws_markChainS_6 Q e H = wpL P l_laws_markChainS_6 (Q .normal) e H := idE rfl
@[go_sem] def l_laws_markChainS_7 : List GOp := [⟨(some 24), .mv (.t 1), none⟩,
    ⟨(some 25), .bin .add (.t 24) (.c (.int .i64 1)), none⟩,
    ⟨(some 1), .mv (.t 25), none⟩]
def laws_markChainS_7 : IR := .ops l_laws_markChainS_7
@[go_sem] theorem w_laws_markChainS_7 : wp P laws_markChainS_7 Q e H = wpL P l_laws_markChainS_7 (Q .normal) e H := idE rfl
@[go_sem] def l_laws_markChainS_8 : List GOp := [⟨(some 26), .mv (.t 0), none⟩,
    ⟨(some 27), .mv (.t 5), none⟩,
    ⟨(some 28), .mv (.t 1), none⟩,
    ⟨(some 29), .iaddr (.t 26) (.t 27) 5, none⟩,
    ⟨(some 30), .faddr (.t 29) 2, none⟩,
    ⟨none, .store (.t 30) 1 (.t 28), none⟩]
def laws_markChainS_8 : IR := .ops l_laws_markChainS_8
@[go_sem] theorem w_laws_markChainS_8 : wp P laws_markChainS_8 Q e H = wpL P l_laws_markChainS_8 (Q .normal) e H := idE rfl
@[go_sem] def l_laws_markChainS_9 : List GOp := [⟨(some 31), .mv (.t 1), none⟩,
    ⟨(some 32), .bin .add (.t 31) (.c (.int .i64 1)), none⟩,
    ⟨(some 1), .mv (.t 32), none⟩]
def laws_markChainS_9 : IR := .ops l_laws_markChainS_9
@[go_sem] theorem w_laws_markChainS_9 : wp P laws_markChainS_9 Q e H = wpL P l_laws_markChainS_9 (Q .normal) e H := idE rfl
@[go_sem] def l_laws_markChainS_10 : List GOp := [⟨(some 33), .mv (.t 0), none⟩,
    ⟨(some 34), .mv (.t 5), none⟩,
    ⟨(some 35), .mv (.t 1), none⟩,
    ⟨(some 36), .iaddr (.t 33) (.t 34) 5, none⟩,
    ⟨(some 37), .faddr (.t 36) 3, none⟩,
    ⟨none, .store (.t 37) 1 (.t 35), none⟩]
def laws_markChainS_10 : IR := .ops l_laws_markChainS_10
@[go_sem] theorem w_laws_markChainS_10 : wp P laws_markChainS_10 Q e H = wpL P l_laws_markChainS_10 (Q .normal) e H := idE rfl
@[go_sem] def l_laws_markChainS_11 : List GOp := [⟨(some 38), .mv (.t 1), none⟩,
    ⟨(some 39), .bin .add (.t 38) (.c (.int .i64 1)), none⟩,
    ⟨(some 1), .mv (.t 39), none⟩]
def laws_markChainS_11 : IR := .ops l_laws_markChainS_11
@[go_sem] theorem w_laws_markChainS_11 : wp P laws_markChainS_11 Q e H = wpL P l_laws_markChainS_11 (Q .normal) e H := idE rfl
@[go_sem] def l_laws_markChainS_12 : List GOp := [⟨(some 40), .mv (.t 0), none⟩,
    ⟨(some 41), .mv (.t 5), none⟩,
    ⟨(some 42), .iaddr (.t 40) (.t 41) 5, none⟩,
    ⟨(some 43), .faddr (.t 42) 4, none⟩,
    ⟨(some 44), .load (.t 43) 1 false, none⟩,
    ⟨(some 45), .mv (.t 1), none⟩,
    ⟨(some 46), .call (n_laws_markIntS) [(.t 44), (.t 45)], none⟩,
    ⟨(some 1), .mv (.t 46), none⟩]
def laws_markChainS_12 : IR := .ops l_laws_markChainS_12
@[go_sem] theorem w_laws_markChainS_12 : wp P laws_markChainS_12 Q e H = wpL P l_laws_markChainS_12 (Q .normal) e H := idE rfl
def laws_markChainS_13 : IR := .block 1 (.seq laws_markChainS_4 (.seq laws_markChainS_5 (.seq laws_markChainS_6 (.seq laws_markChainS_7 (.seq laws_markChainS_8 (.seq laws_markChainS_9 (.seq laws_markChainS_10 (.seq laws_markChainS_11 laws_markChainS_12))))))))
@[go_sem] theorem w_laws_markChainS_13 : wp P laws_markChainS_13 Q e H = wp P (.seq laws_markChainS_4 (.seq laws_markChainS_5 (.seq laws_markChainS_6 (.seq laws_markChainS_7 (.seq laws_markChainS_8 (.seq laws_markChainS_9 (.seq laws_markChainS_10 (.seq laws_markChainS_11 laws_markChainS_12)))))))) (blockQ 1 Q) e H := idE rfl
@[go_sem] def l_laws_markChainS_14 : List GOp := [⟨(some 10), .mv (.t 5), none⟩,
    ⟨(some 11), .bin .add (.t 10) (.c (.int .i64 1)), none⟩,
    ⟨(some 5), .mv (.t 11), none⟩]
def laws_markChainS_14 : IR := .ops l_laws_markChainS_14
@[go_sem] theorem w_laws_markChainS_14 : wp P laws_markChainS_14 Q e H = wpL P l_laws_markChainS_14 (Q .normal) e H := idE rfl
def laws_markChainS_15 : IR := .loop (.seq (.seq laws_markChainS_2 laws_markChainS_3) (.seq laws_markChainS_13 laws_markChainS_14))
def laws_markChainS_16 : IR := .block 0 laws_markChainS_15
@[go_sem] theorem w_laws_markChainS_16 : wp P laws_markChainS_16 Q e H = wp P laws_markChainS_15 (blockQ 0 Q) e H := idE rfl
@[go_sem] def l_laws_markChainS_17 : List GOp := [⟨(some 47), .mv (.t 1), none⟩,
    ⟨(some 4), .mv (.t 47), none⟩]
def laws_markChainS_17 : IR := .ops l_laws_markChainS_17
@[go_sem] theorem w_laws_markChainS_17 : wp P laws_markChainS_17 Q e H = wpL P l_laws_markChainS_17 (Q .normal) e H := idE rfl
def F_laws_markChainS : IFn := ⟨2, 48, [.t 4], (.seq laws_markChainS_0 (.seq (.seq laws_markChainS_1 laws_markChainS_16) (.seq laws_markChainS_17 .ret)))⟩
theorem c_laws_markChainS : compFn Try.prog [(0, [], []), (1, [], []), (2, [], []), (4, [], []), (5, [], []), (6, [], []), (7, [], []), (8, [], []), (9, [], []), (10, [], []), (11, [], []), (12, [], []), (3, [], []), (13, [], [])] Try.f45 = some F_laws_markChainS := by kernel_rfl
theorem a_laws_markChainS (hl : args.length = 2) (h : wp Try.prog (.seq laws_markChainS_0 (.seq (.seq laws_markChainS_1 laws_markChainS_16) (.seq laws_markChainS_17 .ret))) (postQ [.t 4] R) (env0 args) H) : ACall Try.prog n_laws_markChainS args H R :=
  acall_of_wp mixed Try.func45 c_laws_markChainS (by kernel_rfl) hl h
@[go_sem] def l_laws_heldIntS_0 : List GOp := [⟨(some 4), .mv (.c (.int .i64 0)), none⟩]
def laws_heldIntS_0 : IR := .ops l_laws_heldIntS_0
@[go_sem] theorem w_laws_heldIntS_0 : wp P laws_heldIntS_0 Q e H = wpL P l_laws_heldIntS_0 (Q .normal) e H := idE rfl
@[go_sem] def l_laws_heldIntS_1 : List GOp := [⟨(some 5), .mv (.c (.int .i64 0)), none⟩]
def laws_heldIntS_1 : IR := .ops l_laws_heldIntS_1
@[go_sem] theorem w_laws_heldIntS_1 : wp P laws_heldIntS_1 Q e H = wpL P l_laws_heldIntS_1 (Q .normal) e H := idE rfl
@[go_sem] def l_laws_heldIntS_2 : List GOp := [⟨(some 6), .mv (.t 5), none⟩,
    ⟨(some 7), .mv (.t 0), none⟩,
    ⟨(some 8), .len (.t 7), none⟩,
    ⟨(some 9), .bin .lss (.t 6) (.t 8), none⟩]
def laws_heldIntS_2 : IR := .ops l_laws_heldIntS_2
@[go_sem] theorem w_laws_heldIntS_2 : wp P laws_heldIntS_2 Q e H = wpL P l_laws_heldIntS_2 (Q .normal) e H := idE rfl
def laws_heldIntS_3 : IR := .cond (.t 9) .skip (.exit 0)
@[go_sem] theorem w_laws_heldIntS_3 : wp P laws_heldIntS_3 Q e H = condW P ((.t 9) : X) .skip (.exit 0) Q e H := idE rfl
@[go_sem] def l_laws_heldIntS_4 : List GOp := [⟨(some 12), .mv (.t 0), none⟩,
    ⟨(some 13), .mv (.t 5), none⟩,
    ⟨(some 14), .iaddr (.t 12) (.t 13) 1, none⟩,
    ⟨(some 15), .load (.t 14) 1 false, none⟩,
    ⟨(some 16), .mv (.t 1), none⟩,
    ⟨(some 17), .bin .neq (.t 15) (.t 16), none⟩]
def laws_heldIntS_4 : IR := .ops l_laws_heldIntS_4
@[go_sem] theorem w_laws_heldIntS_4 : wp P laws_heldIntS_4 Q e H = wpL P l_laws_heldIntS_4 (Q .normal) e H := idE rfl
@[go_sem] def l_laws_heldIntS_5 : List GOp := [⟨(some 4), .mv (.c (.int .i64 (-1))), none⟩]
def laws_heldIntS_5 : IR := .ops l_laws_heldIntS_5
@[go_sem] theorem w_laws_heldIntS_5 : wp P laws_heldIntS_5 Q e H = wpL P l_laws_heldIntS_5 (Q .normal) e H := idE rfl
def laws_heldIntS_6 : IR := .cond (.t 17) (.seq laws_heldIntS_5 .ret) .skip
@[go_sem] theorem w_laws_heldIntS_6 : wp P laws_heldIntS_6 Q e H = condW P ((.t 17) : X) (.seq laws_heldIntS_5 .ret) .skip Q e H := idE rfl
@[go_sem] def l_laws_heldIntS_7 : List GOp := [⟨(some 18), .mv (.t 1), none⟩,
    ⟨(some 19), .bin .add (.t 18) (.c (.int .i64 1)), none⟩,
    ⟨(some 1), .mv (.t 19), none⟩]
def laws_heldIntS_7 : IR := .ops l_laws_heldIntS_7
@[go_sem] theorem w_laws_heldIntS_7 : wp P laws_heldIntS_7 Q e H = wpL P l_laws_heldIntS_7 (Q .normal) e H := idE rfl
def laws_heldIntS_8 : IR := .block 1 (.seq (.seq laws_heldIntS_4 laws_heldIntS_6) laws_heldIntS_7)
@[go_sem] theorem w_laws_heldIntS_8 : wp P laws_heldIntS_8 Q e H = wp P (.seq (.seq laws_heldIntS_4 laws_heldIntS_6) laws_heldIntS_7) (blockQ 1 Q) e H := idE rfl
@[go_sem] def l_laws_heldIntS_9 : List GOp := [⟨(some 10), .mv (.t 5), none⟩,
    ⟨(some 11), .bin .add (.t 10) (.c (.int .i64 1)), none⟩,
    ⟨(some 5), .mv (.t 11), none⟩]
def laws_heldIntS_9 : IR := .ops l_laws_heldIntS_9
@[go_sem] theorem w_laws_heldIntS_9 : wp P laws_heldIntS_9 Q e H = wpL P l_laws_heldIntS_9 (Q .normal) e H := idE rfl
def laws_heldIntS_10 : IR := .loop (.seq (.seq laws_heldIntS_2 laws_heldIntS_3) (.seq laws_heldIntS_8 laws_heldIntS_9))
def laws_heldIntS_11 : IR := .block 0 laws_heldIntS_10
@[go_sem] theorem w_laws_heldIntS_11 : wp P laws_heldIntS_11 Q e H = wp P laws_heldIntS_10 (blockQ 0 Q) e H := idE rfl
@[go_sem] def l_laws_heldIntS_12 : List GOp := [⟨(some 20), .mv (.t 1), none⟩,
    ⟨(some 4), .mv (.t 20), none⟩]
def laws_heldIntS_12 : IR := .ops l_laws_heldIntS_12
@[go_sem] theorem w_laws_heldIntS_12 : wp P laws_heldIntS_12 Q e H = wpL P l_laws_heldIntS_12 (Q .normal) e H := idE rfl
def F_laws_heldIntS : IFn := ⟨2, 21, [.t 4], (.seq laws_heldIntS_0 (.seq (.seq laws_heldIntS_1 laws_heldIntS_11) (.seq laws_heldIntS_12 .ret)))⟩
theorem c_laws_heldIntS : compFn Try.prog [(0, [], []), (1, [], []), (2, [], []), (4, [], []), (5, [], []), (6, [], []), (3, [], []), (7, [], [])] Try.f35 = some F_laws_heldIntS := by kernel_rfl
theorem a_laws_heldIntS (hl : args.length = 2) (h : wp Try.prog (.seq laws_heldIntS_0 (.seq (.seq laws_heldIntS_1 laws_heldIntS_11) (.seq laws_heldIntS_12 .ret))) (postQ [.t 4] R) (env0 args) H) : ACall Try.prog n_laws_heldIntS args H R :=
  acall_of_wp mixed Try.func35 c_laws_heldIntS (by kernel_rfl) hl h
@[go_sem] def l_laws_heldChainS_0 : List GOp := [⟨(some 4), .mv (.c (.int .i64 0)), none⟩]
def laws_heldChainS_0 : IR := .ops l_laws_heldChainS_0
@[go_sem] theorem w_laws_heldChainS_0 : wp P laws_heldChainS_0 Q e H = wpL P l_laws_heldChainS_0 (Q .normal) e H := idE rfl
@[go_sem] def l_laws_heldChainS_1 : List GOp := [⟨(some 5), .mv (.c (.int .i64 0)), none⟩]
def laws_heldChainS_1 : IR := .ops l_laws_heldChainS_1
@[go_sem] theorem w_laws_heldChainS_1 : wp P laws_heldChainS_1 Q e H = wpL P l_laws_heldChainS_1 (Q .normal) e H := idE rfl
@[go_sem] def l_laws_heldChainS_2 : List GOp := [⟨(some 6), .mv (.t 5), none⟩,
    ⟨(some 7), .mv (.t 0), none⟩,
    ⟨(some 8), .len (.t 7), none⟩,
    ⟨(some 9), .bin .lss (.t 6) (.t 8), none⟩]
def laws_heldChainS_2 : IR := .ops l_laws_heldChainS_2
@[go_sem] theorem w_laws_heldChainS_2 : wp P laws_heldChainS_2 Q e H = wpL P l_laws_heldChainS_2 (Q .normal) e H := idE rfl
def laws_heldChainS_3 : IR := .cond (.t 9) .skip (.exit 0)
@[go_sem] theorem w_laws_heldChainS_3 : wp P laws_heldChainS_3 Q e H = condW P ((.t 9) : X) .skip (.exit 0) Q e H := idE rfl
@[go_sem] def l_laws_heldChainS_4 : List GOp := [⟨(some 12), .mv (.t 0), none⟩,
    ⟨(some 13), .mv (.t 5), none⟩,
    ⟨(some 14), .iaddr (.t 12) (.t 13) 5, none⟩,
    ⟨(some 15), .faddr (.t 14) 0, none⟩,
    ⟨(some 16), .load (.t 15) 1 false, none⟩,
    ⟨(some 17), .mv (.t 1), none⟩,
    ⟨(some 18), .bin .neq (.t 16) (.t 17), none⟩]
def laws_heldChainS_4 : IR := .ops l_laws_heldChainS_4
@[go_sem] theorem w_laws_heldChainS_4 : wp P laws_heldChainS_4 Q e H = wpL P l_laws_heldChainS_4 (Q .normal) e H := idE rfl
@[go_sem] def l_laws_heldChainS_5 : List GOp := [⟨(some 4), .mv (.c (.int .i64 (-1))), none⟩]
def laws_heldChainS_5 : IR := .ops l_laws_heldChainS_5
@[go_sem] theorem w_laws_heldChainS_5 : wp P laws_heldChainS_5 Q e H = wpL P l_laws_heldChainS_5 (Q .normal) e H := idE rfl
def laws_heldChainS_6 : IR := .cond (.t 18) (.seq laws_heldChainS_5 .ret) .skip
@[go_sem] theorem w_laws_heldChainS_6 : wp P laws_heldChainS_6 Q e H = condW P ((.t 18) : X) (.seq laws_heldChainS_5 .ret) .skip Q e H := idE rfl
@[go_sem] def l_laws_heldChainS_7 : List GOp := [⟨(some 19), .mv (.t 1), none⟩,
    ⟨(some 20), .bin .add (.t 19) (.c (.int .i64 1)), none⟩,
    ⟨(some 1), .mv (.t 20), none⟩]
def laws_heldChainS_7 : IR := .ops l_laws_heldChainS_7
@[go_sem] theorem w_laws_heldChainS_7 : wp P laws_heldChainS_7 Q e H = wpL P l_laws_heldChainS_7 (Q .normal) e H := idE rfl
@[go_sem] def l_laws_heldChainS_8 : List GOp := [⟨(some 21), .mv (.t 0), none⟩,
    ⟨(some 22), .mv (.t 5), none⟩,
    ⟨(some 23), .iaddr (.t 21) (.t 22) 5, none⟩,
    ⟨(some 24), .faddr (.t 23) 1, none⟩,
    ⟨(some 25), .load (.t 24) 1 false, none⟩,
    ⟨(some 26), .mv (.t 1), none⟩,
    ⟨(some 27), .bin .neq (.t 25) (.t 26), none⟩]
def laws_heldChainS_8 : IR := .ops l_laws_heldChainS_8
@[go_sem] theorem w_laws_heldChainS_8 : wp P laws_heldChainS_8 Q e H = wpL P l_laws_heldChainS_8 (Q .normal) e H := idE rfl
@[go_sem] def l_laws_heldChainS_9 : List GOp := [⟨(some 4), .mv (.c (.int .i64 (-1))), none⟩]
def laws_heldChainS_9 : IR := .ops l_laws_heldChainS_9
@[go_sem] theorem w_laws_heldChainS_9 : wp P laws_heldChainS_9 Q e H = wpL P l_laws_heldChainS_9 (Q .normal) e H := idE rfl
def laws_heldChainS_10 : IR := .cond (.t 27) (.seq laws_heldChainS_9 .ret) .skip
@[go_sem] theorem w_laws_heldChainS_10 : wp P laws_heldChainS_10 Q e H = condW P ((.t 27) : X) (.seq laws_heldChainS_9 .ret) .skip Q e H := idE rfl
@[go_sem] def l_laws_heldChainS_11 : List GOp := [⟨(some 28), .mv (.t 1), none⟩,
    ⟨(some 29), .bin .add (.t 28) (.c (.int .i64 1)), none⟩,
    ⟨(some 1), .mv (.t 29), none⟩]
def laws_heldChainS_11 : IR := .ops l_laws_heldChainS_11
@[go_sem] theorem w_laws_heldChainS_11 : wp P laws_heldChainS_11 Q e H = wpL P l_laws_heldChainS_11 (Q .normal) e H := idE rfl
@[go_sem] def l_laws_heldChainS_12 : List GOp := [⟨(some 30), .mv (.t 0), none⟩,
    ⟨(some 31), .mv (.t 5), none⟩,
    ⟨(some 32), .iaddr (.t 30) (.t 31) 5, none⟩,
    ⟨(some 33), .faddr (.t 32) 2, none⟩,
    ⟨(some 34), .load (.t 33) 1 false, none⟩,
    ⟨(some 35), .mv (.t 1), none⟩,
    ⟨(some 36), .bin .neq (.t 34) (.t 35), none⟩]
def laws_heldChainS_12 : IR := .ops l_laws_heldChainS_12
@[go_sem] theorem w_laws_heldChainS_12 : wp P laws_heldChainS_12 Q e H = wpL P l_laws_heldChainS_12 (Q .normal) e H := idE rfl
@[go_sem] def l_laws_heldChainS_13 : List GOp := [⟨(some 4), .mv (.c (.int .i64 (-1))), none⟩]
def laws_heldChainS_13 : IR := .ops l_laws_heldChainS_13
@[go_sem] theorem w_laws_heldChainS_13 : wp P laws_heldChainS_13 Q e H = wpL P l_laws_heldChainS_13 (Q .normal) e H := idE rfl
def laws_heldChainS_14 : IR := .cond (.t 36) (.seq laws_heldChainS_13 .ret) .skip
@[go_sem] theorem w_laws_heldChainS_14 : wp P laws_heldChainS_14 Q e H = condW P ((.t 36) : X) (.seq laws_heldChainS_13 .ret) .skip Q e H := idE rfl
@[go_sem] def l_laws_heldChainS_15 : List GOp := [⟨(some 37), .mv (.t 1), none⟩,
    ⟨(some 38), .bin .add (.t 37) (.c (.int .i64 1)), none⟩,
    ⟨(some 1), .mv (.t 38), none⟩]
def laws_heldChainS_15 : IR := .ops l_laws_heldChainS_15
@[go_sem] theorem w_laws_heldChainS_15 : wp P laws_heldChainS_15 Q e H = wpL P l_laws_heldChainS_15 (Q .normal) e H := idE rfl
@[go_sem] def l_laws_heldChainS_16 : List GOp := [⟨(some 39), .mv (.t 0), none⟩,
    ⟨(some 40), .mv (.t 5), none⟩,
    ⟨(some 41), .iaddr (.t 39) (.t 40) 5, none⟩,
    ⟨(some 42), .faddr (.t 41) 3, none⟩,
    ⟨(some 43), .load (.t 42) 1 false, none⟩,
    ⟨(some 44), .mv (.t 1), none⟩,
    ⟨(some 45), .bin .neq (.t 43) (.t 44), none⟩]
def laws_heldChainS_16 : IR := .ops l_laws_heldChainS_16
@[go_sem] theorem w_laws_heldChainS_16 : wp P laws_heldChainS_16 Q e H = wpL P l_laws_heldChainS_16 (Q .normal) e H := idE rfl
@[go_sem] def l_laws_heldChainS_17 : List GOp := [⟨(some 4), .mv (.c (.int .i64 (-1))), none⟩]
def laws_heldChainS_17 : IR := .ops l_laws_heldChainS_17
@[go_sem] theorem w_laws_heldChainS_17 : wp P laws_heldChainS_17 Q e H = wpL P l_laws_heldChainS_17 (Q .normal) e H := idE rfl
def laws_heldChainS_18 : IR := .cond (.t 45) (.seq laws_heldChainS_17 .ret) .skip
@[go_sem] theorem w_laws_heldChainS_18 : wp P laws_heldChainS_18 Q e H = condW P ((.t 45) : X) (.seq laws_heldChainS_17 .ret) .skip Q e H := idE rfl
@[go_sem] def l_laws_heldChainS_19 : List GOp := [⟨(some 46), .mv (.t 1), none⟩,
    ⟨(some 47), .bin .add (.t 46) (.c (.int .i64 1)), none⟩,
    ⟨(some 1), .mv (.t 47), none⟩]
def laws_heldChainS_19 : IR := .ops l_laws_heldChainS_19
@[go_sem] theorem w_laws_heldChainS_19 : wp P laws_heldChainS_19 Q e H = wpL P l_laws_heldChainS_19 (Q .normal) e H := idE rfl
@[go_sem] def l_laws_heldChainS_20 : List GOp := [⟨(some 48), .mv (.t 0), none⟩,
    ⟨(some 49), .mv (.t 5), none⟩,
    ⟨(some 50), .iaddr (.t 48) (.t 49) 5, none⟩,
    ⟨(some 51), .faddr (.t 50) 4, none⟩,
    ⟨(some 52), .load (.t 51) 1 false, none⟩,
    ⟨(some 53), .mv (.t 1), none⟩,
    ⟨(some 54), .call (n_laws_heldIntS) [(.t 52), (.t 53)], none⟩,
    ⟨(some 1), .mv (.t 54), none⟩]
def laws_heldChainS_20 : IR := .ops l_laws_heldChainS_20
@[go_sem] theorem w_laws_heldChainS_20 : wp P laws_heldChainS_20 Q e H = wpL P l_laws_heldChainS_20 (Q .normal) e H := idE rfl
@[go_sem] def l_laws_heldChainS_21 : List GOp := [⟨(some 55), .mv (.t 1), none⟩,
    ⟨(some 56), .bin .lss (.t 55) (.c (.int .i64 0)), none⟩]
def laws_heldChainS_21 : IR := .ops l_laws_heldChainS_21
@[go_sem] theorem w_laws_heldChainS_21 : wp P laws_heldChainS_21 Q e H = wpL P l_laws_heldChainS_21 (Q .normal) e H := idE rfl
@[go_sem] def l_laws_heldChainS_22 : List GOp := [⟨(some 4), .mv (.c (.int .i64 (-1))), none⟩]
def laws_heldChainS_22 : IR := .ops l_laws_heldChainS_22
@[go_sem] theorem w_laws_heldChainS_22 : wp P laws_heldChainS_22 Q e H = wpL P l_laws_heldChainS_22 (Q .normal) e H := idE rfl
def laws_heldChainS_23 : IR := .cond (.t 56) (.seq laws_heldChainS_22 .ret) .skip
@[go_sem] theorem w_laws_heldChainS_23 : wp P laws_heldChainS_23 Q e H = condW P ((.t 56) : X) (.seq laws_heldChainS_22 .ret) .skip Q e H := idE rfl
def laws_heldChainS_24 : IR := .block 1 (.seq (.seq laws_heldChainS_4 laws_heldChainS_6) (.seq laws_heldChainS_7 (.seq (.seq laws_heldChainS_8 laws_heldChainS_10) (.seq laws_heldChainS_11 (.seq (.seq laws_heldChainS_12 laws_heldChainS_14) (.seq laws_heldChainS_15 (.seq (.seq laws_heldChainS_16 laws_heldChainS_18) (.seq laws_heldChainS_19 (.seq laws_heldChainS_20 (.seq laws_heldChainS_21 laws_heldChainS_23))))))))))
@[go_sem] theorem w_laws_heldChainS_24 : wp P laws_heldChainS_24 Q e H = wp P (.seq (.seq laws_heldChainS_4 laws_heldChainS_6) (.seq laws_heldChainS_7 (.seq (.seq laws_heldChainS_8 laws_heldChainS_10) (.seq laws_heldChainS_11 (.seq (.seq laws_heldChainS_12 laws_heldChainS_14) (.seq laws_heldChainS_15 (.seq (.seq laws_heldChainS_16 laws_heldChainS_18) (.seq laws_heldChainS_19 (.seq laws_heldChainS_20 (.seq laws_heldChainS_21 laws_heldChainS_23)))))))))) (blockQ 1 Q) e H := idE rfl
@[go_sem] def l_laws_heldChainS_25 : List GOp := [⟨(some 10), .mv (.t 5), none⟩,
    ⟨(some 11), .bin .add (.t 10) (.c (.int .i64 1)), none⟩,
    ⟨(some 5), .mv (.t 11), none⟩]
def laws_heldChainS_25 : IR := .ops l_laws_heldChainS_25
@[go_sem] theorem w_laws_heldChainS_25 : wp P laws_heldChainS_25 Q e H = wpL P l_laws_heldChainS_25 (Q .normal) e H := idE rfl
def laws_heldChainS_26 : IR := .loop (.seq (.seq laws_heldChainS_2 laws_heldChainS_3) (.seq laws_heldChainS_24 laws_heldChainS_25))
def laws_heldChainS_27 : IR := .block 0 laws_heldChainS_26
@[go_sem] theorem w_laws_heldChainS_27 : wp P laws_heldChainS_27 Q e H = wp P laws_heldChainS_26 (blockQ 0 Q) e H := idE rfl
@[go_sem] def l_laws_heldChainS_28 : List GOp := [⟨(some 57), .mv (.t 1), none⟩,
    ⟨(some 4), .mv (.t 57), none⟩]
def laws_heldChainS_28 : IR := .ops l_laws_heldChainS_28
@[go_sem] theorem w_laws_heldChainS_28 : wp P laws_heldChainS_28 Q e H = wpL P l_laws_heldChainS_28 (Q .normal) e H := idE rfl
def F_laws_heldChainS : IFn := ⟨2, 58, [.t 4], (.seq laws_heldChainS_0 (.seq (.seq laws_heldChainS_1 laws_heldChainS_27) (.seq laws_heldChainS_28 .ret)))⟩
theorem c_laws_heldChainS : compFn Try.prog [(0, [], []), (1, [], []), (2, [], []), (4, [], []), (5, [], []), (6, [], []), (7, [], []), (8, [], []), (9, [], []), (10, [], []), (11, [], []), (12, [], []), (13, [], []), (14, [], []), (15, [], []), (16, [], []), (17, [], []), (18, [], []), (3, [], []), (19, [], [])] Try.f51 = some F_laws_heldChainS := by kernel_rfl
theorem a_laws_heldChainS (hl : args.length = 2) (h : wp Try.prog (.seq laws_heldChainS_0 (.seq (.seq laws_heldChainS_1 laws_heldChainS_27) (.seq laws_heldChainS_28 .ret))) (postQ [.t 4] R) (env0 args) H) : ACall Try.prog n_laws_heldChainS args H R :=
  acall_of_wp mixed Try.func51 c_laws_heldChainS (by kernel_rfl) hl h
@[go_sem] def l_laws_FnExactTrimChains_0 : List GOp := [⟨(some 2), .box (.t 0), none⟩,
    ⟨(some 4), .mv (.c (.bool false)), none⟩]
def laws_FnExactTrimChains_0 : IR := .ops l_laws_FnExactTrimChains_0
@[go_sem] theorem w_laws_FnExactTrimChains_0 : wp P laws_FnExactTrimChains_0 Q e H = wpL P l_laws_FnExactTrimChains_0 (Q .normal) e H := idE rfl
@[go_sem] def l_laws_FnExactTrimChains_1 : List GOp := [⟨(some 5), .mv (.c (.int .i64 1048576)), none⟩]
def laws_FnExactTrimChains_1 : IR := .ops l_laws_FnExactTrimChains_1
@[go_sem] theorem w_laws_FnExactTrimChains_1 : wp P laws_FnExactTrimChains_1 Q e H = wpL P l_laws_FnExactTrimChains_1 (Q .normal) e H := idE rfl
@[go_sem] def l_laws_FnExactTrimChains_2 : List GOp := [⟨(some 14), .load (.t 2) 2 true, none⟩,
    ⟨(some 15), .mv (.t 5), none⟩,
    ⟨(some 16), .call (n_laws_szClauses) [(.t 14), (.t 15)], none⟩,
    ⟨(some 5), .mv (.t 16), none⟩]
def laws_FnExactTrimChains_2 : IR := .ops l_laws_FnExactTrimChains_2
@[go_sem] theorem w_laws_FnExactTrimChains_2 : wp P laws_FnExactTrimChains_2 Q e H = wpL P l_laws_FnExactTrimChains_2 (Q .normal) e H := idE rfl
@[go_sem] def l_laws_FnExactTrimChains_3 : List GOp := [⟨(some 17), .mv (.t 5), none⟩,
    ⟨(some 18), .bin .lss (.t 17) (.c (.int .i64 0)), none⟩]
def laws_FnExactTrimChains_3 : IR := .ops l_laws_FnExactTrimChains_3
@[go_sem] theorem w_laws_FnExactTrimChains_3 : wp P laws_FnExactTrimChains_3 Q e H = wpL P l_laws_FnExactTrimChains_3 (Q .normal) e H := idE rfl
@[go_sem] def l_laws_FnExactTrimChains_4 : List GOp := [⟨(some 4), .mv (.c (.bool true)), none⟩]
def laws_FnExactTrimChains_4 : IR := .ops l_laws_FnExactTrimChains_4
@[go_sem] theorem w_laws_FnExactTrimChains_4 : wp P laws_FnExactTrimChains_4 Q e H = wpL P l_laws_FnExactTrimChains_4 (Q .normal) e H := idE rfl
def laws_FnExactTrimChains_5 : IR := .cond (.t 18) (.seq laws_FnExactTrimChains_4 .ret) .skip
@[go_sem] theorem w_laws_FnExactTrimChains_5 : wp P laws_FnExactTrimChains_5 Q e H = condW P ((.t 18) : X) (.seq laws_FnExactTrimChains_4 .ret) .skip Q e H := idE rfl
@[go_sem] def l_laws_FnExactTrimChains_6 : List GOp := [⟨(some 19), .mv (.t 1), none⟩,
    ⟨(some 20), .mv (.t 5), none⟩,
    ⟨(some 21), .call (n_laws_szChainS) [(.t 19), (.t 20)], none⟩,
    ⟨(some 5), .mv (.t 21), none⟩]
def laws_FnExactTrimChains_6 : IR := .ops l_laws_FnExactTrimChains_6
@[go_sem] theorem w_laws_FnExactTrimChains_6 : wp P laws_FnExactTrimChains_6 Q e H = wpL P l_laws_FnExactTrimChains_6 (Q .normal) e H := idE rfl
@[go_sem] def l_laws_FnExactTrimChains_7 : List GOp := [⟨(some 22), .mv (.t 5), none⟩,
    ⟨(some 23), .bin .lss (.t 22) (.c (.int .i64 0)), none⟩]
def laws_FnExactTrimChains_7 : IR := .ops l_laws_FnExactTrimChains_7
@[go_sem] theorem w_laws_FnExactTrimChains_7 : wp P laws_FnExactTrimChains_7 Q e H = wpL P l_laws_FnExactTrimChains_7 (Q .normal) e H := idE rfl
@[go_sem] def l_laws_FnExactTrimChains_8 : List GOp := [⟨(some 4), .mv (.c (.bool true)), none⟩]
def laws_FnExactTrimChains_8 : IR := .ops l_laws_FnExactTrimChains_8
@[go_sem] theorem w_laws_FnExactTrimChains_8 : wp P laws_FnExactTrimChains_8 Q e H = wpL P l_laws_FnExactTrimChains_8 (Q .normal) e H := idE rfl
def laws_FnExactTrimChains_9 : IR := .cond (.t 23) (.seq laws_FnExactTrimChains_8 .ret) .skip
@[go_sem] theorem w_laws_FnExactTrimChains_9 : wp P laws_FnExactTrimChains_9 Q e H = condW P ((.t 23) : X) (.seq laws_FnExactTrimChains_8 .ret) .skip Q e H := idE rfl
@[go_sem] def l_laws_FnExactTrimChains_10 : List GOp := [⟨(some 24), .load (.t 2) 2 true, none⟩,
    ⟨(some 25), .call (n_laws_toClauses) [(.t 24)], none⟩,
    ⟨(some 26), .mv (.t 1), none⟩,
    ⟨(some 27), .call (n_laws_toChainS) [(.t 26)], none⟩,
    ⟨(some 28), .call (n_spec_TrimChains) [(.t 25), (.t 27)], none⟩,
    ⟨(some 6), .mv (.t 28), none⟩]
def laws_FnExactTrimChains_10 : IR := .ops l_laws_FnExactTrimChains_10
@[go_sem] theorem w_laws_FnExactTrimChains_10 : wp P laws_FnExactTrimChains_10 Q e H = wpL P l_laws_FnExactTrimChains_10 (Q .normal) e H := idE rfl
@[go_sem] def l_laws_FnExactTrimChains_11 : List GOp := [⟨(some 29), .load (.t 2) 2 true, none⟩,
    ⟨(some 30), .call (n_laws_toClauses) [(.t 29)], none⟩,
    ⟨(some 7), .alloc [(.int .i64 0), (.sl none 0 0 true 0)], none⟩,
    ⟨none, .store (.t 7) 2 (.t 30), none⟩]
def laws_FnExactTrimChains_11 : IR := .ops l_laws_FnExactTrimChains_11
@[go_sem] theorem w_laws_FnExactTrimChains_11 : wp P laws_FnExactTrimChains_11 Q e H = wpL P l_laws_FnExactTrimChains_11 (Q .normal) e H := idE rfl
@[go_sem] def l_laws_FnExactTrimChains_12 : List GOp := [⟨(some 31), .mv (.t 1), none⟩,
    ⟨(some 32), .call (n_laws_toChainS) [(.t 31)], none⟩,
    ⟨(some 8), .mv (.t 32), none⟩]
def laws_FnExactTrimChains_12 : IR := .ops l_laws_FnExactTrimChains_12
@[go_sem] theorem w_laws_FnExactTrimChains_12 : wp P laws_FnExactTrimChains_12 Q e H = wpL P l_laws_FnExactTrimChains_12 (Q .normal) e H := idE rfl
@[go_sem] def l_laws_FnExactTrimChains_13 : List GOp := [⟨(some 33), .load (.t 7) 2 true, none⟩,
    ⟨(some 34), .mv (.t 8), none⟩,
    ⟨(some 35), .call (n_impl_TrimChains) [(.t 33), (.t 34)], none⟩,
    ⟨(some 9), .mv (.t 35), none⟩]
def laws_FnExactTrimChains_13 : IR := .ops l_laws_FnExactTrimChains_13
@[go_sem] theorem w_laws_FnExactTrimChains_13 : wp P laws_FnExactTrimChains_13 Q e H = wpL P l_laws_FnExactTrimChains_13 (Q .normal) e H := idE rfl
@[go_sem] def l_laws_FnExactTrimChains_14 : List GOp := [⟨(some 36), .mv (.t 9), none⟩,
    ⟨(some 37), .mv (.t 6), none⟩,
    ⟨(some 38), .call (n_laws_eqChainS) [(.t 36), (.t 37)], none⟩,
    ⟨(some 39), .un .not (.t 38), none⟩]
def laws_FnExactTrimChains_14 : IR := .ops l_laws_FnExactTrimChains_14
@[go_sem] theorem w_laws_FnExactTrimChains_14 : wp P laws_FnExactTrimChains_14 Q e H = wpL P l_laws_FnExactTrimChains_14 (Q .normal) e H := idE rfl
@[go_sem] def l_laws_FnExactTrimChains_15 : List GOp := [⟨(some 4), .mv (.c (.bool false)), none⟩]
def laws_FnExactTrimChains_15 : IR := .ops l_laws_FnExactTrimChains_15
@[go_sem] theorem w_laws_FnExactTrimChains_15 : wp P laws_FnExactTrimChains_15 Q e H = wpL P l_laws_FnExactTrimChains_15 (Q .normal) e H := idE rfl
def laws_FnExactTrimChains_16 : IR := .cond (.t 39) (.seq laws_FnExactTrimChains_15 .ret) .skip
@[go_sem] theorem w_laws_FnExactTrimChains_16 : wp P laws_FnExactTrimChains_16 Q e H = condW P ((.t 39) : X) (.seq laws_FnExactTrimChains_15 .ret) .skip Q e H := idE rfl
def l_laws_FnExactTrimChains_17 : List GOp := [⟨(some 40), .load (.t 7) 2 true, none⟩,
    ⟨(some 41), .load (.t 2) 2 true, none⟩,
    ⟨(some 42), .call (n_laws_toClauses) [(.t 41)], none⟩,
    ⟨(some 43), .call (n_laws_eqClauses) [(.t 40), (.t 42)], none⟩,
    ⟨(some 44), .un .not (.t 43), none⟩]
@[go_sem] theorem g_laws_FnExactTrimChains_17_0 : gAt l_laws_FnExactTrimChains_17 0 = ⟨(some 40), .load (.t 7) 2 true, none⟩ := idE rfl
@[go_sem] theorem g_laws_FnExactTrimChains_17_1 : gAt l_laws_FnExactTrimChains_17 1 = ⟨(some 41), .load (.t 2) 2 true, none⟩ := idE rfl
@[go_sem] theorem g_laws_FnExactTrimChains_17_2 : gAt l_laws_FnExactTrimChains_17 2 = ⟨(some 42), .call (n_laws_toClauses) [(.t 41)], none⟩ := idE rfl
@[go_sem] theorem g_laws_FnExactTrimChains_17_3 : gAt l_laws_FnExactTrimChains_17 3 = ⟨(some 43), .call (n_laws_eqClauses) [(.t 40), (.t 42)], none⟩ := idE rfl
@[go_sem] theorem g_laws_FnExactTrimChains_17_4 : gAt l_laws_FnExactTrimChains_17 4 = ⟨(some 44), .un .not (.t 43), none⟩ := idE rfl
def laws_FnExactTrimChains_17 : IR := .dops l_laws_FnExactTrimChains_17 [(0, []), (1, []), (2, [0]), (3, []), (4, [])]
@[go_sem] theorem w_laws_FnExactTrimChains_17 : wp P laws_FnExactTrimChains_17 Q e H = wpD P l_laws_FnExactTrimChains_17 [(0, []), (1, []), (2, [0]), (3, []), (4, [])] (Q .normal) e H := idE rfl
@[go_sem] def l_laws_FnExactTrimChains_18 : List GOp := [⟨(some 4), .mv (.c (.bool false)), none⟩]
def laws_FnExactTrimChains_18 : IR := .ops l_laws_FnExactTrimChains_18
@[go_sem] theorem w_laws_FnExactTrimChains_18 : wp P laws_FnExactTrimChains_18 Q e H = wpL P l_laws_FnExactTrimChains_18 (Q .normal) e H := idE rfl
def laws_FnExactTrimChains_19 : IR := .cond (.t 44) (.seq laws_FnExactTrimChains_18 .ret) .skip
@[go_sem] theorem w_laws_FnExactTrimChains_19 : wp P laws_FnExactTrimChains_19 Q e H = condW P ((.t 44) : X) (.seq laws_FnExactTrimChains_18 .ret) .skip Q e H := idE rfl
@[go_sem] def l_laws_FnExactTrimChains_20 : List GOp := [⟨(some 45), .mv (.t 8), none⟩,
    ⟨(some 46), .mv (.t 1), none⟩,
    ⟨(some 47), .call (n_laws_toChainS) [(.t 46)], none⟩,
    ⟨(some 48), .call (n_laws_eqChainS) [(.t 45), (.t 47)], none⟩,
    ⟨(some 49), .un .not (.t 48), none⟩]
def laws_FnExactTrimChains_20 : IR := .ops l_laws_FnExactTrimChains_20
@[go_sem] theorem w_laws_FnExactTrimChains_20 : wp P laws_FnExactTrimChains_20 Q e H = wpL P l_laws_FnExactTrimChains_20 (Q .normal) e H := idE rfl
@[go_sem] def l_laws_FnExactTrimChains_21 : List GOp := [⟨(some 4), .mv (.c (.bool false)), none⟩]
def laws_FnExactTrimChains_21 : IR := .ops l_laws_FnExactTrimChains_21
@[go_sem] theorem w_laws_FnExactTrimChains_21 : wp P laws_FnExactTrimChains_21 Q e H = wpL P l_laws_FnExactTrimChains_21 (Q .normal) e H := idE rfl
def laws_FnExactTrimChains_22 : IR := .cond (.t 49) (.seq laws_FnExactTrimChains_21 .ret) .skip
@[go_sem] theorem w_laws_FnExactTrimChains_22 : wp P laws_FnExactTrimChains_22 Q e H = condW P ((.t 49) : X) (.seq laws_FnExactTrimChains_21 .ret) .skip Q e H := idE rfl
@[go_sem] def l_laws_FnExactTrimChains_23 : List GOp := [⟨(some 10), .mv (.c (.int .i64 1)), none⟩]
def laws_FnExactTrimChains_23 : IR := .ops l_laws_FnExactTrimChains_23
@[go_sem] theorem w_laws_FnExactTrimChains_23 : wp P laws_FnExactTrimChains_23 Q e H = wpL P l_laws_FnExactTrimChains_23 (Q .normal) e H := idE rfl
@[go_sem] def l_laws_FnExactTrimChains_24 : List GOp := [⟨(some 50), .load (.t 7) 2 true, none⟩,
    ⟨(some 51), .mv (.t 10), none⟩,
    ⟨(some 52), .call (n_laws_markClauses) [(.t 50), (.t 51)], none⟩,
    ⟨(some 10), .mv (.t 52), none⟩]
def laws_FnExactTrimChains_24 : IR := .ops l_laws_FnExactTrimChains_24
@[go_sem] theorem w_laws_FnExactTrimChains_24 : wp P laws_FnExactTrimChains_24 Q e H = wpL P l_laws_FnExactTrimChains_24 (Q .normal) e H := idE rfl
@[go_sem] def l_laws_FnExactTrimChains_25 : List GOp := [⟨(some 53), .mv (.t 8), none⟩,
    ⟨(some 54), .mv (.t 10), none⟩,
    ⟨(some 55), .call (n_laws_markChainS) [(.t 53), (.t 54)], none⟩,
    ⟨(some 10), .mv (.t 55), none⟩]
def laws_FnExactTrimChains_25 : IR := .ops l_laws_FnExactTrimChains_25
@[go_sem] theorem w_laws_FnExactTrimChains_25 : wp P laws_FnExactTrimChains_25 Q e H = wpL P l_laws_FnExactTrimChains_25 (Q .normal) e H := idE rfl
@[go_sem] def l_laws_FnExactTrimChains_26 : List GOp := [⟨(some 56), .mv (.t 10), none⟩,
    ⟨(some 57), .bin .lss (.t 56) (.c (.int .i64 0)), none⟩,
    ⟨(some 58), .mv (.t 57), none⟩,
    ⟨(some 59), .mv (.t 9), (some (58, false))⟩,
    ⟨(some 60), .mv (.t 6), (some (58, false))⟩,
    ⟨(some 61), .call (n_laws_eqChainS) [(.t 59), (.t 60)], (some (58, false))⟩,
    ⟨(some 62), .un .not (.t 61), (some (58, false))⟩,
    ⟨(some 63), .pick (.t 58) (.c (.bool true)) (.t 62), none⟩]
def laws_FnExactTrimChains_26 : IR := .ops l_laws_FnExactTrimChains_26
@[go_sem] theorem w_laws_FnExactTrimChains_26 : wp P laws_FnExactTrimChains_26 Q e H = wpL P l_laws_FnExactTrimChains_26 (Q .normal) e H := idE rfl
@[go_sem] def l_laws_FnExactTrimChains_27 : List GOp := [⟨(some 4), .mv (.c (.bool false)), none⟩]
def laws_FnExactTrimChains_27 : IR := .ops l_laws_FnExactTrimChains_27
@[go_sem] theorem w_laws_FnExactTrimChains_27 : wp P laws_FnExactTrimChains_27 Q e H = wpL P l_laws_FnExactTrimChains_27 (Q .normal) e H := idE rfl
def laws_FnExactTrimChains_28 : IR := .cond (.t 63) (.seq laws_FnExactTrimChains_27 .ret) .skip
@[go_sem] theorem w_laws_FnExactTrimChains_28 : wp P laws_FnExactTrimChains_28 Q e H = condW P ((.t 63) : X) (.seq laws_FnExactTrimChains_27 .ret) .skip Q e H := idE rfl
@[go_sem] def l_laws_FnExactTrimChains_29 : List GOp := [⟨(some 11), .mv (.c (.int .i64 1)), none⟩]
def laws_FnExactTrimChains_29 : IR := .ops l_laws_FnExactTrimChains_29
@[go_sem] theorem w_laws_FnExactTrimChains_29 : wp P laws_FnExactTrimChains_29 Q e H = wpL P l_laws_FnExactTrimChains_29 (Q .normal) e H := idE rfl
@[go_sem] def l_laws_FnExactTrimChains_30 : List GOp := [⟨(some 64), .mv (.t 9), none⟩,
    ⟨(some 65), .mv (.t 11), none⟩,
    ⟨(some 66), .call (n_laws_markChainS) [(.t 64), (.t 65)], none⟩,
    ⟨(some 11), .mv (.t 66), none⟩]
def laws_FnExactTrimChains_30 : IR := .ops l_laws_FnExactTrimChains_30
@[go_sem] theorem w_laws_FnExactTrimChains_30 : wp P laws_FnExactTrimChains_30 Q e H = wpL P l_laws_FnExactTrimChains_30 (Q .normal) e H := idE rfl
@[go_sem] def l_laws_FnExactTrimChains_31 : List GOp := [⟨(some 12), .mv (.c (.int .i64 1)), none⟩]
def laws_FnExactTrimChains_31 : IR := .ops l_laws_FnExactTrimChains_31
@[go_sem] theorem w_laws_FnExactTrimChains_31 : wp P laws_FnExactTrimChains_31 Q e H = wpL P l_laws_FnExactTrimChains_31 (Q .normal) e H := idE rfl
@[go_sem] def l_laws_FnExactTrimChains_32 : List GOp := [⟨(some 67), .mv (.t 9), none⟩,
    ⟨(some 68), .mv (.t 12), none⟩,
    ⟨(some 69), .call (n_laws_heldChainS) [(.t 67), (.t 68)], none⟩,
    ⟨(some 12), .mv (.t 69), none⟩]
def laws_FnExactTrimChains_32 : IR := .ops l_laws_FnExactTrimChains_32
@[go_sem] theorem w_laws_FnExactTrimChains_32 : wp P laws_FnExactTrimChains_32 Q e H = wpL P l_laws_FnExactTrimChains_32 (Q .normal) e H := idE rfl
@[go_sem] def l_laws_FnExactTrimChains_33 : List GOp := [⟨(some 70), .mv (.t 12), none⟩,
    ⟨(some 71), .bin .lss (.t 70) (.c (.int .i64 0)), none⟩]
def laws_FnExactTrimChains_33 : IR := .ops l_laws_FnExactTrimChains_33
@[go_sem] theorem w_laws_FnExactTrimChains_33 : wp P laws_FnExactTrimChains_33 Q e H = wpL P l_laws_FnExactTrimChains_33 (Q .normal) e H := idE rfl
@[go_sem] def l_laws_FnExactTrimChains_34 : List GOp := [⟨(some 4), .mv (.c (.bool false)), none⟩]
def laws_FnExactTrimChains_34 : IR := .ops l_laws_FnExactTrimChains_34
@[go_sem] theorem w_laws_FnExactTrimChains_34 : wp P laws_FnExactTrimChains_34 Q e H = wpL P l_laws_FnExactTrimChains_34 (Q .normal) e H := idE rfl
def laws_FnExactTrimChains_35 : IR := .cond (.t 71) (.seq laws_FnExactTrimChains_34 .ret) .skip
@[go_sem] theorem w_laws_FnExactTrimChains_35 : wp P laws_FnExactTrimChains_35 Q e H = condW P ((.t 71) : X) (.seq laws_FnExactTrimChains_34 .ret) .skip Q e H := idE rfl
@[go_sem] def l_laws_FnExactTrimChains_36 : List GOp := [⟨(some 72), .mv (.t 12), none⟩,
    ⟨(some 73), .mv (.t 11), none⟩,
    ⟨(some 74), .bin .neq (.t 72) (.t 73), none⟩]
def laws_FnExactTrimChains_36 : IR := .ops l_laws_FnExactTrimChains_36
@[go_sem] theorem w_laws_FnExactTrimChains_36 : wp P laws_FnExactTrimChains_36 Q e H = wpL P l_laws_FnExactTrimChains_36 (Q .normal) e H := idE rfl
@[go_sem] def l_laws_FnExactTrimChains_37 : List GOp := [⟨(some 4), .mv (.c (.bool false)), none⟩]
def laws_FnExactTrimChains_37 : IR := .ops l_laws_FnExactTrimChains_37
@[go_sem] theorem w_laws_FnExactTrimChains_37 : wp P laws_FnExactTrimChains_37 Q e H = wpL P l_laws_FnExactTrimChains_37 (Q .normal) e H := idE rfl
def laws_FnExactTrimChains_38 : IR := .cond (.t 74) (.seq laws_FnExactTrimChains_37 .ret) .skip
@[go_sem] theorem w_laws_FnExactTrimChains_38 : wp P laws_FnExactTrimChains_38 Q e H = condW P ((.t 74) : X) (.seq laws_FnExactTrimChains_37 .ret) .skip Q e H := idE rfl
@[go_sem] def l_laws_FnExactTrimChains_39 : List GOp := [⟨(some 75), .load (.t 2) 2 true, none⟩,
    ⟨(some 76), .call (n_laws_toClauses) [(.t 75)], none⟩,
    ⟨(some 77), .mv (.t 1), none⟩,
    ⟨(some 78), .call (n_laws_toChainS) [(.t 77)], none⟩,
    ⟨(some 79), .call (n_impl_TrimChains) [(.t 76), (.t 78)], none⟩,
    ⟨(some 13), .mv (.t 79), none⟩]
def laws_FnExactTrimChains_39 : IR := .ops l_laws_FnExactTrimChains_39
@[go_sem] theorem w_laws_FnExactTrimChains_39 : wp P laws_FnExactTrimChains_39 Q e H = wpL P l_laws_FnExactTrimChains_39 (Q .normal) e H := idE rfl
@[go_sem] def l_laws_FnExactTrimChains_40 : List GOp := [⟨(some 80), .mv (.t 13), none⟩,
    ⟨(some 81), .mv (.t 6), none⟩,
    ⟨(some 82), .call (n_laws_eqChainS) [(.t 80), (.t 81)], none⟩,
    ⟨(some 83), .un .not (.t 82), none⟩]
def laws_FnExactTrimChains_40 : IR := .ops l_laws_FnExactTrimChains_40
@[go_sem] theorem w_laws_FnExactTrimChains_40 : wp P laws_FnExactTrimChains_40 Q e H = wpL P l_laws_FnExactTrimChains_40 (Q .normal) e H := idE rfl
@[go_sem] def l_laws_FnExactTrimChains_41 : List GOp := [⟨(some 4), .mv (.c (.bool false)), none⟩]
def laws_FnExactTrimChains_41 : IR := .ops l_laws_FnExactTrimChains_41
@[go_sem] theorem w_laws_FnExactTrimChains_41 : wp P laws_FnExactTrimChains_41 Q e H = wpL P l_laws_FnExactTrimChains_41 (Q .normal) e H := idE rfl
def laws_FnExactTrimChains_42 : IR := .cond (.t 83) (.seq laws_FnExactTrimChains_41 .ret) .skip
@[go_sem] theorem w_laws_FnExactTrimChains_42 : wp P laws_FnExactTrimChains_42 Q e H = condW P ((.t 83) : X) (.seq laws_FnExactTrimChains_41 .ret) .skip Q e H := idE rfl
@[go_sem] def l_laws_FnExactTrimChains_43 : List GOp := [⟨(some 12), .mv (.c (.int .i64 1)), none⟩]
def laws_FnExactTrimChains_43 : IR := .ops l_laws_FnExactTrimChains_43
@[go_sem] theorem w_laws_FnExactTrimChains_43 : wp P laws_FnExactTrimChains_43 Q e H = wpL P l_laws_FnExactTrimChains_43 (Q .normal) e H := idE rfl
@[go_sem] def l_laws_FnExactTrimChains_44 : List GOp := [⟨(some 84), .mv (.t 9), none⟩,
    ⟨(some 85), .mv (.t 12), none⟩,
    ⟨(some 86), .call (n_laws_heldChainS) [(.t 84), (.t 85)], none⟩,
    ⟨(some 12), .mv (.t 86), none⟩]
def laws_FnExactTrimChains_44 : IR := .ops l_laws_FnExactTrimChains_44
@[go_sem] theorem w_laws_FnExactTrimChains_44 : wp P laws_FnExactTrimChains_44 Q e H = wpL P l_laws_FnExactTrimChains_44 (Q .normal) e H := idE rfl
@[go_sem] def l_laws_FnExactTrimChains_45 : List GOp := [⟨(some 87), .mv (.t 12), none⟩,
    ⟨(some 88), .bin .lss (.t 87) (.c (.int .i64 0)), none⟩]
def laws_FnExactTrimChains_45 : IR := .ops l_laws_FnExactTrimChains_45
@[go_sem] theorem w_laws_FnExactTrimChains_45 : wp P laws_FnExactTrimChains_45 Q e H = wpL P l_laws_FnExactTrimChains_45 (Q .normal) e H := idE rfl
@[go_sem] def l_laws_FnExactTrimChains_46 : List GOp := [⟨(some 4), .mv (.c (.bool false)), none⟩]
def laws_FnExactTrimChains_46 : IR := .ops l_laws_FnExactTrimChains_46
@[go_sem] theorem w_laws_FnExactTrimChains_46 : wp P laws_FnExactTrimChains_46 Q e H = wpL P l_laws_FnExactTrimChains_46 (Q .normal) e H := idE rfl
def laws_FnExactTrimChains_47 : IR := .cond (.t 88) (.seq laws_FnExactTrimChains_46 .ret) .skip
@[go_sem] theorem w_laws_FnExactTrimChains_47 : wp P laws_FnExactTrimChains_47 Q e H = condW P ((.t 88) : X) (.seq laws_FnExactTrimChains_46 .ret) .skip Q e H := idE rfl
@[go_sem] def l_laws_FnExactTrimChains_48 : List GOp := [⟨(some 89), .mv (.t 12), none⟩,
    ⟨(some 90), .mv (.t 11), none⟩,
    ⟨(some 91), .bin .neq (.t 89) (.t 90), none⟩]
def laws_FnExactTrimChains_48 : IR := .ops l_laws_FnExactTrimChains_48
@[go_sem] theorem w_laws_FnExactTrimChains_48 : wp P laws_FnExactTrimChains_48 Q e H = wpL P l_laws_FnExactTrimChains_48 (Q .normal) e H := idE rfl
@[go_sem] def l_laws_FnExactTrimChains_49 : List GOp := [⟨(some 4), .mv (.c (.bool false)), none⟩]
def laws_FnExactTrimChains_49 : IR := .ops l_laws_FnExactTrimChains_49
@[go_sem] theorem w_laws_FnExactTrimChains_49 : wp P laws_FnExactTrimChains_49 Q e H = wpL P l_laws_FnExactTrimChains_49 (Q .normal) e H := idE rfl
def laws_FnExactTrimChains_50 : IR := .cond (.t 91) (.seq laws_FnExactTrimChains_49 .ret) .skip
@[go_sem] theorem w_laws_FnExactTrimChains_50 : wp P laws_FnExactTrimChains_50 Q e H = condW P ((.t 91) : X) (.seq laws_FnExactTrimChains_49 .ret) .skip Q e H := idE rfl
@[go_sem] def l_laws_FnExactTrimChains_51 : List GOp := [⟨(some 4), .mv (.c (.bool true)), none⟩]
def laws_FnExactTrimChains_51 : IR := .ops l_laws_FnExactTrimChains_51
@[go_sem] theorem w_laws_FnExactTrimChains_51 : wp P laws_FnExactTrimChains_51 Q e H = wpL P l_laws_FnExactTrimChains_51 (Q .normal) e H := idE rfl
def F_laws_FnExactTrimChains : IFn := ⟨2, 92, [.t 4], (.seq laws_FnExactTrimChains_0 (.seq laws_FnExactTrimChains_1 (.seq laws_FnExactTrimChains_2 (.seq (.seq laws_FnExactTrimChains_3 laws_FnExactTrimChains_5) (.seq laws_FnExactTrimChains_6 (.seq (.seq laws_FnExactTrimChains_7 laws_FnExactTrimChains_9) (.seq laws_FnExactTrimChains_10 (.seq laws_FnExactTrimChains_11 (.seq laws_FnExactTrimChains_12 (.seq laws_FnExactTrimChains_13 (.seq (.seq laws_FnExactTrimChains_14 laws_FnExactTrimChains_16) (.seq (.seq laws_FnExactTrimChains_17 laws_FnExactTrimChains_19) (.seq (.seq laws_FnExactTrimChains_20 laws_FnExactTrimChains_22) (.seq laws_FnExactTrimChains_23 (.seq laws_FnExactTrimChains_24 (.seq laws_FnExactTrimChains_25 (.seq (.seq laws_FnExactTrimChains_26 laws_FnExactTrimChains_28) (.seq laws_FnExactTrimChains_29 (.seq laws_FnExactTrimChains_30 (.seq laws_FnExactTrimChains_31 (.seq laws_FnExactTrimChains_32 (.seq (.seq laws_FnExactTrimChains_33 laws_FnExactTrimChains_35) (.seq (.seq laws_FnExactTrimChains_36 laws_FnExactTrimChains_38) (.seq laws_FnExactTrimChains_39 (.seq (.seq laws_FnExactTrimChains_40 laws_FnExactTrimChains_42) (.seq laws_FnExactTrimChains_43 (.seq laws_FnExactTrimChains_44 (.seq (.seq laws_FnExactTrimChains_45 laws_FnExactTrimChains_47) (.seq (.seq laws_FnExactTrimChains_48 laws_FnExactTrimChains_50) (.seq laws_FnExactTrimChains_51 .ret))))))))))))))))))))))))))))))⟩
theorem c_laws_FnExactTrimChains : compFn Try.prog [(0, [], []), (1, [], []), (2, [], []), (3, [], []), (4, [], []), (5, [], []), (6, [], []), (7, [], []), (8, [], []), (9, [], []), (10, [], []), (11, [], []), (12, [], []), (13, [], []), (14, [(0, []), (1, []), (2, [0]), (3, []), (4, [])], []), (15, [], []), (16, [], []), (17, [], []), (18, [], []), (19, [], []), (20, [], []), (21, [], []), (22, [], []), (23, [], []), (24, [], []), (25, [], []), (26, [], []), (27, [], []), (28, [], []), (29, [], []), (30, [], []), (31, [], []), (32, [], []), (33, [], []), (34, [], []), (35, [], []), (36, [], []), (37, [], []), (38, [], []), (39, [], []), (40, [], [])] Try.f12 = some F_laws_FnExactTrimChains := by kernel_rfl
theorem a_laws_FnExactTrimChains (hl : args.length = 2) (h : wp Try.prog (.seq laws_FnExactTrimChains_0 (.seq laws_FnExactTrimChains_1 (.seq laws_FnExactTrimChains_2 (.seq (.seq laws_FnExactTrimChains_3 laws_FnExactTrimChains_5) (.seq laws_FnExactTrimChains_6 (.seq (.seq laws_FnExactTrimChains_7 laws_FnExactTrimChains_9) (.seq laws_FnExactTrimChains_10 (.seq laws_FnExactTrimChains_11 (.seq laws_FnExactTrimChains_12 (.seq laws_FnExactTrimChains_13 (.seq (.seq laws_FnExactTrimChains_14 laws_FnExactTrimChains_16) (.seq (.seq laws_FnExactTrimChains_17 laws_FnExactTrimChains_19) (.seq (.seq laws_FnExactTrimChains_20 laws_FnExactTrimChains_22) (.seq laws_FnExactTrimChains_23 (.seq laws_FnExactTrimChains_24 (.seq laws_FnExactTrimChains_25 (.seq (.seq laws_FnExactTrimChains_26 laws_FnExactTrimChains_28) (.seq laws_FnExactTrimChains_29 (.seq laws_FnExactTrimChains_30 (.seq laws_FnExactTrimChains_31 (.seq laws_FnExactTrimChains_32 (.seq (.seq laws_FnExactTrimChains_33 laws_FnExactTrimChains_35) (.seq (.seq laws_FnExactTrimChains_36 laws_FnExactTrimChains_38) (.seq laws_FnExactTrimChains_39 (.seq (.seq laws_FnExactTrimChains_40 laws_FnExactTrimChains_42) (.seq laws_FnExactTrimChains_43 (.seq laws_FnExactTrimChains_44 (.seq (.seq laws_FnExactTrimChains_45 laws_FnExactTrimChains_47) (.seq (.seq laws_FnExactTrimChains_48 laws_FnExactTrimChains_50) (.seq laws_FnExactTrimChains_51 .ret)))))))))))))))))))))))))))))) (postQ [.t 4] R) (env0 args) H) : ACall Try.prog n_laws_FnExactTrimChains args H R :=
  acall_of_wp mixed Try.func12 c_laws_FnExactTrimChains (by kernel_rfl) hl h
end Go.M2

namespace Go.M2
open Go.Proofs
variable {H : Heap}
theorem s_l1In {n lo hi : Int} : ACall Try.prog n_spec_l1In [.int .i64 n, .int .i64 lo, .int .i64 hi] H (fun r H' => r = .bool (decide (lo ≤ n ∧ n ≤ hi)) ∧ H' = H) := by
  refine a_spec_l1In rfl ?_
  simp (maxSteps := 2000000) (disch := first | omega | assumption | exact idP rfl | exact idP (bL rfl) | (simp only [alloc_size, upd_size]; done) | (simp only [alloc_size, upd_size]; omega) | fail) only [go_sem, reduceIte, Nat.reduceEqDiff]
  refine guardW_dec (fun h => ?_) (fun h => ?_)
  · simp (maxSteps := 2000000) (disch := first | omega | assumption | exact idP rfl | exact idP (bL rfl) | (simp only [alloc_size, upd_size]; done) | (simp only [alloc_size, upd_size]; omega) | fail) only [go_sem, reduceIte, Nat.reduceEqDiff, h, AV.bool.injEq, decide_eq_decide, decide_true]
  · simp (maxSteps := 2000000) (disch := first | omega | assumption | exact idP rfl | exact idP (bL rfl) | (simp only [alloc_size, upd_size]; done) | (simp only [alloc_size, upd_size]; omega) | fail) only [go_sem, reduceIte, Nat.reduceEqDiff, h, AV.bool.injEq, decide_eq_decide, decide_false, Bool.false_eq_true, false_and]
theorem s_in {n lo hi : Int} : ACall Try.prog n_impl_in [.int .i64 n, .int .i64 lo, .int .i64 hi] H (fun r H' => r = .bool (decide (lo ≤ n ∧ n ≤ hi)) ∧ H' = H) := by
  refine a_impl_in rfl ?_
  simp (maxSteps := 2000000) (disch := first | omega | assumption | exact idP rfl | exact idP (bL rfl) | (simp only [alloc_size, upd_size]; done) | (simp only [alloc_size, upd_size]; omega) | fail) only [go_sem, reduceIte, Nat.reduceEqDiff]
  refine guardW_dec (fun h => ?_) (fun h => ?_)
  · simp (maxSteps := 2000000) (disch := first | omega | assumption | exact idP rfl | exact idP (bL rfl) | (simp only [alloc_size, upd_size]; done) | (simp only [alloc_size, upd_size]; omega) | fail) only [go_sem, reduceIte, Nat.reduceEqDiff, h, AV.bool.injEq, decide_eq_decide, decide_true]
  · simp (maxSteps := 2000000) (disch := first | omega | assumption | exact idP rfl | exact idP (bL rfl) | (simp only [alloc_size, upd_size]; done) | (simp only [alloc_size, upd_size]; omega) | fail) only [go_sem, reduceIte, Nat.reduceEqDiff, h, AV.bool.injEq, decide_eq_decide, decide_false, Bool.false_eq_true, false_and]
theorem s_l11Abs {n : Int} (h0 : -9223372036854775808 < n) (h1 : n ≤ 9223372036854775807) : ACall Try.prog n_spec_l11Abs [.int .i64 n] H (fun r H' => r = .int .i64 (n.natAbs : Int) ∧ H' = H) := by
  refine a_spec_l11Abs rfl ?_
  simp (maxSteps := 2000000) (disch := first | omega | assumption | exact idP rfl | exact idP (bL rfl) | (simp only [alloc_size, upd_size]; done) | (simp only [alloc_size, upd_size]; omega) | fail) only [go_sem, reduceIte, Nat.reduceEqDiff]
  refine condV_dec (fun h => ?_) (fun h => ?_)
  · simp (maxSteps := 2000000) (disch := first | omega | assumption | exact idP rfl | exact idP (bL rfl) | (simp only [alloc_size, upd_size]; done) | (simp only [alloc_size, upd_size]; omega) | fail) only [go_sem, reduceIte, Nat.reduceEqDiff, AV.int.injEq]
    omega
  · simp (maxSteps := 2000000) (disch := first | omega | assumption | exact idP rfl | exact idP (bL rfl) | (simp only [alloc_size, upd_size]; done) | (simp only [alloc_size, upd_size]; omega) | fail) only [go_sem, reduceIte, Nat.reduceEqDiff, AV.int.injEq]
    omega
theorem s_atomOf {n : Int} (h0 : -9223372036854775808 < n) (h1 : n ≤ 9223372036854775807) : ACall Try.prog n_impl_atomOf [.int .i64 n] H (fun r H' => r = .int .i64 (n.natAbs : Int) ∧ H' = H) := by
  refine a_impl_atomOf rfl ?_
  simp (maxSteps := 2000000) (disch := first | omega | assumption | exact idP rfl | exact idP (bL rfl) | (simp only [alloc_size, upd_size]; done) | (simp only [alloc_size, upd_size]; omega) | fail) only [go_sem, reduceIte, Nat.reduceEqDiff, AV.int.injEq]
  omega
def litOk (n atoms : Int) : Bool := decide (n ≠ 0 ∧ -atoms ≤ n ∧ n ≤ atoms)
theorem s_l11Lit {n atoms : Int} (h0 : 0 ≤ atoms) (h1 : atoms ≤ 700) : ACall Try.prog n_spec_l11Lit [.int .i64 n, .int .i64 atoms] H (fun r H' => r = .bool (litOk n atoms) ∧ H' = H) := by
  refine a_spec_l11Lit rfl ?_
  by_cases h : n = 0
  · simp (maxSteps := 2000000) (disch := first | omega | assumption | exact idP rfl | exact idP (bL rfl) | (simp only [alloc_size, upd_size]; done) | (simp only [alloc_size, upd_size]; omega) | fail) only [go_sem, reduceIte, Nat.reduceEqDiff, h, litOk, AV.bool.injEq, false_and]
  · simp (maxSteps := 2000000) (disch := first | omega | assumption | exact idP rfl | exact idP (bL rfl) | (simp only [alloc_size, upd_size]; done) | (simp only [alloc_size, upd_size]; omega) | fail) only [go_sem, reduceIte, Nat.reduceEqDiff, h]
    refine (s_l1In).mono ?_
    rintro r H' ⟨rfl, rfl⟩
    simp (maxSteps := 2000000) (disch := first | omega | assumption | exact idP rfl | exact idP (bL rfl) | (simp only [alloc_size, upd_size]; done) | (simp only [alloc_size, upd_size]; omega) | fail) only [go_sem, reduceIte, Nat.reduceEqDiff, AV.bool.injEq, litOk, decide_eq_decide, h]
    constructor <;> intro h3 <;> refine ⟨?_, ?_⟩ <;> omega
theorem s_szIntS {v : AV} {xs : List Int} {left : Int} (hv : InS 1 EI H v xs) (h0 : xs.length ≤ 9223372036854775807) (h1 : 0 ≤ left) (h2 : left ≤ 1048576) :
    ACall Try.prog n_laws_szIntS [v, .int .i64 left] H (fun r H' => H' = H ∧ ∃ k : Int, r = .int .i64 k ∧ k ≤ left ∧ (0 ≤ k → xs.length ≤ 1048576)) := by
  refine a_laws_szIntS rfl ?_
  have hl : lenF v = some (.int .i64 (xs.length : Int)) := by
    rcases hv with ⟨A, c, ex, k, rfl, _⟩ | ⟨rfl, rfl⟩
    · rfl
    · rfl
  simp (maxSteps := 2000000) (disch := first | omega | assumption | exact idP rfl | exact idP (bL rfl) | (simp only [alloc_size, upd_size]; done) | (simp only [alloc_size, upd_size]; omega) | fail) only [go_sem, reduceIte, Nat.reduceEqDiff, hl]
  refine condV_dec (fun h => ?_) (fun h => ?_)
  · simp (maxSteps := 2000000) (disch := first | omega | assumption | exact idP rfl | exact idP (bL rfl) | (simp only [alloc_size, upd_size]; done) | (simp only [alloc_size, upd_size]; omega) | fail) only [go_sem, reduceIte, Nat.reduceEqDiff]
    exact ⟨-1, rfl, by omega, by omega⟩
  · simp (maxSteps := 2000000) (disch := first | omega | assumption | exact idP rfl | exact idP (bL rfl) | (simp only [alloc_size, upd_size]; done) | (simp only [alloc_size, upd_size]; omega) | fail) only [go_sem, reduceIte, Nat.reduceEqDiff]
    exact ⟨_, rfl, by omega, by omega⟩
theorem s_szIntSS {v : AV} {xss : List (List Int)} {left : Int} (hv : InS 1 (EN 1 EI) H v xss) (h0 : xss.length ≤ 9223372036854775807) (hx : ∀ xs ∈ xss, xs.length ≤ 9223372036854775807) (h1 : 0 ≤ left) (h2 : left ≤ 1048576) :
    ACall Try.prog n_laws_szIntSS [v, .int .i64 left] H (fun r H' => H' = H ∧ ∃ k : Int, r = .int .i64 k ∧ k ≤ left ∧ (0 ≤ k → xss.length ≤ 1048576 ∧ ∀ xs ∈ xss, xs.length ≤ 1048576)) := by
  refine ACall.of fun R hR => a_laws_szIntSS rfl ?_
  have hl := hv.len
  simp (maxSteps := 2000000) (disch := first | omega | assumption | exact idP rfl | exact idP (bL rfl) | (simp only [alloc_size, upd_size]; done) | (simp only [alloc_size, upd_size]; omega) | fail) only [go_sem, reduceIte, Nat.reduceEqDiff, hl]
  refine condV_dec (fun h => ?_) (fun h => ?_)
  · simp (maxSteps := 2000000) (disch := first | omega | assumption | exact idP rfl | exact idP (bL rfl) | (simp only [alloc_size, upd_size]; done) | (simp only [alloc_size, upd_size]; omega) | fail) only [go_sem, reduceIte, Nat.reduceEqDiff]
    exact hR _ _ ⟨rfl, -1, rfl, by omega, by omega⟩
  · simp (maxSteps := 2000000) (disch := first | omega | assumption | exact idP rfl | exact idP (bL rfl) | (simp only [alloc_size, upd_size]; done) | (simp only [alloc_size, upd_size]; omega) | fail) only [go_sem, reduceIte, Nat.reduceEqDiff]
    refine wp_loop_k (fun e H' => H' = H ∧ ∃ (i : Nat) (k : Int), i ≤ xss.length ∧ e 0 = v ∧ e 5 = .int .i64 (i : Int) ∧ e 1 = .int .i64 k ∧ 0 ≤ k ∧ k ≤ left ∧ ∀ j (hj : j < xss.length), j < i → xss[j].length ≤ 1048576) (fun e _ => ctr xss.length (e 5)) ?_ ?_
    · refine ⟨rfl, 0, left - xss.length, Nat.zero_le _, by simp (maxSteps := 2000000) (disch := first | omega | assumption | exact idP rfl | exact idP (bL rfl) | (simp only [alloc_size, upd_size]; done) | (simp only [alloc_size, upd_size]; omega) | fail) only [go_sem, reduceIte, Nat.reduceEqDiff], by simp (maxSteps := 2000000) (disch := first | omega | assumption | exact idP rfl | exact idP (bL rfl) | (simp only [alloc_size, upd_size]; done) | (simp only [alloc_size, upd_size]; omega) | fail) only [go_sem, reduceIte, Nat.reduceEqDiff]; rfl, by simp (maxSteps := 2000000) (disch := first | omega | assumption | exact idP rfl | exact idP (bL rfl) | (simp only [alloc_size, upd_size]; done) | (simp only [alloc_size, upd_size]; omega) | fail) only [go_sem, reduceIte, Nat.reduceEqDiff], by omega, by omega, fun j _ hj => by omega⟩
    · rintro e H1 ⟨rfl, i, k, hi, e0, e5, e1, hk0, hk1, hj⟩ K hK
      simp (maxSteps := 2000000) (disch := first | omega | assumption | exact idP rfl | exact idP (bL rfl) | (simp only [alloc_size, upd_size]; done) | (simp only [alloc_size, upd_size]; omega) | fail) only [go_sem, reduceIte, Nat.reduceEqDiff, e0, e5, e1, hl]
      refine condV_dec (fun h => ?_) (fun h => ?_)
      · obtain ⟨A, c, ex, kk, u, rfl, hg, w, hw, hu⟩ := hv.get (i := i) (by omega)
        injection hw with hw; subst hw
        simp (maxSteps := 2000000) (disch := first | omega | assumption | exact idP rfl | exact idP (bL rfl) | (simp only [alloc_size, upd_size]; done) | (simp only [alloc_size, upd_size]; omega) | fail) only [go_sem, reduceIte, Nat.reduceEqDiff, e0, e5, e1, hg]
        refine (s_szIntS hu (hx _ (List.getElem_mem _)) hk0 (by omega)).mono ?_
        rintro r H2 ⟨rfl, k2, rfl, hk2, hk3⟩
        simp (maxSteps := 2000000) (disch := first | omega | assumption | exact idP rfl | exact idP (bL rfl) | (simp only [alloc_size, upd_size]; done) | (simp only [alloc_size, upd_size]; omega) | fail) only [go_sem, reduceIte, Nat.reduceEqDiff]
        refine condV_dec (fun h4 => ?_) (fun h4 => ?_)
        · simp (maxSteps := 2000000) (disch := first | omega | assumption | exact idP rfl | exact idP (bL rfl) | (simp only [alloc_size, upd_size]; done) | (simp only [alloc_size, upd_size]; omega) | fail) only [go_sem, reduceIte, Nat.reduceEqDiff]
          exact hR _ _ ⟨rfl, -1, rfl, by omega, by omega⟩
        · simp (maxSteps := 2000000) (disch := first | omega | assumption | exact idP rfl | exact idP (bL rfl) | (simp only [alloc_size, upd_size]; done) | (simp only [alloc_size, upd_size]; omega) | fail) only [go_sem, reduceIte, Nat.reduceEqDiff, e0, e5]
          refine hK _ _ ⟨rfl, i + 1, k2, by omega, by simp (maxSteps := 2000000) (disch := first | omega | assumption | exact idP rfl | exact idP (bL rfl) | (simp only [alloc_size, upd_size]; done) | (simp only [alloc_size, upd_size]; omega) | fail) only [go_sem, reduceIte, Nat.reduceEqDiff, e0], by simp (maxSteps := 2000000) (disch := first | omega | assumption | exact idP rfl | exact idP (bL rfl) | (simp only [alloc_size, upd_size]; done) | (simp only [alloc_size, upd_size]; omega) | fail) only [go_sem, reduceIte, Nat.reduceEqDiff]; rfl, by simp (maxSteps := 2000000) (disch := first | omega | assumption | exact idP rfl | exact idP (bL rfl) | (simp only [alloc_size, upd_size]; done) | (simp only [alloc_size, upd_size]; omega) | fail) only [go_sem, reduceIte, Nat.reduceEqDiff], by omega, by omega, fun j hj1 hj2 => ?_⟩ (by simp (maxSteps := 2000000) (disch := first | omega | assumption | exact idP rfl | exact idP (bL rfl) | (simp only [alloc_size, upd_size]; done) | (simp only [alloc_size, upd_size]; omega) | fail) only [go_sem, reduceIte, Nat.reduceEqDiff, ctr_int, e5]; omega)
          by_cases hji : j = i
          · subst hji; exact hk3 (by omega)
          · exact hj j hj1 (by omega)
      · simp (maxSteps := 2000000) (disch := first | omega | assumption | exact idP rfl | exact idP (bL rfl) | (simp only [alloc_size, upd_size]; done) | (simp only [alloc_size, upd_size]; omega) | fail) only [go_sem, reduceIte, Nat.reduceEqDiff, e1]
        refine hR _ _ ⟨rfl, k, rfl, hk1, fun _ => ⟨by omega, fun xs hxs => ?_⟩⟩
        obtain ⟨j, hj1, rfl⟩ := List.getElem_of_mem hxs
        exact hj j hj1 (by omega)
end Go.M2

namespace Go.M2
open Go.Proofs
variable {H : Heap}
theorem zeros_len {z : List AV} {n : Nat} (h : z.length = 1) : (zeros z n).length = n := by
  induction n with
  | zero => rfl
  | succ n ih => simp only [zeros, List.length_append, h, ih]; omega
theorem s_toIntS {v : AV} {xs : List Int} (hv : InS 1 EI H v xs) (h0 : xs.length ≤ 1048576) :
    ACall Try.prog n_laws_toIntS [v] H (fun r H' => Own 1 H' r (xs.map (AV.int .i64)) ∧ Le H (base H' r) ∧ newer H.size r ∧ r = .sl (some (H.size, 0)) xs.length xs.length true 1) := by
  refine ACall.of fun R hR => a_laws_toIntS rfl ?_
  have hl := hv.len
  simp (maxSteps := 2000000) (disch := first | omega | assumption | exact idP rfl | exact idP (bL rfl) | (simp only [alloc_size, upd_size]; done) | (simp only [alloc_size, upd_size]; omega) | fail) only [go_sem, reduceIte, Nat.reduceEqDiff, hl]
  refine mks_own (by omega) (by simp [mostCells]; omega) (by simp [mostCells]; omega) ?_
  simp (maxSteps := 2000000) (disch := first | omega | assumption | exact idP rfl | exact idP (bL rfl) | (simp only [alloc_size, upd_size]; done) | (simp only [alloc_size, upd_size]; omega) | fail) only [go_sem, reduceIte, Nat.reduceEqDiff]
  refine wp_loop_k (fun e H' => ∃ (i : Nat) (l : List AV), i ≤ xs.length ∧ e 0 = v ∧ e 4 = .int .i64 (i : Int) ∧ e 3 = .sl (some (H.size, 0)) xs.length xs.length true 1 ∧ H.size < H'.size ∧ H'.blk H.size = .cells l true ∧ l.length = xs.length ∧
    (∀ j (hj : j < xs.length), j < i → l[j]? = some (.int .i64 xs[j])) ∧ Le H (H'.kill H.size)) (fun e _ => ctr xs.length (e 4)) ?_ ?_
  · exact ⟨0, _, Nat.zero_le _, by simp (maxSteps := 2000000) (disch := first | omega | assumption | exact idP rfl | exact idP (bL rfl) | (simp only [alloc_size, upd_size]; done) | (simp only [alloc_size, upd_size]; omega) | fail) only [go_sem, reduceIte, Nat.reduceEqDiff], by simp (maxSteps := 2000000) (disch := first | omega | assumption | exact idP rfl | exact idP (bL rfl) | (simp only [alloc_size, upd_size]; done) | (simp only [alloc_size, upd_size]; omega) | fail) only [go_sem, reduceIte, Nat.reduceEqDiff]; rfl, by simp (maxSteps := 2000000) (disch := first | omega | assumption | exact idP rfl | exact idP (bL rfl) | (simp only [alloc_size, upd_size]; done) | (simp only [alloc_size, upd_size]; omega) | fail) only [go_sem, reduceIte, Nat.reduceEqDiff]; rfl, Nat.lt_succ_self _, alloc_new _ _, zeros_len rfl, fun j _ h => by omega, (Le.alloc _ _).killFresh (Nat.le_refl _)⟩
  · rintro e H1 ⟨i, l, hi, e0, e4, e3, hb, hblk, hll, hj, hle⟩ K hK
    simp (maxSteps := 2000000) (disch := first | omega | assumption | exact idP rfl | exact idP (bL rfl) | (simp only [alloc_size, upd_size]; done) | (simp only [alloc_size, upd_size]; omega) | fail) only [go_sem, reduceIte, Nat.reduceEqDiff, e0, e4, e3, hl]
    refine condV_dec (fun h => ?_) (fun h => ?_)
    · obtain ⟨A, c, ex, kk, u, rfl, hg, hu⟩ := hv.get (i := i) (by omega)
      simp only [EI, List.cons.injEq, and_true] at hu
      subst hu
      have hg' := (hle.trans (Le.kill _ _)).get hg
      simp (maxSteps := 2000000) (disch := first | omega | assumption | exact idP rfl | exact idP (bL rfl) | (simp only [alloc_size, upd_size]; done) | (simp only [alloc_size, upd_size]; omega) | fail) only [go_sem, reduceIte, Nat.reduceEqDiff, e0, e4, e3, hg', rwCells_of hb hblk]
      refine hK _ _ ⟨i + 1, l.set i (.int .i64 xs[i]), by omega, by simp (maxSteps := 2000000) (disch := first | omega | assumption | exact idP rfl | exact idP (bL rfl) | (simp only [alloc_size, upd_size]; done) | (simp only [alloc_size, upd_size]; omega) | fail) only [go_sem, reduceIte, Nat.reduceEqDiff, e0], by simp (maxSteps := 2000000) (disch := first | omega | assumption | exact idP rfl | exact idP (bL rfl) | (simp only [alloc_size, upd_size]; done) | (simp only [alloc_size, upd_size]; omega) | fail) only [go_sem, reduceIte, Nat.reduceEqDiff]; rfl, by simp (maxSteps := 2000000) (disch := first | omega | assumption | exact idP rfl | exact idP (bL rfl) | (simp only [alloc_size, upd_size]; done) | (simp only [alloc_size, upd_size]; omega) | fail) only [go_sem, reduceIte, Nat.reduceEqDiff, e3], hb, upd_blk_same', by simpa using hll, fun j hj1 hj2 => ?_, ?_⟩ (by simp (maxSteps := 2000000) (disch := first | omega | assumption | exact idP rfl | exact idP (bL rfl) | (simp only [alloc_size, upd_size]; done) | (simp only [alloc_size, upd_size]; omega) | fail) only [go_sem, reduceIte, Nat.reduceEqDiff, ctr_int, e4]; omega)
      · by_cases hji : j = i
        · subst hji; rw [List.getElem?_set_self (by omega)]
        · rw [List.getElem?_set_ne (by omega)]; exact hj j hj1 (by omega)
      · refine ⟨hle.1, fun b hb' => ?_⟩
        have := hle.2 b hb'
        have hne : b ≠ H.size := by omega
        rw [kill_ne hne] at this ⊢
        simpa [Heap.upd, hne] using this
    · simp (maxSteps := 2000000) (disch := first | omega | assumption | exact idP rfl | exact idP (bL rfl) | (simp only [alloc_size, upd_size]; done) | (simp only [alloc_size, upd_size]; omega) | fail) only [go_sem, reduceIte, Nat.reduceEqDiff, e3]
      have hix : i = xs.length := by omega
      have hlx : l = xs.map (AV.int .i64) := by
        apply List.ext_getElem?
        intro j
        by_cases hj1 : j < xs.length
        · rw [hj j hj1 (by omega)]; simp [hj1]
        · rw [List.getElem?_eq_none (by omega), List.getElem?_eq_none (by simp; omega)]
      subst hlx
      refine hR _ _ ⟨⟨_, _, _, _, rfl, by simp, fun h => (nomatch h), fun b o e => ?_⟩, hle, Nat.le_refl _, rfl⟩
      cases e
      exact ⟨rfl, rfl, hb, hblk⟩
theorem oneA_isS {α : Type} {sz : Nat} {E : Heap → α → List AV → Prop} {H : Heap} {v : AV} {xs : List α} (h : IsS sz E H v xs) : oneA v = true ∧ cellsOf v = some [v] := by
  obtain ⟨A, c, ex, k, rfl, _⟩ := h
  exact ⟨rfl, rfl⟩
def Tree (H : Heap) (lo hi : Nat) (r : AV) (xss : List (List Int)) : Prop :=
  ∃ (b : Nat) (l : List AV), r = .sl (some (b, 0)) xss.length xss.length true 1 ∧ lo ≤ b ∧ b < hi ∧ b < H.size ∧ H.blk b = .cells l true ∧ l.length = xss.length ∧
    ∀ j (hj : j < xss.length), ∃ bj, l[j]? = some (.sl (some (bj, 0)) xss[j].length xss[j].length true 1) ∧ lo ≤ bj ∧ bj < hi ∧ bj ≠ b ∧ bj < H.size ∧ ∃ zs : List Int, zs.length = xss[j].length ∧ H.blk bj = .cells (zs.map (AV.int .i64)) true
theorem Tree.le {H H' : Heap} {lo hi lo' hi' : Nat} {r : AV} {xss : List (List Int)} (h : Tree H lo hi r xss) (hl : Le H H') (h1 : lo' ≤ lo) (h2 : hi ≤ hi') : Tree H' lo' hi' r xss := by
  obtain ⟨b, l, rfl, q1, q2, q3, q4, q5, q6⟩ := h
  refine ⟨b, l, rfl, by omega, by omega, Nat.lt_of_lt_of_le q3 hl.1, hl.cells q3 q4, q5, fun j hj => ?_⟩
  obtain ⟨bj, r1, r2, r3, r4, r5, zs, r6, r7⟩ := q6 j hj
  exact ⟨bj, r1, by omega, by omega, r4, Nat.lt_of_lt_of_le r5 hl.1, zs, r6, hl.cells r5 r7⟩
theorem s_toIntSS {v : AV} {xss : List (List Int)} (hv : InS 1 (EN 1 EI) H v xss) (h0 : xss.length ≤ 1048576) (hx : ∀ xs ∈ xss, xs.length ≤ 1048576) :
    ACall Try.prog n_laws_toIntSS [v] H (fun r H' => IsII (H'.later H.size) r xss ∧ Le H H' ∧ Tree (H'.later H.size) H.size H'.size r xss) := by
  refine ACall.of fun R hR => a_laws_toIntSS rfl ?_
  have hl := hv.len
  simp (maxSteps := 2000000) (disch := first | omega | assumption | exact idP rfl | exact idP (bL rfl) | (simp only [alloc_size, upd_size]; done) | (simp only [alloc_size, upd_size]; omega) | fail) only [go_sem, reduceIte, Nat.reduceEqDiff, hl]
  refine mks_own (by omega) (by simp [mostCells]; omega) (by simp [mostCells]; omega) ?_
  simp (maxSteps := 2000000) (disch := first | omega | assumption | exact idP rfl | exact idP (bL rfl) | (simp only [alloc_size, upd_size]; done) | (simp only [alloc_size, upd_size]; omega) | fail) only [go_sem, reduceIte, Nat.reduceEqDiff]
  refine wp_loop_k (fun e H' => ∃ (i : Nat) (l : List AV), i ≤ xss.length ∧ e 0 = v ∧ e 4 = .int .i64 (i : Int) ∧ e 3 = .sl (some (H.size, 0)) xss.length xss.length true 1 ∧ H.size < H'.size ∧ H'.blk H.size = .cells l true ∧ l.length = xss.length ∧
    (∀ j (hj : j < xss.length), j < i → ∃ u, l[j]? = some u ∧ IsI ((H'.kill H.size).later H.size) u xss[j] ∧ ∃ bj, u = .sl (some (bj, 0)) xss[j].length xss[j].length true 1 ∧ H.size < bj ∧ bj < H'.size ∧ H'.blk bj = .cells (xss[j].map (AV.int .i64)) true) ∧ Le H (H'.kill H.size)) (fun e _ => ctr xss.length (e 4)) ?_ ?_
  · exact ⟨0, _, Nat.zero_le _, by simp (maxSteps := 2000000) (disch := first | omega | assumption | exact idP rfl | exact idP (bL rfl) | (simp only [alloc_size, upd_size]; done) | (simp only [alloc_size, upd_size]; omega) | fail) only [go_sem, reduceIte, Nat.reduceEqDiff], by simp (maxSteps := 2000000) (disch := first | omega | assumption | exact idP rfl | exact idP (bL rfl) | (simp only [alloc_size, upd_size]; done) | (simp only [alloc_size, upd_size]; omega) | fail) only [go_sem, reduceIte, Nat.reduceEqDiff]; rfl, by simp (maxSteps := 2000000) (disch := first | omega | assumption | exact idP rfl | exact idP (bL rfl) | (simp only [alloc_size, upd_size]; done) | (simp only [alloc_size, upd_size]; omega) | fail) only [go_sem, reduceIte, Nat.reduceEqDiff]; rfl, Nat.lt_succ_self _, alloc_new _ _, zeros_len rfl, fun j _ h => by omega, (Le.alloc _ _).killFresh (Nat.le_refl _)⟩
  · rintro e H1 ⟨i, l, hi, e0, e4, e3, hb, hblk, hll, hj, hle⟩ K hK
    simp (maxSteps := 2000000) (disch := first | omega | assumption | exact idP rfl | exact idP (bL rfl) | (simp only [alloc_size, upd_size]; done) | (simp only [alloc_size, upd_size]; omega) | fail) only [go_sem, reduceIte, Nat.reduceEqDiff, e0, e4, e3, hl]
    refine condV_dec (fun h => ?_) (fun h => ?_)
    · obtain ⟨A, c, ex, kk, u, rfl, hg, w, hw, hu⟩ := hv.get (i := i) (by omega)
      injection hw with hw; subst hw
      have hle1 := hle.trans (Le.kill _ _)
      have hg' := hle1.get hg
      simp (maxSteps := 2000000) (disch := first | omega | assumption | exact idP rfl | exact idP (bL rfl) | (simp only [alloc_size, upd_size]; done) | (simp only [alloc_size, upd_size]; omega) | fail) only [go_sem, reduceIte, Nat.reduceEqDiff, e0, e4, e3, hg']
      refine (s_toIntS (hu.le mono_I hle1) (hx _ (List.getElem_mem _))).mono ?_
      rintro r H2 ⟨ho, hle2, hnew, hrf⟩
      have hle3 : Le H1 H2 := hle2.trans (base_le _ _)
      have hb2 : H.size < H2.size := Nat.lt_of_lt_of_le hb hle3.1
      have hblk2 := hle3.cells hb hblk
      have hri := (ho.later hnew).isI
      have ho1 := (oneA_isS hri).1
      simp (maxSteps := 2000000) (disch := first | omega | assumption | exact idP rfl | exact idP (bL rfl) | (simp only [alloc_size, upd_size]; done) | (simp only [alloc_size, upd_size]; omega) | fail) only [go_sem, reduceIte, Nat.reduceEqDiff, e0, e4, e3, rwCells_of hb2 hblk2, (oneA_isS hri).2]
      refine hK _ _ ⟨i + 1, l.set i r, by omega, by simp (maxSteps := 2000000) (disch := first | omega | assumption | exact idP rfl | exact idP (bL rfl) | (simp only [alloc_size, upd_size]; done) | (simp only [alloc_size, upd_size]; omega) | fail) only [go_sem, reduceIte, Nat.reduceEqDiff, e0], by simp (maxSteps := 2000000) (disch := first | omega | assumption | exact idP rfl | exact idP (bL rfl) | (simp only [alloc_size, upd_size]; done) | (simp only [alloc_size, upd_size]; omega) | fail) only [go_sem, reduceIte, Nat.reduceEqDiff]; rfl, by simp (maxSteps := 2000000) (disch := first | omega | assumption | exact idP rfl | exact idP (bL rfl) | (simp only [alloc_size, upd_size]; done) | (simp only [alloc_size, upd_size]; omega) | fail) only [go_sem, reduceIte, Nat.reduceEqDiff, e3], hb2, upd_blk_same', by simpa using hll, fun j hj1 hj2 => ?_, ?_⟩ (by simp (maxSteps := 2000000) (disch := first | omega | assumption | exact idP rfl | exact idP (bL rfl) | (simp only [alloc_size, upd_size]; done) | (simp only [alloc_size, upd_size]; omega) | fail) only [go_sem, reduceIte, Nat.reduceEqDiff, ctr_int, e4]; omega)
      · rw [upd_kill]
        by_cases hji : j = i
        · subst hji
          refine ⟨r, by rw [List.getElem?_set_self (by omega)], hri.le (later_kill' (by omega) (by omega)), H1.size, hrf, hb, ?_⟩
          obtain ⟨A2, n2, ex2, k2, e2, _, _, q⟩ := ho
          rw [hrf] at e2
          cases e2
          obtain ⟨_, _, q3, q4⟩ := q H1.size 0 rfl
          exact ⟨q3, by rw [upd_blk_ne (by omega)]; exact q4⟩
        · obtain ⟨u', h1, h2, bj, h3, h4, h5, h6⟩ := hj j hj1 (by omega)
          exact ⟨u', by rw [List.getElem?_set_ne (by omega)]; exact h1, h2.le (later_mono (hle3.kills _) (Nat.le_refl _)), bj, h3, h4, Nat.lt_of_lt_of_le h5 hle3.1, by rw [upd_blk_ne (by omega)]; exact hle3.cells h5 h6⟩
      · rw [upd_kill]; exact hle.trans (hle3.kills _)
    · simp (maxSteps := 2000000) (disch := first | omega | assumption | exact idP rfl | exact idP (bL rfl) | (simp only [alloc_size, upd_size]; done) | (simp only [alloc_size, upd_size]; omega) | fail) only [go_sem, reduceIte, Nat.reduceEqDiff, e3]
      refine hR _ _ ⟨isS_blk hb (by rw [later_blk (Nat.le_refl _)]; exact hblk) rfl fun j hj1 => ?_, hle.trans (Le.kill _ _), H.size, l, rfl, Nat.le_refl _, hb, hb, by rw [later_blk (Nat.le_refl _)]; exact hblk, hll, fun j hj1 => ?_⟩
      · obtain ⟨u', h1, h2, _⟩ := hj j hj1 (by omega)
        exact ⟨u', h1, u', rfl, h2.le (later_mono (Le.kill _ _) (Nat.le_refl _))⟩
      · obtain ⟨u', h1, h2, bj, rfl, h4, h5, h6⟩ := hj j hj1 (by omega)
        exact ⟨bj, h1, by omega, h5, by omega, h5, _, rfl, by rw [later_blk (by omega)]; exact h6⟩
def IsCl (H : Heap) (x : AV) (n : Int) (xss : List (List Int)) : Prop := ∃ v, x = .agg [.int .i64 n, v] ∧ IsII H v xss
theorem IsCl.le {H H' : Heap} {x : AV} {n : Int} {xss : List (List Int)} (h : IsCl H x n xss) (hl : Le H H') : IsCl H' x n xss := by
  obtain ⟨v, h1, h2⟩ := h
  exact ⟨v, h1, h2.le hl⟩
theorem s_toClauses {v : AV} {n : Int} {xss : List (List Int)} (hv : InS 1 (EN 1 EI) H v xss) (h0 : xss.length ≤ 1048576) (hx : ∀ xs ∈ xss, xs.length ≤ 1048576) :
    ACall Try.prog n_laws_toClauses [.agg [.int .i64 n, v]] H (fun r H' => IsCl (H'.later H.size) r n xss ∧ Le H H' ∧ ∃ w, r = .agg [.int .i64 n, w] ∧ Tree H' H.size H'.size w xss) := by
  refine ACall.of fun R hR => a_laws_toClauses rfl ?_
  simp (maxSteps := 2000000) (disch := first | omega | assumption | exact idP rfl | exact idP (bL rfl) | (simp only [alloc_size, upd_size]; done) | (simp only [alloc_size, upd_size]; omega) | fail) only [go_sem, reduceIte, Nat.reduceEqDiff]
  refine (s_toIntSS (hv.le (mono_N mono_I) ((Le.refl _).allocs.allocs.allocs.updFresh (by omega))) h0 hx).mono ?_
  · rintro r H2 ⟨hr, hle, htr⟩
    have w2 : H2.rwCells (H.size + 1 + 1) = some [.int .i64 n, .sl none 0 0 true 0] := hle.rwCells (by simp (maxSteps := 2000000) (disch := first | omega | assumption | exact idP rfl | exact idP (bL rfl) | (simp only [alloc_size, upd_size]; done) | (simp only [alloc_size, upd_size]; omega) | fail) only [go_sem, reduceIte, Nat.reduceEqDiff])
    have w1 : H2.rwCells (H.size + 1) = some [.int .i64 0, .sl none 0 0 true 0] := hle.rwCells (by simp (maxSteps := 2000000) (disch := first | omega | assumption | exact idP rfl | exact idP (bL rfl) | (simp only [alloc_size, upd_size]; done) | (simp only [alloc_size, upd_size]; omega) | fail) only [go_sem, reduceIte, Nat.reduceEqDiff])
    have hsz := hle.1
    simp only [alloc_size, upd_size] at hsz hr htr
    have ho1 := (oneA_isS hr).1
    simp (maxSteps := 2000000) (disch := first | omega | assumption | exact idP rfl | exact idP (bL rfl) | (simp only [alloc_size, upd_size]; done) | (simp only [alloc_size, upd_size]; omega) | fail) only [go_sem, reduceIte, Nat.reduceEqDiff, w1, w2, (oneA_isS hr).2]
    refine hR _ _ ⟨⟨r, rfl, ?_⟩, ?_, r, rfl, ?_⟩
    · exact hr.le ((later_upd (by omega) (Nat.le_refl _)).trans (later_upd (by omega) (by omega)))
    · exact (((((Le.refl _).allocs.allocs.allocs).updFresh (by omega)).trans hle).updFresh (by omega)).updFresh (by omega)
    · refine htr.le (Le.trans (b := Heap.later _ H.size) ?_ (later_le _ H.size)) (by omega) (Nat.le_refl _)
      exact (later_upd (by omega) (Nat.le_refl _)).trans (later_upd (by omega) (by omega))
end Go.M2

namespace Go.M2
open Go.Proofs
variable {H : Heap}
theorem s_szClauses {v : AV} {n left : Int} {xss : List (List Int)} (hv : InS 1 (EN 1 EI) H v xss) (h0 : xss.length ≤ 9223372036854775807) (hx : ∀ xs ∈ xss, xs.length ≤ 9223372036854775807) (h1 : 0 ≤ left) (h2 : left ≤ 1048576) :
    ACall Try.prog n_laws_szClauses [.agg [.int .i64 n, v], .int .i64 left] H (fun r H' => Le H H' ∧ ∃ k : Int, r = .int .i64 k ∧ k ≤ left ∧ (0 ≤ k → xss.length ≤ 1048576 ∧ ∀ xs ∈ xss, xs.length ≤ 1048576)) := by
  refine ACall.of fun R hR => a_laws_szClauses rfl ?_
  simp (maxSteps := 2000000) (disch := first | omega | assumption | exact idP rfl | exact idP (bL rfl) | (simp only [alloc_size, upd_size]; done) | (simp only [alloc_size, upd_size]; omega) | fail) only [go_sem, reduceIte, Nat.reduceEqDiff]
  refine (s_szIntSS (hv.le (mono_N mono_I) (Le.alloc _ _)) h0 hx h1 h2).mono ?_
  rintro r H2 ⟨rfl, k, rfl, hk1, hk2⟩
  simp (maxSteps := 2000000) (disch := first | omega | assumption | exact idP rfl | exact idP (bL rfl) | (simp only [alloc_size, upd_size]; done) | (simp only [alloc_size, upd_size]; omega) | fail) only [go_sem, reduceIte, Nat.reduceEqDiff]
  refine condV_dec (fun h => ?_) (fun h => ?_)
  · simp (maxSteps := 2000000) (disch := first | omega | assumption | exact idP rfl | exact idP (bL rfl) | (simp only [alloc_size, upd_size]; done) | (simp only [alloc_size, upd_size]; omega) | fail) only [go_sem, reduceIte, Nat.reduceEqDiff]
    exact hR _ _ ⟨Le.alloc _ _, -1, rfl, by omega, by omega⟩
  · simp (maxSteps := 2000000) (disch := first | omega | assumption | exact idP rfl | exact idP (bL rfl) | (simp only [alloc_size, upd_size]; done) | (simp only [alloc_size, upd_size]; omega) | fail) only [go_sem, reduceIte, Nat.reduceEqDiff]
    exact hR _ _ ⟨Le.alloc _ _, k, rfl, hk1, hk2⟩
theorem s_eqIntS {u v : AV} {xs : List Int} (hu : IsI H u xs) (hv : IsI H v xs) (h0 : xs.length ≤ 1048576) : ACall Try.prog n_laws_eqIntS [u, v] H (fun r H' => r = .bool true ∧ H' = H) := by
  refine ACall.of fun R hR => a_laws_eqIntS rfl ?_
  obtain ⟨A, c, ex, k, rfl, hr⟩ := hu.parts
  obtain ⟨A', c', ex', k', rfl, hr'⟩ := hv.parts
  simp (maxSteps := 2000000) (disch := first | omega | assumption | exact idP rfl | exact idP (bL rfl) | (simp only [alloc_size, upd_size]; done) | (simp only [alloc_size, upd_size]; omega) | fail) only [go_sem, reduceIte, Nat.reduceEqDiff, decide_true]
  refine wp_loop_k (fun e H' => H' = H ∧ ∃ (i : Nat), i ≤ xs.length ∧ e 0 = .sl A xs.length c ex k ∧ e 1 = .sl A' xs.length c' ex' k' ∧ e 5 = .int .i64 (i : Int)) (fun e _ => ctr xs.length (e 5)) ?_ ?_
  · exact ⟨rfl, 0, Nat.zero_le _, by simp (maxSteps := 2000000) (disch := first | omega | assumption | exact idP rfl | exact idP (bL rfl) | (simp only [alloc_size, upd_size]; done) | (simp only [alloc_size, upd_size]; omega) | fail) only [go_sem, reduceIte, Nat.reduceEqDiff], by simp (maxSteps := 2000000) (disch := first | omega | assumption | exact idP rfl | exact idP (bL rfl) | (simp only [alloc_size, upd_size]; done) | (simp only [alloc_size, upd_size]; omega) | fail) only [go_sem, reduceIte, Nat.reduceEqDiff], by simp (maxSteps := 2000000) (disch := first | omega | assumption | exact idP rfl | exact idP (bL rfl) | (simp only [alloc_size, upd_size]; done) | (simp only [alloc_size, upd_size]; omega) | fail) only [go_sem, reduceIte, Nat.reduceEqDiff]; rfl⟩
  · rintro e H1 ⟨rfl, i, hi, e0, e1, e5⟩ K hK
    simp (maxSteps := 2000000) (disch := first | omega | assumption | exact idP rfl | exact idP (bL rfl) | (simp only [alloc_size, upd_size]; done) | (simp only [alloc_size, upd_size]; omega) | fail) only [go_sem, reduceIte, Nat.reduceEqDiff, e0, e1, e5]
    refine condV_dec (fun h => ?_) (fun h => ?_)
    · have hg := hr i (by omega)
      have hg' := hr' i (by omega)
      rw [Nat.mul_one] at hg hg'
      simp (maxSteps := 2000000) (disch := first | omega | assumption | exact idP rfl | exact idP (bL rfl) | (simp only [alloc_size, upd_size]; done) | (simp only [alloc_size, upd_size]; omega) | fail) only [go_sem, reduceIte, Nat.reduceEqDiff, e0, e1, e5, hg, hg', decide_true]
      exact hK _ _ ⟨rfl, i + 1, by omega, by simp (maxSteps := 2000000) (disch := first | omega | assumption | exact idP rfl | exact idP (bL rfl) | (simp only [alloc_size, upd_size]; done) | (simp only [alloc_size, upd_size]; omega) | fail) only [go_sem, reduceIte, Nat.reduceEqDiff, e0], by simp (maxSteps := 2000000) (disch := first | omega | assumption | exact idP rfl | exact idP (bL rfl) | (simp only [alloc_size, upd_size]; done) | (simp only [alloc_size, upd_size]; omega) | fail) only [go_sem, reduceIte, Nat.reduceEqDiff, e1], by simp (maxSteps := 2000000) (disch := first | omega | assumption | exact idP rfl | exact idP (bL rfl) | (simp only [alloc_size, upd_size]; done) | (simp only [alloc_size, upd_size]; omega) | fail) only [go_sem, reduceIte, Nat.reduceEqDiff]; rfl⟩ (by simp (maxSteps := 2000000) (disch := first | omega | assumption | exact idP rfl | exact idP (bL rfl) | (simp only [alloc_size, upd_size]; done) | (simp only [alloc_size, upd_size]; omega) | fail) only [go_sem, reduceIte, Nat.reduceEqDiff, ctr_int, e5]; omega)
    · simp (maxSteps := 2000000) (disch := first | omega | assumption | exact idP rfl | exact idP (bL rfl) | (simp only [alloc_size, upd_size]; done) | (simp only [alloc_size, upd_size]; omega) | fail) only [go_sem, reduceIte, Nat.reduceEqDiff]
      exact hR _ _ ⟨rfl, rfl⟩
theorem s_eqIntSS {u v : AV} {xss : List (List Int)} (hu : IsII H u xss) (hv : IsII H v xss) (h0 : xss.length ≤ 1048576) (hx : ∀ xs ∈ xss, xs.length ≤ 1048576) : ACall Try.prog n_laws_eqIntSS [u, v] H (fun r H' => r = .bool true ∧ H' = H) := by
  refine ACall.of fun R hR => a_laws_eqIntSS rfl ?_
  obtain ⟨A, c, ex, k, rfl, hr⟩ := hu.parts
  obtain ⟨A', c', ex', k', rfl, hr'⟩ := hv.parts
  simp (maxSteps := 2000000) (disch := first | omega | assumption | exact idP rfl | exact idP (bL rfl) | (simp only [alloc_size, upd_size]; done) | (simp only [alloc_size, upd_size]; omega) | fail) only [go_sem, reduceIte, Nat.reduceEqDiff, decide_true]
  refine wp_loop_k (fun e H' => H' = H ∧ ∃ (i : Nat), i ≤ xss.length ∧ e 0 = .sl A xss.length c ex k ∧ e 1 = .sl A' xss.length c' ex' k' ∧ e 5 = .int .i64 (i : Int)) (fun e _ => ctr xss.length (e 5)) ?_ ?_
  · exact ⟨rfl, 0, Nat.zero_le _, by simp (maxSteps := 2000000) (disch := first | omega | assumption | exact idP rfl | exact idP (bL rfl) | (simp only [alloc_size, upd_size]; done) | (simp only [alloc_size, upd_size]; omega) | fail) only [go_sem, reduceIte, Nat.reduceEqDiff], by simp (maxSteps := 2000000) (disch := first | omega | assumption | exact idP rfl | exact idP (bL rfl) | (simp only [alloc_size, upd_size]; done) | (simp only [alloc_size, upd_size]; omega) | fail) only [go_sem, reduceIte, Nat.reduceEqDiff], by simp (maxSteps := 2000000) (disch := first | omega | assumption | exact idP rfl | exact idP (bL rfl) | (simp only [alloc_size, upd_size]; done) | (simp only [alloc_size, upd_size]; omega) | fail) only [go_sem, reduceIte, Nat.reduceEqDiff]; rfl⟩
  · rintro e H1 ⟨rfl, i, hi, e0, e1, e5⟩ K hK
    simp (maxSteps := 2000000) (disch := first | omega | assumption | exact idP rfl | exact idP (bL rfl) | (simp only [alloc_size, upd_size]; done) | (simp only [alloc_size, upd_size]; omega) | fail) only [go_sem, reduceIte, Nat.reduceEqDiff, e0, e1, e5]
    refine condV_dec (fun h => ?_) (fun h => ?_)
    · obtain ⟨a, hg, ha⟩ := hr i (by omega)
      obtain ⟨b, hg', hb⟩ := hr' i (by omega)
      rw [Nat.mul_one] at hg hg'
      simp (maxSteps := 2000000) (disch := first | omega | assumption | exact idP rfl | exact idP (bL rfl) | (simp only [alloc_size, upd_size]; done) | (simp only [alloc_size, upd_size]; omega) | fail) only [go_sem, reduceIte, Nat.reduceEqDiff, e0, e1, e5, hg, hg']
      refine (s_eqIntS ha hb (hx _ (List.getElem_mem _))).mono ?_
      rintro r H2 ⟨rfl, rfl⟩
      simp (maxSteps := 2000000) (disch := first | omega | assumption | exact idP rfl | exact idP (bL rfl) | (simp only [alloc_size, upd_size]; done) | (simp only [alloc_size, upd_size]; omega) | fail) only [go_sem, reduceIte, Nat.reduceEqDiff, e0, e1, e5]
      exact hK _ _ ⟨rfl, i + 1, by omega, by simp (maxSteps := 2000000) (disch := first | omega | assumption | exact idP rfl | exact idP (bL rfl) | (simp only [alloc_size, upd_size]; done) | (simp only [alloc_size, upd_size]; omega) | fail) only [go_sem, reduceIte, Nat.reduceEqDiff, e0], by simp (maxSteps := 2000000) (disch := first | omega | assumption | exact idP rfl | exact idP (bL rfl) | (simp only [alloc_size, upd_size]; done) | (simp only [alloc_size, upd_size]; omega) | fail) only [go_sem, reduceIte, Nat.reduceEqDiff, e1], by simp (maxSteps := 2000000) (disch := first | omega | assumption | exact idP rfl | exact idP (bL rfl) | (simp only [alloc_size, upd_size]; done) | (simp only [alloc_size, upd_size]; omega) | fail) only [go_sem, reduceIte, Nat.reduceEqDiff]; rfl⟩ (by simp (maxSteps := 2000000) (disch := first | omega | assumption | exact idP rfl | exact idP (bL rfl) | (simp only [alloc_size, upd_size]; done) | (simp only [alloc_size, upd_size]; omega) | fail) only [go_sem, reduceIte, Nat.reduceEqDiff, ctr_int, e5]; omega)
    · simp (maxSteps := 2000000) (disch := first | omega | assumption | exact idP rfl | exact idP (bL rfl) | (simp only [alloc_size, upd_size]; done) | (simp only [alloc_size, upd_size]; omega) | fail) only [go_sem, reduceIte, Nat.reduceEqDiff]
      exact hR _ _ ⟨rfl, rfl⟩
theorem s_eqClauses {x y : AV} {n : Int} {xss : List (List Int)} (hx : IsCl H x n xss) (hy : IsCl H y n xss) (h0 : xss.length ≤ 1048576) (hl : ∀ xs ∈ xss, xs.length ≤ 1048576) : ACall Try.prog n_laws_eqClauses [x, y] H (fun r H' => r = .bool true ∧ Le H H') := by
  refine ACall.of fun R hR => a_laws_eqClauses rfl ?_
  obtain ⟨u, rfl, hu⟩ := hx
  obtain ⟨v, rfl, hv⟩ := hy
  simp (maxSteps := 2000000) (disch := first | omega | assumption | exact idP rfl | exact idP (bL rfl) | (simp only [alloc_size, upd_size]; done) | (simp only [alloc_size, upd_size]; omega) | fail) only [go_sem, reduceIte, Nat.reduceEqDiff, decide_true]
  refine (s_eqIntSS (hu.le (Le.refl _).allocs.allocs) (hv.le (Le.refl _).allocs.allocs) h0 hl).mono ?_
  rintro r H2 ⟨rfl, rfl⟩
  simp (maxSteps := 2000000) (disch := first | omega | assumption | exact idP rfl | exact idP (bL rfl) | (simp only [alloc_size, upd_size]; done) | (simp only [alloc_size, upd_size]; omega) | fail) only [go_sem, reduceIte, Nat.reduceEqDiff]
  exact hR _ _ ⟨rfl, (Le.refl _).allocs.allocs⟩
end Go.M2

namespace Go.M2
open Go.Proofs
variable {H : Heap}
def okAt (atoms : Int) (xs : List Int) (j : Nat) (h : j < xs.length) : Prop := litOk xs[j] atoms = true ∧ (0 < j → xs[j - 1].natAbs < xs[j].natAbs)
def ClOk (atoms : Int) (xs : List Int) : Prop := ∀ j (h : j < xs.length), okAt atoms xs j h
theorem litOk_iff {n atoms : Int} : litOk n atoms = true ↔ n ≠ 0 ∧ -atoms ≤ n ∧ n ≤ atoms := by simp [litOk]
theorem s_specClauseValid {v : AV} {xs : List Int} {atoms : Int} (hv : IsI H v xs) (hl : xs.length ≤ 1048576) (h0 : 0 ≤ atoms) (h1 : atoms ≤ 700) :
    ACall Try.prog n_spec_ClauseValid [v, .int .i64 atoms] H (fun r H' => H' = H ∧ ∃ b, r = .bool b ∧ (b = true ↔ ClOk atoms xs)) := by
  refine ACall.of fun R hR => a_spec_ClauseValid rfl ?_
  obtain ⟨A, c, ex, k, rfl, hr⟩ := hv.parts
  simp (maxSteps := 2000000) (disch := first | omega | assumption | exact idP rfl | exact idP (bL rfl) | (simp only [alloc_size, upd_size]; done) | (simp only [alloc_size, upd_size]; omega) | fail) only [go_sem, reduceIte, Nat.reduceEqDiff]
  refine wp_loop_k (fun e H' => H' = H ∧ ∃ (i : Nat), i ≤ xs.length ∧ e 0 = .sl A xs.length c ex k ∧ e 1 = .int .i64 atoms ∧ e 5 = .int .i64 (i : Int) ∧ ∀ j (h : j < xs.length), j < i → okAt atoms xs j h) (fun e _ => ctr xs.length (e 5)) ?_ ?_
  · exact ⟨rfl, 0, Nat.zero_le _, by simp (maxSteps := 2000000) (disch := first | omega | assumption | exact idP rfl | exact idP (bL rfl) | (simp only [alloc_size, upd_size]; done) | (simp only [alloc_size, upd_size]; omega) | fail) only [go_sem, reduceIte, Nat.reduceEqDiff], by simp (maxSteps := 2000000) (disch := first | omega | assumption | exact idP rfl | exact idP (bL rfl) | (simp only [alloc_size, upd_size]; done) | (simp only [alloc_size, upd_size]; omega) | fail) only [go_sem, reduceIte, Nat.reduceEqDiff], by simp (maxSteps := 2000000) (disch := first | omega | assumption | exact idP rfl | exact idP (bL rfl) | (simp only [alloc_size, upd_size]; done) | (simp only [alloc_size, upd_size]; omega) | fail) only [go_sem, reduceIte, Nat.reduceEqDiff]; rfl, fun j _ h => by omega⟩
  · rintro e H1 ⟨rfl, i, hi, e0, e1, e5, hj⟩ K hK
    simp (maxSteps := 2000000) (disch := first | omega | assumption | exact idP rfl | exact idP (bL rfl) | (simp only [alloc_size, upd_size]; done) | (simp only [alloc_size, upd_size]; omega) | fail) only [go_sem, reduceIte, Nat.reduceEqDiff, e0, e1, e5]
    refine condV_dec (fun h => ?_) (fun h => ?_)
    · have hi' : i < xs.length := by omega
      have hg := hr i hi'
      rw [Nat.mul_one] at hg
      simp (maxSteps := 2000000) (disch := first | omega | assumption | exact idP rfl | exact idP (bL rfl) | (simp only [alloc_size, upd_size]; done) | (simp only [alloc_size, upd_size]; omega) | fail) only [go_sem, reduceIte, Nat.reduceEqDiff, e0, e1, e5, hg]
      refine (s_l11Lit h0 h1).mono ?_
      rintro r H2 ⟨rfl, rfl⟩
      cases hlit : litOk xs[i] atoms with
      | false =>
        simp (maxSteps := 2000000) (disch := first | omega | assumption | exact idP rfl | exact idP (bL rfl) | (simp only [alloc_size, upd_size]; done) | (simp only [alloc_size, upd_size]; omega) | fail) only [go_sem, reduceIte, Nat.reduceEqDiff]
        refine hR _ _ ⟨rfl, false, rfl, ?_⟩
        simp only [Bool.false_eq_true, false_iff]
        intro hc
        have := (hc i hi').1
        rw [hlit] at this; cases this
      | true =>
        have hb := litOk_iff.1 hlit
        by_cases hi0 : i = 0
        · have hneg : ¬ (0 : Int) < (i : Int) := by omega
          simp (maxSteps := 2000000) (disch := first | omega | assumption | exact idP rfl | exact idP (bL rfl) | (simp only [alloc_size, upd_size]; done) | (simp only [alloc_size, upd_size]; omega) | fail) only [go_sem, reduceIte, Nat.reduceEqDiff, e0, e1, e5, hneg]
          refine hK _ _ ⟨rfl, i + 1, by omega, by simp (maxSteps := 2000000) (disch := first | omega | assumption | exact idP rfl | exact idP (bL rfl) | (simp only [alloc_size, upd_size]; done) | (simp only [alloc_size, upd_size]; omega) | fail) only [go_sem, reduceIte, Nat.reduceEqDiff, e0], by simp (maxSteps := 2000000) (disch := first | omega | assumption | exact idP rfl | exact idP (bL rfl) | (simp only [alloc_size, upd_size]; done) | (simp only [alloc_size, upd_size]; omega) | fail) only [go_sem, reduceIte, Nat.reduceEqDiff, e1], by simp (maxSteps := 2000000) (disch := first | omega | assumption | exact idP rfl | exact idP (bL rfl) | (simp only [alloc_size, upd_size]; done) | (simp only [alloc_size, upd_size]; omega) | fail) only [go_sem, reduceIte, Nat.reduceEqDiff]; rfl, fun j hj1 hj2 => ?_⟩ (by simp (maxSteps := 2000000) (disch := first | omega | assumption | exact idP rfl | exact idP (bL rfl) | (simp only [alloc_size, upd_size]; done) | (simp only [alloc_size, upd_size]; omega) | fail) only [go_sem, reduceIte, Nat.reduceEqDiff, ctr_int, e5]; omega)
          obtain rfl : j = i := by omega
          exact ⟨hlit, fun h => by omega⟩
        · have hpos : (0 : Int) < (i : Int) := by omega
          have hsub : ((i : Int) - 1).toNat = i - 1 := by omega
          have hg2 := hr (i - 1) (by omega)
          rw [Nat.mul_one] at hg2
          have hb2 := litOk_iff.1 (hj (i - 1) (by omega) (by omega)).1
          simp (maxSteps := 2000000) (disch := first | omega | assumption | exact idP rfl | exact idP (bL rfl) | (simp only [alloc_size, upd_size]; done) | (simp only [alloc_size, upd_size]; omega) | fail) only [go_sem, reduceIte, Nat.reduceEqDiff, e0, e1, e5, hpos, hg, hsub, hg2]
          refine (s_l11Abs (n := xs[i]) (by omega) (by omega)).mono ?_
          rintro r H2 ⟨rfl, rfl⟩
          simp (maxSteps := 2000000) (disch := first | omega | assumption | exact idP rfl | exact idP (bL rfl) | (simp only [alloc_size, upd_size]; done) | (simp only [alloc_size, upd_size]; omega) | fail) only [go_sem, reduceIte, Nat.reduceEqDiff, e0, e1, e5, hsub, hg2]
          refine (s_l11Abs (n := xs[i - 1]) (by omega) (by omega)).mono ?_
          rintro r H2 ⟨rfl, rfl⟩
          simp (maxSteps := 2000000) (disch := first | omega | assumption | exact idP rfl | exact idP (bL rfl) | (simp only [alloc_size, upd_size]; done) | (simp only [alloc_size, upd_size]; omega) | fail) only [go_sem, reduceIte, Nat.reduceEqDiff, e0, e1, e5]
          refine condV_dec (fun h3 => ?_) (fun h3 => ?_)
          · simp (maxSteps := 2000000) (disch := first | omega | assumption | exact idP rfl | exact idP (bL rfl) | (simp only [alloc_size, upd_size]; done) | (simp only [alloc_size, upd_size]; omega) | fail) only [go_sem, reduceIte, Nat.reduceEqDiff]
            refine hR _ _ ⟨rfl, false, rfl, ?_⟩
            simp only [Bool.false_eq_true, false_iff]
            intro hc
            have := (hc i hi').2 (by omega)
            omega
          · simp (maxSteps := 2000000) (disch := first | omega | assumption | exact idP rfl | exact idP (bL rfl) | (simp only [alloc_size, upd_size]; done) | (simp only [alloc_size, upd_size]; omega) | fail) only [go_sem, reduceIte, Nat.reduceEqDiff, e0, e1, e5]
            refine hK _ _ ⟨rfl, i + 1, by omega, by simp (maxSteps := 2000000) (disch := first | omega | assumption | exact idP rfl | exact idP (bL rfl) | (simp only [alloc_size, upd_size]; done) | (simp only [alloc_size, upd_size]; omega) | fail) only [go_sem, reduceIte, Nat.reduceEqDiff, e0], by simp (maxSteps := 2000000) (disch := first | omega | assumption | exact idP rfl | exact idP (bL rfl) | (simp only [alloc_size, upd_size]; done) | (simp only [alloc_size, upd_size]; omega) | fail) only [go_sem, reduceIte, Nat.reduceEqDiff, e1], by simp (maxSteps := 2000000) (disch := first | omega | assumption | exact idP rfl | exact idP (bL rfl) | (simp only [alloc_size, upd_size]; done) | (simp only [alloc_size, upd_size]; omega) | fail) only [go_sem, reduceIte, Nat.reduceEqDiff]; rfl, fun j hj1 hj2 => ?_⟩ (by simp (maxSteps := 2000000) (disch := first | omega | assumption | exact idP rfl | exact idP (bL rfl) | (simp only [alloc_size, upd_size]; done) | (simp only [alloc_size, upd_size]; omega) | fail) only [go_sem, reduceIte, Nat.reduceEqDiff, ctr_int, e5]; omega)
            by_cases hji : j = i
            · subst hji; exact ⟨hlit, fun _ => by omega⟩
            · exact hj j hj1 (by omega)
    · simp (maxSteps := 2000000) (disch := first | omega | assumption | exact idP rfl | exact idP (bL rfl) | (simp only [alloc_size, upd_size]; done) | (simp only [alloc_size, upd_size]; omega) | fail) only [go_sem, reduceIte, Nat.reduceEqDiff, e1]
      refine s_l1In.mono ?_
      rintro r H2 ⟨rfl, rfl⟩
      simp (maxSteps := 2000000) (disch := first | omega | assumption | exact idP rfl | exact idP (bL rfl) | (simp only [alloc_size, upd_size]; done) | (simp only [alloc_size, upd_size]; omega) | fail) only [go_sem, reduceIte, Nat.reduceEqDiff]
      refine hR _ _ ⟨rfl, _, rfl, ?_⟩
      simp only [decide_eq_true_eq]
      exact ⟨fun _ j hj1 => hj j hj1 (by omega), fun _ => by omega⟩
end Go.M2

namespace Go.M2
open Go.Proofs
variable {H : Heap}
theorem s_implClauseValid {v : AV} {xs : List Int} {atoms : Int} (hv : IsI H v xs) (hl : xs.length ≤ 1048576) (h0 : 0 ≤ atoms) (h1 : atoms ≤ 700) :
    ACall Try.prog n_impl_ClauseValid [v, .int .i64 atoms] H (fun r H' => H' = H ∧ ∃ b, r = .bool b ∧ (b = true ↔ ClOk atoms xs)) := by
  refine ACall.of fun R hR => a_impl_ClauseValid rfl ?_
  obtain ⟨A, c, ex, k, rfl, hr⟩ := hv.parts
  simp (maxSteps := 2000000) (disch := first | omega | assumption | exact idP rfl | exact idP (bL rfl) | (simp only [alloc_size, upd_size]; done) | (simp only [alloc_size, upd_size]; omega) | fail) only [go_sem, reduceIte, Nat.reduceEqDiff]
  refine s_in.mono ?_
  rintro r H1 ⟨rfl, rfl⟩
  have ha : (0 : Int) ≤ atoms ∧ atoms ≤ 700 := ⟨h0, h1⟩
  simp (maxSteps := 2000000) (disch := first | omega | assumption | exact idP rfl | exact idP (bL rfl) | (simp only [alloc_size, upd_size]; done) | (simp only [alloc_size, upd_size]; omega) | fail) only [go_sem, reduceIte, Nat.reduceEqDiff, ha]
  refine wp_loop_k (fun e H' => H' = H1 ∧ ∃ (i : Nat), i ≤ xs.length ∧ e 0 = .sl A xs.length c ex k ∧ e 10 = .sl A xs.length c ex k ∧ e 11 = .int .i64 (xs.length : Int) ∧ e 1 = .int .i64 atoms ∧ e 12 = .int .i64 (i : Int) ∧ ∀ j (h : j < xs.length), j < i → okAt atoms xs j h) (fun e _ => ctr xs.length (e 12)) ?_ ?_
  · exact ⟨rfl, 0, Nat.zero_le _, by simp (maxSteps := 2000000) (disch := first | omega | assumption | exact idP rfl | exact idP (bL rfl) | (simp only [alloc_size, upd_size]; done) | (simp only [alloc_size, upd_size]; omega) | fail) only [go_sem, reduceIte, Nat.reduceEqDiff], by simp (maxSteps := 2000000) (disch := first | omega | assumption | exact idP rfl | exact idP (bL rfl) | (simp only [alloc_size, upd_size]; done) | (simp only [alloc_size, upd_size]; omega) | fail) only [go_sem, reduceIte, Nat.reduceEqDiff], by simp (maxSteps := 2000000) (disch := first | omega | assumption | exact idP rfl | exact idP (bL rfl) | (simp only [alloc_size, upd_size]; done) | (simp only [alloc_size, upd_size]; omega) | fail) only [go_sem, reduceIte, Nat.reduceEqDiff], by simp (maxSteps := 2000000) (disch := first | omega | assumption | exact idP rfl | exact idP (bL rfl) | (simp only [alloc_size, upd_size]; done) | (simp only [alloc_size, upd_size]; omega) | fail) only [go_sem, reduceIte, Nat.reduceEqDiff], by simp (maxSteps := 2000000) (disch := first | omega | assumption | exact idP rfl | exact idP (bL rfl) | (simp only [alloc_size, upd_size]; done) | (simp only [alloc_size, upd_size]; omega) | fail) only [go_sem, reduceIte, Nat.reduceEqDiff]; rfl, fun j _ h => by omega⟩
  · rintro e H2 ⟨rfl, i, hi, e0, e10, e11, e1, e12, hj⟩ K hK
    simp (maxSteps := 2000000) (disch := first | omega | assumption | exact idP rfl | exact idP (bL rfl) | (simp only [alloc_size, upd_size]; done) | (simp only [alloc_size, upd_size]; omega) | fail) only [go_sem, reduceIte, Nat.reduceEqDiff, e0, e10, e11, e12, e1]
    refine condV_dec (fun h => ?_) (fun h => ?_)
    · have hi' : i < xs.length := by omega
      have hg := hr i hi'
      rw [Nat.mul_one] at hg
      simp (maxSteps := 2000000) (disch := first | omega | assumption | exact idP rfl | exact idP (bL rfl) | (simp only [alloc_size, upd_size]; done) | (simp only [alloc_size, upd_size]; omega) | fail) only [go_sem, reduceIte, Nat.reduceEqDiff, e0, e10, e11, e12, e1, hg]
      refine s_in.mono ?_
      rintro r H3 ⟨rfl, rfl⟩
      have bad : ∀ b : Bool, b = false → litOk xs[i] atoms = false → H3 = H3 ∧ ∃ b', AV.bool b = .bool b' ∧ (b' = true ↔ ClOk atoms xs) := by
        rintro b rfl hlit
        refine ⟨rfl, false, rfl, ?_⟩
        simp only [Bool.false_eq_true, false_iff]
        intro hc
        have := (hc i hi').1
        rw [hlit] at this; cases this
      by_cases hin : 0 - atoms ≤ xs[i] ∧ xs[i] ≤ atoms
      · simp (maxSteps := 2000000) (disch := first | omega | assumption | exact idP rfl | exact idP (bL rfl) | (simp only [alloc_size, upd_size]; done) | (simp only [alloc_size, upd_size]; omega) | fail) only [go_sem, reduceIte, Nat.reduceEqDiff, hin]
        by_cases hz : xs[i] = 0
        · simp (maxSteps := 2000000) (disch := first | omega | assumption | exact idP rfl | exact idP (bL rfl) | (simp only [alloc_size, upd_size]; done) | (simp only [alloc_size, upd_size]; omega) | fail) only [go_sem, reduceIte, Nat.reduceEqDiff, hz, hin]
          refine hR _ _ (bad false rfl ?_)
          simp [litOk, hz]
        · have hlit : litOk xs[i] atoms = true := litOk_iff.2 ⟨hz, by omega, hin.2⟩
          by_cases hi0 : i = 0
          · have hneg : ¬ (0 : Int) < (i : Int) := by omega
            simp (maxSteps := 2000000) (disch := first | omega | assumption | exact idP rfl | exact idP (bL rfl) | (simp only [alloc_size, upd_size]; done) | (simp only [alloc_size, upd_size]; omega) | fail) only [go_sem, reduceIte, Nat.reduceEqDiff, e0, e10, e11, e12, e1, hz, hneg]
            refine hK _ _ ⟨rfl, i + 1, by omega, by simp (maxSteps := 2000000) (disch := first | omega | assumption | exact idP rfl | exact idP (bL rfl) | (simp only [alloc_size, upd_size]; done) | (simp only [alloc_size, upd_size]; omega) | fail) only [go_sem, reduceIte, Nat.reduceEqDiff, e0], by simp (maxSteps := 2000000) (disch := first | omega | assumption | exact idP rfl | exact idP (bL rfl) | (simp only [alloc_size, upd_size]; done) | (simp only [alloc_size, upd_size]; omega) | fail) only [go_sem, reduceIte, Nat.reduceEqDiff, e10], by simp (maxSteps := 2000000) (disch := first | omega | assumption | exact idP rfl | exact idP (bL rfl) | (simp only [alloc_size, upd_size]; done) | (simp only [alloc_size, upd_size]; omega) | fail) only [go_sem, reduceIte, Nat.reduceEqDiff, e11], by simp (maxSteps := 2000000) (disch := first | omega | assumption | exact idP rfl | exact idP (bL rfl) | (simp only [alloc_size, upd_size]; done) | (simp only [alloc_size, upd_size]; omega) | fail) only [go_sem, reduceIte, Nat.reduceEqDiff, e1], by simp (maxSteps := 2000000) (disch := first | omega | assumption | exact idP rfl | exact idP (bL rfl) | (simp only [alloc_size, upd_size]; done) | (simp only [alloc_size, upd_size]; omega) | fail) only [go_sem, reduceIte, Nat.reduceEqDiff]; rfl, fun j hj1 hj2 => ?_⟩ (by simp (maxSteps := 2000000) (disch := first | omega | assumption | exact idP rfl | exact idP (bL rfl) | (simp only [alloc_size, upd_size]; done) | (simp only [alloc_size, upd_size]; omega) | fail) only [go_sem, reduceIte, Nat.reduceEqDiff, ctr_int, e12]; omega)
            obtain rfl : j = i := by omega
            exact ⟨hlit, fun h => by omega⟩
          · have hpos : (0 : Int) < (i : Int) := by omega
            have hsub : ((i : Int) - 1).toNat = i - 1 := by omega
            have hg2 := hr (i - 1) (by omega)
            rw [Nat.mul_one] at hg2
            have hb2 := litOk_iff.1 (hj (i - 1) (by omega) (by omega)).1
            simp (maxSteps := 2000000) (disch := first | omega | assumption | exact idP rfl | exact idP (bL rfl) | (simp only [alloc_size, upd_size]; done) | (simp only [alloc_size, upd_size]; omega) | fail) only [go_sem, reduceIte, Nat.reduceEqDiff, e0, e10, e11, e12, e1, hz, hpos, hsub, hg2]
            refine (s_atomOf (n := xs[i - 1]) (by omega) (by omega)).mono ?_
            rintro r H4 ⟨rfl, rfl⟩
            simp (maxSteps := 2000000) (disch := first | omega | assumption | exact idP rfl | exact idP (bL rfl) | (simp only [alloc_size, upd_size]; done) | (simp only [alloc_size, upd_size]; omega) | fail) only [go_sem, reduceIte, Nat.reduceEqDiff, e0, e10, e11, e12, e1]
            refine (s_atomOf (n := xs[i]) (by omega) (by omega)).mono ?_
            rintro r H5 ⟨rfl, rfl⟩
            simp (maxSteps := 2000000) (disch := first | omega | assumption | exact idP rfl | exact idP (bL rfl) | (simp only [alloc_size, upd_size]; done) | (simp only [alloc_size, upd_size]; omega) | fail) only [go_sem, reduceIte, Nat.reduceEqDiff, e0, e10, e11, e12, e1]
            refine condV_dec (fun h3 => ?_) (fun h3 => ?_)
            · simp (maxSteps := 2000000) (disch := first | omega | assumption | exact idP rfl | exact idP (bL rfl) | (simp only [alloc_size, upd_size]; done) | (simp only [alloc_size, upd_size]; omega) | fail) only [go_sem, reduceIte, Nat.reduceEqDiff]
              refine hR _ _ ⟨rfl, false, rfl, ?_⟩
              simp only [Bool.false_eq_true, false_iff]
              intro hc
              have := (hc i hi').2 (by omega)
              omega
            · simp (maxSteps := 2000000) (disch := first | omega | assumption | exact idP rfl | exact idP (bL rfl) | (simp only [alloc_size, upd_size]; done) | (simp only [alloc_size, upd_size]; omega) | fail) only [go_sem, reduceIte, Nat.reduceEqDiff, e0, e10, e11, e12, e1]
              refine hK _ _ ⟨rfl, i + 1, by omega, by simp (maxSteps := 2000000) (disch := first | omega | assumption | exact idP rfl | exact idP (bL rfl) | (simp only [alloc_size, upd_size]; done) | (simp only [alloc_size, upd_size]; omega) | fail) only [go_sem, reduceIte, Nat.reduceEqDiff, e0], by simp (maxSteps := 2000000) (disch := first | omega | assumption | exact idP rfl | exact idP (bL rfl) | (simp only [alloc_size, upd_size]; done) | (simp only [alloc_size, upd_size]; omega) | fail) only [go_sem, reduceIte, Nat.reduceEqDiff, e10], by simp (maxSteps := 2000000) (disch := first | omega | assumption | exact idP rfl | exact idP (bL rfl) | (simp only [alloc_size, upd_size]; done) | (simp only [alloc_size, upd_size]; omega) | fail) only [go_sem, reduceIte, Nat.reduceEqDiff, e11], by simp (maxSteps := 2000000) (disch := first | omega | assumption | exact idP rfl | exact idP (bL rfl) | (simp only [alloc_size, upd_size]; done) | (simp only [alloc_size, upd_size]; omega) | fail) only [go_sem, reduceIte, Nat.reduceEqDiff, e1], by simp (maxSteps := 2000000) (disch := first | omega | assumption | exact idP rfl | exact idP (bL rfl) | (simp only [alloc_size, upd_size]; done) | (simp only [alloc_size, upd_size]; omega) | fail) only [go_sem, reduceIte, Nat.reduceEqDiff]; rfl, fun j hj1 hj2 => ?_⟩ (by simp (maxSteps := 2000000) (disch := first | omega | assumption | exact idP rfl | exact idP (bL rfl) | (simp only [alloc_size, upd_size]; done) | (simp only [alloc_size, upd_size]; omega) | fail) only [go_sem, reduceIte, Nat.reduceEqDiff, ctr_int, e12]; omega)
              by_cases hji : j = i
              · subst hji; exact ⟨hlit, fun _ => by omega⟩
              · exact hj j hj1 (by omega)
      · simp (maxSteps := 2000000) (disch := first | omega | assumption | exact idP rfl | exact idP (bL rfl) | (simp only [alloc_size, upd_size]; done) | (simp only [alloc_size, upd_size]; omega) | fail) only [go_sem, reduceIte, Nat.reduceEqDiff, hin]
        refine hR _ _ (bad false rfl ?_)
        cases hl : litOk xs[i] atoms with
        | false => rfl
        | true => have := (litOk_iff.1 hl).2; exact absurd ⟨by omega, this.2⟩ hin
    · simp (maxSteps := 2000000) (disch := first | omega | assumption | exact idP rfl | exact idP (bL rfl) | (simp only [alloc_size, upd_size]; done) | (simp only [alloc_size, upd_size]; omega) | fail) only [go_sem, reduceIte, Nat.reduceEqDiff]
      exact hR _ _ ⟨rfl, true, rfl, by simp only [true_iff]; exact fun j hj1 => hj j hj1 (by omega)⟩
structure ClsOk (n : Int) (xss : List (List Int)) : Prop where
  lo : 0 ≤ n
  hi : n ≤ 700
  few : xss.length ≤ 2500
  all : ∀ xs ∈ xss, ClOk n xs
theorem s_specClausesValid {x : AV} {n : Int} {xss : List (List Int)} (hx : IsCl H x n xss) (h0 : xss.length ≤ 1048576) (hl : ∀ xs ∈ xss, xs.length ≤ 1048576) :
    ACall Try.prog n_spec_ClausesValid [x] H (fun r H' => Le H H' ∧ ∃ b, r = .bool b ∧ (b = true ↔ ClsOk n xss)) := by
  refine ACall.of fun R hR => a_spec_ClausesValid rfl ?_
  obtain ⟨v, rfl, hv⟩ := hx
  obtain ⟨A, c, ex, k, rfl, hr⟩ := hv.parts
  simp (maxSteps := 2000000) (disch := first | omega | assumption | exact idP rfl | exact idP (bL rfl) | (simp only [alloc_size, upd_size]; done) | (simp only [alloc_size, upd_size]; omega) | fail) only [go_sem, reduceIte, Nat.reduceEqDiff]
  refine s_l1In.mono ?_
  rintro r H1 ⟨rfl, rfl⟩
  have no : ¬ ClsOk n xss → R (.bool false) (H.alloc [.int .i64 n, .sl A xss.length c ex k]) := fun h => hR _ _ ⟨Le.alloc _ _, false, rfl, by simp only [Bool.false_eq_true, false_iff]; exact h⟩
  by_cases hin : (0 : Int) ≤ n ∧ n ≤ 700
  · simp (maxSteps := 2000000) (disch := first | omega | assumption | exact idP rfl | exact idP (bL rfl) | (simp only [alloc_size, upd_size]; done) | (simp only [alloc_size, upd_size]; omega) | fail) only [go_sem, reduceIte, Nat.reduceEqDiff, hin]
    refine condV_dec (fun h => ?_) (fun h => ?_)
    · simp (maxSteps := 2000000) (disch := first | omega | assumption | exact idP rfl | exact idP (bL rfl) | (simp only [alloc_size, upd_size]; done) | (simp only [alloc_size, upd_size]; omega) | fail) only [go_sem, reduceIte, Nat.reduceEqDiff]
      exact no fun hc => by have := hc.few; omega
    · simp (maxSteps := 2000000) (disch := first | omega | assumption | exact idP rfl | exact idP (bL rfl) | (simp only [alloc_size, upd_size]; done) | (simp only [alloc_size, upd_size]; omega) | fail) only [go_sem, reduceIte, Nat.reduceEqDiff]
      refine wp_loop_k (fun e H' => H' = H.alloc [.int .i64 n, .sl A xss.length c ex k] ∧ ∃ (i : Nat), i ≤ xss.length ∧ e 1 = .ptr (some (H.size, 0)) ∧ e 3 = .int .i64 (i : Int) ∧ ∀ j (h : j < xss.length), j < i → ClOk n xss[j]) (fun e _ => ctr xss.length (e 3)) ?_ ?_
      · exact ⟨rfl, 0, Nat.zero_le _, by simp (maxSteps := 2000000) (disch := first | omega | assumption | exact idP rfl | exact idP (bL rfl) | (simp only [alloc_size, upd_size]; done) | (simp only [alloc_size, upd_size]; omega) | fail) only [go_sem, reduceIte, Nat.reduceEqDiff], by simp (maxSteps := 2000000) (disch := first | omega | assumption | exact idP rfl | exact idP (bL rfl) | (simp only [alloc_size, upd_size]; done) | (simp only [alloc_size, upd_size]; omega) | fail) only [go_sem, reduceIte, Nat.reduceEqDiff]; rfl, fun j _ h => by omega⟩
      · rintro e H2 ⟨rfl, i, hi, e1, e3, hj⟩ K hK
        simp (maxSteps := 2000000) (disch := first | omega | assumption | exact idP rfl | exact idP (bL rfl) | (simp only [alloc_size, upd_size]; done) | (simp only [alloc_size, upd_size]; omega) | fail) only [go_sem, reduceIte, Nat.reduceEqDiff, e1, e3]
        refine condV_dec (fun h => ?_) (fun h => ?_)
        · have hi' : i < xss.length := by omega
          obtain ⟨u, hg, hu⟩ := hr i hi'
          rw [Nat.mul_one] at hg
          have hg' := (Le.alloc H [.int .i64 n, .sl A xss.length c ex k]).get hg
          simp (maxSteps := 2000000) (disch := first | omega | assumption | exact idP rfl | exact idP (bL rfl) | (simp only [alloc_size, upd_size]; done) | (simp only [alloc_size, upd_size]; omega) | fail) only [go_sem, reduceIte, Nat.reduceEqDiff, e1, e3, hg']
          refine (s_specClauseValid (hu.le (Le.alloc _ _)) (hl _ (List.getElem_mem _)) hin.1 hin.2).mono ?_
          rintro r H3 ⟨rfl, b, rfl, hb⟩
          cases b with
          | false =>
            simp (maxSteps := 2000000) (disch := first | omega | assumption | exact idP rfl | exact idP (bL rfl) | (simp only [alloc_size, upd_size]; done) | (simp only [alloc_size, upd_size]; omega) | fail) only [go_sem, reduceIte, Nat.reduceEqDiff]
            exact no fun hc => by have := hb.2 (hc.all _ (List.getElem_mem hi')); cases this
          | true =>
            simp (maxSteps := 2000000) (disch := first | omega | assumption | exact idP rfl | exact idP (bL rfl) | (simp only [alloc_size, upd_size]; done) | (simp only [alloc_size, upd_size]; omega) | fail) only [go_sem, reduceIte, Nat.reduceEqDiff, e1, e3]
            refine hK _ _ ⟨rfl, i + 1, by omega, by simp (maxSteps := 2000000) (disch := first | omega | assumption | exact idP rfl | exact idP (bL rfl) | (simp only [alloc_size, upd_size]; done) | (simp only [alloc_size, upd_size]; omega) | fail) only [go_sem, reduceIte, Nat.reduceEqDiff, e1], by simp (maxSteps := 2000000) (disch := first | omega | assumption | exact idP rfl | exact idP (bL rfl) | (simp only [alloc_size, upd_size]; done) | (simp only [alloc_size, upd_size]; omega) | fail) only [go_sem, reduceIte, Nat.reduceEqDiff]; rfl, fun j hj1 hj2 => ?_⟩ (by simp (maxSteps := 2000000) (disch := first | omega | assumption | exact idP rfl | exact idP (bL rfl) | (simp only [alloc_size, upd_size]; done) | (simp only [alloc_size, upd_size]; omega) | fail) only [go_sem, reduceIte, Nat.reduceEqDiff, ctr_int, e3]; omega)
            by_cases hji : j = i
            · subst hji; exact hb.1 rfl
            · exact hj j hj1 (by omega)
        · simp (maxSteps := 2000000) (disch := first | omega | assumption | exact idP rfl | exact idP (bL rfl) | (simp only [alloc_size, upd_size]; done) | (simp only [alloc_size, upd_size]; omega) | fail) only [go_sem, reduceIte, Nat.reduceEqDiff]
          refine hR _ _ ⟨Le.alloc _ _, true, rfl, ?_⟩
          simp only [true_iff]
          refine ⟨hin.1, hin.2, by omega, fun xs hxs => ?_⟩
          obtain ⟨j, hj1, rfl⟩ := List.getElem_of_mem hxs
          exact hj j hj1 (by omega)
  · simp (maxSteps := 2000000) (disch := first | omega | assumption | exact idP rfl | exact idP (bL rfl) | (simp only [alloc_size, upd_size]; done) | (simp only [alloc_size, upd_size]; omega) | fail) only [go_sem, reduceIte, Nat.reduceEqDiff, hin]
    exact no fun hc => hin ⟨hc.lo, hc.hi⟩
end Go.M2

namespace Go.M2
open Go.Proofs
variable {H : Heap}
theorem s_IndexFuncSS {A : AA} {n c k f : Nat} {ex : Bool} {caps : List AV} {p : (i : Nat) → i < n → Prop} (hn : n ≤ 1048576)
    (hr : ∀ i (h : i < n), ∃ u, H.get A.b (A.o + i) = some u ∧ ∀ H', Le H H' → ACall Try.prog f (u :: caps) H' (fun r H2 => Le H' H2 ∧ ∃ b, r = .bool b ∧ (b = true ↔ p i h))) :
    ACall Try.prog n_slices_IndexFunc_SSint_Sint [.sl A n c ex k, .fn f caps] H (fun r H' => Le H H' ∧ ∃ j : Int, r = .int .i64 j ∧ (0 ≤ j ↔ ∃ i h, p i h)) := by
  refine ACall.of fun R hR => a_slices_IndexFunc_SSint_Sint rfl ?_
  simp (maxSteps := 2000000) (disch := first | omega | assumption | exact idP rfl | exact idP (bL rfl) | (simp only [alloc_size, upd_size]; done) | (simp only [alloc_size, upd_size]; omega) | fail) only [go_sem, reduceIte, Nat.reduceEqDiff]
  refine wp_loop_k (fun e H' => Le H H' ∧ ∃ (i : Nat), i ≤ n ∧ e 0 = .sl A n c ex k ∧ e 1 = .fn f caps ∧ e 7 = .int .i64 (n : Int) ∧ e 8 = .int .i64 (i : Int) ∧ ∀ j (h : j < n), j < i → ¬ p j h) (fun e _ => ctr n (e 8)) ?_ ?_
  · exact ⟨Le.refl _, 0, Nat.zero_le _, by simp (maxSteps := 2000000) (disch := first | omega | assumption | exact idP rfl | exact idP (bL rfl) | (simp only [alloc_size, upd_size]; done) | (simp only [alloc_size, upd_size]; omega) | fail) only [go_sem, reduceIte, Nat.reduceEqDiff], by simp (maxSteps := 2000000) (disch := first | omega | assumption | exact idP rfl | exact idP (bL rfl) | (simp only [alloc_size, upd_size]; done) | (simp only [alloc_size, upd_size]; omega) | fail) only [go_sem, reduceIte, Nat.reduceEqDiff], by simp (maxSteps := 2000000) (disch := first | omega | assumption | exact idP rfl | exact idP (bL rfl) | (simp only [alloc_size, upd_size]; done) | (simp only [alloc_size, upd_size]; omega) | fail) only [go_sem, reduceIte, Nat.reduceEqDiff], by simp (maxSteps := 2000000) (disch := first | omega | assumption | exact idP rfl | exact idP (bL rfl) | (simp only [alloc_size, upd_size]; done) | (simp only [alloc_size, upd_size]; omega) | fail) only [go_sem, reduceIte, Nat.reduceEqDiff]; rfl, fun j _ h => by omega⟩
  · rintro e H1 ⟨hle, i, hi, e0, e1, e7, e8, hj⟩ K hK
    simp (maxSteps := 2000000) (disch := first | omega | assumption | exact idP rfl | exact idP (bL rfl) | (simp only [alloc_size, upd_size]; done) | (simp only [alloc_size, upd_size]; omega) | fail) only [go_sem, reduceIte, Nat.reduceEqDiff, e0, e1, e7, e8]
    refine condV_dec (fun h => ?_) (fun h => ?_)
    · have hi' : i < n := by omega
      obtain ⟨u, hg, hu⟩ := hr i hi'
      have hg' := hle.get hg
      simp (maxSteps := 2000000) (disch := first | omega | assumption | exact idP rfl | exact idP (bL rfl) | (simp only [alloc_size, upd_size]; done) | (simp only [alloc_size, upd_size]; omega) | fail) only [go_sem, reduceIte, Nat.reduceEqDiff, e0, e1, e7, e8, hg']
      refine (hu H1 hle).mono ?_
      rintro r H2 ⟨hle2, b, rfl, hb⟩
      cases b with
      | true =>
        simp (maxSteps := 2000000) (disch := first | omega | assumption | exact idP rfl | exact idP (bL rfl) | (simp only [alloc_size, upd_size]; done) | (simp only [alloc_size, upd_size]; omega) | fail) only [go_sem, reduceIte, Nat.reduceEqDiff, e0, e1, e7, e8]
        exact hR _ _ ⟨hle.trans hle2, i, rfl, ⟨fun _ => ⟨i, hi', hb.1 rfl⟩, fun _ => by omega⟩⟩
      | false =>
        simp (maxSteps := 2000000) (disch := first | omega | assumption | exact idP rfl | exact idP (bL rfl) | (simp only [alloc_size, upd_size]; done) | (simp only [alloc_size, upd_size]; omega) | fail) only [go_sem, reduceIte, Nat.reduceEqDiff, e0, e1, e7, e8]
        refine hK _ _ ⟨hle.trans hle2, i + 1, by omega, by simp (maxSteps := 2000000) (disch := first | omega | assumption | exact idP rfl | exact idP (bL rfl) | (simp only [alloc_size, upd_size]; done) | (simp only [alloc_size, upd_size]; omega) | fail) only [go_sem, reduceIte, Nat.reduceEqDiff, e0], by simp (maxSteps := 2000000) (disch := first | omega | assumption | exact idP rfl | exact idP (bL rfl) | (simp only [alloc_size, upd_size]; done) | (simp only [alloc_size, upd_size]; omega) | fail) only [go_sem, reduceIte, Nat.reduceEqDiff, e1], by simp (maxSteps := 2000000) (disch := first | omega | assumption | exact idP rfl | exact idP (bL rfl) | (simp only [alloc_size, upd_size]; done) | (simp only [alloc_size, upd_size]; omega) | fail) only [go_sem, reduceIte, Nat.reduceEqDiff, e7], by simp (maxSteps := 2000000) (disch := first | omega | assumption | exact idP rfl | exact idP (bL rfl) | (simp only [alloc_size, upd_size]; done) | (simp only [alloc_size, upd_size]; omega) | fail) only [go_sem, reduceIte, Nat.reduceEqDiff]; rfl, fun j hj1 hj2 => ?_⟩ (by simp (maxSteps := 2000000) (disch := first | omega | assumption | exact idP rfl | exact idP (bL rfl) | (simp only [alloc_size, upd_size]; done) | (simp only [alloc_size, upd_size]; omega) | fail) only [go_sem, reduceIte, Nat.reduceEqDiff, ctr_int, e8]; omega)
        by_cases hji : j = i
        · subst hji; intro hp; have := hb.2 hp; cases this
        · exact hj j hj1 (by omega)
    · simp (maxSteps := 2000000) (disch := first | omega | assumption | exact idP rfl | exact idP (bL rfl) | (simp only [alloc_size, upd_size]; done) | (simp only [alloc_size, upd_size]; omega) | fail) only [go_sem, reduceIte, Nat.reduceEqDiff]
      refine hR _ _ ⟨hle, -1, rfl, ⟨fun h => by omega, fun ⟨j, hj1, hp⟩ => absurd hp (hj j hj1 (by omega))⟩⟩
theorem s_ContainsFuncSS {A : AA} {n c k f : Nat} {ex : Bool} {caps : List AV} {p : (i : Nat) → i < n → Prop} (hn : n ≤ 1048576)
    (hr : ∀ i (h : i < n), ∃ u, H.get A.b (A.o + i) = some u ∧ ∀ H', Le H H' → ACall Try.prog f (u :: caps) H' (fun r H2 => Le H' H2 ∧ ∃ b, r = .bool b ∧ (b = true ↔ p i h))) :
    ACall Try.prog n_slices_ContainsFunc_SSint_Sint [.sl A n c ex k, .fn f caps] H (fun r H' => Le H H' ∧ ∃ b : Bool, r = .bool b ∧ (b = true ↔ ∃ i h, p i h)) := by
  refine ACall.of fun R hR => a_slices_ContainsFunc_SSint_Sint rfl ?_
  simp (maxSteps := 2000000) (disch := first | omega | assumption | exact idP rfl | exact idP (bL rfl) | (simp only [alloc_size, upd_size]; done) | (simp only [alloc_size, upd_size]; omega) | fail) only [go_sem, reduceIte, Nat.reduceEqDiff]
  refine (s_IndexFuncSS hn hr).mono ?_
  rintro r H1 ⟨hle, j, rfl, hj⟩
  simp (maxSteps := 2000000) (disch := first | omega | assumption | exact idP rfl | exact idP (bL rfl) | (simp only [alloc_size, upd_size]; done) | (simp only [alloc_size, upd_size]; omega) | fail) only [go_sem, reduceIte, Nat.reduceEqDiff]
  exact hR _ _ ⟨hle, _, rfl, by simpa using hj⟩
theorem s_implClausesValid {x : AV} {n : Int} {xss : List (List Int)} (hx : IsCl H x n xss) (h0 : xss.length ≤ 1048576) (hl : ∀ xs ∈ xss, xs.length ≤ 1048576) :
    ACall Try.prog n_impl_ClausesValid [x] H (fun r H' => Le H H' ∧ ∃ b, r = .bool b ∧ (b = true ↔ ClsOk n xss)) := by
  refine ACall.of fun R hR => a_impl_ClausesValid rfl ?_
  obtain ⟨v, rfl, hv⟩ := hx
  obtain ⟨A, c, ex, k, rfl, hr⟩ := hv.parts
  simp (maxSteps := 2000000) (disch := first | omega | assumption | exact idP rfl | exact idP (bL rfl) | (simp only [alloc_size, upd_size]; done) | (simp only [alloc_size, upd_size]; omega) | fail) only [go_sem, reduceIte, Nat.reduceEqDiff]
  refine s_in.mono ?_
  rintro r H1 ⟨rfl, rfl⟩
  have no : ¬ ClsOk n xss → R (.bool false) (H.alloc [.int .i64 n, .sl A xss.length c ex k]) := fun h => hR _ _ ⟨Le.alloc _ _, false, rfl, by simp only [Bool.false_eq_true, false_iff]; exact h⟩
  by_cases hin : (0 : Int) ≤ n ∧ n ≤ 700
  · by_cases h25 : (xss.length : Int) ≤ 2500
    · simp (maxSteps := 2000000) (disch := first | omega | assumption | exact idP rfl | exact idP (bL rfl) | (simp only [alloc_size, upd_size]; done) | (simp only [alloc_size, upd_size]; omega) | fail) only [go_sem, reduceIte, Nat.reduceEqDiff, hin, h25]
      refine (s_ContainsFuncSS (p := fun i h => ¬ ClOk n xss[i]) h0 fun i hi => ?_).mono ?_
      · obtain ⟨u, hg, hu⟩ := hr i hi
        rw [Nat.mul_one] at hg
        refine ⟨u, (Le.alloc _ _).get hg, fun H' hle => ?_⟩
        refine ACall.of fun R' hR' => a_impl_ClausesValid_1 rfl ?_
        have hg2 : H'.get H.size 0 = some (.int .i64 n) := hle.get (by simp (maxSteps := 2000000) (disch := first | omega | assumption | exact idP rfl | exact idP (bL rfl) | (simp only [alloc_size, upd_size]; done) | (simp only [alloc_size, upd_size]; omega) | fail) only [go_sem, reduceIte, Nat.reduceEqDiff])
        simp (maxSteps := 2000000) (disch := first | omega | assumption | exact idP rfl | exact idP (bL rfl) | (simp only [alloc_size, upd_size]; done) | (simp only [alloc_size, upd_size]; omega) | fail) only [go_sem, reduceIte, Nat.reduceEqDiff, hg2]
        refine (s_implClauseValid (hu.le ((Le.alloc _ _).trans hle)) (hl _ (List.getElem_mem _)) hin.1 hin.2).mono ?_
        rintro r H2 ⟨rfl, b, rfl, hb⟩
        simp (maxSteps := 2000000) (disch := first | omega | assumption | exact idP rfl | exact idP (bL rfl) | (simp only [alloc_size, upd_size]; done) | (simp only [alloc_size, upd_size]; omega) | fail) only [go_sem, reduceIte, Nat.reduceEqDiff]
        refine hR' _ _ ⟨Le.refl _, !b, rfl, ?_⟩
        cases b with
        | true => simp only [Bool.not_true, Bool.false_eq_true, false_iff, Classical.not_not]; exact hb.1 rfl
        | false => simp only [Bool.not_false, true_iff]; intro hc; have := hb.2 hc; cases this
      · rintro r H2 ⟨hle, b, rfl, hb⟩
        simp (maxSteps := 2000000) (disch := first | omega | assumption | exact idP rfl | exact idP (bL rfl) | (simp only [alloc_size, upd_size]; done) | (simp only [alloc_size, upd_size]; omega) | fail) only [go_sem, reduceIte, Nat.reduceEqDiff]
        refine hR _ _ ⟨(Le.alloc _ _).trans hle, !b, rfl, ?_⟩
        cases b with
        | true =>
          simp only [Bool.not_true, Bool.false_eq_true, false_iff]
          intro hc
          obtain ⟨i, hi, hp⟩ := hb.1 rfl
          exact hp (hc.all _ (List.getElem_mem hi))
        | false =>
          simp only [Bool.not_false, true_iff]
          refine ⟨hin.1, hin.2, by omega, fun xs hxs => ?_⟩
          obtain ⟨j, hj1, rfl⟩ := List.getElem_of_mem hxs
          refine Classical.byContradiction fun hn => ?_
          have := hb.2 ⟨j, hj1, hn⟩; cases this
    · simp (maxSteps := 2000000) (disch := first | omega | assumption | exact idP rfl | exact idP (bL rfl) | (simp only [alloc_size, upd_size]; done) | (simp only [alloc_size, upd_size]; omega) | fail) only [go_sem, reduceIte, Nat.reduceEqDiff, hin, h25]
      exact no fun hc => by have := hc.few; omega
  · simp (maxSteps := 2000000) (disch := first | omega | assumption | exact idP rfl | exact idP (bL rfl) | (simp only [alloc_size, upd_size]; done) | (simp only [alloc_size, upd_size]; omega) | fail) only [go_sem, reduceIte, Nat.reduceEqDiff, hin]
    exact no fun hc => hin ⟨hc.lo, hc.hi⟩
end Go.M2

namespace Go.M2
open Go.Proofs
variable {H : Heap}
structure Row (H0 H : Heap) (b : Nat) (l : List Int) : Prop where
  lt : b < H.size
  blk : H.blk b = .cells (l.map (AV.int .i64)) true
  le : Le H0 (H.kill b)
theorem Row.rw {H0 : Heap} {b : Nat} {l : List Int} (h : Row H0 H b l) : H.rwCells b = some (l.map (AV.int .i64)) := rwCells_of h.lt h.blk
theorem Row.get {H0 : Heap} {b : Nat} {l : List Int} (h : Row H0 H b l) {i : Nat} (hi : i < l.length) : H.get b i = some (.int .i64 l[i]) := by
  have := Rd.blk h.lt h.blk i (.int .i64 l[i]) (by simp [hi])
  simpa using this
theorem Row.le' {H0 : Heap} {b : Nat} {l : List Int} (h : Row H0 H b l) : Le H0 H := h.le.trans (Le.kill _ _)
theorem Row.set {H0 : Heap} {b : Nat} {l : List Int} (h : Row H0 H b l) (i : Nat) (v : Int) : Row H0 (H.upd b (.cells ((l.map (AV.int .i64)).set i (.int .i64 v)) true)) b (l.set i v) :=
  ⟨h.lt, by rw [upd_blk_same', List.map_set], by rw [upd_kill]; exact h.le⟩
theorem Row.step {H0 H1 : Heap} {b : Nat} {l : List Int} (h : Row H0 H b l) (hl : Le H H1) : Row H0 H1 b l :=
  ⟨Nat.lt_of_lt_of_le h.lt hl.1, hl.cells h.lt h.blk, h.le.trans (hl.kills _)⟩
theorem zeros_int (n : Nat) : zeros [.int .i64 0] n = (List.replicate n (0 : Int)).map (AV.int .i64) := by
  induction n with
  | zero => rfl
  | succ n ih => simp only [zeros, ih, List.replicate_succ, List.map_cons]; rfl
theorem Row.new {H0 : Heap} (h : Le H0 H) (n : Nat) : Row H0 (H.alloc (zeros [.int .i64 0] n)) H.size (List.replicate n 0) :=
  ⟨Nat.lt_succ_self _, by rw [alloc_new, zeros_int], (h.trans (Le.alloc _ _)).killFresh h.1⟩
def Lits (n : Nat) (xs : List Int) : Prop := ∀ x ∈ xs, x ≠ 0 ∧ x.natAbs ≤ n
def givenF (xs : List Int) (m : List Int) : List Int := xs.foldl (fun m x => m.set x.natAbs x) m
def given (n : Nat) (xs : List Int) : List Int := givenF xs (List.replicate (n + 1) 0)
theorem givenF_len (xs m : List Int) : (givenF xs m).length = m.length := by
  induction xs generalizing m with
  | nil => rfl
  | cons x t ih => simp only [givenF, List.foldl_cons] at ih ⊢; rw [ih]; simp
theorem givenF_take {xs m : List Int} {i : Nat} (h : i < xs.length) : givenF (xs.take (i + 1)) m = (givenF (xs.take i) m).set xs[i].natAbs xs[i] := by
  unfold givenF
  rw [List.take_succ_eq_append_getElem h, List.foldl_append]; rfl
end Go.M2

namespace Go.M2
open Go.Proofs
variable {H : Heap}
theorem exists_least {p : Nat → Prop} (h : ∃ n, p n) : ∃ n, p n ∧ ∀ m, p m → n ≤ m := by
  obtain ⟨n, hn⟩ := h
  induction n using Nat.strongRecOn with
  | _ n ih =>
    by_cases hx : ∃ m, m < n ∧ p m
    · obtain ⟨m, h1, h2⟩ := hx
      exact ih m h1 h2
    · exact ⟨n, hn, fun m hm => Nat.le_of_not_lt fun hl => hx ⟨m, hl, hm⟩⟩
open Classical in
def leftF (m : List Int) : List Int → Int → Int → Int × Int
  | [], o, l => (o, l)
  | x :: t, o, l => if m.getD x.natAbs 0 = x then (-1, 0) else if m.getD x.natAbs 0 = 0 then leftF m t (o + 1) x else leftF m t o l
theorem leftF_last {m : List Int} : ∀ {xs : List Int} {o l o' l' : Int}, leftF m xs o l = (o', l') → (o' = -1 ∧ l' = 0) ∨ (o' = o ∧ l' = l) ∨ (l' ∈ xs ∧ m.getD l'.natAbs 0 = 0 ∧ o < o' ∧ o' ≤ o + xs.length)
  | [], o, l, o', l', h => by simp only [leftF, Prod.mk.injEq] at h; exact .inr (.inl ⟨h.1.symm, h.2.symm⟩)
  | x :: t, o, l, o', l', h => by
    simp only [leftF] at h
    split at h
    · simp only [Prod.mk.injEq] at h; exact .inl ⟨h.1.symm, h.2.symm⟩
    · split at h
      · rename_i hz
        rcases leftF_last h with h1 | ⟨h1, h2⟩ | ⟨h1, h2, h3, h4⟩
        · exact .inl h1
        · exact .inr (.inr ⟨by rw [h2]; simp, by rw [h2]; exact hz, by omega, by simp only [List.length_cons]; omega⟩)
        · exact .inr (.inr ⟨List.mem_cons_of_mem _ h1, h2, by omega, by simp only [List.length_cons]; omega⟩)
      · rcases leftF_last h with h1 | h1 | ⟨h1, h2, h3, h4⟩
        · exact .inl h1
        · exact .inr (.inl h1)
        · exact .inr (.inr ⟨List.mem_cons_of_mem _ h1, h2, h3, by simp only [List.length_cons]; omega⟩)
def passF : List (List Int) → List Int → Bool → Option (List Int × Bool)
  | [], m, ag => some (m, ag)
  | c :: t, m, ag => if (leftF m c 0 0).1 = 0 then none else if (leftF m c 0 0).1 = 1 then passF t (m.set (leftF m c 0 0).2.natAbs (leftF m c 0 0).2) true else passF t m ag
inductive Force (cl : List (List Int)) : List Int → Option (List Int) → Prop
  | bad {m : List Int} : passF cl m false = none → Force cl m none
  | stop {m m' : List Int} : passF cl m false = some (m', false) → Force cl m (some m')
  | go {m m' : List Int} {r : Option (List Int)} : passF cl m false = some (m', true) → Force cl m' r → Force cl m r
theorem Force.det {cl : List (List Int)} {m : List Int} {r r' : Option (List Int)} (h : Force cl m r) (h' : Force cl m r') : r = r' := by
  induction h with
  | bad h1 => cases h' with
    | bad _ => rfl
    | stop h2 => rw [h1] at h2; cases h2
    | go h2 _ => rw [h1] at h2; cases h2
  | stop h1 => cases h' with
    | bad h2 => rw [h1] at h2; cases h2
    | stop h2 => rw [h1] at h2; cases h2; rfl
    | go h2 _ => rw [h1] at h2; cases h2
  | go h1 _ ih => cases h' with
    | bad h2 => rw [h1] at h2; cases h2
    | stop h2 => rw [h1] at h2; cases h2
    | go h2 h3 => rw [h1] at h2; cases h2; exact ih h3
end Go.M2

namespace Go.M2
open Go.Proofs
variable {H : Heap}
theorem leftF_one {m xs : List Int} (h : (leftF m xs 0 0).1 = 1) : (leftF m xs 0 0).2 ∈ xs ∧ m.getD (leftF m xs 0 0).2.natAbs 0 = 0 := by
  rcases leftF_last (m := m) (xs := xs) (o := 0) (l := 0) (o' := (leftF m xs 0 0).1) (l' := (leftF m xs 0 0).2) rfl with ⟨h1, _⟩ | ⟨h1, _⟩ | ⟨h1, h2, _⟩
  · omega
  · omega
  · exact ⟨h1, h2⟩
end Go.M2

namespace Go.M2
open Go.Proofs
variable {H : Heap}
def Mk (m : List Int) : Prop := ∀ a (h : a < m.length), m[a] = 0 ∨ m[a].natAbs = a
theorem Mk.set {m : List Int} (h : Mk m) {x : Int} : Mk (m.set x.natAbs x) := by
  intro a ha
  rw [List.getElem_set]
  split
  · rename_i e; exact .inr e
  · exact h a (by simpa using ha)
end Go.M2

namespace Go.M2
open Go.Proofs
variable {H : Heap}
def IsNext (m : List Int) (a : Nat) : Prop := (a = 0 ∧ ∀ i (h : i < m.length), 1 ≤ i → m[i] ≠ 0) ∨ (1 ≤ a ∧ (∃ h : a < m.length, m[a] = 0) ∧ ∀ i (h : i < m.length), 1 ≤ i → i < a → m[i] ≠ 0)
theorem drop_take_succ {m : List Int} {i : Nat} (h : i + 1 < m.length) : (m.drop 1).take (i + 1) = (m.drop 1).take i ++ [m[i + 1]] := by
  rw [List.take_succ_eq_append_getElem (by simp; omega)]
  simp [Nat.add_comm]
end Go.M2

namespace Go.M2
open Go.Proofs
variable {H : Heap}
theorem app1 {H0 : Heap} {by_ : Nat} {s x : AV} {l : List AV} {K : AV → Heap → Prop} (ho : Own 1 H s l) (hle : Le H0 (base H s)) (hnew : newer H0.size s) (hx : oneA x = true) (hb : l.length + 1 ≤ 68719476736) (hby : by_ ≤ 16)
    (hk : ∀ s' H', Own 1 H' s' (l ++ [x]) → Le H0 (base H' s') → newer H0.size s' → Le (base H s) (base H' s') → K s' H') : appP 1 by_ s (.sl (some (H.size, 0)) 1 1 true 1) (H.alloc [x]) K := by
  refine app_own (sz := 1) (by omega) (ho.le (Le.alloc _ _)) (Rd.blk (Nat.lt_succ_self _) (alloc_new _ _)) rfl (by simp [hx]) ?_ (by simp [mostCells]; omega) ?_
  · have : (l.length + 1) * by_ ≤ (l.length + 1) * 16 := Nat.mul_le_mul_left _ hby
    simp only [mostCells]; omega
  · intro s' H' h1 h2 h3
    exact hk s' H' h1 (hle.trans ((base_mono (Le.alloc _ _) _).trans h2)) (h3 _ (Nat.le_trans (hle.trans (base_le _ _)).1 (Nat.le_succ _)) hnew) ((base_mono (Le.alloc _ _) _).trans h2)
def Contr (n : Nat) (xs : List Int) : Prop := ∃ i, ∃ h : i < xs.length, (givenF (xs.take i) (List.replicate (n + 1) 0)).getD xs[i].natAbs 0 ≠ 0 ∧ (givenF (xs.take i) (List.replicate (n + 1) 0)).getD xs[i].natAbs 0 ≠ xs[i]
def marked (m : List Int) : List Int := (m.drop 1).filter (· ≠ 0)
theorem s_l11Clause {v : AV} {xs : List Int} {n : Nat} (hv : IsI H v xs) (hl : xs.length ≤ 1048576) (hn : n ≤ 700) (hx : Lits n xs) :
    ACall Try.prog n_spec_l11Clause [v, .int .i64 (n : Int)] H (fun r H' => (Contr n xs → r = .tup [.sl none 0 0 true 0, .bool false] ∧ Le H H') ∧
      (¬ Contr n xs → ∃ u, r = .tup [u, .bool true] ∧ Own 1 H' u ((marked (given n xs)).map (AV.int .i64)) ∧ Le H (base H' u) ∧ newer H.size u)) := by
  refine ACall.of fun R hR => a_spec_l11Clause rfl ?_
  obtain ⟨A, c, ex, k, rfl, hr⟩ := hv.parts
  simp (maxSteps := 2000000) (disch := first | omega | assumption | exact idP rfl | exact idP (bL rfl) | (simp only [alloc_size, upd_size]; done) | (simp only [alloc_size, upd_size]; omega) | fail) only [go_sem, reduceIte, Nat.reduceEqDiff]
  refine mks_own (by omega) (by simp [mostCells]; omega) (by simp [mostCells]; omega) ?_
  have e1 : ((n : Int) + 1).toNat = n + 1 := by omega
  rw [e1]
  simp (maxSteps := 2000000) (disch := first | omega | assumption | exact idP rfl | exact idP (bL rfl) | (simp only [alloc_size, upd_size]; done) | (simp only [alloc_size, upd_size]; omega) | fail) only [go_sem, reduceIte, Nat.reduceEqDiff]
  refine wp_loop_k (fun e H' => ∃ (i : Nat), i ≤ xs.length ∧ e 0 = .sl A xs.length c ex k ∧ e 1 = .int .i64 (n : Int) ∧ e 6 = .sl (some (H.size, 0)) (n + 1) (n + 1) true 1 ∧ e 7 = .int .i64 (i : Int) ∧ Row H H' H.size (givenF (xs.take i) (List.replicate (n + 1) 0)) ∧
    ∀ j (h : j < xs.length), j < i → (givenF (xs.take j) (List.replicate (n + 1) 0)).getD xs[j].natAbs 0 = 0 ∨ (givenF (xs.take j) (List.replicate (n + 1) 0)).getD xs[j].natAbs 0 = xs[j]) (fun e _ => ctr xs.length (e 7)) ?_ ?_
  · exact ⟨0, Nat.zero_le _, by simp (maxSteps := 2000000) (disch := first | omega | assumption | exact idP rfl | exact idP (bL rfl) | (simp only [alloc_size, upd_size]; done) | (simp only [alloc_size, upd_size]; omega) | fail) only [go_sem, reduceIte, Nat.reduceEqDiff], by simp (maxSteps := 2000000) (disch := first | omega | assumption | exact idP rfl | exact idP (bL rfl) | (simp only [alloc_size, upd_size]; done) | (simp only [alloc_size, upd_size]; omega) | fail) only [go_sem, reduceIte, Nat.reduceEqDiff], by simp (maxSteps := 2000000) (disch := first | omega | assumption | exact idP rfl | exact idP (bL rfl) | (simp only [alloc_size, upd_size]; done) | (simp only [alloc_size, upd_size]; omega) | fail) only [go_sem, reduceIte, Nat.reduceEqDiff]; rfl, by simp (maxSteps := 2000000) (disch := first | omega | assumption | exact idP rfl | exact idP (bL rfl) | (simp only [alloc_size, upd_size]; done) | (simp only [alloc_size, upd_size]; omega) | fail) only [go_sem, reduceIte, Nat.reduceEqDiff]; rfl, Row.new (Le.refl _) _, fun j _ h => by omega⟩
  · rintro e H1 ⟨i, hi, e0, e1, e6, e7, hrow, hok⟩ K hK
    have hlen : (givenF (xs.take i) (List.replicate (n + 1) 0)).length = n + 1 := by rw [givenF_len]; simp
    simp (maxSteps := 2000000) (disch := first | omega | assumption | exact idP rfl | exact idP (bL rfl) | (simp only [alloc_size, upd_size]; done) | (simp only [alloc_size, upd_size]; omega) | fail) only [go_sem, reduceIte, Nat.reduceEqDiff, e0, e6, e7]
    refine condV_dec (fun h => ?_) (fun h => ?_)
    · have hi' : i < xs.length := by omega
      have hg := hrow.le'.get (hr i hi')
      rw [Nat.mul_one] at hg
      have hxi := hx _ (List.getElem_mem hi')
      have hml : xs[i].natAbs < (givenF (xs.take i) (List.replicate (n + 1) 0)).length := by omega
      have hgm := hrow.get hml
      have hgd : (givenF (xs.take i) (List.replicate (n + 1) 0)).getD xs[i].natAbs 0 = (givenF (xs.take i) (List.replicate (n + 1) 0))[xs[i].natAbs] := by simp [List.getD, hml]
      simp (maxSteps := 2000000) (disch := first | omega | assumption | exact idP rfl | exact idP (bL rfl) | (simp only [alloc_size, upd_size]; done) | (simp only [alloc_size, upd_size]; omega) | fail) only [go_sem, reduceIte, Nat.reduceEqDiff, e0, e6, e7, hg]
      refine (s_l11Abs (n := xs[i]) (by omega) (by omega)).mono ?_
      rintro r H2 ⟨rfl, rfl⟩
      have go : (givenF (xs.take i) (List.replicate (n + 1) 0)).getD xs[i].natAbs 0 = 0 ∨ (givenF (xs.take i) (List.replicate (n + 1) 0)).getD xs[i].natAbs 0 = xs[i] →
          ∀ j (h : j < xs.length), j < i + 1 → (givenF (xs.take j) (List.replicate (n + 1) 0)).getD xs[j].natAbs 0 = 0 ∨ (givenF (xs.take j) (List.replicate (n + 1) 0)).getD xs[j].natAbs 0 = xs[j] := by
        intro hq j hj1 hj2
        by_cases hji : j = i
        · subst hji; exact hq
        · exact hok j hj1 (by omega)
      simp (maxSteps := 2000000) (disch := first | omega | assumption | exact idP rfl | exact idP (bL rfl) | (simp only [alloc_size, upd_size]; done) | (simp only [alloc_size, upd_size]; omega) | fail) only [go_sem, reduceIte, Nat.reduceEqDiff, e0, e6, e7, hg, hgm]
      by_cases hz : (givenF (xs.take i) (List.replicate (n + 1) 0))[xs[i].natAbs] = 0
      · simp (maxSteps := 2000000) (disch := first | omega | assumption | exact idP rfl | exact idP (bL rfl) | (simp only [alloc_size, upd_size]; done) | (simp only [alloc_size, upd_size]; omega) | fail) only [go_sem, reduceIte, Nat.reduceEqDiff, e0, e6, e7, hz, hg, hrow.rw]
        rw [stoK_1 rfl (by simp only [List.length_map]; exact hml)]
        simp (maxSteps := 2000000) (disch := first | omega | assumption | exact idP rfl | exact idP (bL rfl) | (simp only [alloc_size, upd_size]; done) | (simp only [alloc_size, upd_size]; omega) | fail) only [go_sem, reduceIte, Nat.reduceEqDiff, e0, e6, e7]
        refine hK _ _ ⟨i + 1, by omega, by simp (maxSteps := 2000000) (disch := first | omega | assumption | exact idP rfl | exact idP (bL rfl) | (simp only [alloc_size, upd_size]; done) | (simp only [alloc_size, upd_size]; omega) | fail) only [go_sem, reduceIte, Nat.reduceEqDiff, e0], by simp (maxSteps := 2000000) (disch := first | omega | assumption | exact idP rfl | exact idP (bL rfl) | (simp only [alloc_size, upd_size]; done) | (simp only [alloc_size, upd_size]; omega) | fail) only [go_sem, reduceIte, Nat.reduceEqDiff, e1], by simp (maxSteps := 2000000) (disch := first | omega | assumption | exact idP rfl | exact idP (bL rfl) | (simp only [alloc_size, upd_size]; done) | (simp only [alloc_size, upd_size]; omega) | fail) only [go_sem, reduceIte, Nat.reduceEqDiff, e6], by simp (maxSteps := 2000000) (disch := first | omega | assumption | exact idP rfl | exact idP (bL rfl) | (simp only [alloc_size, upd_size]; done) | (simp only [alloc_size, upd_size]; omega) | fail) only [go_sem, reduceIte, Nat.reduceEqDiff]; rfl, ?_, go (.inl (hgd.trans hz))⟩ (by simp (maxSteps := 2000000) (disch := first | omega | assumption | exact idP rfl | exact idP (bL rfl) | (simp only [alloc_size, upd_size]; done) | (simp only [alloc_size, upd_size]; omega) | fail) only [go_sem, reduceIte, Nat.reduceEqDiff, ctr_int, e7]; omega)
        rw [givenF_take hi']; exact hrow.set _ _
      · by_cases hq : (givenF (xs.take i) (List.replicate (n + 1) 0))[xs[i].natAbs] = xs[i]
        · simp (maxSteps := 2000000) (disch := first | omega | assumption | exact idP rfl | exact idP (bL rfl) | (simp only [alloc_size, upd_size]; done) | (simp only [alloc_size, upd_size]; omega) | fail) only [go_sem, reduceIte, Nat.reduceEqDiff, e0, e6, e7, hgm, hq, hxi.1, hg, hrow.rw]
          rw [stoK_1 rfl (by simp only [List.length_map]; exact hml)]
          simp (maxSteps := 2000000) (disch := first | omega | assumption | exact idP rfl | exact idP (bL rfl) | (simp only [alloc_size, upd_size]; done) | (simp only [alloc_size, upd_size]; omega) | fail) only [go_sem, reduceIte, Nat.reduceEqDiff, e0, e6, e7]
          refine hK _ _ ⟨i + 1, by omega, by simp (maxSteps := 2000000) (disch := first | omega | assumption | exact idP rfl | exact idP (bL rfl) | (simp only [alloc_size, upd_size]; done) | (simp only [alloc_size, upd_size]; omega) | fail) only [go_sem, reduceIte, Nat.reduceEqDiff, e0], by simp (maxSteps := 2000000) (disch := first | omega | assumption | exact idP rfl | exact idP (bL rfl) | (simp only [alloc_size, upd_size]; done) | (simp only [alloc_size, upd_size]; omega) | fail) only [go_sem, reduceIte, Nat.reduceEqDiff, e1], by simp (maxSteps := 2000000) (disch := first | omega | assumption | exact idP rfl | exact idP (bL rfl) | (simp only [alloc_size, upd_size]; done) | (simp only [alloc_size, upd_size]; omega) | fail) only [go_sem, reduceIte, Nat.reduceEqDiff, e6], by simp (maxSteps := 2000000) (disch := first | omega | assumption | exact idP rfl | exact idP (bL rfl) | (simp only [alloc_size, upd_size]; done) | (simp only [alloc_size, upd_size]; omega) | fail) only [go_sem, reduceIte, Nat.reduceEqDiff]; rfl, ?_, go (.inr (hgd.trans hq))⟩ (by simp (maxSteps := 2000000) (disch := first | omega | assumption | exact idP rfl | exact idP (bL rfl) | (simp only [alloc_size, upd_size]; done) | (simp only [alloc_size, upd_size]; omega) | fail) only [go_sem, reduceIte, Nat.reduceEqDiff, ctr_int, e7]; omega)
          rw [givenF_take hi']; exact hrow.set _ _
        · simp (maxSteps := 2000000) (disch := first | omega | assumption | exact idP rfl | exact idP (bL rfl) | (simp only [alloc_size, upd_size]; done) | (simp only [alloc_size, upd_size]; omega) | fail) only [go_sem, reduceIte, Nat.reduceEqDiff, e0, e6, e7, hgm, hq, hz, hg]
          exact hR _ _ ⟨fun _ => ⟨rfl, hrow.le'⟩, fun hc => absurd ⟨i, hi', by rw [hgd]; exact hz, by rw [hgd]; exact hq⟩ hc⟩
    · obtain rfl : i = xs.length := by omega
      rw [List.take_length] at hrow hlen
      have hnc : ¬ Contr n xs := by
        rintro ⟨j, hj1, h1, h2⟩
        rcases hok j hj1 hj1 with h3 | h3
        · exact h1 h3
        · exact h2 h3
      generalize hmg : givenF xs (List.replicate (n + 1) 0) = m at hrow hlen
      have hmm : given n xs = m := hmg
      simp (maxSteps := 2000000) (disch := first | omega | assumption | exact idP rfl | exact idP (bL rfl) | (simp only [alloc_size, upd_size]; done) | (simp only [alloc_size, upd_size]; omega) | fail) only [go_sem, reduceIte, Nat.reduceEqDiff, e1]
      refine wp_loop_k (fun e H' => ∃ (i : Nat), i ≤ n ∧ e 6 = .sl (some (H.size, 0)) (n + 1) (n + 1) true 1 ∧ e 1 = .int .i64 (n : Int) ∧ e 10 = .int .i64 ((i : Int) + 1) ∧ Own 1 H' (e 9) ((((m.drop 1).take i).filter (· ≠ 0)).map (AV.int .i64)) ∧ Le H1 (base H' (e 9)) ∧ newer H1.size (e 9)) (fun e _ => ctr (n + 1) (e 10)) ?_ ?_
      · exact ⟨0, by omega, by simp (maxSteps := 2000000) (disch := first | omega | assumption | exact idP rfl | exact idP (bL rfl) | (simp only [alloc_size, upd_size]; done) | (simp only [alloc_size, upd_size]; omega) | fail) only [go_sem, reduceIte, Nat.reduceEqDiff, e6], by simp (maxSteps := 2000000) (disch := first | omega | assumption | exact idP rfl | exact idP (bL rfl) | (simp only [alloc_size, upd_size]; done) | (simp only [alloc_size, upd_size]; omega) | fail) only [go_sem, reduceIte, Nat.reduceEqDiff, e1], by simp (maxSteps := 2000000) (disch := first | omega | assumption | exact idP rfl | exact idP (bL rfl) | (simp only [alloc_size, upd_size]; done) | (simp only [alloc_size, upd_size]; omega) | fail) only [go_sem, reduceIte, Nat.reduceEqDiff]; rfl, by simp (maxSteps := 2000000) (disch := first | omega | assumption | exact idP rfl | exact idP (bL rfl) | (simp only [alloc_size, upd_size]; done) | (simp only [alloc_size, upd_size]; omega) | fail) only [go_sem, reduceIte, Nat.reduceEqDiff]; exact Own.new rfl, by simp (maxSteps := 2000000) (disch := first | omega | assumption | exact idP rfl | exact idP (bL rfl) | (simp only [alloc_size, upd_size]; done) | (simp only [alloc_size, upd_size]; omega) | fail) only [go_sem, reduceIte, Nat.reduceEqDiff]; exact (Le.alloc _ _).killFresh (Nat.le_refl _), by simp (maxSteps := 2000000) (disch := first | omega | assumption | exact idP rfl | exact idP (bL rfl) | (simp only [alloc_size, upd_size]; done) | (simp only [alloc_size, upd_size]; omega) | fail) only [go_sem, reduceIte, Nat.reduceEqDiff]; exact Nat.le_refl _⟩
      · rintro e H2 ⟨i, hi, e6, e1, e10, ho, hle, hnew⟩ K2 hK2
        simp (maxSteps := 2000000) (disch := first | omega | assumption | exact idP rfl | exact idP (bL rfl) | (simp only [alloc_size, upd_size]; done) | (simp only [alloc_size, upd_size]; omega) | fail) only [go_sem, reduceIte, Nat.reduceEqDiff, e1, e10]
        refine condV_dec (fun h => ?_) (fun h => ?_)
        · have hi' : i + 1 < m.length := by omega
          have hg := (hle.trans (base_le _ _)).get (hrow.get hi')
          have e2 : ((i : Int) + 1).toNat = i + 1 := by omega
          have hll : (((m.drop 1).take i).filter (· ≠ 0)).length ≤ 701 := by
            refine Nat.le_trans (List.length_filter_le _ _) ?_
            rw [List.length_take]; omega
          simp (maxSteps := 2000000) (disch := first | omega | assumption | exact idP rfl | exact idP (bL rfl) | (simp only [alloc_size, upd_size]; done) | (simp only [alloc_size, upd_size]; omega) | fail) only [go_sem, reduceIte, Nat.reduceEqDiff, e6, e10, e2, hg]
          refine condV_split (fun h0 => ?_) (fun h0 => ?_)
          · have h0 : ¬ m[i + 1] = 0 := by simpa using h0
            simp (maxSteps := 2000000) (disch := first | omega | assumption | exact idP rfl | exact idP (bL rfl) | (simp only [alloc_size, upd_size]; done) | (simp only [alloc_size, upd_size]; omega) | fail) only [go_sem, reduceIte, Nat.reduceEqDiff, e6, e10, e2, hg]
            refine app1 ho hle hnew rfl (by simp only [List.length_map]; omega) (by omega) ?_
            intro s H3 hs hle2 hn2 _
            simp (maxSteps := 2000000) (disch := first | omega | assumption | exact idP rfl | exact idP (bL rfl) | (simp only [alloc_size, upd_size]; done) | (simp only [alloc_size, upd_size]; omega) | fail) only [go_sem, reduceIte, Nat.reduceEqDiff, e10]
            refine hK2 _ _ ⟨i + 1, by omega, by simp (maxSteps := 2000000) (disch := first | omega | assumption | exact idP rfl | exact idP (bL rfl) | (simp only [alloc_size, upd_size]; done) | (simp only [alloc_size, upd_size]; omega) | fail) only [go_sem, reduceIte, Nat.reduceEqDiff, e6], by simp (maxSteps := 2000000) (disch := first | omega | assumption | exact idP rfl | exact idP (bL rfl) | (simp only [alloc_size, upd_size]; done) | (simp only [alloc_size, upd_size]; omega) | fail) only [go_sem, reduceIte, Nat.reduceEqDiff, e1], by simp (maxSteps := 2000000) (disch := first | omega | assumption | exact idP rfl | exact idP (bL rfl) | (simp only [alloc_size, upd_size]; done) | (simp only [alloc_size, upd_size]; omega) | fail) only [go_sem, reduceIte, Nat.reduceEqDiff]; rfl, ?_, by simp (maxSteps := 2000000) (disch := first | omega | assumption | exact idP rfl | exact idP (bL rfl) | (simp only [alloc_size, upd_size]; done) | (simp only [alloc_size, upd_size]; omega) | fail) only [go_sem, reduceIte, Nat.reduceEqDiff]; exact hle2, by simp (maxSteps := 2000000) (disch := first | omega | assumption | exact idP rfl | exact idP (bL rfl) | (simp only [alloc_size, upd_size]; done) | (simp only [alloc_size, upd_size]; omega) | fail) only [go_sem, reduceIte, Nat.reduceEqDiff]; exact hn2⟩ (by simp (maxSteps := 2000000) (disch := first | omega | assumption | exact idP rfl | exact idP (bL rfl) | (simp only [alloc_size, upd_size]; done) | (simp only [alloc_size, upd_size]; omega) | fail) only [go_sem, reduceIte, Nat.reduceEqDiff, ctr_int, e10]; omega)
            simp (maxSteps := 2000000) (disch := first | omega | assumption | exact idP rfl | exact idP (bL rfl) | (simp only [alloc_size, upd_size]; done) | (simp only [alloc_size, upd_size]; omega) | fail) only [go_sem, reduceIte, Nat.reduceEqDiff]
            rw [drop_take_succ hi', List.filter_append, List.map_append]
            simpa [h0] using hs
          · have h0 : m[i + 1] = 0 := by simpa using h0
            simp (maxSteps := 2000000) (disch := first | omega | assumption | exact idP rfl | exact idP (bL rfl) | (simp only [alloc_size, upd_size]; done) | (simp only [alloc_size, upd_size]; omega) | fail) only [go_sem, reduceIte, Nat.reduceEqDiff, e10]
            refine hK2 _ _ ⟨i + 1, by omega, by simp (maxSteps := 2000000) (disch := first | omega | assumption | exact idP rfl | exact idP (bL rfl) | (simp only [alloc_size, upd_size]; done) | (simp only [alloc_size, upd_size]; omega) | fail) only [go_sem, reduceIte, Nat.reduceEqDiff, e6], by simp (maxSteps := 2000000) (disch := first | omega | assumption | exact idP rfl | exact idP (bL rfl) | (simp only [alloc_size, upd_size]; done) | (simp only [alloc_size, upd_size]; omega) | fail) only [go_sem, reduceIte, Nat.reduceEqDiff, e1], by simp (maxSteps := 2000000) (disch := first | omega | assumption | exact idP rfl | exact idP (bL rfl) | (simp only [alloc_size, upd_size]; done) | (simp only [alloc_size, upd_size]; omega) | fail) only [go_sem, reduceIte, Nat.reduceEqDiff]; rfl, ?_, by simp (maxSteps := 2000000) (disch := first | omega | assumption | exact idP rfl | exact idP (bL rfl) | (simp only [alloc_size, upd_size]; done) | (simp only [alloc_size, upd_size]; omega) | fail) only [go_sem, reduceIte, Nat.reduceEqDiff]; exact hle, by simp (maxSteps := 2000000) (disch := first | omega | assumption | exact idP rfl | exact idP (bL rfl) | (simp only [alloc_size, upd_size]; done) | (simp only [alloc_size, upd_size]; omega) | fail) only [go_sem, reduceIte, Nat.reduceEqDiff]; exact hnew⟩ (by simp (maxSteps := 2000000) (disch := first | omega | assumption | exact idP rfl | exact idP (bL rfl) | (simp only [alloc_size, upd_size]; done) | (simp only [alloc_size, upd_size]; omega) | fail) only [go_sem, reduceIte, Nat.reduceEqDiff, ctr_int, e10]; omega)
            simp (maxSteps := 2000000) (disch := first | omega | assumption | exact idP rfl | exact idP (bL rfl) | (simp only [alloc_size, upd_size]; done) | (simp only [alloc_size, upd_size]; omega) | fail) only [go_sem, reduceIte, Nat.reduceEqDiff]
            rw [drop_take_succ hi', List.filter_append, List.map_append]
            simpa [h0] using ho
        · simp (maxSteps := 2000000) (disch := first | omega | assumption | exact idP rfl | exact idP (bL rfl) | (simp only [alloc_size, upd_size]; done) | (simp only [alloc_size, upd_size]; omega) | fail) only [go_sem, reduceIte, Nat.reduceEqDiff]
          have hix : (m.drop 1).take i = m.drop 1 := by rw [List.take_of_length_le]; simp; omega
          rw [hix] at ho
          exact hR _ _ ⟨fun hc => absurd hc hnc, fun _ => ⟨_, rfl, by rw [hmm]; exact ho, hrow.le'.trans hle, hnew.mono hrow.le'.1⟩⟩
end Go.M2

namespace Go.M2
open Go.Proofs
variable {H : Heap}
def Asc (xs : List Int) : Prop := xs.Pairwise fun x y => x.natAbs < y.natAbs
theorem givenF_getD {a : Nat} : ∀ {xs m : List Int}, (∀ x ∈ xs, x.natAbs ≠ a) → (givenF xs m).getD a 0 = m.getD a 0
  | [], m, h => rfl
  | x :: t, m, h => by
    have := givenF_getD (a := a) (xs := t) (m := m.set x.natAbs x) fun y hy => h y (List.mem_cons_of_mem _ hy)
    simp only [givenF, List.foldl_cons] at this ⊢
    rw [this]
    have hne : x.natAbs ≠ a := h x (by simp)
    simp [List.getD, List.getElem?_set_ne hne]
theorem zero_getD (n a : Nat) : (List.replicate n (0 : Int)).getD a 0 = 0 := by
  simp only [List.getD, List.getElem?_replicate]
  split <;> rfl
def negs (xs : List Int) : List Int := xs.map (0 - ·)
end Go.M2

namespace Go.M2
theorem IsNext.det {m : List Int} {a b : Nat} (h : IsNext m a) (k : IsNext m b) : a = b := by
  rcases h with ⟨rfl, h⟩ | ⟨h1, ⟨h2, h3⟩, h4⟩
  · rcases k with ⟨rfl, _⟩ | ⟨k1, ⟨k2, k3⟩, k4⟩
    · rfl
    · exact absurd k3 (h b k2 k1)
  · rcases k with ⟨rfl, k⟩ | ⟨k1, ⟨k2, k3⟩, k4⟩
    · exact absurd h3 (k a h2 h1)
    · rcases Nat.lt_trichotomy a b with hab | hab | hab
      · exact absurd h3 (k4 a h2 h1 hab)
      · exact hab
      · exact absurd k3 (h4 b k2 k1 hab)
inductive Res where
  | sat (m : List Int)
  | cut
  | no
inductive Try (cl : List (List Int)) (n : Nat) : List Int → List (List Int) → Nat → Res → List (List Int) → Nat → Prop
  | sat {g : List Int} {P : List (List Int)} {d : Nat} {m : List Int} : Force cl (given n g) (some m) → IsNext m 0 → Try cl n g P d (.sat m) P d
  | left {g : List Int} {P P1 : List (List Int)} {d d1 a : Nat} {m : List Int} {r : Res} : Force cl (given n g) (some m) → IsNext m a → a ≠ 0 → Try cl n (g ++ [-(a : Int)]) P (d + 1) r P1 d1 → r ≠ .no → Try cl n g P d r P1 d1
  | right {g : List Int} {P P1 P2 : List (List Int)} {d d1 d2 a : Nat} {m : List Int} {r : Res} : Force cl (given n g) (some m) → IsNext m a → a ≠ 0 → Try cl n (g ++ [-(a : Int)]) P (d + 1) .no P1 d1 → Try cl n (g ++ [(a : Int)]) P1 d1 r P2 d2 → r ≠ .no → Try cl n g P d r P2 d2
  | bothC {g : List Int} {P P1 P2 : List (List Int)} {d d1 d2 a : Nat} {m : List Int} : Force cl (given n g) (some m) → IsNext m a → a ≠ 0 → Try cl n (g ++ [-(a : Int)]) P (d + 1) .no P1 d1 → Try cl n (g ++ [(a : Int)]) P1 d1 .no P2 d2 → P2.length = 600 → Try cl n g P d .cut P2 d2
  | bothN {g : List Int} {P P1 P2 : List (List Int)} {d d1 d2 a : Nat} {m : List Int} : Force cl (given n g) (some m) → IsNext m a → a ≠ 0 → Try cl n (g ++ [-(a : Int)]) P (d + 1) .no P1 d1 → Try cl n (g ++ [(a : Int)]) P1 d1 .no P2 d2 → P2.length ≠ 600 → Try cl n g P d .no (P2 ++ [negs g]) d2
  | confC {g : List Int} {P : List (List Int)} {d : Nat} : Force cl (given n g) none → P.length = 600 → Try cl n g P d .cut P d
  | confN {g : List Int} {P : List (List Int)} {d : Nat} : Force cl (given n g) none → P.length ≠ 600 → Try cl n g P d .no (P ++ [negs g]) d
theorem step_det {cl : List (List Int)} {n : Nat} {g : List Int} {m m' : List Int} {a a' : Nat} (h : Force cl (given n g) (some m)) (h' : Force cl (given n g) (some m')) (k : IsNext m a) (k' : IsNext m' a') : m = m' ∧ a = a' := by
  have := h.det h'
  cases this
  exact ⟨rfl, k.det k'⟩
theorem Try.det {cl : List (List Int)} {n : Nat} {g : List Int} {P P1 P2 : List (List Int)} {d d1 d2 : Nat} {r r' : Res} (h : Try cl n g P d r P1 d1) (h' : Try cl n g P d r' P2 d2) : r = r' ∧ P1 = P2 ∧ d1 = d2 := by
  induction h generalizing r' P2 d2 with
  | sat f k =>
    cases h' with
    | sat f' k' => obtain ⟨rfl, _⟩ := step_det f f' k k'; exact ⟨rfl, rfl, rfl⟩
    | left f' k' ha _ _ => exact absurd (step_det f f' k k').2.symm ha
    | right f' k' ha _ _ _ => exact absurd (step_det f f' k k').2.symm ha
    | bothC f' k' ha _ _ _ => exact absurd (step_det f f' k k').2.symm ha
    | bothN f' k' ha _ _ _ => exact absurd (step_det f f' k k').2.symm ha
    | confC f' _ => cases f.det f'
    | confN f' _ => cases f.det f'
  | left f k ha t hr ih =>
    cases h' with
    | sat f' k' => exact absurd (step_det f f' k k').2 ha
    | left f' k' ha' t' hr' => obtain ⟨rfl, rfl⟩ := step_det f f' k k'; exact ih t'
    | right f' k' ha' t' _ _ => obtain ⟨rfl, rfl⟩ := step_det f f' k k'; exact absurd (ih t').1 hr
    | bothC f' k' ha' t' _ _ => obtain ⟨rfl, rfl⟩ := step_det f f' k k'; exact absurd (ih t').1 hr
    | bothN f' k' ha' t' _ _ => obtain ⟨rfl, rfl⟩ := step_det f f' k k'; exact absurd (ih t').1 hr
    | confC f' _ => cases f.det f'
    | confN f' _ => cases f.det f'
  | right f k ha t u hr ih1 ih2 =>
    cases h' with
    | sat f' k' => exact absurd (step_det f f' k k').2 ha
    | left f' k' ha' t' hr' => obtain ⟨rfl, rfl⟩ := step_det f f' k k'; exact absurd (ih1 t').1.symm hr'
    | right f' k' ha' t' u' hr' => obtain ⟨rfl, rfl⟩ := step_det f f' k k'; obtain ⟨_, rfl, rfl⟩ := ih1 t'; exact ih2 u'
    | bothC f' k' ha' t' u' _ => obtain ⟨rfl, rfl⟩ := step_det f f' k k'; obtain ⟨_, rfl, rfl⟩ := ih1 t'; exact absurd (ih2 u').1 hr
    | bothN f' k' ha' t' u' _ => obtain ⟨rfl, rfl⟩ := step_det f f' k k'; obtain ⟨_, rfl, rfl⟩ := ih1 t'; exact absurd (ih2 u').1 hr
    | confC f' _ => cases f.det f'
    | confN f' _ => cases f.det f'
  | bothC f k ha t u hp ih1 ih2 =>
    cases h' with
    | sat f' k' => exact absurd (step_det f f' k k').2 ha
    | left f' k' ha' t' hr' => obtain ⟨rfl, rfl⟩ := step_det f f' k k'; exact absurd (ih1 t').1.symm hr'
    | right f' k' ha' t' u' hr' => obtain ⟨rfl, rfl⟩ := step_det f f' k k'; obtain ⟨_, rfl, rfl⟩ := ih1 t'; exact absurd (ih2 u').1.symm hr'
    | bothC f' k' ha' t' u' _ => obtain ⟨rfl, rfl⟩ := step_det f f' k k'; obtain ⟨_, rfl, rfl⟩ := ih1 t'; obtain ⟨_, rfl, rfl⟩ := ih2 u'; exact ⟨rfl, rfl, rfl⟩
    | bothN f' k' ha' t' u' hp' => obtain ⟨rfl, rfl⟩ := step_det f f' k k'; obtain ⟨_, rfl, rfl⟩ := ih1 t'; obtain ⟨_, rfl, rfl⟩ := ih2 u'; exact absurd hp hp'
    | confC f' _ => cases f.det f'
    | confN f' _ => cases f.det f'
  | bothN f k ha t u hp ih1 ih2 =>
    cases h' with
    | sat f' k' => exact absurd (step_det f f' k k').2 ha
    | left f' k' ha' t' hr' => obtain ⟨rfl, rfl⟩ := step_det f f' k k'; exact absurd (ih1 t').1.symm hr'
    | right f' k' ha' t' u' hr' => obtain ⟨rfl, rfl⟩ := step_det f f' k k'; obtain ⟨_, rfl, rfl⟩ := ih1 t'; exact absurd (ih2 u').1.symm hr'
    | bothC f' k' ha' t' u' hp' => obtain ⟨rfl, rfl⟩ := step_det f f' k k'; obtain ⟨_, rfl, rfl⟩ := ih1 t'; obtain ⟨_, rfl, rfl⟩ := ih2 u'; exact absurd hp' hp
    | bothN f' k' ha' t' u' _ => obtain ⟨rfl, rfl⟩ := step_det f f' k k'; obtain ⟨_, rfl, rfl⟩ := ih1 t'; obtain ⟨_, rfl, rfl⟩ := ih2 u'; exact ⟨rfl, rfl, rfl⟩
    | confC f' _ => cases f.det f'
    | confN f' _ => cases f.det f'
  | confC f hp =>
    cases h' with
    | sat f' _ => cases f.det f'
    | left f' _ _ _ _ => cases f.det f'
    | right f' _ _ _ _ _ => cases f.det f'
    | bothC f' _ _ _ _ _ => cases f.det f'
    | bothN f' _ _ _ _ _ => cases f.det f'
    | confC _ _ => exact ⟨rfl, rfl, rfl⟩
    | confN _ hp' => exact absurd hp hp'
  | confN f hp =>
    cases h' with
    | sat f' _ => cases f.det f'
    | left f' _ _ _ _ => cases f.det f'
    | right f' _ _ _ _ _ => cases f.det f'
    | bothC f' _ _ _ _ _ => cases f.det f'
    | bothN f' _ _ _ _ _ => cases f.det f'
    | confC _ hp' => exact absurd hp' hp
    | confN _ _ => exact ⟨rfl, rfl, rfl⟩
end Go.M2

namespace Go.M2
def Sub (m M : List Int) : Prop := ∀ a, m.getD a 0 ≠ 0 → M.getD a 0 = m.getD a 0
def Fix (cl : List (List Int)) (M : List Int) : Prop := ∀ c ∈ cl, (leftF M c 0 0).1 ≠ 0 ∧ (leftF M c 0 0).1 ≠ 1
theorem Sub.refl (m : List Int) : Sub m m := fun _ _ => rfl
theorem Sub.trans {a b c : List Int} (h : Sub a b) (k : Sub b c) : Sub a c := fun i hi => by rw [k i (by rw [h i hi]; exact hi), h i hi]
theorem getD_set_eq {m : List Int} {i : Nat} {v : Int} (h : i < m.length) : (m.set i v).getD i 0 = v := by simp [List.getD, h]
theorem getD_set_ne {m : List Int} {i j : Nat} {v : Int} (h : i ≠ j) : (m.set i v).getD j 0 = m.getD j 0 := by simp [List.getD, List.getElem?_set_ne h]
theorem getD_set_out {m : List Int} {i j : Nat} {v : Int} (h : ¬ i < m.length) : (m.set i v).getD j 0 = m.getD j 0 := by rw [List.set_eq_of_length_le (by omega)]
theorem Sub.set {m M : List Int} {i : Nat} {v : Int} (h : Sub m M) (hv : M.getD i 0 = v) : Sub (m.set i v) M := by
  intro a ha
  by_cases hi : i = a
  · subst hi
    by_cases hl : i < m.length
    · rw [getD_set_eq hl]; exact hv
    · rw [getD_set_out hl] at ha ⊢; exact h _ ha
  · rw [getD_set_ne hi] at ha ⊢; exact h _ ha
theorem Sub.up {m : List Int} {i : Nat} {v : Int} (h : m.getD i 0 = 0) : Sub m (m.set i v) := by
  intro a ha
  by_cases hi : i = a
  · subst hi; exact absurd h ha
  · rw [getD_set_ne hi]
theorem leftF_shut {m M : List Int} (hs : Sub m M) : ∀ {c : List Int} {o l l' : Int}, 0 ≤ o → leftF m c o l = (o, l') → ∀ o1 l1, leftF M c o1 l1 = (o1, l1)
  | [], o, l, l', _, h, o1, l1 => rfl
  | y :: t, o, l, l', ho, h, o1, l1 => by
    simp only [leftF] at h ⊢
    split at h
    · simp only [Prod.mk.injEq] at h; omega
    · rename_i h1
      split at h
      · rcases leftF_last h with ⟨h2, _⟩ | ⟨h2, _⟩ | ⟨_, _, h2, _⟩ <;> omega
      · rename_i h2
        have h3 := hs y.natAbs h2
        rw [h3, if_neg h1, if_neg h2]
        exact leftF_shut hs ho h o1 l1
theorem leftF_mono {m M : List Int} (hs : Sub m M) : ∀ {c : List Int} {o l x : Int}, 0 ≤ o → leftF m c o l = (o + 1, x) → M.getD x.natAbs 0 = x ∨ (leftF M c o l).1 = o ∨ (leftF M c o l).1 = o + 1
  | [], o, l, x, _, h => by simp only [leftF, Prod.mk.injEq] at h; omega
  | y :: t, o, l, x, ho, h => by
    simp only [leftF] at h ⊢
    split at h
    · simp only [Prod.mk.injEq] at h; omega
    · rename_i h1
      split at h
      · rename_i h2
        have hx : x = y := by
          rcases leftF_last h with ⟨h3, _⟩ | ⟨_, h3⟩ | ⟨_, _, h3, _⟩
          · omega
          · exact h3
          · omega
        subst hx
        have h4 := leftF_shut hs (by omega) h
        by_cases h5 : M.getD x.natAbs 0 = x
        · exact .inl h5
        · rw [if_neg h5, h4]
          by_cases h6 : M.getD x.natAbs 0 = 0
          · rw [if_pos h6]; exact .inr (.inr rfl)
          · rw [if_neg h6, h4]; exact .inr (.inl rfl)
      · rename_i h2
        have h3 := hs y.natAbs h2
        rw [h3, if_neg h1, if_neg h2]
        exact leftF_mono hs ho h
theorem passF_sub {M : List Int} : ∀ {t : List (List Int)} {m m' : List Int} {ag ag' : Bool}, Fix t M → Sub m M → passF t m ag = some (m', ag') → Sub m' M
  | [], m, m', ag, ag', hf, hs, h => by simp only [passF, Option.some.injEq, Prod.mk.injEq] at h; obtain ⟨rfl, _⟩ := h; exact hs
  | c :: t, m, m', ag, ag', hf, hs, h => by
    have hft : Fix t M := fun c hc => hf c (List.mem_cons_of_mem _ hc)
    simp only [passF] at h
    split at h
    · cases h
    · split at h
      · rename_i h1
        refine passF_sub hft (hs.set ?_) h
        have h2 : leftF m c 0 0 = ((0 : Int) + 1, (leftF m c 0 0).2) := Prod.ext (by simpa using h1) rfl
        have hc := hf c (by simp)
        rcases leftF_mono hs (by omega) h2 with h3 | h3 | h3
        · exact h3
        · exact absurd h3 hc.1
        · exact absurd h3 hc.2
      · exact passF_sub hft hs h
theorem passF_up : ∀ {t : List (List Int)} {m m' : List Int} {ag ag' : Bool}, passF t m ag = some (m', ag') → Sub m m'
  | [], m, m', ag, ag', h => by simp only [passF, Option.some.injEq, Prod.mk.injEq] at h; obtain ⟨rfl, _⟩ := h; exact Sub.refl _
  | c :: t, m, m', ag, ag', h => by
    simp only [passF] at h
    split at h
    · cases h
    · split at h
      · rename_i h1
        exact (Sub.up (leftF_one h1).2).trans (passF_up h)
      · exact passF_up h
theorem passF_true : ∀ {t : List (List Int)} {m m' : List Int} {ag' : Bool}, passF t m true = some (m', ag') → ag' = true
  | [], m, m', ag', h => by simp only [passF, Option.some.injEq, Prod.mk.injEq] at h; exact h.2.symm
  | c :: t, m, m', ag', h => by
    simp only [passF] at h
    split at h
    · cases h
    · split at h
      · exact passF_true h
      · exact passF_true h
theorem passF_fix : ∀ {t : List (List Int)} {m m' : List Int}, passF t m false = some (m', false) → m' = m ∧ Fix t m
  | [], m, m', h => by simp only [passF, Option.some.injEq, Prod.mk.injEq] at h; exact ⟨h.1.symm, fun c hc => nomatch hc⟩
  | c :: t, m, m', h => by
    simp only [passF] at h
    split at h
    · cases h
    · rename_i h0
      split at h
      · have := passF_true h; cases this
      · rename_i h1
        obtain ⟨rfl, h2⟩ := passF_fix h
        refine ⟨rfl, fun c' hc => ?_⟩
        rcases List.mem_cons.1 hc with rfl | hc
        · exact ⟨h0, h1⟩
        · exact h2 c' hc
theorem Force.up {cl : List (List Int)} {m : List Int} {r : Option (List Int)} (h : Force cl m r) : ∀ m', r = some m' → Sub m m' ∧ Fix cl m' := by
  induction h with
  | bad _ => intro m' e; cases e
  | stop h => intro m' e; cases e; obtain ⟨rfl, hf⟩ := passF_fix h; exact ⟨Sub.refl _, hf⟩
  | go h _ ih => intro m' e; obtain ⟨h1, h2⟩ := ih m' e; exact ⟨(passF_up h).trans h1, h2⟩
theorem Force.mono {cl : List (List Int)} {m M : List Int} {r : Option (List Int)} (h : Force cl m r) (hM : Fix cl M) : Sub m M → ∀ m', r = some m' → Sub m' M := by
  induction h with
  | bad _ => intro _ m' e; cases e
  | stop h => intro hs m' e; cases e; exact passF_sub hM hs h
  | go h _ ih => intro hs m' e; exact ih (passF_sub hM hs h) m' e
structure Low (cl : List (List Int)) (n : Nat) (g : List Int) (k : Nat) : Prop where
  asc : Asc g
  lits : Lits n g
  le : ∀ x ∈ g, x.natAbs ≤ k
  low : ∀ m, Force cl (given n g) (some m) → ∀ i, 1 ≤ i → i ≤ k → m.getD i 0 ≠ 0
theorem Low.nil (cl : List (List Int)) (n : Nat) : Low cl n [] 0 := ⟨List.Pairwise.nil, fun x h => (nomatch h), fun x h => (nomatch h), fun m _ i h1 h2 => by omega⟩
theorem given_snoc {n : Nat} {g : List Int} {x : Int} : given n (g ++ [x]) = (given n g).set x.natAbs x := by simp [given, givenF, List.foldl_append]
theorem given_len {n : Nat} {g : List Int} : (given n g).length = n + 1 := by rw [given, givenF_len]; simp
theorem Low.next {cl : List (List Int)} {n : Nat} {g m : List Int} {k a : Nat} {x : Int} (h : Low cl n g k) (hm : Force cl (given n g) (some m)) (hlm : m.length = n + 1) (ha : IsNext m a) (h0 : a ≠ 0) (hx : x.natAbs = a) : k < a ∧ Low cl n (g ++ [x]) a := by
  obtain ⟨e, _⟩ | ⟨h1, ⟨h2, h3⟩, h4⟩ := ha
  · exact absurd e h0
  have hka : k < a := by
    refine Classical.byContradiction fun hn => ?_
    have := h.low m hm a h1 (by omega)
    exact this (by simp [List.getD, h2, h3])
  refine ⟨hka, ?_, ?_, ?_, ?_⟩
  · refine List.pairwise_append.2 ⟨h.asc, List.pairwise_singleton _ _, fun y hy z hz => ?_⟩
    simp only [List.mem_singleton] at hz
    subst hz
    have := h.le y hy
    omega
  · intro y hy
    rcases List.mem_append.1 hy with hy | hy
    · exact h.lits y hy
    · simp only [List.mem_singleton] at hy
      subst hy
      exact ⟨by intro e; subst e; simp at hx; omega, by omega⟩
  · intro y hy
    rcases List.mem_append.1 hy with hy | hy
    · have := h.le y hy; omega
    · simp only [List.mem_singleton] at hy
      subst hy; omega
  · intro M hM i hi1 hi2
    obtain ⟨u1, u2⟩ := hM.up M rfl
    have hz : (given n g).getD x.natAbs 0 = 0 := by
      rw [given, givenF_getD fun y hy => by have := h.le y hy; omega, zero_getD]
    rw [given_snoc] at u1
    by_cases hia : i = a
    · subst hia
      have := u1 x.natAbs (by rw [getD_set_eq (by rw [given_len]; omega)]; intro e; subst e; simp at hx; omega)
      rw [hx] at this
      rw [this, ← hx, getD_set_eq (by rw [given_len]; omega)]
      intro e; subst e; simp at hx; omega
    · have h5 : m.getD i 0 ≠ 0 := by
        have hil : i < m.length := by omega
        have := h4 i hil hi1 (by omega)
        simpa [List.getD, hil] using this
      have h6 := hm.mono u2 ((Sub.up hz).trans u1) m rfl i h5
      rw [h6]; exact h5
end Go.M2

namespace Go.M2
open Go.Proofs
variable {H : Heap}
theorem asc_len {g : List Int} {k : Nat} (h : Asc g) (h1 : ∀ x ∈ g, x ≠ 0) (h2 : ∀ x ∈ g, x.natAbs ≤ k) : g.length ≤ k := by
  have key : ∀ i (hi : i < g.length), i + 1 ≤ g[i].natAbs := by
    intro i
    induction i with
    | zero => intro hi; have := h1 _ (List.getElem_mem hi); omega
    | succ i ih =>
      intro hi
      have h3 := ih (by omega)
      have h4 := List.pairwise_iff_getElem.1 h i (i + 1) (by omega) hi (by omega)
      omega
  rcases Nat.eq_zero_or_pos g.length with h3 | h3
  · omega
  · have h4 := key (g.length - 1) (by omega)
    have h5 := h2 _ (List.getElem_mem (show g.length - 1 < g.length by omega))
    omega
def apart (b : Nat) : AV → Prop
  | .sl (some (b', _)) _ _ _ _ => b' ≠ b
  | _ => True
theorem base_blk {v : AV} {b : Nat} (h : apart b v) : (base H v).blk b = H.blk b := by
  unfold base
  unfold apart at h
  split
  · exact kill_ne (fun e => h e.symm)
  · rfl
theorem base_size {v : AV} : (base H v).size = H.size := by
  unfold base
  split <;> rfl
theorem base_rw {v : AV} {b : Nat} {c : List AV} (h : apart b v) (hc : H.rwCells b = some c) : (base H v).rwCells b = some c := by
  obtain ⟨h1, h2⟩ := Heap.rwCells_blk hc
  exact rwCells_of (by rw [base_size]; exact h1) (by rw [base_blk h]; exact h2)
theorem apart_of {v : AV} {b : Nat} {c : List AV} (h : (base H v).rwCells b = some c) : apart b v := by
  obtain ⟨_, h2⟩ := Heap.rwCells_blk h
  unfold apart
  split
  · rintro rfl
    simp only [base] at h2
    rw [kill_dead] at h2; cases h2
  · trivial
theorem base_upd {v : AV} {b : Nat} {x : Blk} (h : apart b v) : base (H.upd b x) v = (base H v).upd b x := by
  unfold base
  unfold apart at h
  split
  · simp only at h
    rename_i b' _ _ _ _ _
    unfold Heap.kill Heap.upd
    simp only [Heap.mk.injEq, true_and]
    funext i
    by_cases h1 : i = b
    · subst h1; rw [if_neg (fun e => h e.symm), if_pos rfl, if_pos rfl]
    · by_cases h2 : i = b'
      · subst h2; rw [if_pos rfl, if_neg h1, if_pos rfl]
      · rw [if_neg h2, if_neg h1, if_neg h1, if_neg h2]
  · rfl
theorem apart_fresh {sz : Nat} {v : AV} {l : List AV} (h : Own sz H v l) {b : Nat} (hb : H.size ≤ b) : apart b v := by
  obtain ⟨A, n, ex, k, rfl, h1, h2, h3⟩ := h
  unfold apart
  split
  · rename_i b' o n' c' ex' k' e
    cases e
    have := (h3 b' o rfl).2.2.1
    omega
  · trivial
def Nd (B B' : Heap) : Prop := Le B B' ∧ ∀ b, b < B.size → B.blk b = .dead → B'.blk b = .dead
theorem Nd.refl (B : Heap) : Nd B B := ⟨Le.refl _, fun _ _ h => h⟩
theorem Nd.trans {A B C : Heap} (h : Nd A B) (k : Nd B C) : Nd A C := ⟨h.1.trans k.1, fun b hb hd => k.2 b (Nat.lt_of_lt_of_le hb h.1.1) (h.2 b hb hd)⟩
def Heap.pad (B : Heap) (n : Nat) : Heap := ⟨n, fun b => if b < B.size then B.blk b else .dead⟩
theorem pad_nd {B : Heap} {n : Nat} (h : B.size ≤ n) : Nd B (B.pad n) := ⟨⟨h, fun b hb => .inr (by simp [Heap.pad, hb])⟩, fun b hb hd => by simp [Heap.pad, hb, hd]⟩
theorem pad_dead {B : Heap} {n b : Nat} (h : B.size ≤ b) : (B.pad n).blk b = .dead := by simp [Heap.pad, Nat.not_lt.2 h]
theorem pad_size (B : Heap) (n : Nat) : (B.pad n).size = n := rfl
theorem pad_le {B H : Heap} {n : Nat} (h : Le B H) (hn : n ≤ H.size) : Le (B.pad n) H := ⟨hn, fun b hb => by
  by_cases h1 : b < B.size
  · simp only [Heap.pad, h1, if_true]; exact h.2 b h1
  · simp only [Heap.pad, h1, if_false]; exact .inl trivial⟩
def Heap.over (B H : Heap) : Heap := ⟨H.size, fun b => if b < B.size then B.blk b else H.blk b⟩
theorem over_nd {B H : Heap} (h : B.size ≤ H.size) : Nd B (B.over H) := ⟨⟨h, fun b hb => .inr (by simp [Heap.over, hb])⟩, fun b hb hd => by simp [Heap.over, hb, hd]⟩
theorem over_le {B H H' : Heap} (h : Le B H') (hs : H.size = H'.size) (hf : ∀ b, B.size ≤ b → H'.blk b = H.blk b) : Le (B.over H) H' := ⟨by simp only [Heap.over]; omega, fun b hb => by
  by_cases h1 : b < B.size
  · simp only [Heap.over, h1, if_true]; exact h.2 b h1
  · simp only [Heap.over, h1, if_false]; exact .inr (hf b (by omega))⟩
theorem later_over (B H : Heap) : Le (H.later B.size) (B.over H) := ⟨Nat.le_refl _, fun b hb => by
  by_cases h1 : b < B.size
  · simp only [Heap.later, h1, if_true]; exact .inl trivial
  · simp only [Heap.later, Heap.over, h1, if_false]; exact .inr trivial⟩
def PL (B H : Heap) (p : AV) (P : List (List Int)) : Prop := Le B (base H p) ∧ ∃ pc : List AV, Own 1 H p pc ∧ pc.length = P.length ∧ ∀ i (h : i < P.length), ∃ u, pc[i]? = some u ∧ IsI B u P[i]
theorem PL.own {B : Heap} {p : AV} {P : List (List Int)} (h : PL B H p P) : ∃ pc, Own 1 H p pc ∧ pc.length = P.length := by
  obtain ⟨_, pc, h1, h2, _⟩ := h; exact ⟨pc, h1, h2⟩
theorem PL.len {B : Heap} {p : AV} {P : List (List Int)} (h : PL B H p P) : lenF p = some (.int .i64 (P.length : Int)) := by
  obtain ⟨_, pc, h1, h2, _⟩ := h
  obtain ⟨A, n, ex, k, rfl, h3, _⟩ := h1
  have : n = P.length := by omega
  subst this; rfl
theorem PL.one {B : Heap} {p : AV} {P : List (List Int)} (h : PL B H p P) : oneA p = true ∧ cellsOf p = some [p] := by
  obtain ⟨_, pc, h1, _⟩ := h
  obtain ⟨A, n, ex, k, rfl, _⟩ := h1
  exact ⟨rfl, rfl⟩
theorem PL.le {B H' : Heap} {p : AV} {P : List (List Int)} (h : PL B H p P) (hl : Le H H') : PL B H' p P := by
  obtain ⟨h0, pc, h1, h2, h3⟩ := h
  exact ⟨h0.trans (base_mono hl p), pc, h1.le hl, h2, h3⟩
theorem PL.at {B B' : Heap} {p : AV} {P : List (List Int)} (h : PL B H p P) (hB : Le B B') (hl : Le B' (base H p)) : PL B' H p P := by
  obtain ⟨h0, pc, h1, h2, h3⟩ := h
  refine ⟨hl, pc, h1, h2, fun i hi => ?_⟩
  obtain ⟨u, h4, h5⟩ := h3 i hi
  exact ⟨u, h4, h5.le hB⟩
theorem PL.upd {B : Heap} {p : AV} {P : List (List Int)} {b : Nat} {x : Blk} (h : PL B H p P) (ha : apart b p) (hd : B.blk b = .dead) : PL B (H.upd b x) p P := by
  obtain ⟨h0, pc, h1, h2, h3⟩ := h
  refine ⟨by rw [base_upd ha]; exact h0.updDead hd x, pc, ?_, h2, h3⟩
  obtain ⟨A, n, ex, k, rfl, q1, q2, q3⟩ := h1
  refine ⟨A, n, ex, k, rfl, q1, q2, fun b' o e => ?_⟩
  subst e
  obtain ⟨r1, r2, r3, r4⟩ := q3 b' o rfl
  have hne : b' ≠ b := ha
  exact ⟨r1, r2, r3, by rw [upd_blk_ne hne]; exact r4⟩
end Go.M2

namespace Go.M2
open Go.Proofs
variable {H : Heap}
@[go_sem] theorem retP_ctt {R : AV → Heap → Prop} {e : Env} {a n b c : Nat} {ag : Bool} : retP [.c a n ag, .t b, .t c] R e H = optP ((loadF H n ag (e a)).map fun v => .tup [v, e b, e c]) H R := by
  unfold retP retV optP
  simp only [resVs, resV]
  cases loadF H n ag (e a) <;> rfl
end Go.M2

namespace Go.M2
open Go.Proofs
variable {H : Heap}
theorem s_l3Copy {v : AV} {xs : List Int} (hv : IsI H v xs) (hl : xs.length ≤ 1048576) :
    ACall Try.prog n_spec_l3Copy [v] H (fun r H' => Own 1 H' r (xs.map (AV.int .i64)) ∧ Le H (base H' r) ∧ newer H.size r) := by
  refine ACall.of fun R hR => a_spec_l3Copy rfl ?_
  obtain ⟨A, c, ex, k, rfl, hr⟩ := hv.parts
  simp (maxSteps := 2000000) (disch := first | omega | assumption | exact idP rfl | exact idP (bL rfl) | (simp only [alloc_size, upd_size]; done) | (simp only [alloc_size, upd_size]; omega) | fail) only [go_sem, reduceIte, Nat.reduceEqDiff]
  refine wp_loop_k (fun e H' => ∃ i : Nat, i ≤ xs.length ∧ e 0 = .sl A xs.length c ex k ∧ e 4 = .int .i64 (i : Int) ∧ Own 1 H' (e 3) ((xs.take i).map (AV.int .i64)) ∧ Le H (base H' (e 3)) ∧ newer H.size (e 3)) (fun e _ => ctr xs.length (e 4)) ?_ ?_
  · exact ⟨0, Nat.zero_le _, by simp (maxSteps := 2000000) (disch := first | omega | assumption | exact idP rfl | exact idP (bL rfl) | (simp only [alloc_size, upd_size]; done) | (simp only [alloc_size, upd_size]; omega) | fail) only [go_sem, reduceIte, Nat.reduceEqDiff], by simp (maxSteps := 2000000) (disch := first | omega | assumption | exact idP rfl | exact idP (bL rfl) | (simp only [alloc_size, upd_size]; done) | (simp only [alloc_size, upd_size]; omega) | fail) only [go_sem, reduceIte, Nat.reduceEqDiff]; rfl, by simp (maxSteps := 2000000) (disch := first | omega | assumption | exact idP rfl | exact idP (bL rfl) | (simp only [alloc_size, upd_size]; done) | (simp only [alloc_size, upd_size]; omega) | fail) only [go_sem, reduceIte, Nat.reduceEqDiff]; exact Own.new rfl, by simp (maxSteps := 2000000) (disch := first | omega | assumption | exact idP rfl | exact idP (bL rfl) | (simp only [alloc_size, upd_size]; done) | (simp only [alloc_size, upd_size]; omega) | fail) only [go_sem, reduceIte, Nat.reduceEqDiff]; exact (Le.alloc _ _).killFresh (Nat.le_refl _), by simp (maxSteps := 2000000) (disch := first | omega | assumption | exact idP rfl | exact idP (bL rfl) | (simp only [alloc_size, upd_size]; done) | (simp only [alloc_size, upd_size]; omega) | fail) only [go_sem, reduceIte, Nat.reduceEqDiff]; exact Nat.le_refl _⟩
  · rintro e H1 ⟨i, hi, e0, e4, ho, hle, hnew⟩ K hK
    simp (maxSteps := 2000000) (disch := first | omega | assumption | exact idP rfl | exact idP (bL rfl) | (simp only [alloc_size, upd_size]; done) | (simp only [alloc_size, upd_size]; omega) | fail) only [go_sem, reduceIte, Nat.reduceEqDiff, e0, e4]
    refine condV_dec (fun h => ?_) (fun h => ?_)
    · have hi' : i < xs.length := by omega
      have hg := (hle.trans (base_le _ _)).get (hr i hi')
      rw [Nat.mul_one] at hg
      simp (maxSteps := 2000000) (disch := first | omega | assumption | exact idP rfl | exact idP (bL rfl) | (simp only [alloc_size, upd_size]; done) | (simp only [alloc_size, upd_size]; omega) | fail) only [go_sem, reduceIte, Nat.reduceEqDiff, e0, e4, hg]
      refine app1 ho hle hnew rfl (by simp; omega) (by omega) ?_
      intro s H2 hs hle2 hn2 _
      simp (maxSteps := 2000000) (disch := first | omega | assumption | exact idP rfl | exact idP (bL rfl) | (simp only [alloc_size, upd_size]; done) | (simp only [alloc_size, upd_size]; omega) | fail) only [go_sem, reduceIte, Nat.reduceEqDiff, e4]
      refine hK _ _ ⟨i + 1, by omega, by simp (maxSteps := 2000000) (disch := first | omega | assumption | exact idP rfl | exact idP (bL rfl) | (simp only [alloc_size, upd_size]; done) | (simp only [alloc_size, upd_size]; omega) | fail) only [go_sem, reduceIte, Nat.reduceEqDiff, e0], by simp (maxSteps := 2000000) (disch := first | omega | assumption | exact idP rfl | exact idP (bL rfl) | (simp only [alloc_size, upd_size]; done) | (simp only [alloc_size, upd_size]; omega) | fail) only [go_sem, reduceIte, Nat.reduceEqDiff]; rfl, ?_, by simp (maxSteps := 2000000) (disch := first | omega | assumption | exact idP rfl | exact idP (bL rfl) | (simp only [alloc_size, upd_size]; done) | (simp only [alloc_size, upd_size]; omega) | fail) only [go_sem, reduceIte, Nat.reduceEqDiff]; exact hle2, by simp (maxSteps := 2000000) (disch := first | omega | assumption | exact idP rfl | exact idP (bL rfl) | (simp only [alloc_size, upd_size]; done) | (simp only [alloc_size, upd_size]; omega) | fail) only [go_sem, reduceIte, Nat.reduceEqDiff]; exact hn2⟩ (by simp (maxSteps := 2000000) (disch := first | omega | assumption | exact idP rfl | exact idP (bL rfl) | (simp only [alloc_size, upd_size]; done) | (simp only [alloc_size, upd_size]; omega) | fail) only [go_sem, reduceIte, Nat.reduceEqDiff, ctr_int, e4]; omega)
      simp (maxSteps := 2000000) (disch := first | omega | assumption | exact idP rfl | exact idP (bL rfl) | (simp only [alloc_size, upd_size]; done) | (simp only [alloc_size, upd_size]; omega) | fail) only [go_sem, reduceIte, Nat.reduceEqDiff]
      rw [← take_map_succ hi']; exact hs
    · simp (maxSteps := 2000000) (disch := first | omega | assumption | exact idP rfl | exact idP (bL rfl) | (simp only [alloc_size, upd_size]; done) | (simp only [alloc_size, upd_size]; omega) | fail) only [go_sem, reduceIte, Nat.reduceEqDiff]
      obtain rfl : i = xs.length := by omega
      rw [List.take_length] at ho
      exact hR _ _ ⟨ho, hle, hnew⟩
theorem PL.updFresh {B : Heap} {p : AV} {P : List (List Int)} {b : Nat} {x : Blk} (h : PL B H p P) (ha : apart b p) (hd : B.size ≤ b) : PL B (H.upd b x) p P := by
  obtain ⟨h0, pc, h1, h2, h3⟩ := h
  refine ⟨by rw [base_upd ha]; exact h0.updFresh hd, pc, ?_, h2, h3⟩
  obtain ⟨A, n, ex, k, rfl, q1, q2, q3⟩ := h1
  refine ⟨A, n, ex, k, rfl, q1, q2, fun b' o e => ?_⟩
  subst e
  obtain ⟨r1, r2, r3, r4⟩ := q3 b' o rfl
  have hne : b' ≠ b := ha
  exact ⟨r1, r2, r3, by rw [upd_blk_ne hne]; exact r4⟩
end Go.M2

namespace Go.M2
open Go.Proofs
variable {H : Heap}
theorem clOk_lits {n : Nat} {xs : List Int} (h : ClOk (n : Int) xs) : Lits n xs := by
  intro x hx
  obtain ⟨i, hi, rfl⟩ := List.getElem_of_mem hx
  have := litOk_iff.1 (h i hi).1
  omega
end Go.M2

namespace Go.M2
open Go.Proofs
variable {H : Heap}
end Go.M2

namespace Go.M2
open Go.Proofs
variable {H : Heap}
def cmpI (a b : Int) : Int := if a < b then -1 else if b < a then 1 else 0
theorem s_isNaN {a : Int} : ACall Try.prog n_cmp_isNaN_int [.int .i64 a] H (fun r H' => H' = H ∧ r = .bool false) := by
  refine ACall.of fun R hR => a_cmp_isNaN_int rfl ?_
  simp (maxSteps := 2000000) (disch := first | omega | assumption | exact idP rfl | exact idP (bL rfl) | (simp only [alloc_size, upd_size]; done) | (simp only [alloc_size, upd_size]; omega) | fail) only [go_sem, reduceIte, Nat.reduceEqDiff]
  exact hR _ _ ⟨rfl, rfl⟩
theorem s_Compare {a b : Int} : ACall Try.prog n_cmp_Compare_int [.int .i64 a, .int .i64 b] H (fun r H' => H' = H ∧ r = .int .i64 (cmpI a b)) := by
  refine ACall.of fun R hR => a_cmp_Compare_int rfl ?_
  simp (maxSteps := 2000000) (disch := first | omega | assumption | exact idP rfl | exact idP (bL rfl) | (simp only [alloc_size, upd_size]; done) | (simp only [alloc_size, upd_size]; omega) | fail) only [go_sem, reduceIte, Nat.reduceEqDiff]
  refine s_isNaN.mono ?_
  rintro r H1 ⟨rfl, rfl⟩
  simp (maxSteps := 2000000) (disch := first | omega | assumption | exact idP rfl | exact idP (bL rfl) | (simp only [alloc_size, upd_size]; done) | (simp only [alloc_size, upd_size]; omega) | fail) only [go_sem, reduceIte, Nat.reduceEqDiff]
  refine s_isNaN.mono ?_
  rintro r H2 ⟨rfl, rfl⟩
  by_cases h : a < b
  · simp (maxSteps := 2000000) (disch := first | omega | assumption | exact idP rfl | exact idP (bL rfl) | (simp only [alloc_size, upd_size]; done) | (simp only [alloc_size, upd_size]; omega) | fail) only [go_sem, reduceIte, Nat.reduceEqDiff, h]
    exact hR _ _ ⟨rfl, by simp [cmpI, h]⟩
  · by_cases h2 : b < a
    · simp (maxSteps := 2000000) (disch := first | omega | assumption | exact idP rfl | exact idP (bL rfl) | (simp only [alloc_size, upd_size]; done) | (simp only [alloc_size, upd_size]; omega) | fail) only [go_sem, reduceIte, Nat.reduceEqDiff, h, h2]
      exact hR _ _ ⟨rfl, by simp [cmpI, h, h2]⟩
    · simp (maxSteps := 2000000) (disch := first | omega | assumption | exact idP rfl | exact idP (bL rfl) | (simp only [alloc_size, upd_size]; done) | (simp only [alloc_size, upd_size]; omega) | fail) only [go_sem, reduceIte, Nat.reduceEqDiff, h, h2]
      exact hR _ _ ⟨rfl, by simp [cmpI, h, h2]⟩
theorem s_Or2 {b : Nat} {x y : Int} (hx : H.get b 0 = some (.int .i64 x)) (hy : H.get b 1 = some (.int .i64 y)) : ACall Try.prog n_cmp_Or_int [.sl (some (b, 0)) 2 2 true 1] H (fun r H' => H' = H ∧ r = .int .i64 (if x ≠ 0 then x else y)) := by
  refine ACall.of fun R hR => a_cmp_Or_int rfl ?_
  simp (maxSteps := 2000000) (disch := first | omega | assumption | exact idP rfl | exact idP (bL rfl) | (simp only [alloc_size, upd_size]; done) | (simp only [alloc_size, upd_size]; omega) | fail) only [go_sem, reduceIte, Nat.reduceEqDiff]
  refine wp_loop_k (fun e H' => H' = H ∧ ∃ (i : Nat), i ≤ 2 ∧ e 3 = .int .i64 0 ∧ e 6 = .sl (some (b, 0)) 2 2 true 1 ∧ e 7 = .int .i64 ((2 : Nat) : Int) ∧ e 8 = .int .i64 (i : Int) ∧ (1 ≤ i → x = 0) ∧ (2 ≤ i → y = 0)) (fun e _ => ctr 2 (e 8)) ?_ ?_
  · exact ⟨rfl, 0, by omega, by simp (maxSteps := 2000000) (disch := first | omega | assumption | exact idP rfl | exact idP (bL rfl) | (simp only [alloc_size, upd_size]; done) | (simp only [alloc_size, upd_size]; omega) | fail) only [go_sem, reduceIte, Nat.reduceEqDiff], by simp (maxSteps := 2000000) (disch := first | omega | assumption | exact idP rfl | exact idP (bL rfl) | (simp only [alloc_size, upd_size]; done) | (simp only [alloc_size, upd_size]; omega) | fail) only [go_sem, reduceIte, Nat.reduceEqDiff], by simp (maxSteps := 2000000) (disch := first | omega | assumption | exact idP rfl | exact idP (bL rfl) | (simp only [alloc_size, upd_size]; done) | (simp only [alloc_size, upd_size]; omega) | fail) only [go_sem, reduceIte, Nat.reduceEqDiff], by simp (maxSteps := 2000000) (disch := first | omega | assumption | exact idP rfl | exact idP (bL rfl) | (simp only [alloc_size, upd_size]; done) | (simp only [alloc_size, upd_size]; omega) | fail) only [go_sem, reduceIte, Nat.reduceEqDiff]; rfl, by omega, by omega⟩
  · rintro e H1 ⟨rfl, i, hi, e3, e6, e7, e8, h1, h2⟩ K hK
    simp (maxSteps := 2000000) (disch := first | omega | assumption | exact idP rfl | exact idP (bL rfl) | (simp only [alloc_size, upd_size]; done) | (simp only [alloc_size, upd_size]; omega) | fail) only [go_sem, reduceIte, Nat.reduceEqDiff, e7, e8]
    refine condV_dec (fun h => ?_) (fun h => ?_)
    · obtain ⟨z, hz, hz2⟩ : ∃ z, H1.get b i = some (.int .i64 z) ∧ (i = 0 → z = x) ∧ (i = 1 → z = y) := by
        rcases (show i = 0 ∨ i = 1 by omega) with rfl | rfl
        · exact ⟨x, hx, fun _ => rfl, fun h => by omega⟩
        · exact ⟨y, hy, fun h => by omega, fun _ => rfl⟩
      simp (maxSteps := 2000000) (disch := first | omega | assumption | exact idP rfl | exact idP (bL rfl) | (simp only [alloc_size, upd_size]; done) | (simp only [alloc_size, upd_size]; omega) | fail) only [go_sem, reduceIte, Nat.reduceEqDiff, e3, e6, e8, hz]
      by_cases hz0 : z = 0
      · simp (maxSteps := 2000000) (disch := first | omega | assumption | exact idP rfl | exact idP (bL rfl) | (simp only [alloc_size, upd_size]; done) | (simp only [alloc_size, upd_size]; omega) | fail) only [go_sem, reduceIte, Nat.reduceEqDiff, hz0, e8]
        exact hK _ _ ⟨rfl, i + 1, by omega, by simp (maxSteps := 2000000) (disch := first | omega | assumption | exact idP rfl | exact idP (bL rfl) | (simp only [alloc_size, upd_size]; done) | (simp only [alloc_size, upd_size]; omega) | fail) only [go_sem, reduceIte, Nat.reduceEqDiff, e3], by simp (maxSteps := 2000000) (disch := first | omega | assumption | exact idP rfl | exact idP (bL rfl) | (simp only [alloc_size, upd_size]; done) | (simp only [alloc_size, upd_size]; omega) | fail) only [go_sem, reduceIte, Nat.reduceEqDiff, e6], by simp (maxSteps := 2000000) (disch := first | omega | assumption | exact idP rfl | exact idP (bL rfl) | (simp only [alloc_size, upd_size]; done) | (simp only [alloc_size, upd_size]; omega) | fail) only [go_sem, reduceIte, Nat.reduceEqDiff, e7], by simp (maxSteps := 2000000) (disch := first | omega | assumption | exact idP rfl | exact idP (bL rfl) | (simp only [alloc_size, upd_size]; done) | (simp only [alloc_size, upd_size]; omega) | fail) only [go_sem, reduceIte, Nat.reduceEqDiff]; rfl, fun _ => by
          by_cases h0 : i = 0
          · rw [← hz2.1 h0]; exact hz0
          · exact h1 (by omega), fun _ => by rw [← hz2.2 (by omega)]; exact hz0⟩ (by simp (maxSteps := 2000000) (disch := first | omega | assumption | exact idP rfl | exact idP (bL rfl) | (simp only [alloc_size, upd_size]; done) | (simp only [alloc_size, upd_size]; omega) | fail) only [go_sem, reduceIte, Nat.reduceEqDiff, ctr_int, e8]; omega)
      · simp (maxSteps := 2000000) (disch := first | omega | assumption | exact idP rfl | exact idP (bL rfl) | (simp only [alloc_size, upd_size]; done) | (simp only [alloc_size, upd_size]; omega) | fail) only [go_sem, reduceIte, Nat.reduceEqDiff, hz0]
        refine hR _ _ ⟨rfl, ?_⟩
        rcases (show i = 0 ∨ i = 1 by omega) with rfl | rfl
        · obtain rfl := hz2.1 rfl; simp [hz0]
        · obtain rfl := hz2.2 rfl; simp [h1 (by omega)]
    · simp (maxSteps := 2000000) (disch := first | omega | assumption | exact idP rfl | exact idP (bL rfl) | (simp only [alloc_size, upd_size]; done) | (simp only [alloc_size, upd_size]; omega) | fail) only [go_sem, reduceIte, Nat.reduceEqDiff, e3]
      exact hR _ _ ⟨rfl, by simp [h1 (by omega), h2 (by omega)]⟩
def cmpL (a b : Int) : Int := if cmpI a.natAbs b.natAbs ≠ 0 then cmpI a.natAbs b.natAbs else cmpI a b
theorem s_clauseOf1 {a b : Int} (ha : -9223372036854775808 < a ∧ a ≤ 9223372036854775807) (hb : -9223372036854775808 < b ∧ b ≤ 9223372036854775807) :
    ACall Try.prog n_impl_clauseOf_1 [.int .i64 a, .int .i64 b] H (fun r H' => Le H H' ∧ r = .int .i64 (cmpL a b)) := by
  refine ACall.of fun R hR => a_impl_clauseOf_1 rfl ?_
  simp (maxSteps := 2000000) (disch := first | omega | assumption | exact idP rfl | exact idP (bL rfl) | (simp only [alloc_size, upd_size]; done) | (simp only [alloc_size, upd_size]; omega) | fail) only [go_sem, reduceIte, Nat.reduceEqDiff]
  refine (s_atomOf ha.1 ha.2).mono ?_
  rintro r H1 ⟨rfl, rfl⟩
  simp (maxSteps := 2000000) (disch := first | omega | assumption | exact idP rfl | exact idP (bL rfl) | (simp only [alloc_size, upd_size]; done) | (simp only [alloc_size, upd_size]; omega) | fail) only [go_sem, reduceIte, Nat.reduceEqDiff]
  refine (s_atomOf hb.1 hb.2).mono ?_
  rintro r H2 ⟨rfl, rfl⟩
  simp (maxSteps := 2000000) (disch := first | omega | assumption | exact idP rfl | exact idP (bL rfl) | (simp only [alloc_size, upd_size]; done) | (simp only [alloc_size, upd_size]; omega) | fail) only [go_sem, reduceIte, Nat.reduceEqDiff]
  refine s_Compare.mono ?_
  rintro r H3 ⟨rfl, rfl⟩
  simp (maxSteps := 2000000) (disch := first | omega | assumption | exact idP rfl | exact idP (bL rfl) | (simp only [alloc_size, upd_size]; done) | (simp only [alloc_size, upd_size]; omega) | fail) only [go_sem, reduceIte, Nat.reduceEqDiff]
  refine s_Compare.mono ?_
  rintro r H4 ⟨rfl, rfl⟩
  have z2 : zeros [.int .i64 0] 2 = [.int .i64 0, .int .i64 0] := rfl
  simp (maxSteps := 2000000) (disch := first | omega | assumption | exact idP rfl | exact idP (bL rfl) | (simp only [alloc_size, upd_size]; done) | (simp only [alloc_size, upd_size]; omega) | fail) only [go_sem, reduceIte, Nat.reduceEqDiff, z2]
  refine (s_Or2 (x := cmpI (a.natAbs : Int) (b.natAbs : Int)) (y := cmpI a b) (by simp (maxSteps := 2000000) (disch := first | omega | assumption | exact idP rfl | exact idP (bL rfl) | (simp only [alloc_size, upd_size]; done) | (simp only [alloc_size, upd_size]; omega) | fail) only [go_sem, reduceIte, Nat.reduceEqDiff]) (by simp (maxSteps := 2000000) (disch := first | omega | assumption | exact idP rfl | exact idP (bL rfl) | (simp only [alloc_size, upd_size]; done) | (simp only [alloc_size, upd_size]; omega) | fail) only [go_sem, reduceIte, Nat.reduceEqDiff])).mono ?_
  rintro r H5 ⟨rfl, rfl⟩
  simp (maxSteps := 2000000) (disch := first | omega | assumption | exact idP rfl | exact idP (bL rfl) | (simp only [alloc_size, upd_size]; done) | (simp only [alloc_size, upd_size]; omega) | fail) only [go_sem, reduceIte, Nat.reduceEqDiff]
  exact hR _ _ ⟨Le.alloc _ _, rfl⟩
end Go.M2

namespace Go.M2
open Go.Proofs
variable {H : Heap}
theorem s_Clone {A : AA} {n c k : Nat} {ex : Bool} {xs : List Int} (hv : IsI H (.sl A n c ex k) xs) (hl : xs.length ≤ 1048576) (hA : A = none → xs = []) :
    ACall Try.prog n_slices_Clone_Sint_int [.sl A n c ex k] H (fun r H' => Own 1 H' r (xs.map (AV.int .i64)) ∧ Le H (base H' r) ∧ newer H.size r) := by
  refine ACall.of fun R hR => a_slices_Clone_Sint_int rfl ?_
  obtain ⟨hn, hrd⟩ := hv.rd
  cases A with
  | none =>
    obtain rfl := hA rfl
    simp (maxSteps := 2000000) (disch := first | omega | assumption | exact idP rfl | exact idP (bL rfl) | (simp only [alloc_size, upd_size]; done) | (simp only [alloc_size, upd_size]; omega) | fail) only [go_sem, reduceIte, Nat.reduceEqDiff]
    exact hR _ _ ⟨Own.nil, Le.refl _, trivial⟩
  | some p =>
    obtain ⟨b, o⟩ := p
    simp (maxSteps := 2000000) (disch := first | omega | assumption | exact idP rfl | exact idP (bL rfl) | (simp only [alloc_size, upd_size]; done) | (simp only [alloc_size, upd_size]; omega) | fail) only [go_sem, reduceIte, Nat.reduceEqDiff]
    refine app_own (sz := 1) (by omega) (Own.new (l := []) (n := 0) rfl) (hrd.le (Le.alloc _ _)) (by simp [hn]) (by simp [List.all_map, oneA]) (by simp [mostCells]; omega) (by simp [mostCells]; omega) ?_
    intro s H2 hs hle hn2
    simp (maxSteps := 2000000) (disch := first | omega | assumption | exact idP rfl | exact idP (bL rfl) | (simp only [alloc_size, upd_size]; done) | (simp only [alloc_size, upd_size]; omega) | fail) only [go_sem, reduceIte, Nat.reduceEqDiff]
    refine hR _ _ ⟨by simpa using hs, ?_, hn2 _ (Nat.le_succ _) (Nat.le_refl _)⟩
    exact ((Le.alloc H []).killFresh (Nat.le_refl _)).trans hle
theorem setAt_all : ∀ (l z pre : List AV), z.length = l.length → setAt (pre ++ z) pre.length l = pre ++ l
  | [], z, pre, h => by
    have : z = [] := List.eq_nil_of_length_eq_zero (by simpa using h)
    subst this; rfl
  | x :: t, [], pre, h => by simp at h
  | x :: t, y :: u, pre, h => by
    simp only [setAt]
    have e1 : (pre ++ y :: u).set pre.length x = (pre ++ [x]) ++ u := by simp
    have e2 : pre.length + 1 = (pre ++ [x]).length := by simp
    rw [e1, e2, setAt_all t u (pre ++ [x]) (by simpa using h)]
    simp
theorem s_implClone {A : AA} {n c k : Nat} {ex : Bool} {xs : List Int} (hv : IsI H (.sl A n c ex k) xs) (hl : xs.length ≤ 1048576) :
    ACall Try.prog n_impl_clone_int [.sl A n c ex k] H (fun r H' => Own 1 H' r (xs.map (AV.int .i64)) ∧ Le H (base H' r) ∧ newer H.size r) := by
  refine ACall.of fun R hR => a_impl_clone_int rfl ?_
  obtain ⟨hn, hrd⟩ := hv.rd
  subst hn
  simp (maxSteps := 2000000) (disch := first | omega | assumption | exact idP rfl | exact idP (bL rfl) | (simp only [alloc_size, upd_size]; done) | (simp only [alloc_size, upd_size]; omega) | fail) only [go_sem, reduceIte, Nat.reduceEqDiff]
  refine condV_dec (fun h => ?_) (fun h => ?_)
  · have : xs = [] := List.eq_nil_of_length_eq_zero (by omega)
    subst this
    simp (maxSteps := 2000000) (disch := first | omega | assumption | exact idP rfl | exact idP (bL rfl) | (simp only [alloc_size, upd_size]; done) | (simp only [alloc_size, upd_size]; omega) | fail) only [go_sem, reduceIte, Nat.reduceEqDiff]
    exact hR _ _ ⟨Own.nil, Le.refl _, trivial⟩
  · simp (maxSteps := 2000000) (disch := first | omega | assumption | exact idP rfl | exact idP (bL rfl) | (simp only [alloc_size, upd_size]; done) | (simp only [alloc_size, upd_size]; omega) | fail) only [go_sem, reduceIte, Nat.reduceEqDiff]
    refine mks_own (by omega) (by simp [mostCells]; omega) (by simp [mostCells]; omega) ?_
    simp (maxSteps := 2000000) (disch := first | omega | assumption | exact idP rfl | exact idP (bL rfl) | (simp only [alloc_size, upd_size]; done) | (simp only [alloc_size, upd_size]; omega) | fail) only [go_sem, reduceIte, Nat.reduceEqDiff]
    have hld : loadN (H.alloc (zeros [.int .i64 0] xs.length)) A.b A.o xs.length = some (xs.map (AV.int .i64)) := by
      have := (hrd.le (Le.alloc H (zeros [.int .i64 0] xs.length))).loadN
      rw [List.length_map] at this
      exact this
    unfold copyP
    simp only [AA.b_some, AA.o_some, Nat.min_self, Nat.mul_one, hld]
    rw [if_neg (by omega), rw_alloc_new rfl]
    refine ⟨by simp [List.all_map, oneA], by rw [zeros_len rfl]; omega, ?_⟩
    have hz := setAt_all (xs.map (AV.int .i64)) (zeros [.int .i64 0] xs.length) [] (by rw [zeros_len rfl]; simp)
    simp only [List.nil_append, List.length_nil] at hz
    rw [hz]
    simp (maxSteps := 2000000) (disch := first | omega | assumption | exact idP rfl | exact idP (bL rfl) | (simp only [alloc_size, upd_size]; done) | (simp only [alloc_size, upd_size]; omega) | fail) only [go_sem, reduceIte, Nat.reduceEqDiff]
    refine hR _ _ ⟨⟨some (H.size, 0), xs.length, true, 1, rfl, by simp, fun h => (nomatch h), fun b o e => ?_⟩, ?_, Nat.le_refl _⟩
    · cases e; exact ⟨rfl, rfl, Nat.lt_succ_self _, upd_blk_same'⟩
    · show Le H ((_ : Heap).kill H.size)
      exact (((Le.alloc H _).updFresh (Nat.le_refl _))).killFresh (Nat.le_refl _)
end Go.M2

namespace Go.M2
open Go.Proofs Go.Shelf Go.Sort
variable {w0 w : World} {ρ : Nat → BI} {H : Heap}
structure LitS where
  val : Int
  ok : -9223372036854775808 < val ∧ val ≤ 9223372036854775807
theorem LitS.ext' {x y : LitS} (h : x.1 = y.1) : x = y := by
  cases x; cases y; simp only at h; subst h; rfl
instance : Inhabited LitS := ⟨⟨0, by omega, by omega⟩⟩
def encL (x : LitS) : Value := .int .i64 x.1
def eaL (x : LitS) : AV := .int .i64 x.1
def cfL (x y : LitS) : Int := cmpL x.1 y.1
theorem ltL_iff {x y : LitS} : ltOf cfL x y = true ↔ x.1.natAbs < y.1.natAbs ∨ (x.1.natAbs = y.1.natAbs ∧ x.1 < y.1) := by
  unfold ltOf cfL cmpL cmpI
  rw [decide_eq_true_eq]
  by_cases h1 : (x.1.natAbs : Int) < (y.1.natAbs : Int)
  · simp [h1]; omega
  · by_cases h2 : (y.1.natAbs : Int) < (x.1.natAbs : Int)
    · simp [h1, h2]; omega
    · by_cases h3 : x.1 < y.1
      · simp [h1, h2, h3]; omega
      · by_cases h4 : y.1 < x.1
        · simp [h1, h2, h3, h4]; omega
        · simp [h1, h2, h3, h4]; omega
theorem ltL_false {x y : LitS} : ltOf cfL x y = false ↔ ¬ (x.1.natAbs < y.1.natAbs ∨ (x.1.natAbs = y.1.natAbs ∧ x.1 < y.1)) := by
  rw [← ltL_iff]; simp
theorem swoL : SWO (ltOf cfL) where
  irrefl x := by rw [ltL_false]; omega
  trans x y z h1 h2 := by rw [ltL_iff] at h1 h2 ⊢; omega
  ntrans x y z h1 h2 := by rw [ltL_false] at h1 h2 ⊢; omega
theorem totL (x y : LitS) (h1 : ltOf cfL x y = false) (h2 : ltOf cfL y x = false) : x = y := by
  rw [ltL_false] at h1 h2
  exact LitS.ext' (by omega)
theorem HI.growB : ∀ (l : List Obj) {w : World}, HI w0 ρ H w → HI w0 ρ H (Sort.grow w l.toArray) ∧ Evol ρ H w ρ H (Sort.grow w l.toArray)
  | [], w, h => by
    have e : Sort.grow w ([] : List Obj).toArray = w := Sort.grow_empty w
    rw [e]; exact ⟨h, Evol.refl _ _ _⟩
  | o :: t, w, h => by
    have e : Sort.grow w (o :: t).toArray = Sort.grow (w.alloc o) t.toArray := by
      rw [Sort.alloc_eq_grow, Sort.grow_grow]
      congr 1
      simp
    rw [e]
    obtain ⟨h1, h2⟩ := HI.growB t (h.grow o)
    exact ⟨h1, (Evol.grow ρ H w o).trans h2⟩
theorem take_set_dropB {α : Type} {ys zs : List α} (hl : ys.length = zs.length) {k : Nat} (hk : k < ys.length) : (ys.take k ++ zs.drop k).set k ys[k] = ys.take (k + 1) ++ zs.drop (k + 1) := by
  rw [List.set_append_right _ _ (by simp; omega), List.length_take, Nat.min_eq_left (by omega), Nat.sub_self, List.drop_eq_getElem_cons (by omega : k < zs.length), List.set_cons_zero, List.take_succ_eq_append_getElem hk, List.append_assoc]
  rfl
theorem HI.putL {b : Nat} {zs : List LitS} {rest : List AV} (h : HI w0 ρ H w) (hb : b < H.size) (hblk : H.blk b = .cells (zs.map eaL ++ rest) true) {ys : List LitS} (hl : ys.length = zs.length) :
    ∀ k, k ≤ ys.length → HI w0 ρ (H.upd b (.cells ((ys.take k ++ zs.drop k).map eaL ++ rest) true)) (Sort.putRow encL w (ρ b).blk (ρ b).off (ys.take k ++ zs.drop k).toArray) ∧
      Evol ρ H w ρ (H.upd b (.cells ((ys.take k ++ zs.drop k).map eaL ++ rest) true)) (Sort.putRow encL w (ρ b).blk (ρ b).off (ys.take k ++ zs.drop k).toArray)
  | 0, _ => by
    simp only [List.take_zero, List.drop_zero, List.nil_append]
    have e : H.upd b (.cells (zs.map eaL ++ rest) true) = H := by
      cases H with
      | mk n f =>
        simp only [Heap.upd, Heap.mk.injEq, true_and]
        funext b'
        split
        · rename_i e; subst e; exact hblk.symm
        · rfl
    obtain ⟨o1, o2, cs, t, o3, o4⟩ := h.own b _ hb hblk
    have e2 : Sort.putRow encL w (ρ b).blk (ρ b).off zs.toArray = w := by
      refine Sort.mapBlock_id w _ _ fun c e fr hc => ?_
      rw [o3] at hc
      cases hc
      apply Array.ext_getElem?
      intro k
      simp only [Sort.putCells, Array.getElem?_mapIdx]
      cases hk : cs[k]? with
      | none => rfl
      | some y =>
        simp only [Option.map_some]
        split
        · rename_i hr
          obtain ⟨r1, r2⟩ := hr
          have hz : k - (ρ b).off < zs.length := by simpa using (by omega : k - (ρ b).off < zs.toArray.size)
          obtain ⟨v, hv, hr⟩ := h.cell b _ true hb hblk (k - (ρ b).off) (eaL (zs[k - (ρ b).off]'hz)) (by
            rw [List.getElem?_append_left (by simpa using hz)]; simp [hz])
          rw [show (ρ b).off + (k - (ρ b).off) = k by omega] at hv
          simp only [World.cell?, o3] at hv
          have hv : cs[k]? = some v := by simpa using hv
          rw [hk] at hv
          cases hv
          cases hr
          rw [getElem!_pos _ _ (by simpa using hz)]
          simp [encL]
        · rfl
    rw [e, e2]; exact ⟨h, Evol.refl _ _ _⟩
  | k + 1, hk => by
    obtain ⟨h1, h2⟩ := HI.putL h hb hblk hl k (by omega)
    have hk' : k < ys.length := hk
    have hsz := (h1.own b _ hb (Heap.upd_blk_same _ _ _)).2.1
    have hst := take_set_dropB hl hk'
    have hlen : (ys.take k ++ zs.drop k).length = ys.length := by simp; omega
    have h3 := h1.write (c := ((ys.take k ++ zs.drop k).map eaL ++ rest)) hb (Heap.upd_blk_same _ _ _) k (by simp at hsz; omega) ((ys.take (k + 1) ++ zs.drop (k + 1)).map eaL ++ rest) (by simp at hsz ⊢; omega) (encL ys[k])
      (fun j y hy hj => by
        rw [← hst, List.map_set, ← List.set_append_left _ _ (by simp; omega), List.getElem?_set_ne (by omega)] at hy
        exact hy)
      (fun y hy => by
        rw [← hst, List.map_set, ← List.set_append_left _ _ (by simp; omega), List.getElem?_set_self (by simp; omega)] at hy
        cases hy; exact .int _ _)
    have hd : (ys.take k ++ zs.drop k).toArray.setIfInBounds k ys[k] = (ys.take (k + 1) ++ zs.drop (k + 1)).toArray := by rw [← hst]; simp
    have hp := Sort.putRow_set encL w (ρ b).blk (ρ b).off (ys.take k ++ zs.drop k).toArray k ys[k] (by simp; omega)
    rw [hd] at hp
    obtain ⟨_, _, h4, h5⟩ := h3
    rw [hp, Heap.upd_upd] at h4 h5
    exact ⟨h4, h2.trans h5⟩
theorem grown_of {W w' : World} (hb : Go.RowKit.Below W.heap.size W w') (hm : W.drawn ≤ w'.drawn) : ∃ q os', w' = Sort.grow (W.drewN q) os' := by
  refine ⟨w'.drawn - W.drawn, w'.heap.extract W.heap.size w'.heap.size, ?_⟩
  obtain ⟨b1, b2, b3, b4, b5⟩ := hb
  have hh : w'.heap = W.heap ++ w'.heap.extract W.heap.size w'.heap.size := by
    apply Array.ext_getElem?
    intro i
    by_cases hi : i < W.heap.size
    · rw [b5 i hi, Array.getElem?_append_left hi]
    · rw [Array.getElem?_append_right (by omega), Array.getElem?_extract]
      split
      · congr 1; omega
      · rw [Array.getElem?_eq_none]; omega
  have hd : w'.drawn = W.drawn + (w'.drawn - W.drawn) := by omega
  cases W with
  | mk =>
    cases w' with
    | mk =>
      simp only at b1 b2 b3 hh hd
      subst b1 b2 b3
      simp only [Sort.grow, World.drewN, World.mk.injEq, true_and, and_true]
      first | exact ⟨hh, hd⟩ | exact ⟨hd, hh⟩ | (constructor <;> assumption)
theorem cmpL_lays {blk off size : Nat} {w : World} : CmpLays1 Try.prog n_impl_clauseOf_1 #[] encL cfL blk off size w := by
  intro m os dk hs x y
  generalize sortWorld encL w blk off m dk os = W
  have hi : HI W (fun _ => ⟨0, 0, 0, false⟩) ⟨0, fun _ => .dead⟩ W := ⟨Go.RowKit.Below.refl _ _, fun b h => absurd h (Nat.not_lt_zero _), fun b c h => absurd h (Nat.not_lt_zero _), fun b c r h => absurd h (Nat.not_lt_zero _), fun b c r h => absurd h (Nat.not_lt_zero _), fun b c h => absurd h (Nat.not_lt_zero _), fun b es h => absurd h (Nat.not_lt_zero _), fun b b' h => absurd h (Nat.not_lt_zero _)⟩
  refine ((s_clauseOf1 x.2 y.2).2 W _ W [encL x, encL y] hi ?_).mono ?_
  · refine ⟨rfl, fun i a v h1 h2 => ?_⟩
    match i with
    | 0 => simp at h1 h2; subst h1 h2; exact .int _ _
    | 1 => simp at h1 h2; subst h1 h2; exact .int _ _
    | i + 2 => simp at h1
  · rintro e w' ⟨r, H', ρ', v, rfl, hv, hev, hi', _, rfl⟩
    cases hv
    exact ⟨rfl, grown_of hi'.below hev.mono⟩
def sortS (zs : List LitS) : List LitS := zs.mergeSort fun x y => !(ltOf cfL) y x
theorem sortS_len {zs : List LitS} : (sortS zs).length = zs.length := by simp [sortS]
theorem s_SortFunc {rn : Ren} (Ly : SlLaysF.n6 Try.prog rn) (hcb : callable Try.prog (rn.f 6) = true)
    (eg : ∀ args w, (callFunc n_impl_clauseOf_1 args).run Try.prog w = .ok (.enter n_impl_clauseOf_1 args) w) {b n c : Nat} {ex : Bool} {zs : List LitS} {rest : List AV}
    (hb : H.rwCells b = some (zs.map eaL ++ rest)) (hn : n = zs.length) (h62 : zs.length < 4611686018427387904) :
    ACall Try.prog (rn.f 6) [.sl (some (b, 0)) n c ex 1, .fn n_impl_clauseOf_1 []] H (fun r H' => r = .tup [] ∧ H' = H.upd b (.cells ((sortS zs).map eaL ++ rest) true)) := by
  subst hn
  obtain ⟨hbs, hblk⟩ := Heap.rwCells_blk hb
  refine ⟨hcb, fun w0 ρ w vs hi hvs => ?_⟩
  obtain ⟨v, t, rfl, hv, ht⟩ := hvs.uncons
  obtain ⟨u, t, rfl, hu, ht⟩ := ht.uncons
  have := ht.unnil; subst this
  generalize hq : (AV.sl (some (b, 0)) zs.length c ex 1) = q at hv
  cases hv <;> cases hq
  rename_i c' h1 h2 h3 h4 h5
  cases hu
  rename_i a ha1 ha2
  obtain rfl : a = #[] := by
    have : a.size = 0 := ha1.symm
    exact Array.eq_empty_of_size_eq_zero this
  obtain ⟨o1, o2, cs, t, o3, o4⟩ := hi.own b _ hbs hblk
  have hH : Sort.Holds encL w (ρ b).blk ((ρ b).off + 0) zs.toArray := by
    intro j hj
    have hj : j < zs.length := by simpa using hj
    obtain ⟨v, hv, hr⟩ := hi.cell b _ true hbs hblk j (eaL zs[j]) (by rw [List.getElem?_append_left (by simpa using hj)]; simp [hj])
    cases hr
    refine ⟨?_, by simp [World.frozen?, o3]⟩
    rw [Nat.add_zero, hv, getElem!_pos _ _ (by simpa using hj)]
    simp [encL]
  have hc := Any.slices_SortFunc_total Ly encL (fun _ => rfl) cfL swoL n_impl_clauseOf_1 #[] (ρ b).blk ((ρ b).off + 0) c' zs.toArray w eg cmpL_lays hH (hi.bound b hbs) (by simpa using h62) totL
  refine (show Calls Try.prog (rn.f 6) #[.slice (some ⟨(ρ b).blk, (ρ b).off + 0, none⟩) zs.length c', .func (.func n_impl_clauseOf_1) #[] #[]] w _ from hc).mono ?_
  rintro e w' ⟨rfl, N, os, rfl⟩
  have d1 : HI w0 ρ H (Sort.ahead w N) := hi.drawn _
  have d2 : Evol ρ H w ρ H (Sort.ahead w N) := Evol.drawn ρ H w _
  obtain ⟨p1, p2⟩ := d1.putL hbs hblk (ys := sortS zs) sortS_len (sortS zs).length (Nat.le_refl _)
  have e0 : (sortS zs).take (sortS zs).length ++ zs.drop (sortS zs).length = sortS zs := by rw [List.take_length, sortS_len, List.drop_length, List.append_nil]
  rw [e0] at p1 p2
  obtain ⟨g1, g2⟩ := HI.growB os.toList p1
  refine ⟨.tup [], _, ρ, .tuple #[], rfl, .tup [] #[] rfl (fun i x v h => by simp at h), (d2.trans p2).trans g2, g1, rfl, rfl⟩
theorem s_SortFuncNone {rn : Ren} (Ly : SlLaysF.n6 Try.prog rn) (hcb : callable Try.prog (rn.f 6) = true) {k : Nat} {fv : AV} :
    ACall Try.prog (rn.f 6) [.sl none 0 0 true k, fv] H (fun r H' => r = .tup [] ∧ H' = H) := by
  refine ⟨hcb, fun w0 ρ w vs hi hvs => ?_⟩
  obtain ⟨v, t, rfl, hv, ht⟩ := hvs.uncons
  obtain ⟨u, t, rfl, hu, ht⟩ := ht.uncons
  have := ht.unnil; subst this
  cases hv
  refine (show Calls Try.prog (rn.f 6) #[.slice none 0 0, u] w _ from AnyF.slices_SortFunc_none { Ly with } none 0 u w).mono ?_
  rintro e w' ⟨rfl, rfl⟩
  exact ⟨.tup [], H, ρ, .tuple #[], rfl, .tup [] #[] rfl (fun i x v h => by simp at h), Evol.refl _ _ _, hi, rfl, rfl⟩
end Go.M2

namespace Go.M2
open Go.Proofs Go.Shelf
set_option maxRecDepth 100000
def sortf_ren : Ren := ⟨fun | 6 => 126 | 14 => 139 | 15 => 140 | 20 => 147 | 21 => 148 | 22 => 149 | 23 => 150 | 24 => 151 | 25 => 152 | 26 => 153 | 27 => 154 | 28 => 155 | 29 => 156 | 46 => 158 | 47 => 159 | 48 => 160 | 49 => 161 | 50 => 162 | 57 => 163 | n => n, fun | 0 => 0 | 3 => 3 | 4 => 4 | 5 => 5 | 9 => 9 | 22 => 44 | 24 => 3 | 25 => 122 | 39 => 130 | 45 => 139 | 46 => 140 | 50 => 36 | 53 => 146 | 55 => 148 | 66 => 150 | 70 => 154 | 76 => 156 | 77 => 131 | n => n, fun n => n⟩
theorem laysf : SlLaysF.n6 Try.prog sortf_ren where
  mixed := by kernel_rfl
  f6 := ⟨ "slices.SortFunc[[]int,int]", by kernel_rfl, Try.func126.trans (congrArg some (by kernel_rfl))⟩
  f14 := ⟨ "slices.pdqsortCmpFunc[int]", by kernel_rfl, Try.func139.trans (congrArg some (by kernel_rfl))⟩
  f15 := Try.func140.trans (congrArg some (by kernel_rfl))
  f20 := ⟨ "slices.insertionSortCmpFunc[int]", by kernel_rfl, Try.func147.trans (congrArg some (by kernel_rfl))⟩
  f21 := ⟨ "slices.heapSortCmpFunc[int]", by kernel_rfl, Try.func148.trans (congrArg some (by kernel_rfl))⟩
  f22 := ⟨ "slices.breakPatternsCmpFunc[int]", by kernel_rfl, Try.func149.trans (congrArg some (by kernel_rfl))⟩
  f23 := ⟨ "slices.choosePivotCmpFunc[int]", by kernel_rfl, Try.func150.trans (congrArg some (by kernel_rfl))⟩
  f24 := ⟨ "slices.reverseRangeCmpFunc[int]", by kernel_rfl, Try.func151.trans (congrArg some (by kernel_rfl))⟩
  f25 := ⟨ "slices.partialInsertionSortCmpFunc[int]", by kernel_rfl, Try.func152.trans (congrArg some (by kernel_rfl))⟩
  f26 := ⟨ "slices.partitionEqualCmpFunc[int]", by kernel_rfl, Try.func153.trans (congrArg some (by kernel_rfl))⟩
  f27 := ⟨ "slices.partitionCmpFunc[int]", by kernel_rfl, Try.func154.trans (congrArg some (by kernel_rfl))⟩
  f28 := Try.func155.trans (congrArg some (by kernel_rfl))
  f29 := Try.func156.trans (congrArg some (by kernel_rfl))
  f46 := ⟨ "slices.siftDownCmpFunc[int]", by kernel_rfl, Try.func158.trans (congrArg some (by kernel_rfl))⟩
  f47 := Try.func159.trans (congrArg some (by kernel_rfl))
  f48 := Try.func160.trans (congrArg some (by kernel_rfl))
  f49 := ⟨ "slices.medianAdjacentCmpFunc[int]", by kernel_rfl, Try.func161.trans (congrArg some (by kernel_rfl))⟩
  f50 := ⟨ "slices.medianCmpFunc[int]", by kernel_rfl, Try.func162.trans (congrArg some (by kernel_rfl))⟩
  f57 := ⟨ "slices.order2CmpFunc[int]", by kernel_rfl, Try.func163.trans (congrArg some (by kernel_rfl))⟩
  t0 := Try.underlying0
  a0 := Try.isAgg0
  z0 := Try.sizeOf0
  v0 := Try.zeroValue0
  t3 := Try.underlying3
  a3 := Try.isAgg3
  z3 := Try.sizeOf3
  v3 := Try.zeroValue3
  t4 := Try.underlying4
  a4 := Try.isAgg4
  z4 := Try.sizeOf4
  v4 := Try.zeroValue4
  t5 := Try.underlying5
  a5 := Try.isAgg5
  z5 := Try.sizeOf5
  v5 := Try.zeroValue5
  t9 := Try.underlying9
  a9 := Try.isAgg9
  z9 := Try.sizeOf9
  v9 := Try.zeroValue9
  t22 := Try.underlying44
  a22 := Try.isAgg44
  z22 := Try.sizeOf44
  v22 := Try.zeroValue44
  a24 := Try.isAgg3
  z24 := Try.sizeOf3
  t25 := Try.underlying122
  a25 := Try.isAgg122
  z25 := Try.sizeOf122
  v25 := Try.zeroValue122
  t39 := Try.underlying130
  a39 := Try.isAgg130
  z39 := Try.sizeOf130
  v39 := Try.zeroValue130
  t45 := Try.underlying139
  a45 := Try.isAgg139
  z45 := Try.sizeOf139
  v45 := Try.zeroValue139
  t46 := Try.underlying140
  a46 := Try.isAgg140
  z46 := Try.sizeOf140
  v46 := Try.zeroValue140
  t50 := Try.underlying36
  a50 := Try.isAgg36
  z50 := Try.sizeOf36
  v50 := Try.zeroValue36
  t53 := Try.underlying146
  a53 := Try.isAgg146
  z53 := Try.sizeOf146
  v53 := Try.zeroValue146
  t55 := Try.underlying148
  a55 := Try.isAgg148
  z55 := Try.sizeOf148
  v55 := Try.zeroValue148
  t66 := Try.underlying150
  a66 := Try.isAgg150
  z66 := Try.sizeOf150
  v66 := Try.zeroValue150
  t70 := Try.underlying154
  a70 := Try.isAgg154
  z70 := Try.sizeOf154
  v70 := Try.zeroValue154
  t76 := Try.underlying156
  a76 := Try.isAgg156
  z76 := Try.sizeOf156
  v76 := Try.zeroValue156
  t77 := Try.underlying131
  a77 := Try.isAgg131
  z77 := Try.sizeOf131
  v77 := Try.zeroValue131
variable {H : Heap}
theorem s_SortLits {b n c : Nat} {ex : Bool} {zs : List LitS} {rest : List AV}
    (hb : H.rwCells b = some (zs.map eaL ++ rest)) (hn : n = zs.length) (h62 : zs.length < 4611686018427387904) :
    ACall Try.prog n_slices_SortFunc_Sint_int [.sl (some (b, 0)) n c ex 1, .fn n_impl_clauseOf_1 []] H (fun r H' => r = .tup [] ∧ H' = H.upd b (.cells ((sortS zs).map eaL ++ rest) true)) :=
  s_SortFunc laysf (by kernel_rfl) (enters_of Try.func127 (by kernel_rfl) rfl) hb hn h62
theorem s_SortLitsNone {k : Nat} {fv : AV} : ACall Try.prog n_slices_SortFunc_Sint_int [.sl none 0 0 true k, fv] H (fun r H' => r = .tup [] ∧ H' = H) :=
  s_SortFuncNone laysf (by kernel_rfl)
end Go.M2

namespace Go.M2
open Go.Proofs
variable {H : Heap}
theorem s_CompactId {v : AV} {xs : List Int} (hv : IsI H v xs) (hl : xs.length ≤ 1048576) (hne : ∀ i (h : i < xs.length), 0 < i → xs[i] ≠ xs[i - 1]) :
    ACall Try.prog n_slices_Compact_Sint_int [v] H (fun r H' => r = v ∧ H' = H) := by
  refine ACall.of fun R hR => a_slices_Compact_Sint_int rfl ?_
  obtain ⟨A, c, ex, k, rfl, hr⟩ := hv.parts
  simp (maxSteps := 2000000) (disch := first | omega | assumption | exact idP rfl | exact idP (bL rfl) | (simp only [alloc_size, upd_size]; done) | (simp only [alloc_size, upd_size]; omega) | fail) only [go_sem, reduceIte, Nat.reduceEqDiff]
  refine condV_dec (fun h => ?_) (fun h => ?_)
  · simp (maxSteps := 2000000) (disch := first | omega | assumption | exact idP rfl | exact idP (bL rfl) | (simp only [alloc_size, upd_size]; done) | (simp only [alloc_size, upd_size]; omega) | fail) only [go_sem, reduceIte, Nat.reduceEqDiff]
    exact hR _ _ ⟨rfl, rfl⟩
  · simp (maxSteps := 2000000) (disch := first | omega | assumption | exact idP rfl | exact idP (bL rfl) | (simp only [alloc_size, upd_size]; done) | (simp only [alloc_size, upd_size]; omega) | fail) only [go_sem, reduceIte, Nat.reduceEqDiff]
    refine wp_loop_k (fun e H' => H' = H ∧ ∃ i : Nat, 1 ≤ i ∧ i ≤ xs.length ∧ e 0 = .sl A xs.length c ex k ∧ e 3 = .int .i64 (i : Int)) (fun e _ => ctr xs.length (e 3)) ?_ ?_
    · exact ⟨rfl, 1, by omega, by omega, by simp (maxSteps := 2000000) (disch := first | omega | assumption | exact idP rfl | exact idP (bL rfl) | (simp only [alloc_size, upd_size]; done) | (simp only [alloc_size, upd_size]; omega) | fail) only [go_sem, reduceIte, Nat.reduceEqDiff], by simp (maxSteps := 2000000) (disch := first | omega | assumption | exact idP rfl | exact idP (bL rfl) | (simp only [alloc_size, upd_size]; done) | (simp only [alloc_size, upd_size]; omega) | fail) only [go_sem, reduceIte, Nat.reduceEqDiff]; rfl⟩
    · rintro e H1 ⟨rfl, i, hi1, hi, e0, e3⟩ K hK
      simp (maxSteps := 2000000) (disch := first | omega | assumption | exact idP rfl | exact idP (bL rfl) | (simp only [alloc_size, upd_size]; done) | (simp only [alloc_size, upd_size]; omega) | fail) only [go_sem, reduceIte, Nat.reduceEqDiff, e0, e3]
      refine condV_dec (fun h => ?_) (fun h => ?_)
      · have hi' : i < xs.length := by omega
        have hg := hr i hi'
        have hg2 := hr (i - 1) (by omega)
        rw [Nat.mul_one] at hg hg2
        have hsub : ((i : Int) - 1).toNat = i - 1 := by omega
        simp (maxSteps := 2000000) (disch := first | omega | assumption | exact idP rfl | exact idP (bL rfl) | (simp only [alloc_size, upd_size]; done) | (simp only [alloc_size, upd_size]; omega) | fail) only [go_sem, reduceIte, Nat.reduceEqDiff, e0, e3, hg, hsub, hg2]
        refine condV_dec (fun heq => absurd heq (hne i hi' hi1)) (fun heq => ?_)
        simp (maxSteps := 2000000) (disch := first | omega | assumption | exact idP rfl | exact idP (bL rfl) | (simp only [alloc_size, upd_size]; done) | (simp only [alloc_size, upd_size]; omega) | fail) only [go_sem, reduceIte, Nat.reduceEqDiff, e0, e3]
        exact hK _ _ ⟨rfl, i + 1, by omega, by omega, by simp (maxSteps := 2000000) (disch := first | omega | assumption | exact idP rfl | exact idP (bL rfl) | (simp only [alloc_size, upd_size]; done) | (simp only [alloc_size, upd_size]; omega) | fail) only [go_sem, reduceIte, Nat.reduceEqDiff, e0], by simp (maxSteps := 2000000) (disch := first | omega | assumption | exact idP rfl | exact idP (bL rfl) | (simp only [alloc_size, upd_size]; done) | (simp only [alloc_size, upd_size]; omega) | fail) only [go_sem, reduceIte, Nat.reduceEqDiff]; rfl⟩ (by simp (maxSteps := 2000000) (disch := first | omega | assumption | exact idP rfl | exact idP (bL rfl) | (simp only [alloc_size, upd_size]; done) | (simp only [alloc_size, upd_size]; omega) | fail) only [go_sem, reduceIte, Nat.reduceEqDiff, ctr_int, e3]; omega)
      · simp (maxSteps := 2000000) (disch := first | omega | assumption | exact idP rfl | exact idP (bL rfl) | (simp only [alloc_size, upd_size]; done) | (simp only [alloc_size, upd_size]; omega) | fail) only [go_sem, reduceIte, Nat.reduceEqDiff, e0]
        exact hR _ _ ⟨rfl, rfl⟩
theorem upd_self {b : Nat} {x : Blk} (h : H.blk b = x) : H.upd b x = H := by
  cases H with
  | mk n f =>
    simp only [Heap.upd, Heap.mk.injEq, true_and]
    funext b'
    split
    · rename_i e; subst e; exact h.symm
    · rfl
end Go.M2
