/- The functions, turned: printed by program. -/
import Derived.Test.YtcoknnjffbipfaaPn4
import Derived.Test.YtcoknnjffbipfaaProg
import Derived.KernelRfl
set_option linter.unusedVariables false
set_option linter.unusedSimpArgs false
set_option maxRecDepth 10000
set_option maxHeartbeats 4000000
namespace Go.M2
open Go.Proofs
variable {M : MH} {vs : List V} {RV : V → MH → Prop}
@[go_sem] def l56_0 (_ : Unit) : KL := [kA 3 (.box (.t 0)),
  kB 6 (.mv (.c (.sl none 0 0 true 0))) [1, 2, 3]]
@[go_sem] def l56_1 (_ : Unit) : KL := [kA 11 (.faddr (.t 3) 1),
  kA 12 (.load (.t 11) 1 false),
  kA 13 (.mv (.t 2)),
  kA 14 (.iaddr (.t 12) (.t 13) 3),
  kB 15 (.load (.t 14) 3 true) [1, 3, 15],
  kA 7 (.alloc [(.sl none 0 0 true 0), (.sl none 0 0 true 0), (.sl none 0 0 true 0)]),
  (⟨none, .store (.t 7) 3 (.t 15), none⟩, (some [1, 3, 7]))]
@[go_sem] def l56_2 (_ : Unit) : KL := [kA 16 (.faddr (.t 7) 0),
  kA 17 (.load (.t 16) 1 false),
  kA 18 (.mv (.t 1)),
  kA 19 (.call (n_spec_l2Last) [(.t 17), (.t 18)]),
  kB 20 (.bin .eql (.t 19) (cI 0)) [1, 3, 7, 20]]
@[go_sem] def l56_3 (_ : Unit) : KL := [kB 6 (.mv (.c (.sl none 0 0 true 0))) [6]]
@[go_sem] def s56_4 (_ : Unit) : IR := (sQ [(kT l56_3), .ret])
@[go_sem] def s56_5 (_ : Unit) : IR := (sQ [(kT l56_2), (.cond (.t 20) (tH s56_4) .skip)])
@[go_sem] def l56_6 (_ : Unit) : KL := [kA 21 (.bslc 1 0 [(.int .i64 0)] []),
  kB 8 (.mv (.t 21)) [1, 3, 7, 8]]
@[go_sem] def l56_7 (_ : Unit) : KL := [kB 9 (.mv (cI 0)) [1, 3, 7, 8, 9]]
@[go_sem] def l56_8 (_ : Unit) : KL := [kA 22 (.mv (.t 9)),
  kA 23 (.mv (.t 1)),
  kA 24 (.len (.t 23)),
  kB 25 (.bin .lss (.t 22) (.t 24)) [1, 3, 7, 8, 9, 25]]
@[go_sem] def s56_9 (_ : Unit) : IR := (sQ [(kT l56_8), (.cond (.t 25) .skip (.exit 0))])
@[go_sem] def l56_10 (_ : Unit) : KL := [kA 28 (.mv (.t 8)),
  kA 29 (.mv (.t 1)),
  kA 30 (.mv (.t 9)),
  kA 31 (.iaddr (.t 29) (.t 30) 1),
  kB 32 (.load (.t 31) 1 false) [1, 3, 7, 9, 28, 32],
  kA 33 (.bslc 1 1 [(.int .i64 0)] [(0, (.t 32))]),
  kA 34 (.app 1 8 (.t 28) (.t 33)),
  kB 8 (.mv (.t 34)) [1, 3, 7, 8, 9]]
@[go_sem] def s56_11 (_ : Unit) : IR := (.block 1 (kT l56_10))
@[go_sem] def l56_12 (_ : Unit) : KL := [kA 26 (.mv (.t 9)),
  kA 27 (.bin .add (.t 26) (cI 1)),
  kB 9 (.mv (.t 27)) [1, 3, 7, 8, 9]]
@[go_sem] def s56_13 (_ : Unit) : IR := (sQ [(tH s56_9), (tH s56_11), (kT l56_12)])
@[go_sem] def s56_14 (_ : Unit) : IR := (.loop (tH s56_13))
@[go_sem] def s56_15 (_ : Unit) : IR := (.block 0 (tH s56_14))
@[go_sem] def s56_16 (_ : Unit) : IR := (sQ [(kT l56_7), (tH s56_15)])
@[go_sem] def l56_17 (_ : Unit) : KL := [kB 10 (.mv (cI 0)) [1, 3, 7, 8, 10]]
@[go_sem] def l56_18 (_ : Unit) : KL := [kA 35 (.mv (.t 10)),
  kA 36 (.faddr (.t 7) 1),
  kA 37 (.load (.t 36) 1 false),
  kA 38 (.len (.t 37)),
  kB 39 (.bin .lss (.t 35) (.t 38)) [1, 3, 7, 8, 10, 39]]
@[go_sem] def s56_19 (_ : Unit) : IR := (sQ [(kT l56_18), (.cond (.t 39) .skip (.exit 2))])
@[go_sem] def l56_20 : Nat → GOp
  | 0 => ⟨(some 42), .mv (.t 8), none⟩
  | 1 => ⟨(some 43), .faddr (.t 7) 1, none⟩
  | 2 => ⟨(some 44), .load (.t 43) 1 false, none⟩
  | 3 => ⟨(some 45), .mv (.t 10), none⟩
  | 4 => ⟨(some 46), .iaddr (.t 44) (.t 45) 1, none⟩
  | 5 => ⟨(some 47), .load (.t 46) 1 false, none⟩
  | 6 => ⟨(some 48), .faddr (.t 7) 2, none⟩
  | 7 => ⟨(some 49), .load (.t 48) 1 false, none⟩
  | 8 => ⟨(some 50), .mv (.t 10), none⟩
  | 9 => ⟨(some 51), .iaddr (.t 49) (.t 50) 1, none⟩
  | 10 => ⟨(some 52), .load (.t 51) 1 false, none⟩
  | 11 => ⟨(some 53), .mv (.t 1), none⟩
  | 12 => ⟨(some 54), .call (n_spec_l2Last) [(.t 52), (.t 53)], none⟩
  | 13 => ⟨(some 55), .iaddr (.t 42) (.t 47) 1, none⟩
  | 14 => ⟨none, .store (.t 55) 1 (.t 54), none⟩
  | _ => ⟨none, .mkmap, none⟩
@[go_sem] def s56_21 (_ : Unit) : IR := (.block 3 (.kd (oF l56_20 15) [(0, []), (1, []), (2, []), (3, []), (4, []), (5, []), (6, []), (7, []), (8, []), (9, []), (10, []), (11, []), (12, [2, 5]), (13, []), (14, [])] [1, 3, 7, 8, 10]))
@[go_sem] def l56_22 (_ : Unit) : KL := [kA 40 (.mv (.t 10)),
  kA 41 (.bin .add (.t 40) (cI 1)),
  kB 10 (.mv (.t 41)) [1, 3, 7, 8, 10]]
@[go_sem] def s56_23 (_ : Unit) : IR := (sQ [(tH s56_19), (tH s56_21), (kT l56_22)])
@[go_sem] def s56_24 (_ : Unit) : IR := (.loop (tH s56_23))
@[go_sem] def s56_25 (_ : Unit) : IR := (.block 2 (tH s56_24))
@[go_sem] def s56_26 (_ : Unit) : IR := (sQ [(kT l56_17), (tH s56_25)])
@[go_sem] def l56_27 (_ : Unit) : KL := [kA 56 (.load (.t 3) 2 true),
  kA 57 (.mv (.t 8)),
  kA 58 (.call (n_spec_l2In) [(.t 56), (.t 57)]),
  kB 59 (.un .not (.t 58)) [8, 59]]
@[go_sem] def l56_28 (_ : Unit) : KL := [kB 6 (.mv (.c (.sl none 0 0 true 0))) [6]]
@[go_sem] def s56_29 (_ : Unit) : IR := (sQ [(kT l56_28), .ret])
@[go_sem] def s56_30 (_ : Unit) : IR := (sQ [(kT l56_27), (.cond (.t 59) (tH s56_29) .skip)])
@[go_sem] def l56_31 (_ : Unit) : KL := [kA 60 (.mv (.t 8)),
  kB 6 (.mv (.t 60)) [6]]
@[go_sem] def s56_32 (_ : Unit) : IR := (sQ [(kT l56_0), (kT l56_1), (tH s56_5), (kT l56_6), (tH s56_16), (tH s56_26), (tH s56_30), (kT l56_31), .ret])
theorem c56 : compFn Try.prog [(0, [], [oN, oS [1, 2, 3]]), (1, [], [oN, oN, oN, oN, oS [1, 3, 15], oN, oS [1, 3, 7]]), (2, [], [oN, oN, oN, oN, oS [1, 3, 7, 20]]), (3, [], [oS [6]]), (4, [], [oN, oS [1, 3, 7, 8]]), (5, [], [oS [1, 3, 7, 8, 9]]), (6, [], [oN, oN, oN, oS [1, 3, 7, 8, 9, 25]]), (8, [], [oN, oN, oN, oN, oS [1, 3, 7, 9, 28, 32], oN, oN, oS [1, 3, 7, 8, 9]]), (7, [], [oN, oN, oS [1, 3, 7, 8, 9]]), (9, [], [oS [1, 3, 7, 8, 10]]), (10, [], [oN, oN, oN, oN, oS [1, 3, 7, 8, 10, 39]]), (12, [(0, []), (1, []), (2, []), (3, []), (4, []), (5, []), (6, []), (7, []), (8, []), (9, []), (10, []), (11, []), (12, [2, 5]), (13, []), (14, [])], [oS [1, 3, 7, 8, 10]]), (11, [], [oN, oN, oS [1, 3, 7, 8, 10]]), (13, [], [oN, oN, oN, oS [8, 59]]), (14, [], [oS [6]]), (15, [], [oN, oS [6]])] Try.f56 = some ⟨3, 61, [.t 6], (tH s56_32)⟩ := by kernel_rfl
theorem v_spec_l2Use (hl : vs.length = 3) (h : wpV Try.prog (tH s56_32) (postV [.t 6] RV) (envV vs) M) : VCall Try.prog n_spec_l2Use vs M RV :=
  vcall_of_wp (fun _ _ _ hl h => acall_of_wp mixed Try.func56 c56 (by kernel_rfl) hl h) hl h
@[go_sem] def l61_0 (_ : Unit) : KL := [kB 4 (.mv (.c (.bool false))) [0, 1]]
@[go_sem] def l61_1 (_ : Unit) : KL := [kA 6 (.mv (.t 0)),
  kA 7 (.len (.t 6)),
  kA 8 (.mv (.t 1)),
  kA 9 (.len (.t 8)),
  kB 10 (.bin .neq (.t 7) (.t 9)) [0, 1, 10]]
@[go_sem] def l61_2 (_ : Unit) : KL := [kB 4 (.mv (.c (.bool false))) [4]]
@[go_sem] def s61_3 (_ : Unit) : IR := (sQ [(kT l61_2), .ret])
@[go_sem] def s61_4 (_ : Unit) : IR := (sQ [(kT l61_1), (.cond (.t 10) (tH s61_3) .skip)])
@[go_sem] def l61_5 (_ : Unit) : KL := [kB 5 (.mv (cI 0)) [0, 1, 5]]
@[go_sem] def l61_6 (_ : Unit) : KL := [kA 11 (.mv (.t 5)),
  kA 12 (.mv (.t 0)),
  kA 13 (.len (.t 12)),
  kB 14 (.bin .lss (.t 11) (.t 13)) [0, 1, 5, 14]]
@[go_sem] def s61_7 (_ : Unit) : IR := (sQ [(kT l61_6), (.cond (.t 14) .skip (.exit 0))])
@[go_sem] def l61_8 : Nat → GOp
  | 0 => ⟨(some 17), .mv (.t 0), none⟩
  | 1 => ⟨(some 18), .mv (.t 5), none⟩
  | 2 => ⟨(some 19), .iaddr (.t 17) (.t 18) 1, none⟩
  | 3 => ⟨(some 20), .load (.t 19) 1 false, none⟩
  | 4 => ⟨(some 21), .mv (.t 1), none⟩
  | 5 => ⟨(some 22), .mv (.t 5), none⟩
  | 6 => ⟨(some 23), .iaddr (.t 21) (.t 22) 1, none⟩
  | 7 => ⟨(some 24), .load (.t 23) 1 false, none⟩
  | 8 => ⟨(some 25), .bin .neq (.t 20) (.t 24), none⟩
  | _ => ⟨none, .mkmap, none⟩
@[go_sem] def l61_9 (_ : Unit) : KL := [kB 4 (.mv (.c (.bool false))) [4]]
@[go_sem] def s61_10 (_ : Unit) : IR := (sQ [(kT l61_9), .ret])
@[go_sem] def s61_11 (_ : Unit) : IR := (sQ [(.kd (oF l61_8 9) [(0, []), (1, []), (2, []), (3, []), (4, []), (5, []), (6, []), (7, []), (8, [])] [0, 1, 5, 25]), (.cond (.t 25) (tH s61_10) .skip)])
@[go_sem] def s61_12 (_ : Unit) : IR := (.block 1 (tH s61_11))
@[go_sem] def l61_13 (_ : Unit) : KL := [kA 15 (.mv (.t 5)),
  kA 16 (.bin .add (.t 15) (cI 1)),
  kB 5 (.mv (.t 16)) [0, 1, 5]]
@[go_sem] def s61_14 (_ : Unit) : IR := (sQ [(tH s61_7), (tH s61_12), (kT l61_13)])
@[go_sem] def s61_15 (_ : Unit) : IR := (.loop (tH s61_14))
@[go_sem] def s61_16 (_ : Unit) : IR := (.block 0 (tH s61_15))
@[go_sem] def s61_17 (_ : Unit) : IR := (sQ [(kT l61_5), (tH s61_16)])
@[go_sem] def l61_18 (_ : Unit) : KL := [kB 4 (.mv (.c (.bool true))) [4]]
@[go_sem] def s61_19 (_ : Unit) : IR := (sQ [(kT l61_0), (tH s61_4), (tH s61_17), (kT l61_18), .ret])
theorem c61 : compFn Try.prog [(0, [], [oS [0, 1]]), (1, [], [oN, oN, oN, oN, oS [0, 1, 10]]), (2, [], [oS [4]]), (3, [], [oS [0, 1, 5]]), (4, [], [oN, oN, oN, oS [0, 1, 5, 14]]), (6, [(0, []), (1, []), (2, []), (3, []), (4, []), (5, []), (6, []), (7, []), (8, [])], [oS [0, 1, 5, 25]]), (7, [], [oS [4]]), (5, [], [oN, oN, oS [0, 1, 5]]), (8, [], [oS [4]])] Try.f61 = some ⟨2, 26, [.t 4], (tH s61_19)⟩ := by kernel_rfl
theorem v_spec_l2Same (hl : vs.length = 2) (h : wpV Try.prog (tH s61_19) (postV [.t 4] RV) (envV vs) M) : VCall Try.prog n_spec_l2Same vs M RV :=
  vcall_of_wp (fun _ _ _ hl h => acall_of_wp mixed Try.func61 c61 (by kernel_rfl) hl h) hl h
@[go_sem] def l118_0 (_ : Unit) : KL := [kB 4 (.mv (.c (.bool false))) [0, 1]]
@[go_sem] def l118_1 (_ : Unit) : KL := [kB 5 (.mv (cI 0)) [0, 1, 5]]
@[go_sem] def l118_2 (_ : Unit) : KL := [kA 6 (.mv (.t 5)),
  kA 7 (.mv (.t 0)),
  kA 8 (.len (.t 7)),
  kA 9 (.bin .lss (.t 6) (.t 8)),
  kB 10 (.mv (.t 9)) [0, 1, 5, 10],
  (⟨(some 11), .mv (.t 5), (some (10, true))⟩, none),
  (⟨(some 12), .mv (.t 1), (some (10, true))⟩, none),
  (⟨(some 13), .len (.t 12), (some (10, true))⟩, none),
  (⟨(some 14), .bin .lss (.t 11) (.t 13), (some (10, true))⟩, none),
  kB 15 (.pick (.t 10) (.t 14) (.c (.bool false))) [0, 1, 5, 15]]
@[go_sem] def s118_3 (_ : Unit) : IR := (sQ [(kT l118_2), (.cond (.t 15) .skip (.exit 0))])
@[go_sem] def l118_4 : Nat → GOp
  | 0 => ⟨(some 18), .mv (.t 0), none⟩
  | 1 => ⟨(some 19), .mv (.t 5), none⟩
  | 2 => ⟨(some 20), .iaddr (.t 18) (.t 19) 1, none⟩
  | 3 => ⟨(some 21), .load (.t 20) 1 false, none⟩
  | 4 => ⟨(some 22), .mv (.t 1), none⟩
  | 5 => ⟨(some 23), .mv (.t 5), none⟩
  | 6 => ⟨(some 24), .iaddr (.t 22) (.t 23) 1, none⟩
  | 7 => ⟨(some 25), .load (.t 24) 1 false, none⟩
  | 8 => ⟨(some 26), .bin .neq (.t 21) (.t 25), none⟩
  | _ => ⟨none, .mkmap, none⟩
@[go_sem] def l118_5 : Nat → GOp
  | 0 => ⟨(some 27), .mv (.t 0), none⟩
  | 1 => ⟨(some 28), .mv (.t 5), none⟩
  | 2 => ⟨(some 29), .iaddr (.t 27) (.t 28) 1, none⟩
  | 3 => ⟨(some 30), .load (.t 29) 1 false, none⟩
  | 4 => ⟨(some 31), .mv (.t 1), none⟩
  | 5 => ⟨(some 32), .mv (.t 5), none⟩
  | 6 => ⟨(some 33), .iaddr (.t 31) (.t 32) 1, none⟩
  | 7 => ⟨(some 34), .load (.t 33) 1 false, none⟩
  | 8 => ⟨(some 35), .bin .lss (.t 30) (.t 34), none⟩
  | 9 => ⟨(some 4), .mv (.t 35), none⟩
  | _ => ⟨none, .mkmap, none⟩
@[go_sem] def s118_6 (_ : Unit) : IR := (sQ [(.kd (oF l118_5 10) [(0, []), (1, []), (2, []), (3, []), (4, []), (5, []), (6, []), (7, []), (8, []), (9, [])] [4]), .ret])
@[go_sem] def s118_7 (_ : Unit) : IR := (sQ [(.kd (oF l118_4 9) [(0, []), (1, []), (2, []), (3, []), (4, []), (5, []), (6, []), (7, []), (8, [])] [0, 1, 5, 26]), (.cond (.t 26) (tH s118_6) .skip)])
@[go_sem] def s118_8 (_ : Unit) : IR := (.block 1 (tH s118_7))
@[go_sem] def l118_9 (_ : Unit) : KL := [kA 16 (.mv (.t 5)),
  kA 17 (.bin .add (.t 16) (cI 1)),
  kB 5 (.mv (.t 17)) [0, 1, 5]]
@[go_sem] def s118_10 (_ : Unit) : IR := (sQ [(tH s118_3), (tH s118_8), (kT l118_9)])
@[go_sem] def s118_11 (_ : Unit) : IR := (.loop (tH s118_10))
@[go_sem] def s118_12 (_ : Unit) : IR := (.block 0 (tH s118_11))
@[go_sem] def s118_13 (_ : Unit) : IR := (sQ [(kT l118_1), (tH s118_12)])
@[go_sem] def l118_14 (_ : Unit) : KL := [kA 36 (.mv (.t 0)),
  kA 37 (.len (.t 36)),
  kA 38 (.mv (.t 1)),
  kA 39 (.len (.t 38)),
  kB 40 (.bin .lss (.t 37) (.t 39)) [40],
  kB 4 (.mv (.t 40)) [4]]
@[go_sem] def s118_15 (_ : Unit) : IR := (sQ [(kT l118_0), (tH s118_13), (kT l118_14), .ret])
theorem c118 : compFn Try.prog [(0, [], [oS [0, 1]]), (1, [], [oS [0, 1, 5]]), (2, [], [oN, oN, oN, oN, oS [0, 1, 5, 10], oN, oN, oN, oN, oS [0, 1, 5, 15]]), (4, [(0, []), (1, []), (2, []), (3, []), (4, []), (5, []), (6, []), (7, []), (8, [])], [oS [0, 1, 5, 26]]), (5, [(0, []), (1, []), (2, []), (3, []), (4, []), (5, []), (6, []), (7, []), (8, []), (9, [])], [oS [4]]), (3, [], [oN, oN, oS [0, 1, 5]]), (6, [], [oN, oN, oN, oN, oS [40], oS [4]])] Try.f118 = some ⟨2, 41, [.t 4], (tH s118_15)⟩ := by kernel_rfl
theorem v_spec_l2Less (hl : vs.length = 2) (h : wpV Try.prog (tH s118_15) (postV [.t 4] RV) (envV vs) M) : VCall Try.prog n_spec_l2Less vs M RV :=
  vcall_of_wp (fun _ _ _ hl h => acall_of_wp mixed Try.func118 c118 (by kernel_rfl) hl h) hl h
@[go_sem] def l106_0 (_ : Unit) : KL := [kB 4 (.mv (.c (.sl none 0 0 true 0))) [0, 1]]
@[go_sem] def l106_1 (_ : Unit) : KL := [kA 8 (.bslc 1 0 [(.sl none 0 0 true 0)] []),
  kB 5 (.mv (.t 8)) [0, 1, 5]]
@[go_sem] def l106_2 (_ : Unit) : KL := [kB 6 (.mv (.c (.bool false))) [0, 1, 5, 6]]
@[go_sem] def l106_3 (_ : Unit) : KL := [kB 7 (.mv (cI 0)) [0, 1, 5, 6, 7]]
@[go_sem] def l106_4 (_ : Unit) : KL := [kA 9 (.mv (.t 7)),
  kA 10 (.mv (.t 0)),
  kA 11 (.len (.t 10)),
  kB 12 (.bin .lss (.t 9) (.t 11)) [0, 1, 5, 6, 7, 12]]
@[go_sem] def s106_5 (_ : Unit) : IR := (sQ [(kT l106_4), (.cond (.t 12) .skip (.exit 0))])
@[go_sem] def l106_6 (_ : Unit) : KL := [kA 15 (.mv (.t 6)),
  kA 16 (.un .not (.t 15)),
  kA 17 (.mv (.t 16)),
  (⟨(some 18), .mv (.t 0), (some (17, true))⟩, none),
  (⟨(some 19), .mv (.t 7), (some (17, true))⟩, (some [0, 1, 5, 6, 7, 17, 18, 19])),
  (⟨(some 20), .iaddr (.t 18) (.t 19) 1, (some (17, true))⟩, none),
  (⟨(some 21), .load (.t 20) 1 false, (some (17, true))⟩, none),
  (⟨(some 22), .mv (.t 1), (some (17, true))⟩, none),
  (⟨(some 23), .call (n_spec_l2Same) [(.t 21), (.t 22)], (some (17, true))⟩, none),
  kB 24 (.pick (.t 17) (.t 23) (.c (.bool false))) [0, 1, 5, 6, 7, 24]]
@[go_sem] def l106_7 (_ : Unit) : KL := [kB 6 (.mv (.c (.bool true))) [0, 1, 5, 6, 7]]
@[go_sem] def s106_8 (_ : Unit) : IR := (sQ [(kT l106_6), (.cond (.t 24) (kT l106_7) .skip)])
@[go_sem] def l106_9 (_ : Unit) : KL := [kA 25 (.mv (.t 6)),
  kA 26 (.un .not (.t 25)),
  kA 27 (.mv (.t 26)),
  (⟨(some 28), .mv (.t 1), (some (27, true))⟩, none),
  (⟨(some 29), .mv (.t 0), (some (27, true))⟩, (some [0, 1, 5, 6, 7, 27, 28, 29])),
  (⟨(some 30), .mv (.t 7), (some (27, true))⟩, none),
  (⟨(some 31), .iaddr (.t 29) (.t 30) 1, (some (27, true))⟩, none),
  (⟨(some 32), .load (.t 31) 1 false, (some (27, true))⟩, none),
  (⟨(some 33), .call (n_spec_l2Less) [(.t 28), (.t 32)], (some (27, true))⟩, none),
  kB 34 (.pick (.t 27) (.t 33) (.c (.bool false))) [0, 1, 5, 6, 7, 34]]
@[go_sem] def l106_10 (_ : Unit) : KL := [kA 35 (.mv (.t 5)),
  kA 36 (.mv (.t 1)),
  kA 37 (.bslc 1 1 [(.sl none 0 0 true 0)] [(0, (.t 36))]),
  kA 38 (.app 1 24 (.t 35) (.t 37)),
  kB 5 (.mv (.t 38)) [0, 1, 5, 7]]
@[go_sem] def l106_11 (_ : Unit) : KL := [kB 6 (.mv (.c (.bool true))) [0, 1, 5, 6, 7]]
@[go_sem] def s106_12 (_ : Unit) : IR := (sQ [(kT l106_10), (kT l106_11)])
@[go_sem] def s106_13 (_ : Unit) : IR := (sQ [(kT l106_9), (.cond (.t 34) (tH s106_12) .skip)])
@[go_sem] def l106_14 (_ : Unit) : KL := [kA 39 (.mv (.t 5)),
  kA 40 (.mv (.t 0)),
  kA 41 (.mv (.t 7)),
  kA 42 (.iaddr (.t 40) (.t 41) 1),
  kB 43 (.load (.t 42) 1 false) [0, 1, 6, 7, 39, 43],
  kA 44 (.bslc 1 1 [(.sl none 0 0 true 0)] [(0, (.t 43))]),
  kA 45 (.app 1 24 (.t 39) (.t 44)),
  kB 5 (.mv (.t 45)) [0, 1, 5, 6, 7]]
@[go_sem] def s106_15 (_ : Unit) : IR := (sQ [(tH s106_8), (tH s106_13), (kT l106_14)])
@[go_sem] def s106_16 (_ : Unit) : IR := (.block 1 (tH s106_15))
@[go_sem] def l106_17 (_ : Unit) : KL := [kA 13 (.mv (.t 7)),
  kA 14 (.bin .add (.t 13) (cI 1)),
  kB 7 (.mv (.t 14)) [0, 1, 5, 6, 7]]
@[go_sem] def s106_18 (_ : Unit) : IR := (sQ [(tH s106_5), (tH s106_16), (kT l106_17)])
@[go_sem] def s106_19 (_ : Unit) : IR := (.loop (tH s106_18))
@[go_sem] def s106_20 (_ : Unit) : IR := (.block 0 (tH s106_19))
@[go_sem] def s106_21 (_ : Unit) : IR := (sQ [(kT l106_3), (tH s106_20)])
@[go_sem] def l106_22 (_ : Unit) : KL := [kA 46 (.mv (.t 6)),
  kB 47 (.un .not (.t 46)) [1, 5, 47]]
@[go_sem] def l106_23 (_ : Unit) : KL := [kA 48 (.mv (.t 5)),
  kA 49 (.mv (.t 1)),
  kA 50 (.bslc 1 1 [(.sl none 0 0 true 0)] [(0, (.t 49))]),
  kA 51 (.app 1 24 (.t 48) (.t 50)),
  kB 5 (.mv (.t 51)) [5]]
@[go_sem] def s106_24 (_ : Unit) : IR := (sQ [(kT l106_22), (.cond (.t 47) (kT l106_23) .skip)])
@[go_sem] def l106_25 (_ : Unit) : KL := [kA 52 (.mv (.t 5)),
  kB 4 (.mv (.t 52)) [4]]
@[go_sem] def s106_26 (_ : Unit) : IR := (sQ [(kT l106_0), (kT l106_1), (kT l106_2), (tH s106_21), (tH s106_24), (kT l106_25), .ret])
theorem c106 : compFn Try.prog [(0, [], [oS [0, 1]]), (1, [], [oN, oS [0, 1, 5]]), (2, [], [oS [0, 1, 5, 6]]), (3, [], [oS [0, 1, 5, 6, 7]]), (4, [], [oN, oN, oN, oS [0, 1, 5, 6, 7, 12]]), (6, [], [oN, oN, oN, oN, oS [0, 1, 5, 6, 7, 17, 18, 19], oN, oN, oN, oN, oS [0, 1, 5, 6, 7, 24]]), (7, [], [oS [0, 1, 5, 6, 7]]), (8, [], [oN, oN, oN, oN, oS [0, 1, 5, 6, 7, 27, 28, 29], oN, oN, oN, oN, oS [0, 1, 5, 6, 7, 34]]), (9, [], [oN, oN, oN, oN, oS [0, 1, 5, 7]]), (10, [], [oS [0, 1, 5, 6, 7]]), (11, [], [oN, oN, oN, oN, oS [0, 1, 6, 7, 39, 43], oN, oN, oS [0, 1, 5, 6, 7]]), (5, [], [oN, oN, oS [0, 1, 5, 6, 7]]), (12, [], [oN, oS [1, 5, 47]]), (13, [], [oN, oN, oN, oN, oS [5]]), (14, [], [oN, oS [4]])] Try.f106 = some ⟨2, 53, [.t 4], (tH s106_26)⟩ := by kernel_rfl
theorem v_spec_l2Put (hl : vs.length = 2) (h : wpV Try.prog (tH s106_26) (postV [.t 4] RV) (envV vs) M) : VCall Try.prog n_spec_l2Put vs M RV :=
  vcall_of_wp (fun _ _ _ hl h => acall_of_wp mixed Try.func106 c106 (by kernel_rfl) hl h) hl h
@[go_sem] def l82_0 (_ : Unit) : KL := [kA 2 (.box (.t 0)),
  kB 4 (.mv (.c (.sl none 0 0 true 0))) [1, 2]]
@[go_sem] def l82_1 (_ : Unit) : KL := [kA 8 (.bslc 1 0 [(.sl none 0 0 true 0)] []),
  kB 5 (.mv (.t 8)) [1, 2, 5]]
@[go_sem] def l82_2 (_ : Unit) : KL := [kB 6 (.mv (cI 0)) [1, 2, 5, 6]]
@[go_sem] def l82_3 (_ : Unit) : KL := [kA 9 (.mv (.t 6)),
  kA 10 (.faddr (.t 2) 1),
  kA 11 (.load (.t 10) 1 false),
  kA 12 (.len (.t 11)),
  kB 13 (.bin .lss (.t 9) (.t 12)) [1, 2, 5, 6, 13]]
@[go_sem] def s82_4 (_ : Unit) : IR := (sQ [(kT l82_3), (.cond (.t 13) .skip (.exit 0))])
@[go_sem] def l82_5 (_ : Unit) : KL := [kA 16 (.load (.t 2) 2 true),
  kA 17 (.mv (.t 1)),
  kA 18 (.mv (.t 6)),
  kA 19 (.call (n_spec_l2Use) [(.t 16), (.t 17), (.t 18)]),
  kB 7 (.mv (.t 19)) [1, 2, 5, 6, 7]]
@[go_sem] def l82_6 (_ : Unit) : KL := [kA 20 (.mv (.t 7)),
  kA 21 (.len (.t 20)),
  kB 22 (.bin .gtr (.t 21) (cI 0)) [1, 2, 5, 6, 7, 22]]
@[go_sem] def l82_7 (_ : Unit) : KL := [kA 23 (.mv (.t 5)),
  kA 24 (.mv (.t 7)),
  kA 25 (.call (n_spec_l2Put) [(.t 23), (.t 24)]),
  kB 5 (.mv (.t 25)) [1, 2, 5, 6]]
@[go_sem] def s82_8 (_ : Unit) : IR := (sQ [(kT l82_5), (kT l82_6), (.cond (.t 22) (kT l82_7) .skip)])
@[go_sem] def s82_9 (_ : Unit) : IR := (.block 1 (tH s82_8))
@[go_sem] def l82_10 (_ : Unit) : KL := [kA 14 (.mv (.t 6)),
  kA 15 (.bin .add (.t 14) (cI 1)),
  kB 6 (.mv (.t 15)) [1, 2, 5, 6]]
@[go_sem] def s82_11 (_ : Unit) : IR := (sQ [(tH s82_4), (tH s82_9), (kT l82_10)])
@[go_sem] def s82_12 (_ : Unit) : IR := (.loop (tH s82_11))
@[go_sem] def s82_13 (_ : Unit) : IR := (.block 0 (tH s82_12))
@[go_sem] def s82_14 (_ : Unit) : IR := (sQ [(kT l82_2), (tH s82_13)])
@[go_sem] def l82_15 (_ : Unit) : KL := [kA 26 (.mv (.t 5)),
  kB 4 (.mv (.t 26)) [4]]
@[go_sem] def s82_16 (_ : Unit) : IR := (sQ [(kT l82_0), (kT l82_1), (tH s82_14), (kT l82_15), .ret])
theorem c82 : compFn Try.prog [(0, [], [oN, oS [1, 2]]), (1, [], [oN, oS [1, 2, 5]]), (2, [], [oS [1, 2, 5, 6]]), (3, [], [oN, oN, oN, oN, oS [1, 2, 5, 6, 13]]), (5, [], [oN, oN, oN, oN, oS [1, 2, 5, 6, 7]]), (6, [], [oN, oN, oS [1, 2, 5, 6, 7, 22]]), (7, [], [oN, oN, oN, oS [1, 2, 5, 6]]), (4, [], [oN, oN, oS [1, 2, 5, 6]]), (8, [], [oN, oS [4]])] Try.f82 = some ⟨2, 27, [.t 4], (tH s82_16)⟩ := by kernel_rfl
theorem v_spec_l2Next (hl : vs.length = 2) (h : wpV Try.prog (tH s82_16) (postV [.t 4] RV) (envV vs) M) : VCall Try.prog n_spec_l2Next vs M RV :=
  vcall_of_wp (fun _ _ _ hl h => acall_of_wp mixed Try.func82 c82 (by kernel_rfl) hl h) hl h
@[go_sem] def l87_0 (_ : Unit) : KL := [kA 2 (.box (.t 0)),
  kB 4 (.mv (cI 0)) [1, 2]]
@[go_sem] def l87_1 (_ : Unit) : KL := [kB 5 (.mv (cI 0)) [1, 2, 5]]
@[go_sem] def l87_2 (_ : Unit) : KL := [kB 6 (.mv (cI 0)) [1, 2, 5, 6]]
@[go_sem] def l87_3 (_ : Unit) : KL := [kA 7 (.mv (.t 6)),
  kA 8 (.mv (.t 1)),
  kA 9 (.len (.t 8)),
  kB 10 (.bin .lss (.t 7) (.t 9)) [1, 2, 5, 6, 10]]
@[go_sem] def s87_4 (_ : Unit) : IR := (sQ [(kT l87_3), (.cond (.t 10) .skip (.exit 0))])
@[go_sem] def l87_5 : Nat → GOp
  | 0 => ⟨(some 13), .mv (.t 5), none⟩
  | 1 => ⟨(some 14), .faddr (.t 2) 0, none⟩
  | 2 => ⟨(some 15), .load (.t 14) 1 false, none⟩
  | 3 => ⟨(some 16), .mv (.t 6), none⟩
  | 4 => ⟨(some 17), .iaddr (.t 15) (.t 16) 3, none⟩
  | 5 => ⟨(some 18), .faddr (.t 17) 1, none⟩
  | 6 => ⟨(some 19), .load (.t 18) 1 false, none⟩
  | 7 => ⟨(some 20), .faddr (.t 2) 0, none⟩
  | 8 => ⟨(some 21), .load (.t 20) 1 false, none⟩
  | 9 => ⟨(some 22), .mv (.t 6), none⟩
  | 10 => ⟨(some 23), .iaddr (.t 21) (.t 22) 3, none⟩
  | 11 => ⟨(some 24), .faddr (.t 23) 0, none⟩
  | 12 => ⟨(some 25), .load (.t 24) 1 false, none⟩
  | 13 => ⟨(some 26), .bin .sub (.t 19) (.t 25), none⟩
  | 14 => ⟨(some 27), .bin .add (.t 26) (cI 1), none⟩
  | 15 => ⟨(some 28), .bin .mul (.t 13) (.t 27), none⟩
  | 16 => ⟨(some 29), .mv (.t 1), none⟩
  | 17 => ⟨(some 30), .mv (.t 6), none⟩
  | 18 => ⟨(some 31), .iaddr (.t 29) (.t 30) 1, none⟩
  | 19 => ⟨(some 32), .load (.t 31) 1 false, none⟩
  | 20 => ⟨(some 33), .bin .add (.t 28) (.t 32), none⟩
  | 21 => ⟨(some 34), .faddr (.t 2) 0, none⟩
  | 22 => ⟨(some 35), .load (.t 34) 1 false, none⟩
  | 23 => ⟨(some 36), .mv (.t 6), none⟩
  | 24 => ⟨(some 37), .iaddr (.t 35) (.t 36) 3, none⟩
  | 25 => ⟨(some 38), .faddr (.t 37) 0, none⟩
  | 26 => ⟨(some 39), .load (.t 38) 1 false, none⟩
  | 27 => ⟨(some 40), .bin .sub (.t 33) (.t 39), none⟩
  | 28 => ⟨(some 5), .mv (.t 40), none⟩
  | _ => ⟨none, .mkmap, none⟩
@[go_sem] def s87_6 (_ : Unit) : IR := (.block 1 (.kd (oF l87_5 29) [(0, []), (1, []), (2, []), (3, []), (4, []), (5, []), (6, []), (7, []), (8, []), (9, []), (10, []), (11, []), (12, []), (13, []), (14, []), (15, []), (16, []), (17, []), (18, []), (19, []), (20, []), (21, []), (22, []), (23, []), (24, []), (25, []), (26, []), (27, []), (28, [])] [1, 2, 5, 6]))
@[go_sem] def l87_7 (_ : Unit) : KL := [kA 11 (.mv (.t 6)),
  kA 12 (.bin .add (.t 11) (cI 1)),
  kB 6 (.mv (.t 12)) [1, 2, 5, 6]]
@[go_sem] def s87_8 (_ : Unit) : IR := (sQ [(tH s87_4), (tH s87_6), (kT l87_7)])
@[go_sem] def s87_9 (_ : Unit) : IR := (.loop (tH s87_8))
@[go_sem] def s87_10 (_ : Unit) : IR := (.block 0 (tH s87_9))
@[go_sem] def s87_11 (_ : Unit) : IR := (sQ [(kT l87_2), (tH s87_10)])
@[go_sem] def l87_12 (_ : Unit) : KL := [kA 41 (.mv (.t 5)),
  kB 4 (.mv (.t 41)) [4]]
@[go_sem] def s87_13 (_ : Unit) : IR := (sQ [(kT l87_0), (kT l87_1), (tH s87_11), (kT l87_12), .ret])
theorem c87 : compFn Try.prog [(0, [], [oN, oS [1, 2]]), (1, [], [oS [1, 2, 5]]), (2, [], [oS [1, 2, 5, 6]]), (3, [], [oN, oN, oN, oS [1, 2, 5, 6, 10]]), (5, [(0, []), (1, []), (2, []), (3, []), (4, []), (5, []), (6, []), (7, []), (8, []), (9, []), (10, []), (11, []), (12, []), (13, []), (14, []), (15, []), (16, []), (17, []), (18, []), (19, []), (20, []), (21, []), (22, []), (23, []), (24, []), (25, []), (26, []), (27, []), (28, [])], [oS [1, 2, 5, 6]]), (4, [], [oN, oN, oS [1, 2, 5, 6]]), (6, [], [oN, oS [4]])] Try.f87 = some ⟨2, 42, [.t 4], (tH s87_13)⟩ := by kernel_rfl
theorem v_spec_l4Number (hl : vs.length = 2) (h : wpV Try.prog (tH s87_13) (postV [.t 4] RV) (envV vs) M) : VCall Try.prog n_spec_l4Number vs M RV :=
  vcall_of_wp (fun _ _ _ hl h => acall_of_wp mixed Try.func87 c87 (by kernel_rfl) hl h) hl h
@[go_sem] def l40_0 (_ : Unit) : KL := [kA 1 (.box (.t 0)),
  kB 2 (.mv (.c (.sl none 0 0 true 0))) [1]]
@[go_sem] def l40_1 (_ : Unit) : KL := [kA 8 (.bslc 1 0 [(.sl none 0 0 true 0)] []),
  kB 3 (.mv (.t 8)) [1, 3]]
@[go_sem] def l40_2 (_ : Unit) : KL := [kB 4 (.mv (cI 0)) [1, 3, 4]]
@[go_sem] def l40_3 (_ : Unit) : KL := [kA 9 (.mv (.t 4)),
  kA 10 (.load (.t 1) 2 true),
  kA 11 (.call (n_spec_SizeOf) [(.t 10)]),
  kB 12 (.bin .lss (.t 9) (.t 11)) [1, 3, 4, 12]]
@[go_sem] def s40_4 (_ : Unit) : IR := (sQ [(kT l40_3), (.cond (.t 12) .skip (.exit 0))])
@[go_sem] def l40_5 : Nat → GOp
  | 0 => ⟨(some 15), .load (.t 1) 2 true, none⟩
  | 1 => ⟨(some 16), .load (.t 1) 2 true, none⟩
  | 2 => ⟨(some 17), .mv (.t 4), none⟩
  | 3 => ⟨(some 18), .call (n_spec_l4State) [(.t 16), (.t 17)], none⟩
  | 4 => ⟨(some 19), .call (n_spec_l2Next) [(.t 15), (.t 18)], none⟩
  | 5 => ⟨(some 5), .mv (.t 19), none⟩
  | _ => ⟨none, .mkmap, none⟩
@[go_sem] def l40_6 (_ : Unit) : KL := [kA 20 (.bslc 1 0 [(.int .i64 0)] []),
  kB 6 (.mv (.t 20)) [1, 3, 4, 5, 6]]
@[go_sem] def l40_7 (_ : Unit) : KL := [kB 7 (.mv (cI 0)) [1, 3, 4, 5, 6, 7]]
@[go_sem] def l40_8 (_ : Unit) : KL := [kA 21 (.mv (.t 7)),
  kA 22 (.mv (.t 5)),
  kA 23 (.len (.t 22)),
  kB 24 (.bin .lss (.t 21) (.t 23)) [1, 3, 4, 5, 6, 7, 24]]
@[go_sem] def s40_9 (_ : Unit) : IR := (sQ [(kT l40_8), (.cond (.t 24) .skip (.exit 2))])
@[go_sem] def l40_10 : Nat → GOp
  | 0 => ⟨(some 27), .mv (.t 6), none⟩
  | 1 => ⟨(some 28), .load (.t 1) 2 true, none⟩
  | 2 => ⟨(some 29), .mv (.t 5), none⟩
  | 3 => ⟨(some 30), .mv (.t 7), none⟩
  | 4 => ⟨(some 31), .iaddr (.t 29) (.t 30) 1, none⟩
  | 5 => ⟨(some 32), .load (.t 31) 1 false, none⟩
  | 6 => ⟨(some 33), .call (n_spec_l4Number) [(.t 28), (.t 32)], none⟩
  | 7 => ⟨(some 34), .bslc 1 1 [(.int .i64 0)] [(0, (.t 33))], none⟩
  | 8 => ⟨(some 35), .app 1 8 (.t 27) (.t 34), none⟩
  | 9 => ⟨(some 6), .mv (.t 35), none⟩
  | _ => ⟨none, .mkmap, none⟩
@[go_sem] def s40_11 (_ : Unit) : IR := (.block 3 (.kd (oF l40_10 10) [(0, []), (1, []), (2, []), (3, []), (4, []), (5, []), (6, []), (7, []), (8, []), (9, [])] [1, 3, 4, 5, 6, 7]))
@[go_sem] def l40_12 (_ : Unit) : KL := [kA 25 (.mv (.t 7)),
  kA 26 (.bin .add (.t 25) (cI 1)),
  kB 7 (.mv (.t 26)) [1, 3, 4, 5, 6, 7]]
@[go_sem] def s40_13 (_ : Unit) : IR := (sQ [(tH s40_9), (tH s40_11), (kT l40_12)])
@[go_sem] def s40_14 (_ : Unit) : IR := (.loop (tH s40_13))
@[go_sem] def s40_15 (_ : Unit) : IR := (.block 2 (tH s40_14))
@[go_sem] def s40_16 (_ : Unit) : IR := (sQ [(kT l40_7), (tH s40_15)])
@[go_sem] def l40_17 (_ : Unit) : KL := [kA 36 (.mv (.t 3)),
  kA 37 (.mv (.t 6)),
  kA 38 (.bslc 1 1 [(.sl none 0 0 true 0)] [(0, (.t 37))]),
  kA 39 (.app 1 24 (.t 36) (.t 38)),
  kB 3 (.mv (.t 39)) [1, 3, 4]]
@[go_sem] def s40_18 (_ : Unit) : IR := (sQ [(.kd (oF l40_5 6) [(0, []), (1, []), (2, []), (3, [0]), (4, []), (5, [])] [1, 3, 4, 5]), (kT l40_6), (tH s40_16), (kT l40_17)])
@[go_sem] def s40_19 (_ : Unit) : IR := (.block 1 (tH s40_18))
@[go_sem] def l40_20 (_ : Unit) : KL := [kA 13 (.mv (.t 4)),
  kA 14 (.bin .add (.t 13) (cI 1)),
  kB 4 (.mv (.t 14)) [1, 3, 4]]
@[go_sem] def s40_21 (_ : Unit) : IR := (sQ [(tH s40_4), (tH s40_19), (kT l40_20)])
@[go_sem] def s40_22 (_ : Unit) : IR := (.loop (tH s40_21))
@[go_sem] def s40_23 (_ : Unit) : IR := (.block 0 (tH s40_22))
@[go_sem] def s40_24 (_ : Unit) : IR := (sQ [(kT l40_2), (tH s40_23)])
@[go_sem] def l40_25 (_ : Unit) : KL := [kA 40 (.mv (.t 3)),
  kB 2 (.mv (.t 40)) [2]]
@[go_sem] def s40_26 (_ : Unit) : IR := (sQ [(kT l40_0), (kT l40_1), (tH s40_24), (kT l40_25), .ret])
theorem c40 : compFn Try.prog [(0, [], [oN, oS [1]]), (1, [], [oN, oS [1, 3]]), (2, [], [oS [1, 3, 4]]), (3, [], [oN, oN, oN, oS [1, 3, 4, 12]]), (5, [(0, []), (1, []), (2, []), (3, [0]), (4, []), (5, [])], [oS [1, 3, 4, 5]]), (6, [], [oN, oS [1, 3, 4, 5, 6]]), (7, [], [oS [1, 3, 4, 5, 6, 7]]), (8, [], [oN, oN, oN, oS [1, 3, 4, 5, 6, 7, 24]]), (10, [(0, []), (1, []), (2, []), (3, []), (4, []), (5, []), (6, []), (7, []), (8, []), (9, [])], [oS [1, 3, 4, 5, 6, 7]]), (9, [], [oN, oN, oS [1, 3, 4, 5, 6, 7]]), (11, [], [oN, oN, oN, oN, oS [1, 3, 4]]), (4, [], [oN, oN, oS [1, 3, 4]]), (12, [], [oN, oS [2]])] Try.f40 = some ⟨1, 41, [.t 2], (tH s40_26)⟩ := by kernel_rfl
theorem v_spec_l4Steps (hl : vs.length = 1) (h : wpV Try.prog (tH s40_26) (postV [.t 2] RV) (envV vs) M) : VCall Try.prog n_spec_l4Steps vs M RV :=
  vcall_of_wp (fun _ _ _ hl h => acall_of_wp mixed Try.func40 c40 (by kernel_rfl) hl h) hl h
@[go_sem] def l41_0 (_ : Unit) : KL := [kB 4 (.mv (.c (.sl none 0 0 true 0))) [0, 1]]
@[go_sem] def l41_1 (_ : Unit) : KL := [kA 7 (.mv (.t 1)),
  kA 8 (.mks [(.bool false)] 1 (.t 7)),
  kB 5 (.mv (.t 8)) [0, 5]]
@[go_sem] def l41_2 (_ : Unit) : KL := [kB 6 (.mv (cI 0)) [0, 5, 6]]
@[go_sem] def l41_3 (_ : Unit) : KL := [kA 9 (.mv (.t 6)),
  kA 10 (.mv (.t 0)),
  kA 11 (.len (.t 10)),
  kB 12 (.bin .lss (.t 9) (.t 11)) [0, 5, 6, 12]]
@[go_sem] def s41_4 (_ : Unit) : IR := (sQ [(kT l41_3), (.cond (.t 12) .skip (.exit 0))])
@[go_sem] def l41_5 (_ : Unit) : KL := [kA 15 (.mv (.t 5)),
  kA 16 (.mv (.t 0)),
  kA 17 (.mv (.t 6)),
  kA 18 (.iaddr (.t 16) (.t 17) 1),
  kB 19 (.load (.t 18) 1 false) [0, 5, 6, 15, 19],
  kA 20 (.iaddr (.t 15) (.t 19) 1),
  (⟨none, .store (.t 20) 1 (.c (.bool true)), none⟩, (some [0, 5, 6]))]
@[go_sem] def s41_6 (_ : Unit) : IR := (.block 1 (kT l41_5))
@[go_sem] def l41_7 (_ : Unit) : KL := [kA 13 (.mv (.t 6)),
  kA 14 (.bin .add (.t 13) (cI 1)),
  kB 6 (.mv (.t 14)) [0, 5, 6]]
@[go_sem] def s41_8 (_ : Unit) : IR := (sQ [(tH s41_4), (tH s41_6), (kT l41_7)])
@[go_sem] def s41_9 (_ : Unit) : IR := (.loop (tH s41_8))
@[go_sem] def s41_10 (_ : Unit) : IR := (.block 0 (tH s41_9))
@[go_sem] def s41_11 (_ : Unit) : IR := (sQ [(kT l41_2), (tH s41_10)])
@[go_sem] def l41_12 (_ : Unit) : KL := [kA 21 (.mv (.t 5)),
  kB 4 (.mv (.t 21)) [4]]
@[go_sem] def s41_13 (_ : Unit) : IR := (sQ [(kT l41_0), (kT l41_1), (tH s41_11), (kT l41_12), .ret])
theorem c41 : compFn Try.prog [(0, [], [oS [0, 1]]), (1, [], [oN, oN, oS [0, 5]]), (2, [], [oS [0, 5, 6]]), (3, [], [oN, oN, oN, oS [0, 5, 6, 12]]), (5, [], [oN, oN, oN, oN, oS [0, 5, 6, 15, 19], oN, oS [0, 5, 6]]), (4, [], [oN, oN, oS [0, 5, 6]]), (6, [], [oN, oS [4]])] Try.f41 = some ⟨2, 22, [.t 4], (tH s41_13)⟩ := by kernel_rfl
theorem v_spec_l4Marks (hl : vs.length = 2) (h : wpV Try.prog (tH s41_13) (postV [.t 4] RV) (envV vs) M) : VCall Try.prog n_spec_l4Marks vs M RV :=
  vcall_of_wp (fun _ _ _ hl h => acall_of_wp mixed Try.func41 c41 (by kernel_rfl) hl h) hl h
@[go_sem] def l39_0 (_ : Unit) : KL := [kB 4 (.mv (.c (.sl none 0 0 true 0))) [0, 1]]
@[go_sem] def l39_1 (_ : Unit) : KL := [kA 8 (.mv (.t 0)),
  kA 9 (.len (.t 8)),
  kA 10 (.mks [(.bool false)] 1 (.t 9)),
  kB 5 (.mv (.t 10)) [0, 1, 5]]
@[go_sem] def l39_2 (_ : Unit) : KL := [kB 6 (.mv (cI 0)) [0, 1, 5, 6]]
@[go_sem] def l39_3 (_ : Unit) : KL := [kA 11 (.mv (.t 6)),
  kA 12 (.mv (.t 0)),
  kA 13 (.len (.t 12)),
  kB 14 (.bin .lss (.t 11) (.t 13)) [0, 1, 5, 6, 14]]
@[go_sem] def s39_4 (_ : Unit) : IR := (sQ [(kT l39_3), (.cond (.t 14) .skip (.exit 0))])
@[go_sem] def l39_5 (_ : Unit) : KL := [kB 7 (.mv (cI 0)) [0, 1, 5, 6, 7]]
@[go_sem] def l39_6 (_ : Unit) : KL := [kA 17 (.mv (.t 7)),
  kA 18 (.mv (.t 0)),
  kA 19 (.mv (.t 6)),
  kA 20 (.iaddr (.t 18) (.t 19) 1),
  kB 21 (.load (.t 20) 1 false) [0, 1, 5, 6, 7, 17, 21],
  kA 22 (.len (.t 21)),
  kB 23 (.bin .lss (.t 17) (.t 22)) [0, 1, 5, 6, 7, 23]]
@[go_sem] def s39_7 (_ : Unit) : IR := (sQ [(kT l39_6), (.cond (.t 23) .skip (.exit 2))])
@[go_sem] def l39_8 (_ : Unit) : KL := [kA 26 (.mv (.t 1)),
  kA 27 (.mv (.t 6)),
  kA 28 (.iaddr (.t 26) (.t 27) 1),
  kB 29 (.load (.t 28) 1 false) [0, 1, 5, 6, 7, 29]]
@[go_sem] def l39_9 (_ : Unit) : KL := [kA 30 (.mv (.t 5)),
  kA 31 (.mv (.t 0)),
  kA 32 (.mv (.t 6)),
  kA 33 (.iaddr (.t 31) (.t 32) 1),
  kB 34 (.load (.t 33) 1 false) [0, 1, 5, 6, 7, 30, 34],
  kA 35 (.mv (.t 7)),
  kA 36 (.iaddr (.t 34) (.t 35) 1),
  kA 37 (.load (.t 36) 1 false),
  kA 38 (.iaddr (.t 30) (.t 37) 1),
  (⟨none, .store (.t 38) 1 (.c (.bool true)), none⟩, (some [0, 1, 5, 6, 7]))]
@[go_sem] def s39_10 (_ : Unit) : IR := (sQ [(kT l39_8), (.cond (.t 29) (kT l39_9) .skip)])
@[go_sem] def s39_11 (_ : Unit) : IR := (.block 3 (tH s39_10))
@[go_sem] def l39_12 (_ : Unit) : KL := [kA 24 (.mv (.t 7)),
  kA 25 (.bin .add (.t 24) (cI 1)),
  kB 7 (.mv (.t 25)) [0, 1, 5, 6, 7]]
@[go_sem] def s39_13 (_ : Unit) : IR := (sQ [(tH s39_7), (tH s39_11), (kT l39_12)])
@[go_sem] def s39_14 (_ : Unit) : IR := (.loop (tH s39_13))
@[go_sem] def s39_15 (_ : Unit) : IR := (.block 2 (tH s39_14))
@[go_sem] def s39_16 (_ : Unit) : IR := (sQ [(kT l39_5), (tH s39_15)])
@[go_sem] def s39_17 (_ : Unit) : IR := (.block 1 (tH s39_16))
@[go_sem] def l39_18 (_ : Unit) : KL := [kA 15 (.mv (.t 6)),
  kA 16 (.bin .add (.t 15) (cI 1)),
  kB 6 (.mv (.t 16)) [0, 1, 5, 6]]
@[go_sem] def s39_19 (_ : Unit) : IR := (sQ [(tH s39_4), (tH s39_17), (kT l39_18)])
@[go_sem] def s39_20 (_ : Unit) : IR := (.loop (tH s39_19))
@[go_sem] def s39_21 (_ : Unit) : IR := (.block 0 (tH s39_20))
@[go_sem] def s39_22 (_ : Unit) : IR := (sQ [(kT l39_2), (tH s39_21)])
@[go_sem] def l39_23 (_ : Unit) : KL := [kA 39 (.mv (.t 5)),
  kB 4 (.mv (.t 39)) [4]]
@[go_sem] def s39_24 (_ : Unit) : IR := (sQ [(kT l39_0), (kT l39_1), (tH s39_22), (kT l39_23), .ret])
theorem c39 : compFn Try.prog [(0, [], [oS [0, 1]]), (1, [], [oN, oN, oN, oS [0, 1, 5]]), (2, [], [oS [0, 1, 5, 6]]), (3, [], [oN, oN, oN, oS [0, 1, 5, 6, 14]]), (5, [], [oS [0, 1, 5, 6, 7]]), (6, [], [oN, oN, oN, oN, oS [0, 1, 5, 6, 7, 17, 21], oN, oS [0, 1, 5, 6, 7, 23]]), (8, [], [oN, oN, oN, oS [0, 1, 5, 6, 7, 29]]), (9, [], [oN, oN, oN, oN, oS [0, 1, 5, 6, 7, 30, 34], oN, oN, oN, oN, oS [0, 1, 5, 6, 7]]), (7, [], [oN, oN, oS [0, 1, 5, 6, 7]]), (4, [], [oN, oN, oS [0, 1, 5, 6]]), (10, [], [oN, oS [4]])] Try.f39 = some ⟨2, 40, [.t 4], (tH s39_24)⟩ := by kernel_rfl
theorem v_spec_l4Behind (hl : vs.length = 2) (h : wpV Try.prog (tH s39_24) (postV [.t 4] RV) (envV vs) M) : VCall Try.prog n_spec_l4Behind vs M RV :=
  vcall_of_wp (fun _ _ _ hl h => acall_of_wp mixed Try.func39 c39 (by kernel_rfl) hl h) hl h
@[go_sem] def l38_0 (_ : Unit) : KL := [kB 2 (.mv (.c (.sl none 0 0 true 0))) [0]]
@[go_sem] def l38_1 (_ : Unit) : KL := [kA 5 (.bslc 1 0 [(.int .i64 0)] []),
  kB 3 (.mv (.t 5)) [0, 3]]
@[go_sem] def l38_2 (_ : Unit) : KL := [kB 4 (.mv (cI 0)) [0, 3, 4]]
@[go_sem] def l38_3 (_ : Unit) : KL := [kA 6 (.mv (.t 4)),
  kA 7 (.mv (.t 0)),
  kA 8 (.len (.t 7)),
  kB 9 (.bin .lss (.t 6) (.t 8)) [0, 3, 4, 9]]
@[go_sem] def s38_4 (_ : Unit) : IR := (sQ [(kT l38_3), (.cond (.t 9) .skip (.exit 0))])
@[go_sem] def l38_5 (_ : Unit) : KL := [kA 12 (.mv (.t 0)),
  kA 13 (.mv (.t 4)),
  kA 14 (.iaddr (.t 12) (.t 13) 1),
  kB 15 (.load (.t 14) 1 false) [0, 3, 4, 15]]
@[go_sem] def l38_6 (_ : Unit) : KL := [kA 16 (.mv (.t 3)),
  kA 17 (.mv (.t 4)),
  kA 18 (.bslc 1 1 [(.int .i64 0)] [(0, (.t 17))]),
  kA 19 (.app 1 8 (.t 16) (.t 18)),
  kB 3 (.mv (.t 19)) [0, 3, 4]]
@[go_sem] def s38_7 (_ : Unit) : IR := (sQ [(kT l38_5), (.cond (.t 15) (kT l38_6) .skip)])
@[go_sem] def s38_8 (_ : Unit) : IR := (.block 1 (tH s38_7))
@[go_sem] def l38_9 (_ : Unit) : KL := [kA 10 (.mv (.t 4)),
  kA 11 (.bin .add (.t 10) (cI 1)),
  kB 4 (.mv (.t 11)) [0, 3, 4]]
@[go_sem] def s38_10 (_ : Unit) : IR := (sQ [(tH s38_4), (tH s38_8), (kT l38_9)])
@[go_sem] def s38_11 (_ : Unit) : IR := (.loop (tH s38_10))
@[go_sem] def s38_12 (_ : Unit) : IR := (.block 0 (tH s38_11))
@[go_sem] def s38_13 (_ : Unit) : IR := (sQ [(kT l38_2), (tH s38_12)])
@[go_sem] def l38_14 (_ : Unit) : KL := [kA 20 (.mv (.t 3)),
  kB 2 (.mv (.t 20)) [2]]
@[go_sem] def s38_15 (_ : Unit) : IR := (sQ [(kT l38_0), (kT l38_1), (tH s38_13), (kT l38_14), .ret])
theorem c38 : compFn Try.prog [(0, [], [oS [0]]), (1, [], [oN, oS [0, 3]]), (2, [], [oS [0, 3, 4]]), (3, [], [oN, oN, oN, oS [0, 3, 4, 9]]), (5, [], [oN, oN, oN, oS [0, 3, 4, 15]]), (6, [], [oN, oN, oN, oN, oS [0, 3, 4]]), (4, [], [oN, oN, oS [0, 3, 4]]), (7, [], [oN, oS [2]])] Try.f38 = some ⟨1, 21, [.t 2], (tH s38_15)⟩ := by kernel_rfl
theorem v_spec_l4List (hl : vs.length = 1) (h : wpV Try.prog (tH s38_15) (postV [.t 2] RV) (envV vs) M) : VCall Try.prog n_spec_l4List vs M RV :=
  vcall_of_wp (fun _ _ _ hl h => acall_of_wp mixed Try.func38 c38 (by kernel_rfl) hl h) hl h
@[go_sem] def l10_0 (_ : Unit) : KL := [kA 2 (.box (.t 0)),
  kB 4 (.mv (.c (.sl none 0 0 true 0))) [1, 2]]
@[go_sem] def l10_1 (_ : Unit) : KL := [kA 5 (.load (.t 2) 2 true),
  kA 6 (.mv (.t 1)),
  kA 7 (.call (n_spec_SetValid) [(.t 5), (.t 6)]),
  kB 8 (.un .not (.t 7)) [1, 2, 8]]
@[go_sem] def l10_2 (_ : Unit) : KL := [kB 4 (.mv (.c (.sl none 0 0 true 0))) [4]]
@[go_sem] def s10_3 (_ : Unit) : IR := (sQ [(kT l10_2), .ret])
@[go_sem] def s10_4 (_ : Unit) : IR := (sQ [(kT l10_1), (.cond (.t 8) (tH s10_3) .skip)])
@[go_sem] def l10_5 : Nat → GOp
  | 0 => ⟨(some 9), .load (.t 2) 2 true, none⟩
  | 1 => ⟨(some 10), .call (n_spec_l4Steps) [(.t 9)], none⟩
  | 2 => ⟨(some 11), .mv (.t 1), none⟩
  | 3 => ⟨(some 12), .load (.t 2) 2 true, none⟩
  | 4 => ⟨(some 13), .call (n_spec_SizeOf) [(.t 12)], none⟩
  | 5 => ⟨(some 14), .call (n_spec_l4Marks) [(.t 11), (.t 13)], none⟩
  | 6 => ⟨(some 15), .call (n_spec_l4Behind) [(.t 10), (.t 14)], none⟩
  | 7 => ⟨(some 16), .call (n_spec_l4List) [(.t 15)], none⟩
  | 8 => ⟨(some 4), .mv (.t 16), none⟩
  | _ => ⟨none, .mkmap, none⟩
@[go_sem] def s10_6 (_ : Unit) : IR := (sQ [(kT l10_0), (tH s10_4), (.kd (oF l10_5 9) [(0, []), (2, []), (3, []), (1, [3]), (4, []), (5, []), (6, []), (7, []), (8, [])] [4]), .ret])
theorem c10 : compFn Try.prog [(0, [], [oN, oS [1, 2]]), (1, [], [oN, oN, oN, oS [1, 2, 8]]), (2, [], [oS [4]]), (3, [(0, []), (2, []), (3, []), (1, [3]), (4, []), (5, []), (6, []), (7, []), (8, [])], [oS [4]])] Try.f10 = some ⟨2, 17, [.t 4], (tH s10_6)⟩ := by kernel_rfl
theorem v_spec_NextNumbers (hl : vs.length = 2) (h : wpV Try.prog (tH s10_6) (postV [.t 4] RV) (envV vs) M) : VCall Try.prog n_spec_NextNumbers vs M RV :=
  vcall_of_wp (fun _ _ _ hl h => acall_of_wp mixed Try.func10 c10 (by kernel_rfl) hl h) hl h
@[go_sem] def l9_0 (_ : Unit) : KL := [kB 4 (.mv (.c (.bool false))) [0, 1]]
@[go_sem] def l9_1 (_ : Unit) : KL := [kA 7 (.mv (.t 0)),
  kA 8 (.len (.t 7)),
  kA 9 (.mv (.t 1)),
  kA 10 (.len (.t 9)),
  kB 11 (.bin .neq (.t 8) (.t 10)) [0, 1, 11]]
@[go_sem] def l9_2 (_ : Unit) : KL := [kB 4 (.mv (.c (.bool false))) [4]]
@[go_sem] def s9_3 (_ : Unit) : IR := (sQ [(kT l9_2), .ret])
@[go_sem] def s9_4 (_ : Unit) : IR := (sQ [(kT l9_1), (.cond (.t 11) (tH s9_3) .skip)])
@[go_sem] def l9_5 (_ : Unit) : KL := [kA 12 (.mv (.t 0)),
  kA 13 (.len (.t 12)),
  kB 14 (.mv (cI 0)) [1, 12, 13, 14]]
@[go_sem] def l9_6 (_ : Unit) : KL := [kB 15 (.bin .lss (.t 14) (.t 13)) [1, 12, 13, 14, 15]]
@[go_sem] def l9_7 (_ : Unit) : KL := [kA 16 (.mv (.t 14)),
  kA 17 (.iaddr (.t 12) (.t 14) 1),
  kA 18 (.load (.t 17) 1 false),
  kA 5 (.mv (.t 16)),
  kB 6 (.mv (.t 18)) [1, 5, 6, 12, 13, 14]]
@[go_sem] def l9_8 (_ : Unit) : KL := [kA 19 (.mv (.t 1)),
  kA 20 (.mv (.t 5)),
  kA 21 (.iaddr (.t 19) (.t 20) 1),
  kA 22 (.load (.t 21) 1 false),
  kB 23 (.mv (.t 6)) [1, 12, 13, 14, 22, 23],
  kB 24 (.bin .neq (.t 22) (.t 23)) [1, 12, 13, 14, 24]]
@[go_sem] def l9_9 (_ : Unit) : KL := [kB 4 (.mv (.c (.bool false))) [4]]
@[go_sem] def s9_10 (_ : Unit) : IR := (sQ [(kT l9_9), .ret])
@[go_sem] def s9_11 (_ : Unit) : IR := (sQ [(kT l9_7), (kT l9_8), (.cond (.t 24) (tH s9_10) .skip)])
@[go_sem] def s9_12 (_ : Unit) : IR := (.block 1 (tH s9_11))
@[go_sem] def l9_13 (_ : Unit) : KL := [kA 25 (.bin .add (.t 14) (cI 1)),
  kB 14 (.mv (.t 25)) [1, 12, 13, 14]]
@[go_sem] def s9_14 (_ : Unit) : IR := (sQ [(kT l9_6), (.cond (.t 15) .skip (.exit 0)), (tH s9_12), (kT l9_13)])
@[go_sem] def s9_15 (_ : Unit) : IR := (.loop (tH s9_14))
@[go_sem] def s9_16 (_ : Unit) : IR := (.block 0 (tH s9_15))
@[go_sem] def s9_17 (_ : Unit) : IR := (sQ [(kT l9_5), (tH s9_16)])
@[go_sem] def l9_18 (_ : Unit) : KL := [kB 4 (.mv (.c (.bool true))) [4]]
@[go_sem] def s9_19 (_ : Unit) : IR := (sQ [(kT l9_0), (tH s9_4), (tH s9_17), (kT l9_18), .ret])
theorem c9 : compFn Try.prog [(0, [], [oS [0, 1]]), (1, [], [oN, oN, oN, oN, oS [0, 1, 11]]), (2, [], [oS [4]]), (3, [], [oN, oN, oS [1, 12, 13, 14]]), (4, [], [oS [1, 12, 13, 14, 15]]), (5, [], [oN, oN, oN, oN, oS [1, 5, 6, 12, 13, 14]]), (6, [], [oN, oN, oN, oN, oS [1, 12, 13, 14, 22, 23], oS [1, 12, 13, 14, 24]]), (7, [], [oS [4]]), (8, [], [oN, oS [1, 12, 13, 14]]), (9, [], [oS [4]])] Try.f9 = some ⟨2, 26, [.t 4], (tH s9_19)⟩ := by kernel_rfl
theorem v_laws_wcInts (hl : vs.length = 2) (h : wpV Try.prog (tH s9_19) (postV [.t 4] RV) (envV vs) M) : VCall Try.prog n_laws_wcInts vs M RV :=
  vcall_of_wp (fun _ _ _ hl h => acall_of_wp mixed Try.func9 c9 (by kernel_rfl) hl h) hl h
@[go_sem] def l45_0 (_ : Unit) : KL := [kB 2 (.mv (.c (.sl none 0 0 true 0))) [0]]
@[go_sem] def l45_1 (_ : Unit) : KL := [kA 8 (.mv (.t 0)),
  kA 9 (.len (.t 8)),
  kA 10 (.mks [(.sl none 0 0 true 0)] 24 (.t 9)),
  kB 3 (.mv (.t 10)) [0, 3]]
@[go_sem] def l45_2 (_ : Unit) : KL := [kA 11 (.mv (.t 0)),
  kA 12 (.len (.t 11)),
  kB 13 (.mv (cI 0)) [3, 11, 12, 13]]
@[go_sem] def l45_3 (_ : Unit) : KL := [kB 14 (.bin .lss (.t 13) (.t 12)) [3, 11, 12, 13, 14]]
@[go_sem] def l45_4 (_ : Unit) : KL := [kA 15 (.mv (.t 13)),
  kA 16 (.iaddr (.t 11) (.t 13) 1),
  kA 17 (.load (.t 16) 1 false),
  kA 4 (.mv (.t 15)),
  kB 5 (.mv (.t 17)) [3, 4, 5, 11, 12, 13]]
@[go_sem] def l45_5 (_ : Unit) : KL := [kA 18 (.mv (.t 5)),
  kA 19 (.len (.t 18)),
  kB 20 (.mv (cI 0)) [3, 4, 11, 12, 13, 18, 19, 20]]
@[go_sem] def l45_6 (_ : Unit) : KL := [kB 21 (.bin .lss (.t 20) (.t 19)) [3, 4, 11, 12, 13, 18, 19, 20, 21]]
@[go_sem] def l45_7 (_ : Unit) : KL := [kA 22 (.iaddr (.t 18) (.t 20) 1),
  kA 23 (.load (.t 22) 1 false),
  kB 7 (.mv (.t 23)) [3, 4, 7, 11, 12, 13, 18, 19, 20]]
@[go_sem] def l45_8 (_ : Unit) : KL := [kA 24 (.mv (.t 3)),
  kA 25 (.mv (.t 7)),
  kA 26 (.mv (.t 3)),
  kA 27 (.mv (.t 7)),
  kB 28 (.iaddr (.t 26) (.t 27) 1) [3, 4, 11, 12, 13, 18, 19, 20, 24, 25, 28],
  kA 29 (.load (.t 28) 1 false),
  kA 30 (.mv (.t 4)),
  kA 31 (.bslc 1 1 [(.int .i64 0)] [(0, (.t 30))]),
  kA 32 (.app 1 8 (.t 29) (.t 31)),
  kB 33 (.iaddr (.t 24) (.t 25) 1) [3, 4, 11, 12, 13, 18, 19, 20, 32, 33],
  (⟨none, .store (.t 33) 1 (.t 32), none⟩, (some [3, 4, 11, 12, 13, 18, 19, 20]))]
@[go_sem] def s45_9 (_ : Unit) : IR := (sQ [(kT l45_7), (kT l45_8)])
@[go_sem] def s45_10 (_ : Unit) : IR := (.block 3 (tH s45_9))
@[go_sem] def l45_11 (_ : Unit) : KL := [kA 34 (.bin .add (.t 20) (cI 1)),
  kB 20 (.mv (.t 34)) [3, 4, 11, 12, 13, 18, 19, 20]]
@[go_sem] def s45_12 (_ : Unit) : IR := (sQ [(kT l45_6), (.cond (.t 21) .skip (.exit 2)), (tH s45_10), (kT l45_11)])
@[go_sem] def s45_13 (_ : Unit) : IR := (.loop (tH s45_12))
@[go_sem] def s45_14 (_ : Unit) : IR := (.block 2 (tH s45_13))
@[go_sem] def s45_15 (_ : Unit) : IR := (sQ [(kT l45_4), (kT l45_5), (tH s45_14)])
@[go_sem] def s45_16 (_ : Unit) : IR := (.block 1 (tH s45_15))
@[go_sem] def l45_17 (_ : Unit) : KL := [kA 35 (.bin .add (.t 13) (cI 1)),
  kB 13 (.mv (.t 35)) [3, 11, 12, 13]]
@[go_sem] def s45_18 (_ : Unit) : IR := (sQ [(kT l45_3), (.cond (.t 14) .skip (.exit 0)), (tH s45_16), (kT l45_17)])
@[go_sem] def s45_19 (_ : Unit) : IR := (.loop (tH s45_18))
@[go_sem] def s45_20 (_ : Unit) : IR := (.block 0 (tH s45_19))
@[go_sem] def s45_21 (_ : Unit) : IR := (sQ [(kT l45_2), (tH s45_20)])
@[go_sem] def l45_22 (_ : Unit) : KL := [kA 36 (.mv (.t 3)),
  kB 2 (.mv (.t 36)) [2]]
@[go_sem] def s45_23 (_ : Unit) : IR := (sQ [(kT l45_0), (kT l45_1), (tH s45_21), (kT l45_22), .ret])
theorem c45 : compFn Try.prog [(0, [], [oS [0]]), (1, [], [oN, oN, oN, oS [0, 3]]), (2, [], [oN, oN, oS [3, 11, 12, 13]]), (3, [], [oS [3, 11, 12, 13, 14]]), (4, [], [oN, oN, oN, oN, oS [3, 4, 5, 11, 12, 13]]), (5, [], [oN, oN, oS [3, 4, 11, 12, 13, 18, 19, 20]]), (6, [], [oS [3, 4, 11, 12, 13, 18, 19, 20, 21]]), (7, [], [oN, oN, oS [3, 4, 7, 11, 12, 13, 18, 19, 20]]), (8, [], [oN, oN, oN, oN, oS [3, 4, 11, 12, 13, 18, 19, 20, 24, 25, 28], oN, oN, oN, oN, oS [3, 4, 11, 12, 13, 18, 19, 20, 32, 33], oS [3, 4, 11, 12, 13, 18, 19, 20]]), (9, [], [oN, oS [3, 4, 11, 12, 13, 18, 19, 20]]), (10, [], [oN, oS [3, 11, 12, 13]]), (11, [], [oN, oS [2]])] Try.f45 = some ⟨1, 37, [.t 2], (tH s45_23)⟩ := by kernel_rfl
theorem v_impl_pasts (hl : vs.length = 1) (h : wpV Try.prog (tH s45_23) (postV [.t 2] RV) (envV vs) M) : VCall Try.prog n_impl_pasts vs M RV :=
  vcall_of_wp (fun _ _ _ hl h => acall_of_wp mixed Try.func45 c45 (by kernel_rfl) hl h) hl h
@[go_sem] def l13_0 (_ : Unit) : KL := [kA 2 (.box (.t 0)),
  kB 4 (.mv (.c (.sl none 0 0 true 0))) [1, 2]]
@[go_sem] def l13_1 (_ : Unit) : KL := [kA 5 (.load (.t 2) 2 true),
  kA 6 (.mv (.t 1)),
  kA 7 (.call (n_impl_SetValid) [(.t 5), (.t 6)]),
  kB 8 (.un .not (.t 7)) [1, 2, 8]]
@[go_sem] def l13_2 (_ : Unit) : KL := [kB 4 (.mv (.c (.sl none 0 0 true 0))) [4]]
@[go_sem] def s13_3 (_ : Unit) : IR := (sQ [(kT l13_2), .ret])
@[go_sem] def s13_4 (_ : Unit) : IR := (sQ [(kT l13_1), (.cond (.t 8) (tH s13_3) .skip)])
@[go_sem] def l13_5 (_ : Unit) : KL := [kA 9 (.load (.t 2) 2 true),
  kA 10 (.call (n_impl_nexts) [(.t 9)]),
  kA 11 (.call (n_impl_pasts) [(.t 10)]),
  kA 12 (.mv (.t 1)),
  kB 13 (.call (n_impl_over) [(.t 11), (.t 12)]) [13],
  kB 4 (.mv (.t 13)) [4]]
@[go_sem] def s13_6 (_ : Unit) : IR := (sQ [(kT l13_0), (tH s13_4), (kT l13_5), .ret])
theorem c13 : compFn Try.prog [(0, [], [oN, oS [1, 2]]), (1, [], [oN, oN, oN, oS [1, 2, 8]]), (2, [], [oS [4]]), (3, [], [oN, oN, oN, oN, oS [13], oS [4]])] Try.f13 = some ⟨2, 14, [.t 4], (tH s13_6)⟩ := by kernel_rfl
theorem v_impl_PastNumbers (hl : vs.length = 2) (h : wpV Try.prog (tH s13_6) (postV [.t 4] RV) (envV vs) M) : VCall Try.prog n_impl_PastNumbers vs M RV :=
  vcall_of_wp (fun _ _ _ hl h => acall_of_wp mixed Try.func13 c13 (by kernel_rfl) hl h) hl h
@[go_sem] def l14_0 (_ : Unit) : KL := [kB 4 (.mv (.c (.bool false))) [0, 1]]
@[go_sem] def l14_1 (_ : Unit) : KL := [kA 7 (.mv (.t 0)),
  kA 8 (.len (.t 7)),
  kB 9 (.mv (cI 0)) [1, 7, 8, 9]]
@[go_sem] def l14_2 (_ : Unit) : KL := [kB 10 (.bin .lss (.t 9) (.t 8)) [1, 7, 8, 9, 10]]
@[go_sem] def l14_3 (_ : Unit) : KL := [kA 11 (.iaddr (.t 7) (.t 9) 1),
  kA 12 (.load (.t 11) 1 false),
  kB 6 (.mv (.t 12)) [1, 6, 7, 8, 9]]
@[go_sem] def l14_4 (_ : Unit) : KL := [kA 13 (.mv (.t 6)),
  kA 14 (.mv (.t 1)),
  kB 15 (.bin .eql (.t 13) (.t 14)) [1, 7, 8, 9, 15]]
@[go_sem] def l14_5 (_ : Unit) : KL := [kB 4 (.mv (.c (.bool true))) [4]]
@[go_sem] def s14_6 (_ : Unit) : IR := (sQ [(kT l14_5), .ret])
@[go_sem] def s14_7 (_ : Unit) : IR := (sQ [(kT l14_3), (kT l14_4), (.cond (.t 15) (tH s14_6) .skip)])
@[go_sem] def s14_8 (_ : Unit) : IR := (.block 1 (tH s14_7))
@[go_sem] def l14_9 (_ : Unit) : KL := [kA 16 (.bin .add (.t 9) (cI 1)),
  kB 9 (.mv (.t 16)) [1, 7, 8, 9]]
@[go_sem] def s14_10 (_ : Unit) : IR := (sQ [(kT l14_2), (.cond (.t 10) .skip (.exit 0)), (tH s14_8), (kT l14_9)])
@[go_sem] def s14_11 (_ : Unit) : IR := (.loop (tH s14_10))
@[go_sem] def s14_12 (_ : Unit) : IR := (.block 0 (tH s14_11))
@[go_sem] def s14_13 (_ : Unit) : IR := (sQ [(kT l14_1), (tH s14_12)])
@[go_sem] def l14_14 (_ : Unit) : KL := [kB 4 (.mv (.c (.bool false))) [4]]
@[go_sem] def s14_15 (_ : Unit) : IR := (sQ [(kT l14_0), (tH s14_13), (kT l14_14), .ret])
theorem c14 : compFn Try.prog [(0, [], [oS [0, 1]]), (1, [], [oN, oN, oS [1, 7, 8, 9]]), (2, [], [oS [1, 7, 8, 9, 10]]), (3, [], [oN, oN, oS [1, 6, 7, 8, 9]]), (4, [], [oN, oN, oS [1, 7, 8, 9, 15]]), (5, [], [oS [4]]), (6, [], [oN, oS [1, 7, 8, 9]]), (7, [], [oS [4]])] Try.f14 = some ⟨2, 17, [.t 4], (tH s14_15)⟩ := by kernel_rfl
theorem v_laws_wcHas (hl : vs.length = 2) (h : wpV Try.prog (tH s14_15) (postV [.t 4] RV) (envV vs) M) : VCall Try.prog n_laws_wcHas vs M RV :=
  vcall_of_wp (fun _ _ _ hl h => acall_of_wp mixed Try.func14 c14 (by kernel_rfl) hl h) hl h
@[go_sem] def l17_0 (_ : Unit) : KL := [kA 1 (.box (.t 0)),
  kB 2 (.mv (cI 0)) [1]]
@[go_sem] def l17_1 (_ : Unit) : KL := [kA 3 (.load (.t 1) 2 true),
  kA 4 (.call (n_impl_SystemValid) [(.t 3)]),
  kB 5 (.un .not (.t 4)) [1, 5]]
@[go_sem] def l17_2 (_ : Unit) : KL := [kB 2 (.mv (cI 0)) [2]]
@[go_sem] def s17_3 (_ : Unit) : IR := (sQ [(kT l17_2), .ret])
@[go_sem] def s17_4 (_ : Unit) : IR := (sQ [(kT l17_1), (.cond (.t 5) (tH s17_3) .skip)])
@[go_sem] def l17_5 (_ : Unit) : KL := [kA 6 (.faddr (.t 1) 0),
  kA 7 (.load (.t 6) 1 false),
  kA 8 (.call (n_impl_size) [(.t 7)]),
  kB 2 (.mv (.t 8)) [2]]
@[go_sem] def s17_6 (_ : Unit) : IR := (sQ [(kT l17_0), (tH s17_4), (kT l17_5), .ret])
theorem c17 : compFn Try.prog [(0, [], [oN, oS [1]]), (1, [], [oN, oN, oS [1, 5]]), (2, [], [oS [2]]), (3, [], [oN, oN, oN, oS [2]])] Try.f17 = some ⟨1, 9, [.t 2], (tH s17_6)⟩ := by kernel_rfl
theorem v_impl_SizeOf (hl : vs.length = 1) (h : wpV Try.prog (tH s17_6) (postV [.t 2] RV) (envV vs) M) : VCall Try.prog n_impl_SizeOf vs M RV :=
  vcall_of_wp (fun _ _ _ hl h => acall_of_wp mixed Try.func17 c17 (by kernel_rfl) hl h) hl h
@[go_sem] def l16_0 (_ : Unit) : KL := [kA 2 (.box (.t 0)),
  kB 4 (.mv (.c (.sl none 0 0 true 0))) [1, 2]]
@[go_sem] def l16_1 (_ : Unit) : KL := [kA 5 (.mv (.t 1)),
  kA 6 (.load (.t 2) 2 true),
  kA 7 (.call (n_impl_SizeOf) [(.t 6)]),
  kA 8 (.bin .sub (.t 7) (cI 1)),
  kB 9 (.call (n_impl_in) [(.t 5), (cI 0), (.t 8)]) [1, 2, 9],
  kB 10 (.un .not (.t 9)) [1, 2, 10]]
@[go_sem] def l16_2 (_ : Unit) : KL := [kB 4 (.mv (.c (.sl none 0 0 true 0))) [4]]
@[go_sem] def s16_3 (_ : Unit) : IR := (sQ [(kT l16_2), .ret])
@[go_sem] def s16_4 (_ : Unit) : IR := (sQ [(kT l16_1), (.cond (.t 10) (tH s16_3) .skip)])
@[go_sem] def l16_5 (_ : Unit) : KL := [kA 11 (.load (.t 2) 2 true),
  kA 12 (.mv (.t 1)),
  kA 13 (.call (n_impl_stateAt) [(.t 11), (.t 12)]),
  kB 4 (.mv (.t 13)) [4]]
@[go_sem] def s16_6 (_ : Unit) : IR := (sQ [(kT l16_0), (tH s16_4), (kT l16_5), .ret])
theorem c16 : compFn Try.prog [(0, [], [oN, oS [1, 2]]), (1, [], [oN, oN, oN, oN, oS [1, 2, 9], oS [1, 2, 10]]), (2, [], [oS [4]]), (3, [], [oN, oN, oN, oS [4]])] Try.f16 = some ⟨2, 14, [.t 4], (tH s16_6)⟩ := by kernel_rfl
theorem v_impl_StateAt (hl : vs.length = 2) (h : wpV Try.prog (tH s16_6) (postV [.t 4] RV) (envV vs) M) : VCall Try.prog n_impl_StateAt vs M RV :=
  vcall_of_wp (fun _ _ _ hl h => acall_of_wp mixed Try.func16 c16 (by kernel_rfl) hl h) hl h
@[go_sem] def l22_0 (_ : Unit) : KL := [kA 2 (.box (.t 0)),
  kB 4 (.mv (.c (.bool false))) [1, 2]]
@[go_sem] def l22_1 (_ : Unit) : KL := [kA 5 (.load (.t 2) 2 true),
  kA 6 (.call (n_impl_SystemValid) [(.t 5)]),
  kA 7 (.mv (.t 6)),
  (⟨(some 8), .load (.t 2) 2 true, (some (7, true))⟩, none),
  (⟨(some 9), .mv (.t 1), (some (7, true))⟩, (some [7, 8, 9])),
  (⟨(some 10), .call (n_impl_inRange) [(.t 8), (.t 9)], (some (7, true))⟩, none),
  kA 11 (.pick (.t 7) (.t 10) (.c (.bool false))),
  kB 4 (.mv (.t 11)) [4]]
@[go_sem] def s22_2 (_ : Unit) : IR := (sQ [(kT l22_0), (kT l22_1), .ret])
theorem c22 : compFn Try.prog [(0, [], [oN, oS [1, 2]]), (1, [], [oN, oN, oN, oN, oS [7, 8, 9], oN, oN, oS [4]])] Try.f22 = some ⟨2, 12, [.t 4], (tH s22_2)⟩ := by kernel_rfl
theorem v_impl_InRange (hl : vs.length = 2) (h : wpV Try.prog (tH s22_2) (postV [.t 4] RV) (envV vs) M) : VCall Try.prog n_impl_InRange vs M RV :=
  vcall_of_wp (fun _ _ _ hl h => acall_of_wp mixed Try.func22 c22 (by kernel_rfl) hl h) hl h
@[go_sem] def l46_0 (_ : Unit) : KL := [kA 2 (.box (.t 0)),
  kB 4 (.mv (.c (.sl none 0 0 true 0))) [1, 2]]
@[go_sem] def l46_1 (_ : Unit) : KL := [kB 5 (.mv (.c (.sl none 0 0 true 0))) [1, 2, 5]]
@[go_sem] def l46_2 (_ : Unit) : KL := [kA 9 (.faddr (.t 2) 1),
  kA 10 (.load (.t 9) 1 false),
  kA 11 (.len (.t 10)),
  kB 12 (.mv (cI 0)) [1, 2, 5, 11, 12]]
@[go_sem] def l46_3 (_ : Unit) : KL := [kB 13 (.bin .lss (.t 12) (.t 11)) [1, 2, 5, 11, 12, 13]]
@[go_sem] def l46_4 (_ : Unit) : KL := [kA 14 (.mv (.t 12)),
  kB 6 (.mv (.t 14)) [1, 2, 5, 6, 11, 12]]
@[go_sem] def l46_5 (_ : Unit) : KL := [kA 16 (.load (.t 2) 2 true),
  kA 17 (.mv (.t 1)),
  kA 18 (.mv (.t 6)),
  kA 19 (.call (n_impl_use) [(.t 16), (.t 17), (.t 18)]),
  kB 15 (.mv (.t 19)) [1, 2, 5, 6, 11, 12, 15],
  kA 20 (.ext (.t 15) 0),
  kA 21 (.ext (.t 15) 1),
  kA 7 (.mv (.t 20)),
  kB 8 (.mv (.t 21)) [1, 2, 5, 6, 8, 11, 12]]
@[go_sem] def l46_6 (_ : Unit) : KL := [kB 22 (.mv (.t 8)) [1, 2, 5, 6, 11, 12, 22]]
@[go_sem] def l46_7 (_ : Unit) : KL := [kA 23 (.mv (.t 5)),
  kA 24 (.mv (.t 6)),
  kA 25 (.bslc 1 1 [(.int .i64 0)] [(0, (.t 24))]),
  kA 26 (.app 1 8 (.t 23) (.t 25)),
  kB 5 (.mv (.t 26)) [1, 2, 5, 11, 12]]
@[go_sem] def s46_8 (_ : Unit) : IR := (sQ [(kT l46_4), (kT l46_5), (kT l46_6), (.cond (.t 22) (kT l46_7) .skip)])
@[go_sem] def s46_9 (_ : Unit) : IR := (.block 1 (tH s46_8))
@[go_sem] def l46_10 (_ : Unit) : KL := [kA 27 (.bin .add (.t 12) (cI 1)),
  kB 12 (.mv (.t 27)) [1, 2, 5, 11, 12]]
@[go_sem] def s46_11 (_ : Unit) : IR := (sQ [(kT l46_3), (.cond (.t 13) .skip (.exit 0)), (tH s46_9), (kT l46_10)])
@[go_sem] def s46_12 (_ : Unit) : IR := (.loop (tH s46_11))
@[go_sem] def s46_13 (_ : Unit) : IR := (.block 0 (tH s46_12))
@[go_sem] def s46_14 (_ : Unit) : IR := (sQ [(kT l46_2), (tH s46_13)])
@[go_sem] def l46_15 (_ : Unit) : KL := [kA 28 (.mv (.t 5)),
  kA 29 (.call (n_impl_clone_int) [(.t 28)]),
  kB 4 (.mv (.t 29)) [4]]
@[go_sem] def s46_16 (_ : Unit) : IR := (sQ [(kT l46_0), (kT l46_1), (tH s46_14), (kT l46_15), .ret])
theorem c46 : compFn Try.prog [(0, [], [oN, oS [1, 2]]), (1, [], [oS [1, 2, 5]]), (2, [], [oN, oN, oN, oS [1, 2, 5, 11, 12]]), (3, [], [oS [1, 2, 5, 11, 12, 13]]), (4, [], [oN, oS [1, 2, 5, 6, 11, 12]]), (5, [], [oN, oN, oN, oN, oS [1, 2, 5, 6, 11, 12, 15], oN, oN, oN, oS [1, 2, 5, 6, 8, 11, 12]]), (6, [], [oS [1, 2, 5, 6, 11, 12, 22]]), (7, [], [oN, oN, oN, oN, oS [1, 2, 5, 11, 12]]), (8, [], [oN, oS [1, 2, 5, 11, 12]]), (9, [], [oN, oN, oS [4]])] Try.f46 = some ⟨2, 30, [.t 4], (tH s46_16)⟩ := by kernel_rfl
theorem v_impl_usableIn (hl : vs.length = 2) (h : wpV Try.prog (tH s46_16) (postV [.t 4] RV) (envV vs) M) : VCall Try.prog n_impl_usableIn vs M RV :=
  vcall_of_wp (fun _ _ _ hl h => acall_of_wp mixed Try.func46 c46 (by kernel_rfl) hl h) hl h
@[go_sem] def l15_0 (_ : Unit) : KL := [kA 2 (.box (.t 0)),
  kB 4 (.mv (.c (.bool false))) [1, 2]]
@[go_sem] def l15_1 (_ : Unit) : KL := [kA 5 (.load (.t 2) 2 true),
  kA 6 (.mv (.t 1)),
  kA 7 (.call (n_impl_InRange) [(.t 5), (.t 6)]),
  kA 8 (.mv (.t 7)),
  (⟨(some 9), .load (.t 2) 2 true, (some (8, true))⟩, (some [1, 8, 9])),
  (⟨(some 10), .mv (.t 1), (some (8, true))⟩, none),
  (⟨(some 11), .call (n_impl_usableIn) [(.t 9), (.t 10)], (some (8, true))⟩, none),
  (⟨(some 12), .len (.t 11), (some (8, true))⟩, none),
  (⟨(some 13), .bin .eql (.t 12) (cI 0), (some (8, true))⟩, none),
  kB 14 (.pick (.t 8) (.t 13) (.c (.bool false))) [14],
  kB 4 (.mv (.t 14)) [4]]
@[go_sem] def s15_2 (_ : Unit) : IR := (sQ [(kT l15_0), (kT l15_1), .ret])
theorem c15 : compFn Try.prog [(0, [], [oN, oS [1, 2]]), (1, [], [oN, oN, oN, oN, oS [1, 8, 9], oN, oN, oN, oN, oS [14], oS [4]])] Try.f15 = some ⟨2, 15, [.t 4], (tH s15_2)⟩ := by kernel_rfl
theorem v_impl_StuckIn (hl : vs.length = 2) (h : wpV Try.prog (tH s15_2) (postV [.t 4] RV) (envV vs) M) : VCall Try.prog n_impl_StuckIn vs M RV :=
  vcall_of_wp (fun _ _ _ hl h => acall_of_wp mixed Try.func15 c15 (by kernel_rfl) hl h) hl h
@[go_sem] def l3_0 (_ : Unit) : KL := [kB 2 (.mv (.c (.bool false))) [0]]
@[go_sem] def l3_1 (_ : Unit) : KL := [kA 9 (.mv (.t 0)),
  kA 10 (.len (.t 9)),
  kB 11 (.bin .gtr (.t 10) (cI 1048576)) [0, 11]]
@[go_sem] def l3_2 (_ : Unit) : KL := [kB 2 (.mv (.c (.bool true))) [2]]
@[go_sem] def s3_3 (_ : Unit) : IR := (sQ [(kT l3_2), .ret])
@[go_sem] def s3_4 (_ : Unit) : IR := (sQ [(kT l3_1), (.cond (.t 11) (tH s3_3) .skip)])
@[go_sem] def l3_5 (_ : Unit) : KL := [kA 13 (.mv (.t 0)),
  kA 14 (.call (n_spec_DrawNextNumbers) [(.t 13)]),
  kA 12 (.mv (.t 14)),
  kA 15 (.ext (.t 12) 0),
  kB 16 (.ext (.t 12) 1) [15, 16],
  kA 3 (.alloc [(.sl none 0 0 true 0), (.sl none 0 0 true 0)]),
  (⟨none, .store (.t 3) 2 (.t 15), none⟩, none),
  kB 4 (.mv (.t 16)) [3, 4]]
@[go_sem] def l3_6 (_ : Unit) : KL := [kA 17 (.load (.t 3) 2 true),
  kA 18 (.mv (.t 4)),
  kA 19 (.call (n_impl_NextNumbers) [(.t 17), (.t 18)]),
  kB 5 (.mv (.t 19)) [3, 4, 5]]
@[go_sem] def l3_7 : Nat → GOp
  | 0 => ⟨(some 20), .mv (.t 5), none⟩
  | 1 => ⟨(some 21), .load (.t 3) 2 true, none⟩
  | 2 => ⟨(some 22), .mv (.t 4), none⟩
  | 3 => ⟨(some 23), .call (n_spec_NextNumbers) [(.t 21), (.t 22)], none⟩
  | 4 => ⟨(some 24), .call (n_laws_wcInts) [(.t 20), (.t 23)], none⟩
  | 5 => ⟨(some 25), .un .not (.t 24), none⟩
  | 6 => ⟨(some 26), .mv (.t 25), none⟩
  | 7 => ⟨(some 27), .load (.t 3) 2 true, (some (26, false))⟩
  | 8 => ⟨(some 28), .mv (.t 4), (some (26, false))⟩
  | 9 => ⟨(some 29), .call (n_impl_SetValid) [(.t 27), (.t 28)], (some (26, false))⟩
  | 10 => ⟨(some 30), .load (.t 3) 2 true, (some (26, false))⟩
  | 11 => ⟨(some 31), .mv (.t 4), (some (26, false))⟩
  | 12 => ⟨(some 32), .call (n_spec_SetValid) [(.t 30), (.t 31)], (some (26, false))⟩
  | 13 => ⟨(some 33), .beq true (.t 29) (.t 32), (some (26, false))⟩
  | 14 => ⟨(some 34), .pick (.t 26) (.c (.bool true)) (.t 33), none⟩
  | _ => ⟨none, .mkmap, none⟩
@[go_sem] def l3_8 (_ : Unit) : KL := [kB 2 (.mv (.c (.bool false))) [2]]
@[go_sem] def s3_9 (_ : Unit) : IR := (sQ [(kT l3_8), .ret])
@[go_sem] def s3_10 (_ : Unit) : IR := (sQ [(.kd (oF l3_7 15) [(0, []), (1, []), (2, []), (3, []), (4, []), (5, []), (6, []), (7, []), (8, []), (10, []), (11, []), (9, [10]), (12, []), (13, []), (14, [])] [3, 4, 5, 34]), (.cond (.t 34) (tH s3_9) .skip)])
@[go_sem] def l3_11 (_ : Unit) : KL := [kA 35 (.load (.t 3) 2 true),
  kA 36 (.mv (.t 5)),
  kA 37 (.call (n_impl_PastNumbers) [(.t 35), (.t 36)]),
  kB 6 (.mv (.t 37)) [3, 4, 5, 6]]
@[go_sem] def l3_12 (_ : Unit) : KL := [kA 38 (.mv (.t 4)),
  kA 39 (.len (.t 38)),
  kB 40 (.mv (cI 0)) [3, 4, 5, 6, 38, 39, 40]]
@[go_sem] def l3_13 (_ : Unit) : KL := [kB 41 (.bin .lss (.t 40) (.t 39)) [3, 4, 5, 6, 38, 39, 40, 41]]
@[go_sem] def l3_14 (_ : Unit) : KL := [kA 42 (.iaddr (.t 38) (.t 40) 1),
  kA 43 (.load (.t 42) 1 false),
  kB 8 (.mv (.t 43)) [3, 4, 5, 6, 8, 38, 39, 40]]
@[go_sem] def l3_15 : Nat → GOp
  | 0 => ⟨(some 44), .load (.t 3) 2 true, none⟩
  | 1 => ⟨(some 45), .mv (.t 4), none⟩
  | 2 => ⟨(some 46), .call (n_spec_SetValid) [(.t 44), (.t 45)], none⟩
  | 3 => ⟨(some 47), .mv (.t 46), none⟩
  | 4 => ⟨(some 48), .mv (.t 6), (some (47, true))⟩
  | 5 => ⟨(some 49), .mv (.t 8), (some (47, true))⟩
  | 6 => ⟨(some 50), .call (n_laws_wcHas) [(.t 48), (.t 49)], (some (47, true))⟩
  | 7 => ⟨(some 51), .un .not (.t 50), (some (47, true))⟩
  | 8 => ⟨(some 52), .pick (.t 47) (.t 51) (.c (.bool false)), none⟩
  | 9 => ⟨(some 53), .mv (.t 52), none⟩
  | 10 => ⟨(some 54), .load (.t 3) 2 true, (some (53, true))⟩
  | 11 => ⟨(some 55), .load (.t 3) 2 true, (some (53, true))⟩
  | 12 => ⟨(some 56), .mv (.t 8), (some (53, true))⟩
  | 13 => ⟨(some 57), .call (n_impl_StateAt) [(.t 55), (.t 56)], (some (53, true))⟩
  | 14 => ⟨(some 58), .call (n_impl_StuckIn) [(.t 54), (.t 57)], (some (53, true))⟩
  | 15 => ⟨(some 59), .un .not (.t 58), (some (53, true))⟩
  | 16 => ⟨(some 60), .pick (.t 53) (.t 59) (.c (.bool false)), none⟩
  | _ => ⟨none, .mkmap, none⟩
@[go_sem] def l3_16 (_ : Unit) : KL := [kB 2 (.mv (.c (.bool false))) [2]]
@[go_sem] def s3_17 (_ : Unit) : IR := (sQ [(kT l3_16), .ret])
@[go_sem] def s3_18 (_ : Unit) : IR := (sQ [(kT l3_14), (.kd (oF l3_15 17) [(0, []), (1, []), (2, []), (3, []), (4, []), (5, []), (6, []), (7, []), (8, []), (9, []), (10, []), (11, []), (12, []), (13, [10]), (14, []), (15, []), (16, [])] [3, 4, 5, 6, 38, 39, 40, 60]), (.cond (.t 60) (tH s3_17) .skip)])
@[go_sem] def s3_19 (_ : Unit) : IR := (.block 1 (tH s3_18))
@[go_sem] def l3_20 (_ : Unit) : KL := [kA 61 (.bin .add (.t 40) (cI 1)),
  kB 40 (.mv (.t 61)) [3, 4, 5, 6, 38, 39, 40]]
@[go_sem] def s3_21 (_ : Unit) : IR := (sQ [(kT l3_13), (.cond (.t 41) .skip (.exit 0)), (tH s3_19), (kT l3_20)])
@[go_sem] def s3_22 (_ : Unit) : IR := (.loop (tH s3_21))
@[go_sem] def s3_23 (_ : Unit) : IR := (.block 0 (tH s3_22))
@[go_sem] def s3_24 (_ : Unit) : IR := (sQ [(kT l3_12), (tH s3_23)])
@[go_sem] def l3_25 : Nat → GOp
  | 0 => ⟨(some 62), .load (.t 3) 2 true, none⟩
  | 1 => ⟨(some 63), .mv (.t 5), none⟩
  | 2 => ⟨(some 64), .call (n_impl_SetValid) [(.t 62), (.t 63)], none⟩
  | 3 => ⟨(some 65), .load (.t 3) 2 true, none⟩
  | 4 => ⟨(some 66), .call (n_impl_SizeOf) [(.t 65)], none⟩
  | 5 => ⟨(some 67), .bin .gtr (.t 66) (cI 0), none⟩
  | 6 => ⟨(some 68), .beq false (.t 64) (.t 67), none⟩
  | 7 => ⟨(some 2), .mv (.t 68), none⟩
  | _ => ⟨none, .mkmap, none⟩
@[go_sem] def s3_26 (_ : Unit) : IR := (sQ [(kT l3_0), (tH s3_4), (kT l3_5), (kT l3_6), (tH s3_10), (kT l3_11), (tH s3_24), (.kd (oF l3_25 8) [(0, []), (1, []), (3, []), (2, [3]), (4, []), (5, []), (6, []), (7, [])] [2]), .ret])
theorem c3 : compFn Try.prog [(0, [], [oS [0]]), (1, [], [oN, oN, oS [0, 11]]), (2, [], [oS [2]]), (3, [], [oN, oN, oN, oN, oS [15, 16], oN, oN, oS [3, 4]]), (4, [], [oN, oN, oN, oS [3, 4, 5]]), (5, [(0, []), (1, []), (2, []), (3, []), (4, []), (5, []), (6, []), (7, []), (8, []), (10, []), (11, []), (9, [10]), (12, []), (13, []), (14, [])], [oS [3, 4, 5, 34]]), (6, [], [oS [2]]), (7, [], [oN, oN, oN, oS [3, 4, 5, 6]]), (8, [], [oN, oN, oS [3, 4, 5, 6, 38, 39, 40]]), (9, [], [oS [3, 4, 5, 6, 38, 39, 40, 41]]), (10, [], [oN, oN, oS [3, 4, 5, 6, 8, 38, 39, 40]]), (11, [(0, []), (1, []), (2, []), (3, []), (4, []), (5, []), (6, []), (7, []), (8, []), (9, []), (10, []), (11, []), (12, []), (13, [10]), (14, []), (15, []), (16, [])], [oS [3, 4, 5, 6, 38, 39, 40, 60]]), (12, [], [oS [2]]), (13, [], [oN, oS [3, 4, 5, 6, 38, 39, 40]]), (14, [(0, []), (1, []), (3, []), (2, [3]), (4, []), (5, []), (6, []), (7, [])], [oS [2]])] Try.f3 = some ⟨1, 69, [.t 2], (tH s3_26)⟩ := by kernel_rfl
theorem v_laws_FnPastNext (hl : vs.length = 1) (h : wpV Try.prog (tH s3_26) (postV [.t 2] RV) (envV vs) M) : VCall Try.prog n_laws_FnPastNext vs M RV :=
  vcall_of_wp (fun _ _ _ hl h => acall_of_wp mixed Try.func3 c3 (by kernel_rfl) hl h) hl h
end Go.M2

namespace Go.M2
open Go.Proofs
variable {M : MH}
theorem eqB {a b : Bool} (h : a = true ↔ b = true) : V.sc (.bool a) = V.sc (.bool b) := by
  have : a = b := by cases a <;> cases b <;> simp_all
  rw [this]
theorem eqI {a b : Int} (h : a = b) : V.sc (.int .i64 a) = V.sc (.int .i64 b) := by rw [h]
theorem t_l1In {n lo hi : Int} : VCall Try.prog n_spec_l1In [.sc (.int .i64 n), .sc (.int .i64 lo), .sc (.int .i64 hi)] M (fun r M' => M = M' ∧ r = .sc (.bool (decide (lo ≤ n ∧ n ≤ hi)))) := by
  refine VCall.pure fun R hR => v_spec_l1In rfl ?_
  (repeat' (first | ((with_reducible first | refine cond_dec (fun h => ?_) (fun h => ?_) | refine guardK_dec (fun h => ?_) (fun h => ?_) | refine guardD3_dec (fun h => ?_) (fun h => ?_)) <;> first | (exfalso; omega) | (simp (maxSteps := 2000000) (disch := first | omega | assumption | exact idP rfl | exact idP (bL rfl)) only [go_sem, reduceIte, Nat.reduceEqDiff, wpV_kd, wpV_tH, h]) | skip) | ((with_reducible first | refine cond_split (fun h => ?_) (fun h => ?_) | refine guardK_split (fun h => ?_) (fun h => ?_) | refine guardD3_split (fun h => ?_) (fun h => ?_)) <;> ((try simp only [Bool.not_eq_true', Bool.not_eq_false'] at h); first | (simp (maxSteps := 2000000) (disch := first | omega | assumption | exact idP rfl | exact idP (bL rfl)) only [go_sem, reduceIte, Nat.reduceEqDiff, wpV_kd, wpV_tH, h]) | skip)) | (with_reducible intro bk hbk; try have hnk := (fresh_set hbk).1) | (simp (maxSteps := 2000000) (disch := first | omega | assumption | exact idP rfl | exact idP (bL rfl)) only [go_sem, reduceIte, Nat.reduceEqDiff, wpV_kd, wpV_tH])))
  all_goals exact hR _ _ (Sub.refl _) (by (refine eqB ?_; (try simp only [decide_eq_true_eq, Bool.false_eq_true, Bool.and_eq_true, Bool.or_eq_true, Bool.not_eq_true', decide_eq_false_iff_not, eq_self_iff_true, true_iff, false_iff, iff_true, iff_false, ne_eq]); (try omega)))
theorem t_in {n lo hi : Int} : VCall Try.prog n_impl_in [.sc (.int .i64 n), .sc (.int .i64 lo), .sc (.int .i64 hi)] M (fun r M' => M = M' ∧ r = .sc (.bool (decide (lo ≤ n ∧ n ≤ hi)))) := by
  refine VCall.pure fun R hR => v_impl_in rfl ?_
  (repeat' (first | ((with_reducible first | refine cond_dec (fun h => ?_) (fun h => ?_) | refine guardK_dec (fun h => ?_) (fun h => ?_) | refine guardD3_dec (fun h => ?_) (fun h => ?_)) <;> first | (exfalso; omega) | (simp (maxSteps := 2000000) (disch := first | omega | assumption | exact idP rfl | exact idP (bL rfl)) only [go_sem, reduceIte, Nat.reduceEqDiff, wpV_kd, wpV_tH, h]) | skip) | ((with_reducible first | refine cond_split (fun h => ?_) (fun h => ?_) | refine guardK_split (fun h => ?_) (fun h => ?_) | refine guardD3_split (fun h => ?_) (fun h => ?_)) <;> ((try simp only [Bool.not_eq_true', Bool.not_eq_false'] at h); first | (simp (maxSteps := 2000000) (disch := first | omega | assumption | exact idP rfl | exact idP (bL rfl)) only [go_sem, reduceIte, Nat.reduceEqDiff, wpV_kd, wpV_tH, h]) | skip)) | (with_reducible intro bk hbk; try have hnk := (fresh_set hbk).1) | (simp (maxSteps := 2000000) (disch := first | omega | assumption | exact idP rfl | exact idP (bL rfl)) only [go_sem, reduceIte, Nat.reduceEqDiff, wpV_kd, wpV_tH])))
  all_goals exact hR _ _ (Sub.refl _) (by (refine eqB ?_; (try simp only [decide_eq_true_eq, Bool.false_eq_true, Bool.and_eq_true, Bool.or_eq_true, Bool.not_eq_true', decide_eq_false_iff_not, eq_self_iff_true, true_iff, false_iff, iff_true, iff_false, ne_eq]); (try omega)))
theorem t_l1Held {n : Int} : VCall Try.prog n_spec_l1Held [.sc (.int .i64 n)] M (fun r M' => M = M' ∧ r = .sc (.int .i64 (heldF n))) := by
  refine VCall.pure fun R hR => v_spec_l1Held rfl ?_
  (repeat' (first | ((with_reducible first | refine cond_dec (fun h => ?_) (fun h => ?_) | refine guardK_dec (fun h => ?_) (fun h => ?_) | refine guardD3_dec (fun h => ?_) (fun h => ?_)) <;> first | (exfalso; omega) | (simp (maxSteps := 2000000) (disch := first | omega | assumption | exact idP rfl | exact idP (bL rfl)) only [go_sem, reduceIte, Nat.reduceEqDiff, wpV_kd, wpV_tH, h]) | skip) | ((with_reducible first | refine cond_split (fun h => ?_) (fun h => ?_) | refine guardK_split (fun h => ?_) (fun h => ?_) | refine guardD3_split (fun h => ?_) (fun h => ?_)) <;> ((try simp only [Bool.not_eq_true', Bool.not_eq_false'] at h); first | (simp (maxSteps := 2000000) (disch := first | omega | assumption | exact idP rfl | exact idP (bL rfl)) only [go_sem, reduceIte, Nat.reduceEqDiff, wpV_kd, wpV_tH, h]) | skip)) | (with_reducible intro bk hbk; try have hnk := (fresh_set hbk).1) | (simp (maxSteps := 2000000) (disch := first | omega | assumption | exact idP rfl | exact idP (bL rfl)) only [go_sem, reduceIte, Nat.reduceEqDiff, wpV_kd, wpV_tH])))
  all_goals exact hR _ _ (Sub.refl _) (eqI (by unfold heldF; split <;> (try split) <;> omega))
theorem t_held {n : Int} : VCall Try.prog n_impl_held [.sc (.int .i64 n)] M (fun r M' => M = M' ∧ r = .sc (.int .i64 (heldF n))) := by
  refine VCall.pure fun R hR => v_impl_held rfl ?_
  (repeat' (first | ((with_reducible first | refine cond_dec (fun h => ?_) (fun h => ?_) | refine guardK_dec (fun h => ?_) (fun h => ?_) | refine guardD3_dec (fun h => ?_) (fun h => ?_)) <;> first | (exfalso; omega) | (simp (maxSteps := 2000000) (disch := first | omega | assumption | exact idP rfl | exact idP (bL rfl)) only [go_sem, reduceIte, Nat.reduceEqDiff, wpV_kd, wpV_tH, h]) | skip) | ((with_reducible first | refine cond_split (fun h => ?_) (fun h => ?_) | refine guardK_split (fun h => ?_) (fun h => ?_) | refine guardD3_split (fun h => ?_) (fun h => ?_)) <;> ((try simp only [Bool.not_eq_true', Bool.not_eq_false'] at h); first | (simp (maxSteps := 2000000) (disch := first | omega | assumption | exact idP rfl | exact idP (bL rfl)) only [go_sem, reduceIte, Nat.reduceEqDiff, wpV_kd, wpV_tH, h]) | skip)) | (with_reducible intro bk hbk; try have hnk := (fresh_set hbk).1) | (simp (maxSteps := 2000000) (disch := first | omega | assumption | exact idP rfl | exact idP (bL rfl)) only [go_sem, reduceIte, Nat.reduceEqDiff, wpV_kd, wpV_tH])))
  all_goals exact hR _ _ (Sub.refl _) (eqI (by unfold heldF; split <;> (try split) <;> omega))
theorem t_l1One {n : Int} : VCall Try.prog n_spec_l1One [.sc (.int .i64 n)] M (fun r M' => M = M' ∧ r = .sc (.bool (decide (n = 7)))) := by
  refine VCall.pure fun R hR => v_spec_l1One rfl ?_
  (repeat' (first | ((with_reducible first | refine cond_dec (fun h => ?_) (fun h => ?_) | refine guardK_dec (fun h => ?_) (fun h => ?_) | refine guardD3_dec (fun h => ?_) (fun h => ?_)) <;> first | (exfalso; omega) | (simp (maxSteps := 2000000) (disch := first | omega | assumption | exact idP rfl | exact idP (bL rfl)) only [go_sem, reduceIte, Nat.reduceEqDiff, wpV_kd, wpV_tH, h]) | skip) | ((with_reducible first | refine cond_split (fun h => ?_) (fun h => ?_) | refine guardK_split (fun h => ?_) (fun h => ?_) | refine guardD3_split (fun h => ?_) (fun h => ?_)) <;> ((try simp only [Bool.not_eq_true', Bool.not_eq_false'] at h); first | (simp (maxSteps := 2000000) (disch := first | omega | assumption | exact idP rfl | exact idP (bL rfl)) only [go_sem, reduceIte, Nat.reduceEqDiff, wpV_kd, wpV_tH, h]) | skip)) | (with_reducible intro bk hbk; try have hnk := (fresh_set hbk).1) | (simp (maxSteps := 2000000) (disch := first | omega | assumption | exact idP rfl | exact idP (bL rfl)) only [go_sem, reduceIte, Nat.reduceEqDiff, wpV_kd, wpV_tH])))
  all_goals exact hR _ _ (Sub.refl _) rfl
theorem t_l1Truth {b : Bool} : VCall Try.prog n_spec_l1Truth [.sc (.bool b)] M (fun r M' => M = M' ∧ r = .sc (.int .i64 (if b = true then 1 else 0))) := by
  refine VCall.pure fun R hR => v_spec_l1Truth rfl ?_
  cases b <;> (repeat' (first | ((with_reducible first | refine cond_dec (fun h => ?_) (fun h => ?_) | refine guardK_dec (fun h => ?_) (fun h => ?_) | refine guardD3_dec (fun h => ?_) (fun h => ?_)) <;> first | (exfalso; omega) | (simp (maxSteps := 2000000) (disch := first | omega | assumption | exact idP rfl | exact idP (bL rfl)) only [go_sem, reduceIte, Nat.reduceEqDiff, wpV_kd, wpV_tH, h]) | skip) | ((with_reducible first | refine cond_split (fun h => ?_) (fun h => ?_) | refine guardK_split (fun h => ?_) (fun h => ?_) | refine guardD3_split (fun h => ?_) (fun h => ?_)) <;> ((try simp only [Bool.not_eq_true', Bool.not_eq_false'] at h); first | (simp (maxSteps := 2000000) (disch := first | omega | assumption | exact idP rfl | exact idP (bL rfl)) only [go_sem, reduceIte, Nat.reduceEqDiff, wpV_kd, wpV_tH, h]) | skip)) | (with_reducible intro bk hbk; try have hnk := (fresh_set hbk).1) | (simp (maxSteps := 2000000) (disch := first | omega | assumption | exact idP rfl | exact idP (bL rfl)) only [go_sem, reduceIte, Nat.reduceEqDiff, wpV_kd, wpV_tH])))
  all_goals exact hR _ _ (Sub.refl _) rfl
theorem t_bit {b : Bool} : VCall Try.prog n_impl_bit [.sc (.bool b)] M (fun r M' => M = M' ∧ r = .sc (.int .i64 (if b = true then 1 else 0))) := by
  refine VCall.pure fun R hR => v_impl_bit rfl ?_
  cases b <;> (repeat' (first | ((with_reducible first | refine cond_dec (fun h => ?_) (fun h => ?_) | refine guardK_dec (fun h => ?_) (fun h => ?_) | refine guardD3_dec (fun h => ?_) (fun h => ?_)) <;> first | (exfalso; omega) | (simp (maxSteps := 2000000) (disch := first | omega | assumption | exact idP rfl | exact idP (bL rfl)) only [go_sem, reduceIte, Nat.reduceEqDiff, wpV_kd, wpV_tH, h]) | skip) | ((with_reducible first | refine cond_split (fun h => ?_) (fun h => ?_) | refine guardK_split (fun h => ?_) (fun h => ?_) | refine guardD3_split (fun h => ?_) (fun h => ?_)) <;> ((try simp only [Bool.not_eq_true', Bool.not_eq_false'] at h); first | (simp (maxSteps := 2000000) (disch := first | omega | assumption | exact idP rfl | exact idP (bL rfl)) only [go_sem, reduceIte, Nat.reduceEqDiff, wpV_kd, wpV_tH, h]) | skip)) | (with_reducible intro bk hbk; try have hnk := (fresh_set hbk).1) | (simp (maxSteps := 2000000) (disch := first | omega | assumption | exact idP rfl | exact idP (bL rfl)) only [go_sem, reduceIte, Nat.reduceEqDiff, wpV_kd, wpV_tH])))
  all_goals exact hR _ _ (Sub.refl _) rfl
def encT (t : TermS) : List V := [.sc (.int .i64 t.op), .sc (.int .i64 t.n), .sc (.int .i64 t.a), .sc (.int .i64 t.b)]
def isT (t : TermS) (cs : List V) : Prop := cs = encT t
abbrev LT : V → List TermS → Prop := Lc 4 isT
theorem LI.ix {v : V} {ys : List Int} (h : LI v ys) {i : Int} (h0 : 0 ≤ i) (h1 : i < (ys.length : Int)) : at1 v i.toNat = .sc (.int .i64 (ix ys i)) := by
  obtain ⟨h2, e⟩ := ix_eq h0 h1
  rw [LI.at h h2, e]
theorem t_l1Kind {t : TermS} {v : V} {ks : List Int} {vars : Int} (hv : LI v ks) (hl : ks.length ≤ 40) (h0 : 0 ≤ vars) (h1 : vars ≤ 5) :
    VCall Try.prog n_spec_l1Kind [.agg (encT t), v, .sc (.int .i64 vars)] M (fun r M' => M = M' ∧ r = .sc (.int .i64 (kind1 vars t ks))) := by
  refine VCall.pure fun R hR => v_spec_l1Kind rfl ?_
  obtain ⟨op, n, a, b⟩ := t
  simp only [encT]
  (repeat' (first | ((with_reducible first | refine cond_dec (fun h => ?_) (fun h => ?_) | refine guardK_dec (fun h => ?_) (fun h => ?_) | refine guardD3_dec (fun h => ?_) (fun h => ?_)) <;> first | (exfalso; omega) | (simp (maxSteps := 2000000) (disch := first | omega | assumption | exact idP rfl | exact idP (bL rfl)) only [go_sem, reduceIte, Nat.reduceEqDiff, wpV_kd, wpV_tH, h, hv.len, hv.iaddr, hv.ix]) | skip) | ((with_reducible first | refine cond_split (fun h => ?_) (fun h => ?_) | refine guardK_split (fun h => ?_) (fun h => ?_) | refine guardD3_split (fun h => ?_) (fun h => ?_)) <;> ((try simp only [Bool.not_eq_true', Bool.not_eq_false'] at h); first | (simp (maxSteps := 2000000) (disch := first | omega | assumption | exact idP rfl | exact idP (bL rfl)) only [go_sem, reduceIte, Nat.reduceEqDiff, wpV_kd, wpV_tH, h, hv.len, hv.iaddr, hv.ix]) | skip)) | ((with_reducible refine (t_l1In).mono ?_); rintro _ _ ⟨rfl, rfl⟩) | ((with_reducible refine (t_l1One).mono ?_); rintro _ _ ⟨rfl, rfl⟩) | (with_reducible intro bk hbk; try have hnk := (fresh_set hbk).1) | (simp (maxSteps := 2000000) (disch := first | omega | assumption | exact idP rfl | exact idP (bL rfl)) only [go_sem, reduceIte, Nat.reduceEqDiff, wpV_kd, wpV_tH, hv.len, hv.iaddr, hv.ix])))
  all_goals refine hR _ _ (sB) (eqI ?_)
  all_goals simp only [kind1, wantK]
  all_goals repeat' split
  all_goals first | omega | trace_state
theorem nth_ix {ks : List Int} {a : Int} (h0 : 0 ≤ a) (h1 : a < (ks.length : Int)) : (ks.map vi)[a.toNat]? = some (.sc (.int .i64 (ix ks a))) := by
  obtain ⟨h, e⟩ := ix_eq h0 h1
  rw [nth_vi h, e]
end Go.M2

namespace Go.M2
open Go.Proofs
variable {M : MH}
theorem encT_eq (t : TermS) : encT t = [.sc (.int .i64 t.op), .sc (.int .i64 t.n), .sc (.int .i64 t.a), .sc (.int .i64 t.b)] := rfl
theorem encT_take (t : TermS) : (encT t).take 4 = encT t := rfl
theorem LT.at {v : V} {ts : List TermS} (h : LT v ts) {i : Nat} (hi : i < ts.length) : atN 4 v i = encT ts[i] := h.elt hi
def kRes (r : V) : Option (List Int) → Prop
  | none => r = .sc (.sl none 0 0 true 0)
  | some ks => LI r ks
theorem t_KindsOf {v : V} {ts : List TermS} {vars : Int} (hv : LT v ts) : VCall Try.prog n_spec_KindsOf [v, .sc (.int .i64 vars)] M (fun r M' => M = M' ∧ kRes r (kindsF vars ts)) := by
  refine VCall.froz fun R hP hG => v_spec_KindsOf rfl ?_
  (repeat' (first | ((with_reducible first | refine cond_dec (fun h => ?_) (fun h => ?_) | refine guardK_dec (fun h => ?_) (fun h => ?_) | refine guardD3_dec (fun h => ?_) (fun h => ?_)) <;> first | (exfalso; omega) | (simp (maxSteps := 2000000) (disch := first | omega | assumption | exact idP rfl | exact idP (bL rfl)) only [go_sem, reduceIte, Nat.reduceEqDiff, wpV_kd, wpV_tH, h, hv.len]) | skip) | ((with_reducible first | refine cond_split (fun h => ?_) (fun h => ?_) | refine guardK_split (fun h => ?_) (fun h => ?_) | refine guardD3_split (fun h => ?_) (fun h => ?_)) <;> ((try simp only [Bool.not_eq_true', Bool.not_eq_false'] at h); first | (simp (maxSteps := 2000000) (disch := first | omega | assumption | exact idP rfl | exact idP (bL rfl)) only [go_sem, reduceIte, Nat.reduceEqDiff, wpV_kd, wpV_tH, h, hv.len]) | skip)) | ((with_reducible refine (t_l1In).mono ?_); rintro _ _ ⟨rfl, rfl⟩) | (with_reducible intro bk hbk; try have hnk := (fresh_set hbk).1) | (simp (maxSteps := 2000000) (disch := first | omega | assumption | exact idP rfl | exact idP (bL rfl)) only [go_sem, reduceIte, Nat.reduceEqDiff, wpV_kd, wpV_tH, hv.len])))
  all_goals try (refine hP _ _ (sB) ?_; unfold kindsF; rw [if_neg (by omega)]; rfl)
  have hkf : kindsF vars ts = kindsGo vars ts [] := by unfold kindsF; rw [if_pos (by omega)]
  refine loop_k (fun e M' => ∃ (i : Nat) (ks : List Int), i ≤ ts.length ∧ e 0 = v ∧ e 1 = .sc (.int .i64 vars) ∧ e 6 = .sc (.int .i64 i) ∧ kindsGo vars (ts.take i) [] = some ks ∧ Gr 1 M M' (e 5) (ks.map vi)) (fun e _ => ctrV ts.length (e 6)) ?_ ?_
  · exact ⟨0, [], by omega, sT0, sT0, by refine sS0 ?_; rfl, rfl, by refine sS0 ?_; exact Gr.new' (Sub.refl _) (by assumption) rfl⟩
  · rintro e M1 ⟨i, ks, hi, e0, e1, e6, hk, hg⟩ K hK
    have hkl := (kindsGo_len hk).1
    simp at hkl
    refine sS4 @e0 @e1 @e6 @hv.len ?_
    refine cond_dec (fun h => ?_) (fun h => ?_)
    · have hi' : i < ts.length := by omega
      simp (maxSteps := 2000000) (disch := first | omega | assumption | exact idP rfl | exact idP (bL rfl)) only [go_sem, reduceIte, Nat.reduceEqDiff, wpV_kd, wpV_tH, e0, e1, e6, hv.iaddr, LT.at hv hi', encT_take]
      refine (VCall.lend1 hg.own flat_eq fun u M' hu => t_l1Kind hu.li (by omega) (by omega) (by omega)).mono ?_
      rintro _ _ ⟨rfl, rfl⟩
      have hs := kindsGo_take hi' hk
      refine sS0 ?_
      refine cond_dec (fun h0 => ?_) (fun h0 => ?_)
      · refine sS0 ?_
        refine hP _ _ hg.sub ?_
        rw [hkf, kindsGo_none (i := i + 1) (by rw [hs, if_pos h0])]; rfl
      · refine sS0 ?_
        intro bt hbt
        refine app_int hg hbt (by omega) (by omega) ?_
        intro s' M' hg' _
        refine sS0 ?_
        exact hK _ _ ⟨i + 1, _, by omega, sT0, sT0, by refine sS0 ?_; rfl, by rw [hs, if_neg h0], by refine sS0 ?_; exact hg'⟩ (by refine sS2 @ctrV_int @e6 ?_; omega)
    · obtain rfl : i = ts.length := by omega
      rw [List.take_length] at hk
      refine sS0 ?_
      exact hG _ _ _ _ hg fun u hu => by rw [hkf, hk]; exact hu.li
end Go.M2

namespace Go.M2
open Go.Proofs
variable {M : MH}
def encVar (v : VarS) : List V := [.sc (.int .i64 v.low), .sc (.int .i64 v.high), .sc (.int .i64 v.first)]
def isVar (v : VarS) (cs : List V) : Prop := cs = encVar v
abbrev LVar : V → List VarS → Prop := Lc 3 isVar
abbrev LTT : V → List (List TermS) → Prop := Ls (fun ts u => LT u ts)
def isRule (r : RuleS) (cs : List V) : Prop := ∃ a b c, cs = [a, b, c] ∧ LT a r.when_ ∧ LI b r.sets ∧ LTT c r.terms
abbrev LR : V → List RuleS → Prop := Lc 3 isRule
theorem LVar.at {v : V} {vs : List VarS} (h : LVar v vs) {i : Nat} (hi : i < vs.length) : atN 3 v i = [.sc (.int .i64 vs[i].low), .sc (.int .i64 vs[i].high), .sc (.int .i64 vs[i].first)] := h.elt hi
def isSys (s : SysS) (v : V) : Prop := ∃ a b, v = .agg [a, b] ∧ LVar a s.vars ∧ LR b s.rules
theorem t_l2Var {v : VarS} : VCall Try.prog n_spec_l2Var [.agg (encVar v)] M (fun r M' => M = M' ∧ r = .sc (.bool (decide (VarOk v)))) := by
  refine VCall.pure fun R hR => v_spec_l2Var rfl ?_
  obtain ⟨lo, hi, f⟩ := v
  simp only [encVar]
  (repeat' (first | ((with_reducible first | refine cond_dec (fun h => ?_) (fun h => ?_) | refine guardK_dec (fun h => ?_) (fun h => ?_) | refine guardD3_dec (fun h => ?_) (fun h => ?_)) <;> first | (exfalso; omega) | (simp (maxSteps := 2000000) (disch := first | omega | assumption | exact idP rfl | exact idP (bL rfl)) only [go_sem, reduceIte, Nat.reduceEqDiff, wpV_kd, wpV_tH, h]) | skip) | ((with_reducible first | refine cond_split (fun h => ?_) (fun h => ?_) | refine guardK_split (fun h => ?_) (fun h => ?_) | refine guardD3_split (fun h => ?_) (fun h => ?_)) <;> ((try simp only [Bool.not_eq_true', Bool.not_eq_false'] at h); first | (simp (maxSteps := 2000000) (disch := first | omega | assumption | exact idP rfl | exact idP (bL rfl)) only [go_sem, reduceIte, Nat.reduceEqDiff, wpV_kd, wpV_tH, h]) | skip)) | ((with_reducible refine (t_l1In).mono ?_); rintro _ _ ⟨rfl, rfl⟩) | (with_reducible intro bk hbk; try have hnk := (fresh_set hbk).1) | (simp (maxSteps := 2000000) (disch := first | omega | assumption | exact idP rfl | exact idP (bL rfl)) only [go_sem, reduceIte, Nat.reduceEqDiff, wpV_kd, wpV_tH])))
  all_goals exact hR _ _ (sB) (by (refine eqB ?_; (try simp only [decide_eq_true_eq, Bool.false_eq_true, Bool.and_eq_true, Bool.or_eq_true, Bool.not_eq_true', decide_eq_false_iff_not, eq_self_iff_true, true_iff, false_iff, iff_true, iff_false, ne_eq]); (try simp only [VarOk]); (try omega)))
theorem t_l2Is {v : V} {ts : List TermS} {vars kind : Int} (hv : LT v ts) : VCall Try.prog n_spec_l2Is [v, .sc (.int .i64 vars), .sc (.int .i64 kind)] M (fun r M' => M = M' ∧ r = .sc (.bool (kindIs vars kind ts))) := by
  refine VCall.pure fun R hR => v_spec_l2Is rfl ?_
  refine sS0 ?_
  refine (t_KindsOf hv).mono ?_
  rintro r _ ⟨rfl, hr⟩
  cases hk : kindsF vars ts with
  | none =>
    rw [hk] at hr
    simp only [kRes] at hr
    subst hr
    (repeat' (first | ((with_reducible first | refine cond_dec (fun h => ?_) (fun h => ?_) | refine guardK_dec (fun h => ?_) (fun h => ?_) | refine guardD3_dec (fun h => ?_) (fun h => ?_)) <;> first | (exfalso; omega) | (simp (maxSteps := 2000000) (disch := first | omega | assumption | exact idP rfl | exact idP (bL rfl)) only [go_sem, reduceIte, Nat.reduceEqDiff, wpV_kd, wpV_tH, h]) | skip) | ((with_reducible first | refine cond_split (fun h => ?_) (fun h => ?_) | refine guardK_split (fun h => ?_) (fun h => ?_) | refine guardD3_split (fun h => ?_) (fun h => ?_)) <;> ((try simp only [Bool.not_eq_true', Bool.not_eq_false'] at h); first | (simp (maxSteps := 2000000) (disch := first | omega | assumption | exact idP rfl | exact idP (bL rfl)) only [go_sem, reduceIte, Nat.reduceEqDiff, wpV_kd, wpV_tH, h]) | skip)) | (with_reducible intro bk hbk; try have hnk := (fresh_set hbk).1) | (simp (maxSteps := 2000000) (disch := first | omega | assumption | exact idP rfl | exact idP (bL rfl)) only [go_sem, reduceIte, Nat.reduceEqDiff, wpV_kd, wpV_tH])))
    all_goals exact hR _ _ (sB) (by simp [kindIs, hk])
  | some ks =>
    rw [hk] at hr
    have hr : LI r ks := hr
    obtain ⟨_, _, q1, q2, _, q3⟩ := kindsF_some hk
    have e1 : ((ks.length : Int) - 1).toNat = ks.length - 1 := by omega
    (repeat' (first | ((with_reducible first | refine cond_dec (fun h => ?_) (fun h => ?_) | refine guardK_dec (fun h => ?_) (fun h => ?_) | refine guardD3_dec (fun h => ?_) (fun h => ?_)) <;> first | (exfalso; omega) | (simp (maxSteps := 2000000) (disch := first | omega | assumption | exact idP rfl | exact idP (bL rfl)) only [go_sem, reduceIte, Nat.reduceEqDiff, wpV_kd, wpV_tH, h, hr.len, hr.iaddr, e1, hr.at]) | skip) | ((with_reducible first | refine cond_split (fun h => ?_) (fun h => ?_) | refine guardK_split (fun h => ?_) (fun h => ?_) | refine guardD3_split (fun h => ?_) (fun h => ?_)) <;> ((try simp only [Bool.not_eq_true', Bool.not_eq_false'] at h); first | (simp (maxSteps := 2000000) (disch := first | omega | assumption | exact idP rfl | exact idP (bL rfl)) only [go_sem, reduceIte, Nat.reduceEqDiff, wpV_kd, wpV_tH, h, hr.len, hr.iaddr, e1, hr.at]) | skip)) | (with_reducible intro bk hbk; try have hnk := (fresh_set hbk).1) | (simp (maxSteps := 2000000) (disch := first | omega | assumption | exact idP rfl | exact idP (bL rfl)) only [go_sem, reduceIte, Nat.reduceEqDiff, wpV_kd, wpV_tH, hr.len, hr.iaddr, e1, hr.at])))
    all_goals refine hR _ _ (sB) (by simp only [kindIs, hk, getLastD_eq (show 0 < ks.length by omega)]; refine eqB ?_; simp [*])
end Go.M2

namespace Go.M2
open Go.Proofs
variable {M : MH}
def pN (op : Int) : Int := if 2 ≤ op ∧ op ≤ 6 then 2 else if op = 7 then 1 else if op = 8 ∨ op = 9 then 2 else 0
def pOf (op : Int) : Int := if 2 ≤ op ∧ op ≤ 6 then 1 else if 7 ≤ op ∧ op ≤ 9 then 2 else 0
def pKind (op : Int) : Int := if 5 ≤ op ∧ op ≤ 9 then 2 else 1
theorem tup3 {a b c a' b' c' : Int} (h1 : a = a') (h2 : b = b') (h3 : c = c') : V.tup [.sc (.int .i64 a), .sc (.int .i64 b), .sc (.int .i64 c)] = V.tup [.sc (.int .i64 a'), .sc (.int .i64 b'), .sc (.int .i64 c')] := by rw [h1, h2, h3]
theorem t_parts {op : Int} : VCall Try.prog n_impl_parts [.sc (.int .i64 op)] M (fun r M' => M = M' ∧ r = .tup [.sc (.int .i64 (pN op)), .sc (.int .i64 (pOf op)), .sc (.int .i64 (pKind op))]) := by
  refine VCall.pure fun R hR => v_impl_parts rfl ?_
  (repeat' (first | ((with_reducible first | refine cond_dec (fun h => ?_) (fun h => ?_) | refine guardK_dec (fun h => ?_) (fun h => ?_) | refine guardD3_dec (fun h => ?_) (fun h => ?_)) <;> first | (exfalso; omega) | (simp (maxSteps := 2000000) (disch := first | omega | assumption | exact idP rfl | exact idP (bL rfl)) only [go_sem, reduceIte, Nat.reduceEqDiff, wpV_kd, wpV_tH, h]) | skip) | ((with_reducible first | refine cond_split (fun h => ?_) (fun h => ?_) | refine guardK_split (fun h => ?_) (fun h => ?_) | refine guardD3_split (fun h => ?_) (fun h => ?_)) <;> ((try simp only [Bool.not_eq_true', Bool.not_eq_false'] at h); first | (simp (maxSteps := 2000000) (disch := first | omega | assumption | exact idP rfl | exact idP (bL rfl)) only [go_sem, reduceIte, Nat.reduceEqDiff, wpV_kd, wpV_tH, h]) | skip)) | (with_reducible intro bk hbk; try have hnk := (fresh_set hbk).1) | (simp (maxSteps := 2000000) (disch := first | omega | assumption | exact idP rfl | exact idP (bL rfl)) only [go_sem, reduceIte, Nat.reduceEqDiff, wpV_kd, wpV_tH])))
  all_goals refine hR _ _ (sB) (tup3 ?_ ?_ ?_)
  all_goals first | (unfold pN; repeat' split) | (unfold pOf; repeat' split) | (unfold pKind; repeat' split)
  all_goals omega
theorem kind1_eq (vars : Int) (t : TermS) (ks : List Int) : kind1 vars t ks = (if t.op = 0 then (if -9999 ≤ t.n ∧ t.n ≤ 9999 ∧ t.a = 0 ∧ t.b = 0 then pKind t.op else 0)
  else if t.op = 1 then (if 0 ≤ t.n ∧ t.n < vars ∧ t.a = 0 ∧ t.b = 0 then pKind t.op else 0)
  else if 2 ≤ t.op ∧ t.op ≤ 9 ∧ t.n = 0 ∧ (0 ≤ t.a ∧ t.a < (ks.length : Int)) ∧ (0 ≤ t.b ∧ t.b < (ks.length : Int)) ∧ ix ks t.a = pOf t.op ∧ ix ks t.b = pOf t.op ∧ (pN t.op = 2 ∨ t.a = t.b) then pKind t.op else 0) := by
  unfold kind1 wantK pOf pN pKind
  repeat' split
  all_goals first | omega | skip
def kRes' (r : V) : Option (List Int) → Prop
  | none => r = .sc (.sl none 0 0 true 0)
  | some ks => LI r ks ∧ isNilF .sl (er r) = some false
theorem rep_snoc {ks : List Int} {x : Int} {n : Nat} (h : 0 < n) : (ks.map vi ++ List.replicate n (vi 0)).set ks.length (.sc (.int .i64 x)) = (ks ++ [x]).map vi ++ List.replicate (n - 1) (vi 0) := by
  obtain ⟨m, rfl⟩ : ∃ m, n = m + 1 := ⟨n - 1, by omega⟩
  rw [List.set_append_right _ _ (by simp)]
  simp [List.replicate_succ, vi]
theorem rep_snoc' {ks : List Int} {x : Int} {i L : Nat} (hk : ks.length = i) (h : i < L) : (ks.map vi ++ List.replicate (L - i) (vi 0)).set i (.sc (.int .i64 x)) = (ks ++ [x]).map vi ++ List.replicate (L - (i + 1)) (vi 0) := by
  subst hk
  rw [rep_snoc (by omega)]
  congr 2
theorem nth_ix_app {ks : List Int} {l : List V} {a : Int} (h0 : 0 ≤ a) (h1 : a < (ks.length : Int)) : (ks.map vi ++ l)[a.toNat]? = some (.sc (.int .i64 (ix ks a))) := by
  rw [List.getElem?_append_left (by simp; omega), nth_ix h0 h1]
theorem t_kindsOf {v : V} {ts : List TermS} {vars : Int} (hv : LT v ts) : VCall Try.prog n_impl_kindsOf [v, .sc (.int .i64 vars)] M (fun r M' => M = M' ∧ kRes' r (kindsF vars ts)) := by
  refine VCall.froz fun R hP hG => v_impl_kindsOf rfl ?_
  (repeat' (first | ((with_reducible first | refine cond_dec (fun h => ?_) (fun h => ?_) | refine guardK_dec (fun h => ?_) (fun h => ?_) | refine guardD3_dec (fun h => ?_) (fun h => ?_)) <;> first | (exfalso; omega) | (simp (maxSteps := 2000000) (disch := first | omega | assumption | exact idP rfl | exact idP (bL rfl)) only [go_sem, reduceIte, Nat.reduceEqDiff, wpV_kd, wpV_tH, h, hv.len]) | skip) | ((with_reducible first | refine cond_split (fun h => ?_) (fun h => ?_) | refine guardK_split (fun h => ?_) (fun h => ?_) | refine guardD3_split (fun h => ?_) (fun h => ?_)) <;> ((try simp only [Bool.not_eq_true', Bool.not_eq_false'] at h); first | (simp (maxSteps := 2000000) (disch := first | omega | assumption | exact idP rfl | exact idP (bL rfl)) only [go_sem, reduceIte, Nat.reduceEqDiff, wpV_kd, wpV_tH, h, hv.len]) | skip)) | ((with_reducible refine (t_in).mono ?_); rintro _ _ ⟨rfl, rfl⟩) | (with_reducible intro bk hbk; try have hnk := (fresh_set hbk).1) | (simp (maxSteps := 2000000) (disch := first | omega | assumption | exact idP rfl | exact idP (bL rfl)) only [go_sem, reduceIte, Nat.reduceEqDiff, wpV_kd, wpV_tH, hv.len])))
  all_goals try (refine hP _ _ (sB) ?_; unfold kindsF; rw [if_neg (by omega)]; rfl)
  have hkf : kindsF vars ts = kindsGo vars ts [] := by unfold kindsF; rw [if_pos (by omega)]
  refine ⟨by omega, by omega, by simp [mostCells]; omega, by simp [mostCells]; omega, ?_⟩
  intro b5 hb5
  have e0' : (0 : Int).toNat = 0 := rfl
  refine sS2 @hv.len @e0' ?_
  refine loop_k (fun e M' => ∃ (i : Nat) (ks : List Int), i ≤ ts.length ∧ e 1 = .sc (.int .i64 vars) ∧ e 5 = .sc (.sl (some (b5, 0)) i ts.length true 1) ∧ e 24 = v ∧ e 25 = .sc (.int .i64 ts.length) ∧ e 26 = .sc (.int .i64 i) ∧ kindsGo vars (ts.take i) [] = some ks ∧ Sub M M' ∧ M' b5 = some (ks.map vi ++ List.replicate (ts.length - i) (vi 0))) (fun e _ => ctrV ts.length (e 26)) ?_ ?_
  · exact ⟨0, [], by omega, sT0, sT0, sT0, sT0, by refine sS0 ?_; rfl, rfl, (Sub.refl _).set hb5, by
      refine sS0 ?_
      rw [zeros_vi]; simp⟩
  · rintro e M1 ⟨i, ks, hi, e1, e5, e24, e25, e26, hk, hsub, hm⟩ K hK
    have hkl := (kindsGo_len hk).1
    simp at hkl
    refine sS2 @e25 @e26 ?_
    refine cond_dec (fun h => ?_) (fun h => ?_)
    · have hi' : i < ts.length := by omega
      have hkl' : ks.length = i := by omega
      have hs := kindsGo_take hi' hk
      have hke := kind1_eq vars ts[i] ks
      rw [hkl'] at hke
      simp (maxSteps := 2000000) (disch := first | omega | assumption | exact idP rfl | exact idP (bL rfl)) only [go_sem, reduceIte, Nat.reduceEqDiff, wpV_kd, wpV_tH, e1, e5, e24, e25, e26, hv.iaddr, LT.at hv hi', encT_eq]
      intro b7 hb7
      have hne : b5 ≠ b7 := fun hh => by subst hh; rw [hm] at hb7; cases hb7
      refine t_parts.mono ?_
      rintro _ _ ⟨rfl, rfl⟩
      have hpk : pKind ts[i].op ≠ 0 := by unfold pKind; split <;> omega
      have bad : kind1 vars ts[i] ks = 0 → ∀ cl, R (.sc (.sl none 0 0 true 0)) (M1.set b7 cl) := fun h0 cl => by
        refine hP _ _ (sB) ?_
        rw [hkf, kindsGo_none (i := i + 1) (by rw [hs, if_pos h0])]; rfl
      have good : kind1 vars ts[i] ks = pKind ts[i].op → ∀ (cl : List V) (K' : V → MH → Prop), (∀ M', kindsGo vars (ts.take (i + 1)) [] = some (ks ++ [pKind ts[i].op]) → Sub M M' → M' b5 = some ((ks ++ [pKind ts[i].op]).map vi ++ List.replicate (ts.length - (i + 1)) (vi 0)) → K' (.sc (.sl (some (b5, 0)) (i + 1) ts.length true 1)) M') →
          ∀ bt, (M1.set b7 cl) bt = none → appV 1 8 (.sc (.sl (some (b5, 0)) i ts.length true 1)) (.sc (.sl (some (bt, 0)) 1 1 true 1)) ((M1.set b7 cl).set bt [.sc (.int .i64 (pKind ts[i].op))]) K' := by
        intro h0 cl K' hk' bt hbt
        refine app_room (by rw [set_ne hne]; exact hm) hbt (by simp [oneV, er, oneA]) (by omega) (by simp; omega) ?_
        refine hk' _ (by rw [hs, if_neg (by rw [h0]; exact hpk), h0]) ?_ ?_
        · refine Sub.set ?_ (by cases hq : M b5 with | none => rfl | some l => rw [hq] at hb5; cases hb5)
          (repeat (first | exact Sub.refl _ | assumption | (refine Sub.set' ?_ (by assumption))))
        · rw [set_same, Nat.zero_add, rep_snoc' hkl' hi']
      have fin : ∀ M', kindsGo vars (ts.take (i + 1)) [] = some (ks ++ [pKind ts[i].op]) → Sub M M' → M' b5 = some ((ks ++ [pKind ts[i].op]).map vi ++ List.replicate (ts.length - (i + 1)) (vi 0)) → ∀ e' : EnvV, e' 1 = .sc (.int .i64 vars) → e' 5 = .sc (.sl (some (b5, 0)) ((i + 1 : Nat)) ts.length true 1) → e' 24 = v → e' 25 = .sc (.int .i64 ts.length) → e' 26 = .sc (.int .i64 ((i : Int) + 1)) → K e' M' :=
        fun M' q1 q2 q3 e' g1 g5 g24 g25 g26 => hK _ _ ⟨i + 1, _, by omega, g1, g5, g24, g25, g26, q1, q2, q3⟩ (by rw [g26, e26]; refine sS0 ?_; omega)
      by_cases c0 : ts[i].op = 0
      · rw [if_pos c0] at hke
        have c0' : decide (ts[i].op = 0) = true := by simpa using c0
        (repeat' (first | ((with_reducible first | refine cond_dec (fun h => ?_) (fun h => ?_) | refine guardK_dec (fun h => ?_) (fun h => ?_) | refine guardD3_dec (fun h => ?_) (fun h => ?_)) <;> first | (exfalso; omega) | (simp (maxSteps := 2000000) (disch := first | omega | assumption | exact idP rfl | exact idP (bL rfl)) only [go_sem, reduceIte, Nat.reduceEqDiff, wpV_kd, wpV_tH, h, c0', e1, e5]) | skip) | ((with_reducible first | refine cond_split (fun h => ?_) (fun h => ?_) | refine guardK_split (fun h => ?_) (fun h => ?_) | refine guardD3_split (fun h => ?_) (fun h => ?_)) <;> ((try simp only [Bool.not_eq_true', Bool.not_eq_false'] at h); first | (simp (maxSteps := 2000000) (disch := first | omega | assumption | exact idP rfl | exact idP (bL rfl)) only [go_sem, reduceIte, Nat.reduceEqDiff, wpV_kd, wpV_tH, h, c0', e1, e5]) | skip)) | ((with_reducible refine (t_in).mono ?_); rintro _ _ ⟨rfl, rfl⟩) | (with_reducible intro bk hbk; try have hnk := (fresh_set hbk).1) | (simp (maxSteps := 2000000) (disch := first | omega | assumption | exact idP rfl | exact idP (bL rfl)) only [go_sem, reduceIte, Nat.reduceEqDiff, wpV_kd, wpV_tH, c0', e1, e5])))
        all_goals first
          | (refine bad ?_ _; rw [hke, if_neg (by omega)])
          | (refine good (by rw [hke, if_pos (by omega)]) _ _ ?_ _ (by assumption); intro M' q1 q2 q3; refine sS0 ?_; exact fin M' q1 q2 q3 _ (sT0) (sT0) (sT0) (sT0) (sT0))
      · rw [if_neg c0] at hke
        have c0' : decide (ts[i].op = 0) = false := by simpa using c0
        by_cases c1 : ts[i].op = 1
        · rw [if_pos c1] at hke
          have c1' : decide (ts[i].op = 1) = true := by simpa using c1
          (repeat' (first | ((with_reducible first | refine cond_dec (fun h => ?_) (fun h => ?_) | refine guardK_dec (fun h => ?_) (fun h => ?_) | refine guardD3_dec (fun h => ?_) (fun h => ?_)) <;> first | (exfalso; omega) | (simp (maxSteps := 2000000) (disch := first | omega | assumption | exact idP rfl | exact idP (bL rfl)) only [go_sem, reduceIte, Nat.reduceEqDiff, wpV_kd, wpV_tH, h, c0', c1', e1, e5]) | skip) | ((with_reducible first | refine cond_split (fun h => ?_) (fun h => ?_) | refine guardK_split (fun h => ?_) (fun h => ?_) | refine guardD3_split (fun h => ?_) (fun h => ?_)) <;> ((try simp only [Bool.not_eq_true', Bool.not_eq_false'] at h); first | (simp (maxSteps := 2000000) (disch := first | omega | assumption | exact idP rfl | exact idP (bL rfl)) only [go_sem, reduceIte, Nat.reduceEqDiff, wpV_kd, wpV_tH, h, c0', c1', e1, e5]) | skip)) | ((with_reducible refine (t_in).mono ?_); rintro _ _ ⟨rfl, rfl⟩) | (with_reducible intro bk hbk; try have hnk := (fresh_set hbk).1) | (simp (maxSteps := 2000000) (disch := first | omega | assumption | exact idP rfl | exact idP (bL rfl)) only [go_sem, reduceIte, Nat.reduceEqDiff, wpV_kd, wpV_tH, c0', c1', e1, e5])))
          all_goals first
            | (refine bad ?_ _; rw [hke, if_neg (by omega)])
            | (refine good (by rw [hke, if_pos (by omega)]) _ _ ?_ _ (by assumption); intro M' q1 q2 q3; refine sS0 ?_; exact fin M' q1 q2 q3 _ (sT0) (sT0) (sT0) (sT0) (sT0))
        · rw [if_neg c1] at hke
          have c1' : decide (ts[i].op = 1) = false := by simpa using c1
          have rd : ∀ {a : Int}, 0 ≤ a → a < (i : Int) → (ks.map vi ++ List.replicate (ts.length - i) (vi 0))[a.toNat]? = some (.sc (.int .i64 (ix ks a))) := fun q1 q2 => nth_ix_app q1 (by omega)
          (repeat' (first | ((with_reducible first | refine cond_dec (fun h => ?_) (fun h => ?_) | refine guardK_dec (fun h => ?_) (fun h => ?_) | refine guardD3_dec (fun h => ?_) (fun h => ?_)) <;> first | (exfalso; omega) | (simp (maxSteps := 2000000) (disch := first | omega | assumption | exact idP rfl | exact idP (bL rfl)) only [go_sem, reduceIte, Nat.reduceEqDiff, wpV_kd, wpV_tH, h, c0', c1', e1, e5, hm, rd]) | skip) | ((with_reducible first | refine cond_split (fun h => ?_) (fun h => ?_) | refine guardK_split (fun h => ?_) (fun h => ?_) | refine guardD3_split (fun h => ?_) (fun h => ?_)) <;> ((try simp only [Bool.not_eq_true', Bool.not_eq_false'] at h); first | (simp (maxSteps := 2000000) (disch := first | omega | assumption | exact idP rfl | exact idP (bL rfl)) only [go_sem, reduceIte, Nat.reduceEqDiff, wpV_kd, wpV_tH, h, c0', c1', e1, e5, hm, rd]) | skip)) | ((with_reducible refine (t_in).mono ?_); rintro _ _ ⟨rfl, rfl⟩) | (with_reducible intro bk hbk; try have hnk := (fresh_set hbk).1) | (simp (maxSteps := 2000000) (disch := first | omega | assumption | exact idP rfl | exact idP (bL rfl)) only [go_sem, reduceIte, Nat.reduceEqDiff, wpV_kd, wpV_tH, c0', c1', e1, e5, hm, rd])))
          all_goals first
            | (refine bad ?_ _; rw [hke, if_neg (by omega)])
            | (refine good (by rw [hke, if_pos (by omega)]) _ _ ?_ _ (by assumption); intro M' q1 q2 q3; refine sS0 ?_; exact fin M' q1 q2 q3 _ (sT0) (sT0) (sT0) (sT0) (sT0))
    · obtain rfl : i = ts.length := by omega
      rw [List.take_length] at hk
      have hkl2 : ks.length = ts.length := by omega
      refine sS1 @e5 ?_
      refine hG _ _ 1 (ks.map vi) (.mk' hsub (by cases hq : M b5 with | none => rfl | some l => rw [hq] at hb5; cases hb5) (by simp; omega) (by rw [hm]; simp)) fun u hu => ?_
      rw [hkf, hk]
      exact ⟨hu.li, hu.some (by simp; omega)⟩
theorem t_kindOf {v : V} {ts : List TermS} {vars : Int} (hv : LT v ts) : VCall Try.prog n_impl_kindOf [v, .sc (.int .i64 vars)] M (fun r M' => M = M' ∧ ∃ k : Int, r = .sc (.int .i64 k) ∧ ∀ want, 0 < want → ((k = want) ↔ kindIs vars want ts = true)) := by
  refine VCall.pure fun R hR => v_impl_kindOf rfl ?_
  refine sS0 ?_
  refine (t_kindsOf hv).mono ?_
  rintro r _ ⟨rfl, hr⟩
  cases hk : kindsF vars ts with
  | none =>
    rw [hk] at hr
    simp only [kRes'] at hr
    subst hr
    (repeat' (first | ((with_reducible first | refine cond_dec (fun h => ?_) (fun h => ?_) | refine guardK_dec (fun h => ?_) (fun h => ?_) | refine guardD3_dec (fun h => ?_) (fun h => ?_)) <;> first | (exfalso; omega) | (simp (maxSteps := 2000000) (disch := first | omega | assumption | exact idP rfl | exact idP (bL rfl)) only [go_sem, reduceIte, Nat.reduceEqDiff, wpV_kd, wpV_tH, h]) | skip) | ((with_reducible first | refine cond_split (fun h => ?_) (fun h => ?_) | refine guardK_split (fun h => ?_) (fun h => ?_) | refine guardD3_split (fun h => ?_) (fun h => ?_)) <;> ((try simp only [Bool.not_eq_true', Bool.not_eq_false'] at h); first | (simp (maxSteps := 2000000) (disch := first | omega | assumption | exact idP rfl | exact idP (bL rfl)) only [go_sem, reduceIte, Nat.reduceEqDiff, wpV_kd, wpV_tH, h]) | skip)) | (with_reducible intro bk hbk; try have hnk := (fresh_set hbk).1) | (simp (maxSteps := 2000000) (disch := first | omega | assumption | exact idP rfl | exact idP (bL rfl)) only [go_sem, reduceIte, Nat.reduceEqDiff, wpV_kd, wpV_tH])))
    all_goals exact hR _ _ (sB) ⟨0, rfl, fun want hw => by simp [kindIs, hk]; omega⟩
  | some ks =>
    rw [hk] at hr
    obtain ⟨hr, hn⟩ := hr
    obtain ⟨_, _, q1, q2, _, q3⟩ := kindsF_some hk
    have e1 : ((ks.length : Int) - 1).toNat = ks.length - 1 := by omega
    (repeat' (first | ((with_reducible first | refine cond_dec (fun h => ?_) (fun h => ?_) | refine guardK_dec (fun h => ?_) (fun h => ?_) | refine guardD3_dec (fun h => ?_) (fun h => ?_)) <;> first | (exfalso; omega) | (simp (maxSteps := 2000000) (disch := first | omega | assumption | exact idP rfl | exact idP (bL rfl)) only [go_sem, reduceIte, Nat.reduceEqDiff, wpV_kd, wpV_tH, h, hn, hr.len, hr.iaddr, e1, hr.at]) | skip) | ((with_reducible first | refine cond_split (fun h => ?_) (fun h => ?_) | refine guardK_split (fun h => ?_) (fun h => ?_) | refine guardD3_split (fun h => ?_) (fun h => ?_)) <;> ((try simp only [Bool.not_eq_true', Bool.not_eq_false'] at h); first | (simp (maxSteps := 2000000) (disch := first | omega | assumption | exact idP rfl | exact idP (bL rfl)) only [go_sem, reduceIte, Nat.reduceEqDiff, wpV_kd, wpV_tH, h, hn, hr.len, hr.iaddr, e1, hr.at]) | skip)) | (with_reducible intro bk hbk; try have hnk := (fresh_set hbk).1) | (simp (maxSteps := 2000000) (disch := first | omega | assumption | exact idP rfl | exact idP (bL rfl)) only [go_sem, reduceIte, Nat.reduceEqDiff, wpV_kd, wpV_tH, hn, hr.len, hr.iaddr, e1, hr.at])))
    all_goals exact hR _ _ (sB) ⟨_, rfl, fun want hw => by simp only [kindIs, hk, getLastD_eq (show 0 < ks.length by omega), beq_iff_eq]⟩
end Go.M2

namespace Go.M2
open Go.Proofs
variable {M : MH}
theorem sets_le {vars : Int} {r : RuleS} (h : SetsOk vars r) (h0 : 0 ≤ vars) : (r.sets.length : Int) ≤ vars := by
  have : ∀ i (hi : i < r.sets.length), (i : Int) ≤ r.sets[i] := by
    intro i
    induction i with
    | zero => intro hi; have := (h 0 hi).1.1; omega
    | succ i ih =>
      intro hi
      have h1 := ih (by omega)
      have h2 := (h (i + 1) hi).2.1 (by omega)
      simp at h2
      omega
  by_cases hl : r.sets.length = 0
  · omega
  · have h1 := this (r.sets.length - 1) (by omega)
    have h2 := (h (r.sets.length - 1) (by omega)).1.2
    omega
theorem SetsOk.kind {vars : Int} {r : RuleS} (h : SetsOk vars r) {i : Nat} (hi : i < r.sets.length) (h2 : i < r.terms.length) : kindIs vars 1 r.terms[i] = true := (h i hi).2.2 h2
theorem t_l2Rule {a b c : V} {r : RuleS} {vars : Int} (ha : LT a r.when_) (hb : LI b r.sets) (hc : LTT c r.terms) (h0 : 0 ≤ vars) (h5 : vars ≤ 5) :
    VCall Try.prog n_spec_l2Rule [.agg [a, b, c], .sc (.int .i64 vars)] M (fun r' M' => M = M' ∧ ∃ t : Bool, r' = .sc (.bool t) ∧ (t = true ↔ RuleOk vars r)) := by
  refine VCall.pure fun R hR => v_spec_l2Rule rfl ?_
  refine sS0 ?_
  intro bb hbb
  have fin : ∀ t : Bool, (t = true ↔ RuleOk vars r) → R (.sc (.bool t)) (M.set bb [a, b, c]) := fun t h => hR _ _ ((Sub.refl _).set hbb) ⟨t, rfl, h⟩
  refine (t_l2Is ha).mono ?_
  rintro _ _ ⟨rfl, rfl⟩
  cases hw : kindIs vars 2 r.when_ with
  | false =>
    refine sS1 @hw ?_
    exact fin _ (by simp [RuleOk, hw])
  | true =>
    (repeat' (first | ((with_reducible first | refine cond_dec (fun h => ?_) (fun h => ?_) | refine guardK_dec (fun h => ?_) (fun h => ?_) | refine guardD3_dec (fun h => ?_) (fun h => ?_)) <;> first | (exfalso; omega) | (simp (maxSteps := 2000000) (disch := first | omega | assumption | exact idP rfl | exact idP (bL rfl)) only [go_sem, reduceIte, Nat.reduceEqDiff, wpV_kd, wpV_tH, h, hw, hb.len, hc.len]) | skip) | ((with_reducible first | refine cond_split (fun h => ?_) (fun h => ?_) | refine guardK_split (fun h => ?_) (fun h => ?_) | refine guardD3_split (fun h => ?_) (fun h => ?_)) <;> ((try simp only [Bool.not_eq_true', Bool.not_eq_false'] at h); first | (simp (maxSteps := 2000000) (disch := first | omega | assumption | exact idP rfl | exact idP (bL rfl)) only [go_sem, reduceIte, Nat.reduceEqDiff, wpV_kd, wpV_tH, h, hw, hb.len, hc.len]) | skip)) | (with_reducible intro bk hbk; try have hnk := (fresh_set hbk).1) | (simp (maxSteps := 2000000) (disch := first | omega | assumption | exact idP rfl | exact idP (bL rfl)) only [go_sem, reduceIte, Nat.reduceEqDiff, wpV_kd, wpV_tH, hw, hb.len, hc.len])))
    all_goals try (refine fin _ ?_; simp only [Bool.false_eq_true, false_iff]; intro hr; have := hr.2.1; have := sets_le hr.2.2 h0; omega)
    refine loop_k (fun e M' => M' = M.set bb [a, b, c] ∧ ∃ i : Nat, i ≤ r.sets.length ∧ e 1 = .sc (.int .i64 vars) ∧ e 2 = .sc (.ptr (some (bb, 0))) ∧ e 5 = .sc (.int .i64 i) ∧
      ∀ j (hj : j < r.sets.length), j < i → (0 ≤ r.sets[j] ∧ r.sets[j] < vars) ∧ (∀ h0 : 0 < j, r.sets[j - 1]'(by omega) < r.sets[j]) ∧ (∀ h2 : j < r.terms.length, kindIs vars 1 r.terms[j] = true)) (fun e _ => ctrV r.sets.length (e 5)) ?_ ?_
    · exact ⟨rfl, 0, by omega, sT0, sT0, by refine sS0 ?_; rfl, fun j _ h => by omega⟩
    · rintro e _ ⟨rfl, i, hi, e1, e2, e5, hj⟩ K hK
      refine sS4 @e1 @e2 @e5 @hb.len ?_
      refine cond_dec (fun h => ?_) (fun h => ?_)
      · have hi' : i < r.sets.length := by omega
        have ht := hc.elt (i := i) (by omega)
        have e8 : ((i : Int) - 1).toNat = i - 1 := by omega
        (repeat' (first | ((with_reducible first | refine cond_dec (fun h => ?_) (fun h => ?_) | refine guardK_dec (fun h => ?_) (fun h => ?_) | refine guardD3_dec (fun h => ?_) (fun h => ?_)) <;> first | (exfalso; omega) | (simp (maxSteps := 2000000) (disch := first | omega | assumption | exact idP rfl | exact idP (bL rfl)) only [go_sem, reduceIte, Nat.reduceEqDiff, wpV_kd, wpV_tH, h, e1, e2, e5, hb.len, hb.iaddr, hb.at, hc.iaddr, e8]) | skip) | ((with_reducible first | refine cond_split (fun h => ?_) (fun h => ?_) | refine guardK_split (fun h => ?_) (fun h => ?_) | refine guardD3_split (fun h => ?_) (fun h => ?_)) <;> ((try simp only [Bool.not_eq_true', Bool.not_eq_false'] at h); first | (simp (maxSteps := 2000000) (disch := first | omega | assumption | exact idP rfl | exact idP (bL rfl)) only [go_sem, reduceIte, Nat.reduceEqDiff, wpV_kd, wpV_tH, h, e1, e2, e5, hb.len, hb.iaddr, hb.at, hc.iaddr, e8]) | skip)) | ((with_reducible refine (t_l1In).mono ?_); rintro _ _ ⟨rfl, rfl⟩) | ((with_reducible refine (t_l2Is ht).mono ?_); rintro _ _ ⟨rfl, rfl⟩) | (with_reducible intro bk hbk; try have hnk := (fresh_set hbk).1) | (simp (maxSteps := 2000000) (disch := first | omega | assumption | exact idP rfl | exact idP (bL rfl)) only [go_sem, reduceIte, Nat.reduceEqDiff, wpV_kd, wpV_tH, e1, e2, e5, hb.len, hb.iaddr, hb.at, hc.iaddr, e8])))
        all_goals first
          | (refine fin _ ?_; simp only [Bool.false_eq_true, false_iff]; intro hr; have h3 := (hr.2.2 i hi').1; have h4 := (hr.2.2 i hi').2.1; have h5 := (hr.2.2 i hi').2.2 (by omega); first | omega | (have := h4 (by omega); omega) | (simp_all; done))
          | (refine hK _ _ ⟨rfl, i + 1, by omega, sT0, sT0, by refine sS0 ?_; rfl, fun j hj1 hj2 => ?_⟩ (by refine sS2 @ctrV_int @e5 ?_; omega)
             by_cases hji : j = i
             · subst hji; exact ⟨by omega, fun h0 => by omega, fun _ => by assumption⟩
             · exact hj j hj1 (by omega))
      · refine sS0 ?_
        exact fin _ (by
          simp only [true_iff]
          exact ⟨hw, by omega, fun j hj1 => hj j hj1 (by omega)⟩)
theorem t_specSystemValid {v : V} {s : SysS} (hv : isSys s v) : VCall Try.prog n_spec_SystemValid [v] M (fun r' M' => M = M' ∧ ∃ t : Bool, r' = .sc (.bool t) ∧ (t = true ↔ SysOk s)) := by
  refine VCall.pure fun R hR => v_spec_SystemValid rfl ?_
  obtain ⟨a, b, rfl, ha, hb⟩ := hv
  refine sS0 ?_
  intro bb hbb
  have fin : ∀ t : Bool, (t = true ↔ SysOk s) → R (.sc (.bool t)) (M.set bb [a, b]) := fun t h => hR _ _ ((Sub.refl _).set hbb) ⟨t, rfl, h⟩
  (repeat' (first | ((with_reducible first | refine cond_dec (fun h => ?_) (fun h => ?_) | refine guardK_dec (fun h => ?_) (fun h => ?_) | refine guardD3_dec (fun h => ?_) (fun h => ?_)) <;> first | (exfalso; omega) | (simp (maxSteps := 2000000) (disch := first | omega | assumption | exact idP rfl | exact idP (bL rfl)) only [go_sem, reduceIte, Nat.reduceEqDiff, wpV_kd, wpV_tH, h, ha.len, hb.len]) | skip) | ((with_reducible first | refine cond_split (fun h => ?_) (fun h => ?_) | refine guardK_split (fun h => ?_) (fun h => ?_) | refine guardD3_split (fun h => ?_) (fun h => ?_)) <;> ((try simp only [Bool.not_eq_true', Bool.not_eq_false'] at h); first | (simp (maxSteps := 2000000) (disch := first | omega | assumption | exact idP rfl | exact idP (bL rfl)) only [go_sem, reduceIte, Nat.reduceEqDiff, wpV_kd, wpV_tH, h, ha.len, hb.len]) | skip)) | ((with_reducible refine (t_l1In).mono ?_); rintro _ _ ⟨rfl, rfl⟩) | (with_reducible intro bk hbk; try have hnk := (fresh_set hbk).1) | (simp (maxSteps := 2000000) (disch := first | omega | assumption | exact idP rfl | exact idP (bL rfl)) only [go_sem, reduceIte, Nat.reduceEqDiff, wpV_kd, wpV_tH, ha.len, hb.len])))
  all_goals try (refine fin _ ?_; simp only [Bool.false_eq_true, false_iff]; intro hr; have := hr.v1; have := hr.v5; have := hr.r8; omega)
  refine loop_k (fun e M' => M' = M.set bb [a, b] ∧ ∃ i : Nat, i ≤ s.vars.length ∧ e 1 = .sc (.ptr (some (bb, 0))) ∧ e 3 = .sc (.int .i64 (sizeF (s.vars.take i))) ∧ e 4 = .sc (.int .i64 i) ∧
    ∀ j (hj : j < s.vars.length), j < i → VarOk s.vars[j]) (fun e _ => ctrV s.vars.length (e 4)) ?_ ?_
  · exact ⟨rfl, 0, by omega, sT0, by refine sS0 ?_; simp [sizeF], by refine sS0 ?_; rfl, fun j _ h => by omega⟩
  · rintro e _ ⟨rfl, i, hi, e1, e3, e4, hj⟩ K hK
    have hbd := sizeF_take_bd (by omega) hj
    refine sS4 @e1 @e3 @e4 @ha.len ?_
    refine cond_dec (fun h => ?_) (fun h => ?_)
    · have hi' : i < s.vars.length := by omega
      have e5 : (encVar s.vars[i]).take 3 = encVar s.vars[i] := rfl
      have hat := ha.elt hi'
      simp only [isVar] at hat
      refine sS6 @e1 @e3 @e4 @ha.iaddr @hat @e5 ?_
      refine t_l2Var.mono ?_
      rintro _ _ ⟨rfl, rfl⟩
      refine sS0 ?_
      refine cond_dec (fun h2 => ?_) (fun h2 => ?_)
      · refine sS0 ?_
        exact fin _ (by simp only [Bool.false_eq_true, false_iff]; intro hr; exact h2 (hr.vars _ (List.getElem_mem hi')))
      · have h2 : VarOk s.vars[i] := Decidable.not_not.1 h2
        have hbd2 := sizeF_take_bd (i := i + 1) (vs := s.vars) (by omega) (fun j hj1 hj2 => by
          by_cases hji : j = i
          · subst hji; exact h2
          · exact hj j hj1 (by omega))
        have hsz := sizeF_take hi'
        rw [hsz] at hbd2
        obtain ⟨q1, q2, q3, q4⟩ := h2
        simp (maxSteps := 2000000) (disch := first | omega | assumption | exact idP rfl | exact idP (bL rfl)) only [go_sem, reduceIte, Nat.reduceEqDiff, wpV_kd, wpV_tH, e1, e3, e4, ha.iaddr, hat, encVar]
        refine hK _ _ ⟨rfl, i + 1, by omega, sT0, by refine sS0 ?_; rw [hsz], by refine sS0 ?_; rfl, fun j hj1 hj2 => ?_⟩ (by refine sS2 @ctrV_int @e4 ?_; omega)
        by_cases hji : j = i
        · subst hji; exact ⟨q1, q2, q3, q4⟩
        · exact hj j hj1 (by omega)
    · obtain rfl : i = s.vars.length := by omega
      rw [List.take_length] at e3 hbd
      refine sS1 @e3 ?_
      refine loop_k (fun e M' => M' = M.set bb [a, b] ∧ ∃ i : Nat, i ≤ s.rules.length ∧ e 1 = .sc (.ptr (some (bb, 0))) ∧ e 3 = .sc (.int .i64 (sizeF s.vars)) ∧ e 5 = .sc (.int .i64 i) ∧
        ∀ j (hj : j < s.rules.length), j < i → RuleOk (s.vars.length : Int) s.rules[j]) (fun e _ => ctrV s.rules.length (e 5)) ?_ ?_
      · exact ⟨rfl, 0, by omega, sT1 @e1, by simp (maxSteps := 2000000) (disch := first | omega | assumption | exact idP rfl | exact idP (bL rfl)) only [go_sem, reduceIte, Nat.reduceEqDiff, wpV_kd, wpV_tH, List.take_length], by refine sS0 ?_; rfl, fun j _ h => by omega⟩
      · rintro e _ ⟨rfl, i, hi2, e1, e3, e5, hj2⟩ K2 hK2
        refine sS4 @e1 @e3 @e5 @hb.len ?_
        refine cond_dec (fun h => ?_) (fun h => ?_)
        · have hi' : i < s.rules.length := by omega
          obtain ⟨x, y, z, hat, q1, q2, q3⟩ := hb.elt hi'
          refine sS6 @e1 @e3 @e5 @hb.iaddr @hat @ha.len ?_
          refine (t_l2Rule q1 q2 q3 (by omega) (by omega)).mono ?_
          rintro _ _ ⟨rfl, t, rfl, ht⟩
          cases t with
          | false =>
            refine sS0 ?_
            exact fin _ (by simp only [Bool.false_eq_true, false_iff]; intro hr; have := ht.2 (hr.rules _ (List.getElem_mem hi')); cases this)
          | true =>
            refine sS0 ?_
            refine hK2 _ _ ⟨rfl, i + 1, by omega, sT0, sT0, by refine sS0 ?_; rfl, fun j hj3 hj4 => ?_⟩ (by refine sS2 @ctrV_int @e5 ?_; omega)
            by_cases hji : j = i
            · subst hji; exact ht.1 rfl
            · exact hj2 j hj3 (by omega)
        · refine sS1 @e3 ?_
          refine fin _ ?_
          simp only [decide_eq_true_eq]
          refine ⟨fun h400 => ⟨by omega, by omega, by omega, fun v hv => ?_, fun r hr => ?_, h400⟩, fun h => h.size⟩
          · obtain ⟨j, hj1, rfl⟩ := List.getElem_of_mem hv
            exact hj j hj1 hj1
          · obtain ⟨j, hj1, rfl⟩ := List.getElem_of_mem hr
            exact hj2 j hj1 (by omega)
noncomputable def sysB (s : SysS) : Bool := @decide (SysOk s) (Classical.propDecidable _)
theorem sysB_iff (s : SysS) : sysB s = true ↔ SysOk s := by unfold sysB; exact @decide_eq_true_iff _ (Classical.propDecidable _)
theorem eq_of_iff {t u : Bool} (h : t = true ↔ u = true) : t = u := by cases t <;> cases u <;> simp_all
theorem t_SystemValidS {v : V} {s : SysS} (hv : isSys s v) : VCall Try.prog n_spec_SystemValid [v] M (fun r' M' => M = M' ∧ r' = .sc (.bool (sysB s))) :=
  (t_specSystemValid hv).mono fun r M' ⟨h, t, h1, h2⟩ => ⟨h, by rw [h1, eq_of_iff (h2.trans (sysB_iff s).symm)]⟩
end Go.M2

namespace Go.M2
open Go.Proofs
variable {M : MH}
theorem t_varOk {v : VarS} : VCall Try.prog n_impl_varOk [.agg (encVar v)] M (fun r M' => M = M' ∧ r = .sc (.bool (decide (VarOk v)))) := by
  refine VCall.pure fun R hR => v_impl_varOk rfl ?_
  obtain ⟨lo, hi, f⟩ := v
  simp only [encVar]
  (repeat' (first | ((with_reducible first | refine cond_dec (fun h => ?_) (fun h => ?_) | refine guardK_dec (fun h => ?_) (fun h => ?_) | refine guardD3_dec (fun h => ?_) (fun h => ?_)) <;> first | (exfalso; omega) | (simp (maxSteps := 2000000) (disch := first | omega | assumption | exact idP rfl | exact idP (bL rfl)) only [go_sem, reduceIte, Nat.reduceEqDiff, wpV_kd, wpV_tH, h]) | skip) | ((with_reducible first | refine cond_split (fun h => ?_) (fun h => ?_) | refine guardK_split (fun h => ?_) (fun h => ?_) | refine guardD3_split (fun h => ?_) (fun h => ?_)) <;> ((try simp only [Bool.not_eq_true', Bool.not_eq_false'] at h); first | (simp (maxSteps := 2000000) (disch := first | omega | assumption | exact idP rfl | exact idP (bL rfl)) only [go_sem, reduceIte, Nat.reduceEqDiff, wpV_kd, wpV_tH, h]) | skip)) | ((with_reducible refine (t_in).mono ?_); rintro _ _ ⟨rfl, rfl⟩) | (with_reducible intro bk hbk; try have hnk := (fresh_set hbk).1) | (simp (maxSteps := 2000000) (disch := first | omega | assumption | exact idP rfl | exact idP (bL rfl)) only [go_sem, reduceIte, Nat.reduceEqDiff, wpV_kd, wpV_tH])))
  all_goals exact hR _ _ (sB) (by (refine eqB ?_; (try simp only [decide_eq_true_eq, Bool.false_eq_true, Bool.and_eq_true, Bool.or_eq_true, Bool.not_eq_true', decide_eq_false_iff_not, eq_self_iff_true, true_iff, false_iff, iff_true, iff_false, ne_eq]); (try simp only [VarOk]); (try omega)))
theorem t_impSize {v : V} {vars : List VarS} (hv : LVar v vars) (hok : ∀ x ∈ vars, VarOk x) (h5 : vars.length ≤ 5) : VCall Try.prog n_impl_size [v] M (fun r M' => M = M' ∧ r = .sc (.int .i64 (sizeF vars))) := by
  refine VCall.pure fun R hR => v_impl_size rfl ?_
  refine sS1 @hv.len ?_
  refine loop_k (fun e M' => Sub M M' ∧ ∃ i : Nat, i ≤ vars.length ∧ e 3 = .sc (.int .i64 (sizeF (vars.take i))) ∧ e 6 = v ∧ e 7 = .sc (.int .i64 vars.length) ∧ e 8 = .sc (.int .i64 i)) (fun e _ => ctrV vars.length (e 8)) ?_ ?_
  · exact ⟨Sub.refl _, 0, by omega, by refine sS0 ?_; simp [sizeF], sT0, sT0, by refine sS0 ?_; rfl⟩
  · rintro e M1 ⟨hsub, i, hi, e3, e6, e7, e8⟩ K hK
    have hb1 := sizeF_take_bd (vs := vars) (i := i) h5 (fun j hj _ => hok _ (List.getElem_mem hj))
    refine sS2 @e7 @e8 ?_
    refine cond_dec (fun h => ?_) (fun h => ?_)
    · have hi' : i < vars.length := by omega
      have hb2 := sizeF_take_bd (vs := vars) (i := i + 1) h5 (fun j hj _ => hok _ (List.getElem_mem hj))
      have hsz := sizeF_take hi'
      rw [hsz] at hb2
      have ho := hok _ (List.getElem_mem hi')
      unfold VarOk at ho
      simp (maxSteps := 2000000) (disch := first | omega | assumption | exact idP rfl | exact idP (bL rfl)) only [go_sem, reduceIte, Nat.reduceEqDiff, wpV_kd, wpV_tH, e3, e6, e8, hv.iaddr, LVar.at hv hi']
      intro b5 hb5
      exact hK _ _ ⟨sB, i + 1, by omega, by refine sS0 ?_; rw [hsz], sT0, sT0, by refine sS0 ?_; rfl⟩ (by refine sS2 @ctrV_int @e8 ?_; omega)
    · obtain rfl : i = vars.length := by omega
      refine sS1 @e3 ?_
      exact hR _ _ (sB) (by rw [List.take_length])
theorem t_ruleOk {a b c : V} {r : RuleS} {vars : Int} (ha : LT a r.when_) (hb : LI b r.sets) (hc : LTT c r.terms) (h0 : 0 ≤ vars) (h5 : vars ≤ 5) (hl : r.sets.length ≤ 1048576) :
    VCall Try.prog n_impl_ruleOk [.agg [a, b, c], .sc (.int .i64 vars)] M (fun r' M' => M = M' ∧ ∃ t : Bool, r' = .sc (.bool t) ∧ (t = true ↔ RuleOk vars r)) := by
  refine VCall.pure fun R hR => v_impl_ruleOk rfl ?_
  refine sS0 ?_
  intro bb hbb
  refine (t_kindOf ha).mono ?_
  rintro _ _ ⟨rfl, kw, rfl, hw⟩
  have hw := hw 2 (by omega)
  (repeat' (first | ((with_reducible first | refine cond_dec (fun h => ?_) (fun h => ?_) | refine guardK_dec (fun h => ?_) (fun h => ?_) | refine guardD3_dec (fun h => ?_) (fun h => ?_)) <;> first | (exfalso; omega) | (simp (maxSteps := 2000000) (disch := first | omega | assumption | exact idP rfl | exact idP (bL rfl)) only [go_sem, reduceIte, Nat.reduceEqDiff, wpV_kd, wpV_tH, h, hb.len, hc.len]) | skip) | ((with_reducible first | refine cond_split (fun h => ?_) (fun h => ?_) | refine guardK_split (fun h => ?_) (fun h => ?_) | refine guardD3_split (fun h => ?_) (fun h => ?_)) <;> ((try simp only [Bool.not_eq_true', Bool.not_eq_false'] at h); first | (simp (maxSteps := 2000000) (disch := first | omega | assumption | exact idP rfl | exact idP (bL rfl)) only [go_sem, reduceIte, Nat.reduceEqDiff, wpV_kd, wpV_tH, h, hb.len, hc.len]) | skip)) | (with_reducible intro bk hbk; try have hnk := (fresh_set hbk).1) | (simp (maxSteps := 2000000) (disch := first | omega | assumption | exact idP rfl | exact idP (bL rfl)) only [go_sem, reduceIte, Nat.reduceEqDiff, wpV_kd, wpV_tH, hb.len, hc.len])))
  · refine hR _ _ (sB) ⟨false, rfl, ?_⟩
    simp only [Bool.false_eq_true, false_iff]
    intro hr; exact absurd (hw.2 hr.1) (by assumption)
  · refine hR _ _ (sB) ⟨false, rfl, ?_⟩
    simp only [Bool.false_eq_true, false_iff]
    intro hr; have := hr.2.1; omega
  · have hkw : kindIs vars 2 r.when_ = true := hw.1 (by omega)
    refine loop_k (fun e M' => M' = M.set bb [a, b, c] ∧ ∃ i : Nat, i ≤ r.sets.length ∧ e 1 = .sc (.int .i64 vars) ∧ e 2 = .sc (.ptr (some (bb, 0))) ∧ e 22 = b ∧ e 23 = .sc (.int .i64 r.sets.length) ∧ e 24 = .sc (.int .i64 i) ∧
      ∀ j (hj : j < r.sets.length), j < i → (0 ≤ r.sets[j] ∧ r.sets[j] < vars) ∧ (∀ h0 : 0 < j, r.sets[j - 1]'(by omega) < r.sets[j]) ∧ (∀ h2 : j < r.terms.length, kindIs vars 1 r.terms[j] = true)) (fun e _ => ctrV r.sets.length (e 24)) ?_ ?_
    · exact ⟨rfl, 0, by omega, sT0, sT0, sT0, sT0, by refine sS0 ?_; rfl, fun j _ h => by omega⟩
    · rintro e _ ⟨rfl, i, hi, e1, e2, e22, e23, e24, hj⟩ K hK
      refine sS2 @e23 @e24 ?_
      refine cond_dec (fun h => ?_) (fun h => ?_)
      · have hi' : i < r.sets.length := by omega
        have e8 : ((i : Int) - 1).toNat = i - 1 := by omega
        have bad : ¬ RuleOk vars r → R (.sc (.bool false)) (M.set bb [a, b, c]) := fun hn => hR _ _ (sB) ⟨false, rfl, by simp only [Bool.false_eq_true, false_iff]; exact hn⟩
        have hti := hc.elt (i := i) (by omega)
        (repeat' (first | ((with_reducible first | refine cond_dec (fun h => ?_) (fun h => ?_) | refine guardK_dec (fun h => ?_) (fun h => ?_) | refine guardD3_dec (fun h => ?_) (fun h => ?_)) <;> first | (exfalso; omega) | (simp (maxSteps := 2000000) (disch := first | omega | assumption | exact idP rfl | exact idP (bL rfl)) only [go_sem, reduceIte, Nat.reduceEqDiff, wpV_kd, wpV_tH, h, e1, e2, e22, e24, hb.iaddr, hb.at, hc.iaddr, e8]) | skip) | ((with_reducible first | refine cond_split (fun h => ?_) (fun h => ?_) | refine guardK_split (fun h => ?_) (fun h => ?_) | refine guardD3_split (fun h => ?_) (fun h => ?_)) <;> ((try simp only [Bool.not_eq_true', Bool.not_eq_false'] at h); first | (simp (maxSteps := 2000000) (disch := first | omega | assumption | exact idP rfl | exact idP (bL rfl)) only [go_sem, reduceIte, Nat.reduceEqDiff, wpV_kd, wpV_tH, h, e1, e2, e22, e24, hb.iaddr, hb.at, hc.iaddr, e8]) | skip)) | ((with_reducible refine (t_in).mono ?_); rintro _ _ ⟨rfl, rfl⟩) | (with_reducible intro bk hbk; try have hnk := (fresh_set hbk).1) | (simp (maxSteps := 2000000) (disch := first | omega | assumption | exact idP rfl | exact idP (bL rfl)) only [go_sem, reduceIte, Nat.reduceEqDiff, wpV_kd, wpV_tH, e1, e2, e22, e24, hb.iaddr, hb.at, hc.iaddr, e8])))
        all_goals first
          | (refine bad fun hr => ?_; have h3 := (hr.2.2 i hi').1; have h4 := (hr.2.2 i hi').2.1; first | omega | (have := h4 (by omega); omega))
          | skip
        all_goals (refine (t_kindOf hti).mono ?_; rintro _ _ ⟨rfl, ki, rfl, hki⟩; have hki := hki 1 (by omega))
        all_goals (repeat' (first | ((with_reducible first | refine cond_dec (fun h => ?_) (fun h => ?_) | refine guardK_dec (fun h => ?_) (fun h => ?_) | refine guardD3_dec (fun h => ?_) (fun h => ?_)) <;> first | (exfalso; omega) | (simp (maxSteps := 2000000) (disch := first | omega | assumption | exact idP rfl | exact idP (bL rfl)) only [go_sem, reduceIte, Nat.reduceEqDiff, wpV_kd, wpV_tH, h, e1, e2, e22, e24, hb.iaddr, hb.at, hc.iaddr, e8]) | skip) | ((with_reducible first | refine cond_split (fun h => ?_) (fun h => ?_) | refine guardK_split (fun h => ?_) (fun h => ?_) | refine guardD3_split (fun h => ?_) (fun h => ?_)) <;> ((try simp only [Bool.not_eq_true', Bool.not_eq_false'] at h); first | (simp (maxSteps := 2000000) (disch := first | omega | assumption | exact idP rfl | exact idP (bL rfl)) only [go_sem, reduceIte, Nat.reduceEqDiff, wpV_kd, wpV_tH, h, e1, e2, e22, e24, hb.iaddr, hb.at, hc.iaddr, e8]) | skip)) | (with_reducible intro bk hbk; try have hnk := (fresh_set hbk).1) | (simp (maxSteps := 2000000) (disch := first | omega | assumption | exact idP rfl | exact idP (bL rfl)) only [go_sem, reduceIte, Nat.reduceEqDiff, wpV_kd, wpV_tH, e1, e2, e22, e24, hb.iaddr, hb.at, hc.iaddr, e8])))
        all_goals first
          | (refine bad fun hr => ?_; have h5 := (hr.2.2 i hi').2.2 (by omega); exact absurd (hki.2 h5) (by assumption))
          | (refine hK _ _ ⟨rfl, i + 1, by omega, sT0, sT0, sT0, sT0, by refine sS0 ?_; rfl, fun j hj1 hj2 => ?_⟩ (by refine sS2 @ctrV_int @e24 ?_; omega)
             by_cases hji : j = i
             · subst hji; exact ⟨by omega, fun h0 => by omega, fun _ => hki.1 (by omega)⟩
             · exact hj j hj1 (by omega))
      · refine sS0 ?_
        exact hR _ _ (sB) ⟨true, rfl, by
          simp only [true_iff]
          exact ⟨hkw, by omega, fun j hj1 => hj j hj1 (by omega)⟩⟩
theorem t_IndexVar {v : V} {fn : Nat} {caps : List V} {xs : List VarS} {pred : VarS → Bool} (hv : LVar v xs) (hl : xs.length ≤ 1048576)
    (hf : ∀ x ∈ xs, VCall Try.prog fn (.agg (encVar x) :: caps) M (fun r M' => M = M' ∧ r = .sc (.bool (pred x)))) :
    VCall Try.prog n_slices_ContainsFunc_Simpl_Var_impl_Var [v, .fn fn caps] M (fun r M' => M = M' ∧ r = .sc (.bool (xs.any pred))) := by
  have key : VCall Try.prog n_slices_IndexFunc_Simpl_Var_impl_Var [v, .fn fn caps] M (fun r M' => M = M' ∧ ∃ k : Int, r = .sc (.int .i64 k) ∧ (0 ≤ k ↔ xs.any pred = true)) := by
    refine VCall.pure fun R hR => v_slices_IndexFunc_Simpl_Var_impl_Var rfl ?_
    refine sS1 @hv.len ?_
    refine loop_k (fun e M' => M' = M ∧ ∃ i : Nat, i ≤ xs.length ∧ e 0 = v ∧ e 1 = .fn fn caps ∧ e 7 = .sc (.int .i64 xs.length) ∧ e 8 = .sc (.int .i64 i) ∧ ∀ j (hj : j < xs.length), j < i → pred xs[j] = false) (fun e _ => ctrV xs.length (e 8)) ?_ ?_
    · exact ⟨rfl, 0, by omega, sT0, sT0, sT0, by refine sS0 ?_; rfl, fun j _ h => by omega⟩
    · rintro e M1 ⟨hM, i, hi, e0, e1, e7, e8, hj⟩ K hK
      subst hM
      refine sS2 @e7 @e8 ?_
      refine cond_dec (fun h => ?_) (fun h => ?_)
      · have hi' : i < xs.length := by omega
        simp (maxSteps := 2000000) (disch := first | omega | assumption | exact idP rfl | exact idP (bL rfl)) only [go_sem, reduceIte, Nat.reduceEqDiff, wpV_kd, wpV_tH, e0, e1, e8, hv.iaddr, LVar.at hv hi']
        refine (hf _ (List.getElem_mem hi')).mono ?_
        rintro _ _ ⟨rfl, rfl⟩
        cases hp : pred xs[i] with
        | true =>
          refine sS0 ?_
          exact hR _ _ (sB) ⟨_, rfl, by simp only [Int.natCast_nonneg, true_iff]; exact List.any_eq_true.2 ⟨_, List.getElem_mem hi', hp⟩⟩
        | false =>
          refine sS1 @e8 ?_
          refine hK _ _ ⟨rfl, i + 1, by omega, sT0, sT0, sT0, by refine sS0 ?_; rfl, fun j hj1 hj2 => ?_⟩ (by refine sS2 @ctrV_int @e8 ?_; omega)
          by_cases hji : j = i
          · subst hji; exact hp
          · exact hj j hj1 (by omega)
      · refine sS0 ?_
        refine hR _ _ (sB) ⟨-1, rfl, ⟨fun h => by omega, fun h => ?_⟩⟩
        obtain ⟨x, hx, hpx⟩ := List.any_eq_true.1 h
        obtain ⟨j, hj1, rfl⟩ := List.getElem_of_mem hx
        rw [hj j hj1 (by omega)] at hpx; cases hpx
  refine VCall.pure fun R hR => v_slices_ContainsFunc_Simpl_Var_impl_Var rfl ?_
  refine sS0 ?_
  refine key.mono ?_
  rintro _ _ ⟨rfl, k, rfl, hk⟩
  refine sS0 ?_
  exact hR _ _ (sB) (eqB (by simp only [decide_eq_true_eq]; exact hk))
end Go.M2

namespace Go.M2
open Go.Proofs
variable {M : MH}
theorem t_IndexRule {v : V} {fn : Nat} {caps : List V} {xs : List RuleS} {pred : RuleS → Bool} (hv : LR v xs) (hl : xs.length ≤ 1048576)
    (hf : ∀ x ∈ xs, ∀ cs, isRule x cs → VCall Try.prog fn (.agg cs :: caps) M (fun r M' => M = M' ∧ r = .sc (.bool (pred x)))) :
    VCall Try.prog n_slices_ContainsFunc_Simpl_Rule_impl_Rule [v, .fn fn caps] M (fun r M' => M = M' ∧ r = .sc (.bool (xs.any pred))) := by
  have key : VCall Try.prog n_slices_IndexFunc_Simpl_Rule_impl_Rule [v, .fn fn caps] M (fun r M' => M = M' ∧ ∃ k : Int, r = .sc (.int .i64 k) ∧ (0 ≤ k ↔ xs.any pred = true)) := by
    refine VCall.pure fun R hR => v_slices_IndexFunc_Simpl_Rule_impl_Rule rfl ?_
    refine sS1 @hv.len ?_
    refine loop_k (fun e M' => M' = M ∧ ∃ i : Nat, i ≤ xs.length ∧ e 0 = v ∧ e 1 = .fn fn caps ∧ e 7 = .sc (.int .i64 xs.length) ∧ e 8 = .sc (.int .i64 i) ∧ ∀ j (hj : j < xs.length), j < i → pred xs[j] = false) (fun e _ => ctrV xs.length (e 8)) ?_ ?_
    · exact ⟨rfl, 0, by omega, sT0, sT0, sT0, by refine sS0 ?_; rfl, fun j _ h => by omega⟩
    · rintro e M1 ⟨hM, i, hi, e0, e1, e7, e8, hj⟩ K hK
      subst hM
      refine sS2 @e7 @e8 ?_
      refine cond_dec (fun h => ?_) (fun h => ?_)
      · have hi' : i < xs.length := by omega
        have hcs := hv.elt hi'
        have hrule := hcs
        obtain ⟨c1, c2, c3, hat, _, _, _⟩ := hcs
        rw [hat] at hrule
        refine sS5 @e0 @e1 @e8 @hv.iaddr @hat ?_
        refine (hf _ (List.getElem_mem hi') _ hrule).mono ?_
        rintro _ _ ⟨rfl, rfl⟩
        cases hp : pred xs[i] with
        | true =>
          refine sS0 ?_
          exact hR _ _ (sB) ⟨_, rfl, by simp only [Int.natCast_nonneg, true_iff]; exact List.any_eq_true.2 ⟨_, List.getElem_mem hi', hp⟩⟩
        | false =>
          refine sS1 @e8 ?_
          refine hK _ _ ⟨rfl, i + 1, by omega, sT0, sT0, sT0, by refine sS0 ?_; rfl, fun j hj1 hj2 => ?_⟩ (by refine sS2 @ctrV_int @e8 ?_; omega)
          by_cases hji : j = i
          · subst hji; exact hp
          · exact hj j hj1 (by omega)
      · refine sS0 ?_
        refine hR _ _ (sB) ⟨-1, rfl, ⟨fun h => by omega, fun h => ?_⟩⟩
        obtain ⟨x, hx, hpx⟩ := List.any_eq_true.1 h
        obtain ⟨j, hj1, rfl⟩ := List.getElem_of_mem hx
        rw [hj j hj1 (by omega)] at hpx; cases hpx
  refine VCall.pure fun R hR => v_slices_ContainsFunc_Simpl_Rule_impl_Rule rfl ?_
  refine sS0 ?_
  refine key.mono ?_
  rintro _ _ ⟨rfl, k, rfl, hk⟩
  refine sS0 ?_
  exact hR _ _ (sB) (eqB (by simp only [decide_eq_true_eq]; exact hk))
noncomputable def ruleB (vars : Int) (r : RuleS) : Bool := @decide (RuleOk vars r) (Classical.propDecidable _)
theorem ruleB_iff (vars : Int) (r : RuleS) : ruleB vars r = true ↔ RuleOk vars r := by unfold ruleB; exact @decide_eq_true_iff _ (Classical.propDecidable _)
def SysSz (s : SysS) : Prop := s.vars.length ≤ 1048576 ∧ s.rules.length ≤ 1048576 ∧ ∀ r ∈ s.rules, r.sets.length ≤ 1048576
theorem t_impSystemValid {v : V} {s : SysS} (hv : isSys s v) (hsz : SysSz s) : VCall Try.prog n_impl_SystemValid [v] M (fun r' M' => M = M' ∧ r' = .sc (.bool (sysB s))) := by
  refine VCall.pure fun R hR => v_impl_SystemValid rfl ?_
  obtain ⟨a, b, rfl, ha, hb⟩ := hv
  have bad : ¬ SysOk s → sysB s = false := fun h => by
    cases hq : sysB s with
    | false => rfl
    | true => exact absurd ((sysB_iff s).1 hq) h
  have h1 : ∀ (M : MH), ∀ x ∈ s.vars, VCall Try.prog n_impl_SystemValid_1 (.agg (encVar x) :: []) M (fun r M' => M = M' ∧ r = .sc (.bool (!decide (VarOk x)))) := by
    intro M x _
    refine VCall.pure fun R hR => v_impl_SystemValid_1 rfl ?_
    simp (maxSteps := 2000000) (disch := first | omega | assumption | exact idP rfl | exact idP (bL rfl)) only [go_sem, reduceIte, Nat.reduceEqDiff, wpV_kd, wpV_tH, encVar]
    intro b1 hb1
    refine (t_varOk (v := x)).mono ?_
    rintro _ _ ⟨rfl, rfl⟩
    refine sS0 ?_
    exact hR _ _ (sB) (by rw [decide_not])
  (repeat' (first | ((with_reducible first | refine cond_dec (fun h => ?_) (fun h => ?_) | refine guardK_dec (fun h => ?_) (fun h => ?_) | refine guardD3_dec (fun h => ?_) (fun h => ?_)) <;> first | (exfalso; omega) | (simp (maxSteps := 2000000) (disch := first | omega | assumption | exact idP rfl | exact idP (bL rfl)) only [go_sem, reduceIte, Nat.reduceEqDiff, wpV_kd, wpV_tH, h, ha.len, hb.len]) | skip) | ((with_reducible first | refine cond_split (fun h => ?_) (fun h => ?_) | refine guardK_split (fun h => ?_) (fun h => ?_) | refine guardD3_split (fun h => ?_) (fun h => ?_)) <;> ((try simp only [Bool.not_eq_true', Bool.not_eq_false'] at h); first | (simp (maxSteps := 2000000) (disch := first | omega | assumption | exact idP rfl | exact idP (bL rfl)) only [go_sem, reduceIte, Nat.reduceEqDiff, wpV_kd, wpV_tH, h, ha.len, hb.len]) | skip)) | ((with_reducible refine (t_in).mono ?_); rintro _ _ ⟨rfl, rfl⟩) | (with_reducible intro bk hbk; try have hnk := (fresh_set hbk).1) | (simp (maxSteps := 2000000) (disch := first | omega | assumption | exact idP rfl | exact idP (bL rfl)) only [go_sem, reduceIte, Nat.reduceEqDiff, wpV_kd, wpV_tH, ha.len, hb.len])))
  all_goals try (exact hR _ _ (sB) (by rw [bad fun hs => by have := hs.v1; have := hs.v5; have := hs.r8; omega]))
  · refine (t_IndexVar ha hsz.1 (h1 _)).mono ?_
    rintro _ _ ⟨rfl, rfl⟩
    cases hany : s.vars.any (fun x => !decide (VarOk x)) with
    | true =>
      (repeat' (first | ((with_reducible first | refine cond_dec (fun h => ?_) (fun h => ?_) | refine guardK_dec (fun h => ?_) (fun h => ?_) | refine guardD3_dec (fun h => ?_) (fun h => ?_)) <;> first | (exfalso; omega) | (simp (maxSteps := 2000000) (disch := first | omega | assumption | exact idP rfl | exact idP (bL rfl)) only [go_sem, reduceIte, Nat.reduceEqDiff, wpV_kd, wpV_tH, h]) | skip) | ((with_reducible first | refine cond_split (fun h => ?_) (fun h => ?_) | refine guardK_split (fun h => ?_) (fun h => ?_) | refine guardD3_split (fun h => ?_) (fun h => ?_)) <;> ((try simp only [Bool.not_eq_true', Bool.not_eq_false'] at h); first | (simp (maxSteps := 2000000) (disch := first | omega | assumption | exact idP rfl | exact idP (bL rfl)) only [go_sem, reduceIte, Nat.reduceEqDiff, wpV_kd, wpV_tH, h]) | skip)) | (with_reducible intro bk hbk; try have hnk := (fresh_set hbk).1) | (simp (maxSteps := 2000000) (disch := first | omega | assumption | exact idP rfl | exact idP (bL rfl)) only [go_sem, reduceIte, Nat.reduceEqDiff, wpV_kd, wpV_tH])))
      all_goals refine hR _ _ (sB) ?_
      all_goals rw [bad fun hs => by
        obtain ⟨x, hx, hpx⟩ := List.any_eq_true.1 hany
        have := hs.vars x hx
        simp [this] at hpx]
    | false =>
      have hvars : ∀ x ∈ s.vars, VarOk x := fun x hx => by
        have := List.any_eq_false.1 hany x hx
        simpa using this
      (repeat' (first | ((with_reducible first | refine cond_dec (fun h => ?_) (fun h => ?_) | refine guardK_dec (fun h => ?_) (fun h => ?_) | refine guardD3_dec (fun h => ?_) (fun h => ?_)) <;> first | (exfalso; omega) | (simp (maxSteps := 2000000) (disch := first | omega | assumption | exact idP rfl | exact idP (bL rfl)) only [go_sem, reduceIte, Nat.reduceEqDiff, wpV_kd, wpV_tH, h]) | skip) | ((with_reducible first | refine cond_split (fun h => ?_) (fun h => ?_) | refine guardK_split (fun h => ?_) (fun h => ?_) | refine guardD3_split (fun h => ?_) (fun h => ?_)) <;> ((try simp only [Bool.not_eq_true', Bool.not_eq_false'] at h); first | (simp (maxSteps := 2000000) (disch := first | omega | assumption | exact idP rfl | exact idP (bL rfl)) only [go_sem, reduceIte, Nat.reduceEqDiff, wpV_kd, wpV_tH, h]) | skip)) | ((with_reducible refine (t_impSize ha hvars (by omega)).mono ?_); rintro _ _ ⟨rfl, rfl⟩) | (with_reducible intro bk hbk; try have hnk := (fresh_set hbk).1) | (simp (maxSteps := 2000000) (disch := first | omega | assumption | exact idP rfl | exact idP (bL rfl)) only [go_sem, reduceIte, Nat.reduceEqDiff, wpV_kd, wpV_tH])))
      · exact hR _ _ (sB) (by rw [bad fun hs => by have := hs.size; omega])
      · have h2 : ∀ x ∈ s.rules, ∀ cs, isRule x cs → VCall Try.prog n_impl_SystemValid_2 (.agg cs :: [.sc (.ptr (some (bk, 0)))]) (M.set bk [a, b]) (fun r M' => (M.set bk [a, b]) = M' ∧ r = .sc (.bool (!ruleB (s.vars.length : Int) x))) := by
          rintro x hx cs ⟨c1, c2, c3, rfl, q1, q2, q3⟩
          refine VCall.pure fun R hR => v_impl_SystemValid_2 rfl ?_
          refine sS0 ?_
          intro b2 hb2
          have hne := (fresh_set hb2).1
          refine sS1 @ha.len ?_
          refine (t_ruleOk q1 q2 q3 (by omega) (by omega) (hsz.2.2 x hx)).mono ?_
          rintro _ _ ⟨rfl, t, rfl, ht⟩
          refine sS0 ?_
          exact hR _ _ (sB) (by rw [eq_of_iff (ht.trans (ruleB_iff _ _).symm)])
        refine (t_IndexRule hb hsz.2.1 h2).mono ?_
        rintro _ _ ⟨rfl, rfl⟩
        refine sS0 ?_
        refine hR _ _ (sB) ?_
        congr 2
        refine eq_of_iff ?_
        rw [sysB_iff, Bool.not_eq_true', List.any_eq_false]
        constructor
        · intro h
          exact ⟨by omega, by omega, by omega, hvars, fun r hr => by have := h r hr; simpa [ruleB_iff] using this, by omega⟩
        · intro hs r hr
          simp [(ruleB_iff _ _).2 (hs.rules r hr)]
end Go.M2

namespace Go.M2
open Go.Proofs
variable {M : MH}
structure DoOk (op a b : Int) : Prop where
  o2 : 2 ≤ op
  o9 : op ≤ 9
  a1 : -9999 ≤ a
  a2 : a ≤ 9999
  b1 : -9999 ≤ b
  b2 : b ≤ 9999
  tr : 8 ≤ op → (a = 0 ∨ a = 1) ∧ (b = 0 ∨ b = 1)
theorem mul_bd {a b : Int} (a1 : -9999 ≤ a) (a2 : a ≤ 9999) (b1 : -9999 ≤ b) (b2 : b ≤ 9999) : -99980001 ≤ a * b ∧ a * b ≤ 99980001 := by
  have h1 : (a * b).natAbs = a.natAbs * b.natAbs := Int.natAbs_mul a b
  have h2 : a.natAbs * b.natAbs ≤ 9999 * 9999 := Nat.mul_le_mul (by omega) (by omega)
  omega
theorem t_l1Do {op a b : Int} (h : DoOk op a b) : VCall Try.prog n_spec_l1Do [.sc (.int .i64 op), .sc (.int .i64 a), .sc (.int .i64 b)] M (fun r M' => M = M' ∧ r = .sc (.int .i64 (do1 op a b))) := by
  refine VCall.pure fun R hR => v_spec_l1Do rfl ?_
  obtain ⟨o2, o9, a1, a2, b1, b2, tr⟩ := h
  have hm := mul_bd a1 a2 b1 b2
  (repeat' (first | ((with_reducible first | refine cond_dec (fun h => ?_) (fun h => ?_) | refine guardK_dec (fun h => ?_) (fun h => ?_) | refine guardD3_dec (fun h => ?_) (fun h => ?_)) <;> first | (exfalso; omega) | (simp (maxSteps := 2000000) (disch := first | omega | assumption | exact idP rfl | exact idP (bL rfl)) only [go_sem, reduceIte, Nat.reduceEqDiff, wpV_kd, wpV_tH, h]) | skip) | ((with_reducible first | refine cond_split (fun h => ?_) (fun h => ?_) | refine guardK_split (fun h => ?_) (fun h => ?_) | refine guardD3_split (fun h => ?_) (fun h => ?_)) <;> ((try simp only [Bool.not_eq_true', Bool.not_eq_false'] at h); first | (simp (maxSteps := 2000000) (disch := first | omega | assumption | exact idP rfl | exact idP (bL rfl)) only [go_sem, reduceIte, Nat.reduceEqDiff, wpV_kd, wpV_tH, h]) | skip)) | ((with_reducible refine (t_l1Held).mono ?_); rintro _ _ ⟨rfl, rfl⟩) | ((with_reducible refine (t_l1Truth).mono ?_); rintro _ _ ⟨rfl, rfl⟩) | (with_reducible intro bk hbk; try have hnk := (fresh_set hbk).1) | (simp (maxSteps := 2000000) (disch := first | omega | assumption | exact idP rfl | exact idP (bL rfl)) only [go_sem, reduceIte, Nat.reduceEqDiff, wpV_kd, wpV_tH])))
  all_goals refine hR _ _ (sB) (eqI ?_)
  all_goals unfold do1
  all_goals try (simp (config := { decide := true }) only [*, if_true, if_false]; done)
  all_goals simp only [*, decide_eq_true_eq, if_false, if_true, if_pos, if_neg, not_false_eq_true]
  all_goals try (simp; done)
  all_goals first
    | (obtain ⟨h1 | h1, h2 | h2⟩ := tr (by omega) <;> subst h1 h2 <;> first | decide | simp)
    | skip
theorem DoOk.of {vars : Int} {ts : List TermS} {ks state : List Int} {i : Nat} (hk : kindsGo vars ts [] = some ks) (hs : stOk state) (hv : vars ≤ (state.length : Int)) (hi : i < ts.length) (h0 : ¬ ts[i].op = 0) (h1 : ¬ ts[i].op = 1) :
    DoOk ts[i].op (ix (valsF state (ts.take i)) ts[i].a) (ix (valsF state (ts.take i)) ts[i].b) ∧ (0 ≤ ts[i].a ∧ ts[i].a < i) ∧ (0 ≤ ts[i].b ∧ ts[i].b < i) := by
  obtain ⟨hl, hat⟩ := kindsGo_at hk
  obtain ⟨q1, q2⟩ := hat i hi (by omega)
  have q3 : kind1 vars ts[i] (ks.take i) ≠ 0 := by rw [q1]; exact q2
  unfold kind1 at q3
  rw [if_neg h0, if_neg h1] at q3
  split at q3
  · rename_i hc
    obtain ⟨c1, c2, c3, c4, c5, c6, c7, c8⟩ := hc
    have hkl : (ks.take i).length = i := by simp; omega
    rw [hkl] at c4 c5
    have hkt : kindsGo vars (ts.take i) [] = some (ks.take i) := by
      have e := hk
      rw [← List.take_append_drop i ts, kindsGo_append] at e
      cases h2 : kindsGo vars (ts.take i) [] with
      | none => rw [h2] at e; cases e
      | some ks0 =>
        rw [h2] at e
        have h3 := (kindsGo_len (show kindsGo vars (ts.drop i) ks0 = some ks from e)).2
        have h4 := (kindsGo_len h2).1
        simp at h4
        rw [show ks0.length = i by omega] at h3
        rw [h3]
    have V := vals_ok hs hv _ (l := ts.take i) (ks := ks.take i) rfl hkt
    have hvl : (valsF state (ts.take i)).length = i := by rw [valsF_len]; simp; omega
    obtain ⟨ha, ea⟩ := ix_eq (l := valsF state (ts.take i)) (i := ts[i].a) c4.1 (by omega)
    obtain ⟨hb, eb⟩ := ix_eq (l := valsF state (ts.take i)) (i := ts[i].b) c5.1 (by omega)
    obtain ⟨ha', ea'⟩ := ix_eq (l := ks.take i) (i := ts[i].a) c4.1 (by omega)
    obtain ⟨hb', eb'⟩ := ix_eq (l := ks.take i) (i := ts[i].b) c5.1 (by omega)
    have A := V _ ha ha'
    have B := V _ hb hb'
    rw [← ea, ← ea', c6] at A
    rw [← eb, ← eb', c7] at B
    refine ⟨⟨c1, c2, A.1, A.2.1, B.1, B.2.1, fun h8 => ?_⟩, c4, c5⟩
    unfold wantK at A B
    rw [if_pos (by omega)] at A B
    have A2 := A.2.2 rfl
    have B2 := B.2.2 rfl
    omega
  · exact absurd rfl q3
theorem varOk_of {vars : Int} {ts : List TermS} {ks : List Int} {i : Nat} (hk : kindsGo vars ts [] = some ks) (hi : i < ts.length) (h1 : ts[i].op = 1) : 0 ≤ ts[i].n ∧ ts[i].n < vars := by
  obtain ⟨hl, hat⟩ := kindsGo_at hk
  obtain ⟨q1, q2⟩ := hat i hi (by omega)
  have q3 : kind1 vars ts[i] (ks.take i) ≠ 0 := by rw [q1]; exact q2
  unfold kind1 at q3
  rw [if_neg (by omega), if_pos h1] at q3
  split at q3
  · rename_i hc; exact ⟨hc.1, hc.2.1⟩
  · exact absurd rfl q3
theorem t_l1Values {v w : V} {ts : List TermS} {state ks : List Int} {vars : Int} (hv : LT v ts) (hw : LI w state) (hk : kindsF vars ts = some ks) (hs : stOk state) (hvs : vars ≤ (state.length : Int)) :
    VCall Try.prog n_spec_l1Values [v, w] M (fun r M' => Gr 1 M M' r ((valsF state ts).map vi)) := by
  obtain ⟨_, _, k1, k2, hk, _⟩ := kindsF_some hk
  refine VCall.plain fun R hR => v_spec_l1Values rfl ?_
  (repeat' (first | ((with_reducible first | refine cond_dec (fun h => ?_) (fun h => ?_) | refine guardK_dec (fun h => ?_) (fun h => ?_) | refine guardD3_dec (fun h => ?_) (fun h => ?_)) <;> first | (exfalso; omega) | (simp (maxSteps := 2000000) (disch := first | omega | assumption | exact idP rfl | exact idP (bL rfl)) only [go_sem, reduceIte, Nat.reduceEqDiff, wpV_kd, wpV_tH, h]) | skip) | ((with_reducible first | refine cond_split (fun h => ?_) (fun h => ?_) | refine guardK_split (fun h => ?_) (fun h => ?_) | refine guardD3_split (fun h => ?_) (fun h => ?_)) <;> ((try simp only [Bool.not_eq_true', Bool.not_eq_false'] at h); first | (simp (maxSteps := 2000000) (disch := first | omega | assumption | exact idP rfl | exact idP (bL rfl)) only [go_sem, reduceIte, Nat.reduceEqDiff, wpV_kd, wpV_tH, h]) | skip)) | (with_reducible intro bk hbk; try have hnk := (fresh_set hbk).1) | (simp (maxSteps := 2000000) (disch := first | omega | assumption | exact idP rfl | exact idP (bL rfl)) only [go_sem, reduceIte, Nat.reduceEqDiff, wpV_kd, wpV_tH])))
  refine loop_k (fun e M' => ∃ i : Nat, i ≤ ts.length ∧ e 0 = v ∧ e 1 = w ∧ e 6 = .sc (.int .i64 i) ∧ Gr 1 M M' (e 5) ((valsF state (ts.take i)).map vi)) (fun e _ => ctrV ts.length (e 6)) ?_ ?_
  · exact ⟨0, by omega, sT0, sT0, by refine sS0 ?_; rfl, by refine sS0 ?_; exact Gr.new' (Sub.refl _) (by assumption) rfl⟩
  · rintro e M1 ⟨i, hi, e0, e1, e6, hg⟩ K hK
    refine sS4 @e0 @e1 @e6 @hv.len ?_
    refine cond_dec (fun h => ?_) (fun h => ?_)
    · have hi' : i < ts.length := by omega
      have hvl : (valsF state (ts.take i)).length = i := by rw [valsF_len]; simp; omega
      have fin : ∀ s' M', Gr 1 M M' s' ((valsF state (ts.take i) ++ [val1 state ts[i] (valsF state (ts.take i))]).map vi) → Gr 1 M M' s' ((valsF state (ts.take (i + 1))).map vi) := fun s' M' h => by rw [valsF_take hi']; exact h
      simp (maxSteps := 2000000) (disch := first | omega | assumption | exact idP rfl | exact idP (bL rfl)) only [go_sem, reduceIte, Nat.reduceEqDiff, wpV_kd, wpV_tH, e0, e1, e6, hv.iaddr, LT.at hv hi', encT_eq]
      intro b7 hb7
      have hg1 := hg.more ((Sub.refl M1).set (l := [.sc (.int .i64 ts[i].op), .sc (.int .i64 ts[i].n), .sc (.int .i64 ts[i].a), .sc (.int .i64 ts[i].b)]) hb7)
      refine cond_dec (fun h0 => ?_) (fun h0 => ?_)
      · refine sS0 ?_
        intro bt hbt
        refine app_int hg1 hbt (by omega) (by omega) ?_
        intro s' M' hg' _
        refine sS0 ?_
        refine hK _ _ ⟨i + 1, by omega, sT0, sT0, by refine sS0 ?_; rfl, ?_⟩ (by refine sS2 @ctrV_int @e6 ?_; omega)
        refine sS0 ?_
        refine fin _ _ ?_
        rw [show val1 state ts[i] (valsF state (ts.take i)) = ts[i].n by simp [val1, h0]]
        exact hg'
      · refine sS0 ?_
        refine cond_dec (fun h1 => ?_) (fun h1 => ?_)
        · have hn := varOk_of hk hi' h1
          refine sS2 @hw.iaddr @hw.ix ?_
          intro bt hbt
          refine app_int hg1 hbt (by omega) (by omega) ?_
          intro s' M' hg' _
          refine sS0 ?_
          refine hK _ _ ⟨i + 1, by omega, sT0, sT0, by refine sS0 ?_; rfl, ?_⟩ (by refine sS2 @ctrV_int @e6 ?_; omega)
          refine sS0 ?_
          refine fin _ _ ?_
          rw [show val1 state ts[i] (valsF state (ts.take i)) = ix state ts[i].n by simp [val1, h0, h1]]
          exact hg'
        · obtain ⟨hd, ha, hb⟩ := DoOk.of hk hs hvs hi' h0 h1
          have hat := hg1.at (by rw [len_vi]; omega)
          have hne : oB (e 5) ≠ b7 := fun hh => by
            have := hg.at (by rw [len_vi]; omega)
            rw [hh, hb7] at this; cases this
          rw [set_ne hne] at hat
          have hia : ∀ {k : IntKind} {a : Int}, 0 ≤ a → a < (i : Int) → iaddrV 1 (e 5) (.int k a) = some (.sc (.ptr (some (oB (e 5), a.toNat)))) := fun q1 q2 => hg.own.iaddr q1 (by rw [len_vi, hvl]; exact q2)
          simp (maxSteps := 2000000) (disch := first | omega | assumption | exact idP rfl | exact idP (bL rfl)) only [go_sem, reduceIte, Nat.reduceEqDiff, wpV_kd, wpV_tH, hia, hat, nth_ix]
          refine (t_l1Do hd).mono ?_
          rintro _ _ ⟨rfl, rfl⟩
          simp (maxSteps := 2000000) (disch := first | omega | assumption | exact idP rfl | exact idP (bL rfl)) only [go_sem, reduceIte, Nat.reduceEqDiff, wpV_kd, wpV_tH, hia, hat, nth_ix]
          intro bt hbt
          refine app_int hg1 hbt (by omega) (by omega) ?_
          intro s' M' hg' _
          refine sS0 ?_
          refine hK _ _ ⟨i + 1, by omega, sT0, sT0, by refine sS0 ?_; rfl, ?_⟩ (by refine sS2 @ctrV_int @e6 ?_; omega)
          refine sS0 ?_
          refine fin _ _ ?_
          rw [show val1 state ts[i] (valsF state (ts.take i)) = do1 ts[i].op (ix (valsF state (ts.take i)) ts[i].a) (ix (valsF state (ts.take i)) ts[i].b) by simp [val1, h0, h1]]
          exact hg'
    · obtain rfl : i = ts.length := by omega
      rw [List.take_length] at hg
      refine sS0 ?_
      exact hR _ _ hg
theorem f_l1Values {v w : V} {ts : List TermS} {state ks : List Int} {vars : Int} (hv : LT v ts) (hw : LI w state) (hk : kindsF vars ts = some ks) (hs : stOk state) (hvs : vars ≤ (state.length : Int)) :
    VCall Try.prog n_spec_l1Values [v, w] M (fun r M' => M = M' ∧ LI r (valsF state ts)) := (VCall.fr1 (t_l1Values hv hw hk hs hvs)).mono fun r M' ⟨h1, h2⟩ => ⟨h1, h2.li⟩
theorem evalF_eq {ts : List TermS} {state : List Int} (h : 0 < ts.length) : evalF ts state = (valsF state ts)[ts.length - 1]'(by rw [valsF_len]; omega) := by
  unfold evalF
  rw [getLastD_eq (by rw [valsF_len]; exact h)]
  congr 1
  rw [valsF_len]
theorem t_l2Last {v w : V} {ts : List TermS} {state ks : List Int} {vars : Int} (hv : LT v ts) (hw : LI w state) (hk : kindsF vars ts = some ks) (hs : stOk state) (hvs : vars ≤ (state.length : Int)) :
    VCall Try.prog n_spec_l2Last [v, w] M (fun r M' => M = M' ∧ r = .sc (.int .i64 (evalF ts state))) := by
  obtain ⟨_, _, k1, k2, _, _⟩ := kindsF_some hk
  refine VCall.pure fun R hR => v_spec_l2Last rfl ?_
  refine sS0 ?_
  refine (f_l1Values hv hw hk hs hvs).mono ?_
  rintro r _ ⟨rfl, hr⟩
  have e1 : ((ts.length : Int) - 1).toNat = ts.length - 1 := by omega
  have hl := valsF_len state ts
  refine sS4 @hv.len @hr.iaddr @e1 @hr.at ?_
  exact hR _ _ (sB) (by rw [evalF_eq (by omega)])
end Go.M2

namespace Go.M2
open Go.Proofs
variable {M : MH}
theorem t_l2In {a b w : V} {vars : List VarS} {st : List Int} (ha : LVar a vars) (hw : LI w st) (hvl : vars.length ≤ 5) : VCall Try.prog n_spec_l2In [.agg [a, b], w] M (fun r M' => M = M' ∧ r = .sc (.bool (inB vars st))) := by
  refine VCall.pure fun R hR => v_spec_l2In rfl ?_
  (repeat' (first | ((with_reducible first | refine cond_dec (fun h => ?_) (fun h => ?_) | refine guardK_dec (fun h => ?_) (fun h => ?_) | refine guardD3_dec (fun h => ?_) (fun h => ?_)) <;> first | (exfalso; omega) | (simp (maxSteps := 2000000) (disch := first | omega | assumption | exact idP rfl | exact idP (bL rfl)) only [go_sem, reduceIte, Nat.reduceEqDiff, wpV_kd, wpV_tH, h, ha.len, hw.len]) | skip) | ((with_reducible first | refine cond_split (fun h => ?_) (fun h => ?_) | refine guardK_split (fun h => ?_) (fun h => ?_) | refine guardD3_split (fun h => ?_) (fun h => ?_)) <;> ((try simp only [Bool.not_eq_true', Bool.not_eq_false'] at h); first | (simp (maxSteps := 2000000) (disch := first | omega | assumption | exact idP rfl | exact idP (bL rfl)) only [go_sem, reduceIte, Nat.reduceEqDiff, wpV_kd, wpV_tH, h, ha.len, hw.len]) | skip)) | (with_reducible intro bk hbk; try have hnk := (fresh_set hbk).1) | (simp (maxSteps := 2000000) (disch := first | omega | assumption | exact idP rfl | exact idP (bL rfl)) only [go_sem, reduceIte, Nat.reduceEqDiff, wpV_kd, wpV_tH, ha.len, hw.len])))
  · refine hR _ _ (sB) ?_
    rw [(inB_false _ _).2 (fun hh => by have := hh.1; omega)]
  · have hlen : st.length = vars.length := by omega
    refine loop_k (fun e M' => M' = M.set bk [a, b] ∧ ∃ i : Nat, i ≤ st.length ∧ e 1 = w ∧ e 2 = .sc (.ptr (some (bk, 0))) ∧ e 5 = .sc (.int .i64 i) ∧ ∀ j (hj : j < vars.length) (h2 : j < st.length), j < i → vars[j].low ≤ st[j] ∧ st[j] ≤ vars[j].high) (fun e _ => ctrV st.length (e 5)) ?_ ?_
    · exact ⟨rfl, 0, by omega, sT0, sT0, by refine sS0 ?_; rfl, fun j _ _ h => by omega⟩
    · rintro e _ ⟨rfl, i, hi, e1, e2, e5, hj⟩ K hK
      refine sS4 @e1 @e2 @e5 @hw.len ?_
      refine cond_dec (fun h => ?_) (fun h => ?_)
      · have hi' : i < vars.length := by omega
        have hi2 : i < st.length := by omega
        (repeat' (first | ((with_reducible first | refine cond_dec (fun h => ?_) (fun h => ?_) | refine guardK_dec (fun h => ?_) (fun h => ?_) | refine guardD3_dec (fun h => ?_) (fun h => ?_)) <;> first | (exfalso; omega) | (simp (maxSteps := 2000000) (disch := first | omega | assumption | exact idP rfl | exact idP (bL rfl)) only [go_sem, reduceIte, Nat.reduceEqDiff, wpV_kd, wpV_tH, h, e1, e2, e5, ha.iaddr, LVar.at ha hi', hw.iaddr, LI.at hw hi2]) | skip) | ((with_reducible first | refine cond_split (fun h => ?_) (fun h => ?_) | refine guardK_split (fun h => ?_) (fun h => ?_) | refine guardD3_split (fun h => ?_) (fun h => ?_)) <;> ((try simp only [Bool.not_eq_true', Bool.not_eq_false'] at h); first | (simp (maxSteps := 2000000) (disch := first | omega | assumption | exact idP rfl | exact idP (bL rfl)) only [go_sem, reduceIte, Nat.reduceEqDiff, wpV_kd, wpV_tH, h, e1, e2, e5, ha.iaddr, LVar.at ha hi', hw.iaddr, LI.at hw hi2]) | skip)) | ((with_reducible refine (t_l1In).mono ?_); rintro _ _ ⟨rfl, rfl⟩) | (with_reducible intro bk hbk; try have hnk := (fresh_set hbk).1) | (simp (maxSteps := 2000000) (disch := first | omega | assumption | exact idP rfl | exact idP (bL rfl)) only [go_sem, reduceIte, Nat.reduceEqDiff, wpV_kd, wpV_tH, e1, e2, e5, ha.iaddr, LVar.at ha hi', hw.iaddr, LI.at hw hi2])))
        · refine hR _ _ (sB) ?_
          rw [(inB_false _ _).2 (fun hh => by have := hh.2 i hi' hi2; omega)]
        · refine hK _ _ ⟨rfl, i + 1, by omega, sT0, sT0, by refine sS0 ?_; rfl, fun j hj1 hj2 hj3 => ?_⟩ (by refine sS2 @ctrV_int @e5 ?_; omega)
          by_cases hji : j = i
          · subst hji; omega
          · exact hj j hj1 hj2 (by omega)
      · refine sS0 ?_
        refine hR _ _ (sB) ?_
        rw [(inB_iff _ _).2 ⟨hlen, fun j h1 h2 => hj j h1 h2 (by omega)⟩]
theorem t_l3Copy {v : V} {xs : List Int} (hv : LI v xs) (hl : xs.length ≤ 1048576) : VCall Try.prog n_spec_l3Copy [v] M (fun r M' => Gr 1 M M' r (xs.map vi)) := by
  refine VCall.plain fun R hR => v_spec_l3Copy rfl ?_
  (repeat' (first | ((with_reducible first | refine cond_dec (fun h => ?_) (fun h => ?_) | refine guardK_dec (fun h => ?_) (fun h => ?_) | refine guardD3_dec (fun h => ?_) (fun h => ?_)) <;> first | (exfalso; omega) | (simp (maxSteps := 2000000) (disch := first | omega | assumption | exact idP rfl | exact idP (bL rfl)) only [go_sem, reduceIte, Nat.reduceEqDiff, wpV_kd, wpV_tH, h]) | skip) | ((with_reducible first | refine cond_split (fun h => ?_) (fun h => ?_) | refine guardK_split (fun h => ?_) (fun h => ?_) | refine guardD3_split (fun h => ?_) (fun h => ?_)) <;> ((try simp only [Bool.not_eq_true', Bool.not_eq_false'] at h); first | (simp (maxSteps := 2000000) (disch := first | omega | assumption | exact idP rfl | exact idP (bL rfl)) only [go_sem, reduceIte, Nat.reduceEqDiff, wpV_kd, wpV_tH, h]) | skip)) | (with_reducible intro bk hbk; try have hnk := (fresh_set hbk).1) | (simp (maxSteps := 2000000) (disch := first | omega | assumption | exact idP rfl | exact idP (bL rfl)) only [go_sem, reduceIte, Nat.reduceEqDiff, wpV_kd, wpV_tH])))
  refine loop_k (fun e M' => ∃ i : Nat, i ≤ xs.length ∧ e 0 = v ∧ e 4 = .sc (.int .i64 i) ∧ Gr 1 M M' (e 3) ((xs.take i).map vi)) (fun e _ => ctrV xs.length (e 4)) ?_ ?_
  · exact ⟨0, by omega, sT0, by refine sS0 ?_; rfl, by refine sS0 ?_; exact Gr.new' (Sub.refl _) (by assumption) rfl⟩
  · rintro e M1 ⟨i, hi, e0, e4, hg⟩ K hK
    refine sS3 @e0 @e4 @hv.len ?_
    refine cond_dec (fun h => ?_) (fun h => ?_)
    · have hi' : i < xs.length := by omega
      refine sS4 @e0 @e4 @hv.iaddr @hv.at ?_
      intro bt hbt
      refine app_int hg hbt (by simp; omega) (by omega) ?_
      intro s' M' hg' _
      refine sS0 ?_
      exact hK _ _ ⟨i + 1, by omega, sT0, by refine sS0 ?_; rfl, by refine sS0 ?_; rw [take_snoc hi']; exact hg'⟩ (by refine sS2 @ctrV_int @e4 ?_; omega)
    · obtain rfl : i = xs.length := by omega
      rw [List.take_length] at hg
      refine sS0 ?_
      exact hR _ _ hg
theorem t_SizeOf {v : V} {s : SysS} (hv : isSys s v) (hs : SysOk s) : VCall Try.prog n_spec_SizeOf [v] M (fun r M' => M = M' ∧ r = .sc (.int .i64 (sizeF s.vars))) := by
  refine VCall.pure fun R hR => v_spec_SizeOf rfl ?_
  have hv0 := hv
  obtain ⟨a, b, rfl, ha, hb⟩ := hv
  have h1 := hs.v1
  have h5 := hs.v5
  (repeat' (first | ((with_reducible first | refine cond_dec (fun h => ?_) (fun h => ?_) | refine guardK_dec (fun h => ?_) (fun h => ?_) | refine guardD3_dec (fun h => ?_) (fun h => ?_)) <;> first | (exfalso; omega) | (simp (maxSteps := 2000000) (disch := first | omega | assumption | exact idP rfl | exact idP (bL rfl)) only [go_sem, reduceIte, Nat.reduceEqDiff, wpV_kd, wpV_tH, h, (sysB_iff s).2 hs]) | skip) | ((with_reducible first | refine cond_split (fun h => ?_) (fun h => ?_) | refine guardK_split (fun h => ?_) (fun h => ?_) | refine guardD3_split (fun h => ?_) (fun h => ?_)) <;> ((try simp only [Bool.not_eq_true', Bool.not_eq_false'] at h); first | (simp (maxSteps := 2000000) (disch := first | omega | assumption | exact idP rfl | exact idP (bL rfl)) only [go_sem, reduceIte, Nat.reduceEqDiff, wpV_kd, wpV_tH, h, (sysB_iff s).2 hs]) | skip)) | ((with_reducible refine (t_SystemValidS hv0).mono ?_); rintro _ _ ⟨rfl, rfl⟩) | (with_reducible intro bk hbk; try have hnk := (fresh_set hbk).1) | (simp (maxSteps := 2000000) (disch := first | omega | assumption | exact idP rfl | exact idP (bL rfl)) only [go_sem, reduceIte, Nat.reduceEqDiff, wpV_kd, wpV_tH, (sysB_iff s).2 hs])))
  refine loop_k (fun e M' => M' = M.set bk [a, b] ∧ ∃ i : Nat, i ≤ s.vars.length ∧ e 1 = .sc (.ptr (some (bk, 0))) ∧ e 3 = .sc (.int .i64 (sizeF (s.vars.take i))) ∧ e 4 = .sc (.int .i64 i)) (fun e _ => ctrV s.vars.length (e 4)) ?_ ?_
  · exact ⟨rfl, 0, by omega, sT0, by refine sS0 ?_; simp [sizeF], by refine sS0 ?_; rfl⟩
  · rintro e _ ⟨rfl, i, hi, e1, e3, e4⟩ K hK
    have hbd := sizeF_take_bd (vs := s.vars) (i := i) (by omega) (fun j hj _ => hs.vars _ (List.getElem_mem hj))
    refine sS4 @e1 @e3 @e4 @ha.len ?_
    refine cond_dec (fun h => ?_) (fun h => ?_)
    · have hi' : i < s.vars.length := by omega
      have hbd2 := sizeF_take_bd (vs := s.vars) (i := i + 1) (by omega) (fun j hj _ => hs.vars _ (List.getElem_mem hj))
      have hsz := sizeF_take hi'
      rw [hsz] at hbd2
      have hok := hs.vars _ (List.getElem_mem hi')
      unfold VarOk at hok
      simp (maxSteps := 2000000) (disch := first | omega | assumption | exact idP rfl | exact idP (bL rfl)) only [go_sem, reduceIte, Nat.reduceEqDiff, wpV_kd, wpV_tH, e1, e3, e4, ha.iaddr, LVar.at ha hi']
      exact hK _ _ ⟨rfl, i + 1, by omega, sT0, by refine sS0 ?_; rw [hsz], by refine sS0 ?_; rfl⟩ (by refine sS2 @ctrV_int @e4 ?_; omega)
    · obtain rfl : i = s.vars.length := by omega
      refine sS1 @e3 ?_
      exact hR _ _ (sB) (by rw [List.take_length])
theorem t_FirstState {v : V} {s : SysS} (hv : isSys s v) (hs : SysOk s) : VCall Try.prog n_spec_FirstState [v] M (fun r M' => Gr 1 M M' r ((firstF s).map vi)) := by
  refine VCall.plain fun R hR => v_spec_FirstState rfl ?_
  have hv0 := hv
  obtain ⟨a, b, rfl, ha, hb⟩ := hv
  have h1 := hs.v1
  have h5 := hs.v5
  (repeat' (first | ((with_reducible first | refine cond_dec (fun h => ?_) (fun h => ?_) | refine guardK_dec (fun h => ?_) (fun h => ?_) | refine guardD3_dec (fun h => ?_) (fun h => ?_)) <;> first | (exfalso; omega) | (simp (maxSteps := 2000000) (disch := first | omega | assumption | exact idP rfl | exact idP (bL rfl)) only [go_sem, reduceIte, Nat.reduceEqDiff, wpV_kd, wpV_tH, h]) | skip) | ((with_reducible first | refine cond_split (fun h => ?_) (fun h => ?_) | refine guardK_split (fun h => ?_) (fun h => ?_) | refine guardD3_split (fun h => ?_) (fun h => ?_)) <;> ((try simp only [Bool.not_eq_true', Bool.not_eq_false'] at h); first | (simp (maxSteps := 2000000) (disch := first | omega | assumption | exact idP rfl | exact idP (bL rfl)) only [go_sem, reduceIte, Nat.reduceEqDiff, wpV_kd, wpV_tH, h]) | skip)) | (with_reducible intro bk hbk; try have hnk := (fresh_set hbk).1) | (simp (maxSteps := 2000000) (disch := first | omega | assumption | exact idP rfl | exact idP (bL rfl)) only [go_sem, reduceIte, Nat.reduceEqDiff, wpV_kd, wpV_tH])))
  rename_i bb hbb
  refine loop_k (fun e M' => ∃ i : Nat, i ≤ s.vars.length ∧ e 1 = .sc (.ptr (some (bb, 0))) ∧ e 4 = .sc (.int .i64 i) ∧ Gr 1 (M.set bb [a, b]) M' (e 3) (((s.vars.take i).map (·.first)).map vi)) (fun e _ => ctrV s.vars.length (e 4)) ?_ ?_
  · exact ⟨0, by omega, sT0, by refine sS0 ?_; rfl, by refine sS0 ?_; exact Gr.new' (Sub.refl _) hbk rfl⟩
  · rintro e M1 ⟨i, hi, e1, e4, hg⟩ K hK
    have hm : M1 bb = some [a, b] := hg.sub _ _ set_same
    refine sS4 @e1 @e4 @hm @ha.len ?_
    by_cases h : i < s.vars.length
    · have hd : decide ((i : Int) < (s.vars.length : Int)) = true := by simpa using h
      refine sS2 @hd @hm ?_
      refine (t_SystemValidS hv0).mono ?_
      rintro _ _ ⟨rfl, rfl⟩
      simp (maxSteps := 2000000) (disch := first | omega | assumption | exact idP rfl | exact idP (bL rfl)) only [go_sem, reduceIte, Nat.reduceEqDiff, wpV_kd, wpV_tH, (sysB_iff s).2 hs, hd, hm, e4, ha.iaddr, LVar.at ha h]
      intro bt hbt
      refine app_int hg hbt (by simp; omega) (by omega) ?_
      intro s' M' hg' _
      refine sS0 ?_
      refine hK _ _ ⟨i + 1, by omega, sT0, by refine sS0 ?_; rfl, ?_⟩ (by refine sS2 @ctrV_int @e4 ?_; omega)
      refine sS0 ?_
      rw [take_snoc h, List.map_append]
      exact hg'
    · have hd : decide ((i : Int) < (s.vars.length : Int)) = false := by simpa using h
      obtain rfl : i = s.vars.length := by omega
      refine sS1 @hd ?_
      refine hR _ _ ?_
      rw [List.take_length] at hg
      exact ⟨((Sub.refl M).set hbb).trans hg.sub, fun b' h' => by
        have := hg.new b' h'
        exact ((Sub.refl M).set (l := [a, b]) hbb).none this, hg.own⟩
end Go.M2

namespace Go.M2
open Go.Proofs
variable {M : MH}
theorem getD_eq {α : Type} {l : List α} {i : Nat} {d : α} (h : i < l.length) : l.getD i d = l[i] := by simp [List.getD, h]
def lRes (r : V) : Option (List Int) → Prop
  | none => r = .sc (.sl none 0 0 true 0)
  | some xs => LI r xs
theorem kind_some {vars kind : Int} {ts : List TermS} (h : kindIs vars kind ts = true) : ∃ ks, kindsF vars ts = some ks := by
  unfold kindIs at h
  split at h
  · exact ⟨_, by assumption⟩
  · cases h
theorem t_l2Use {v w : V} {s : SysS} {st : List Int} {k : Nat} (hv : isSys s v) (hs : SysOk s) (hw : LI w st) (hin : StIn s.vars st) (hk : k < s.rules.length) :
    VCall Try.prog n_spec_l2Use [v, w, .sc (.int .i64 k)] M (fun r M' => M = M' ∧ lRes r (useR s.vars s.rules[k] st)) := by
  refine VCall.froz fun R hP hG => v_spec_l2Use rfl ?_
  obtain ⟨a, b, rfl, ha, hb⟩ := hv
  obtain ⟨x, y, z, hat, hx, hy, hz⟩ := hb.elt hk
  have h1 := hs.v1
  have h5 := hs.v5
  have hl := hin.1
  have hok := hin.ok hs
  obtain ⟨hw2, hst, hsets⟩ := hs.rules _ (List.getElem_mem hk)
  obtain ⟨kw, hkw⟩ := kind_some hw2
  have hx1 := hx.one.1
  have hy1 := hy.one.1
  have hz1 := hz.one.1
  (repeat' (first | ((with_reducible first | refine cond_dec (fun h => ?_) (fun h => ?_) | refine guardK_dec (fun h => ?_) (fun h => ?_) | refine guardD3_dec (fun h => ?_) (fun h => ?_)) <;> first | (exfalso; omega) | (simp (maxSteps := 2000000) (disch := first | omega | assumption | exact idP rfl | exact idP (bL rfl)) only [go_sem, reduceIte, Nat.reduceEqDiff, wpV_kd, wpV_tH, h, hb.len, hb.iaddr, hat]) | skip) | ((with_reducible first | refine cond_split (fun h => ?_) (fun h => ?_) | refine guardK_split (fun h => ?_) (fun h => ?_) | refine guardD3_split (fun h => ?_) (fun h => ?_)) <;> ((try simp only [Bool.not_eq_true', Bool.not_eq_false'] at h); first | (simp (maxSteps := 2000000) (disch := first | omega | assumption | exact idP rfl | exact idP (bL rfl)) only [go_sem, reduceIte, Nat.reduceEqDiff, wpV_kd, wpV_tH, h, hb.len, hb.iaddr, hat]) | skip)) | ((with_reducible refine (t_l2Last hx hw hkw hok (by omega)).mono ?_); rintro _ _ ⟨rfl, rfl⟩) | (with_reducible intro bk hbk; try have hnk := (fresh_set hbk).1) | (simp (maxSteps := 2000000) (disch := first | omega | assumption | exact idP rfl | exact idP (bL rfl)) only [go_sem, reduceIte, Nat.reduceEqDiff, wpV_kd, wpV_tH, hb.len, hb.iaddr, hat])))
  · refine hP _ _ (sB) ?_
    rename_i h
    simp only [useR, h, if_true, lRes]
  · rename_i b3 hb3 b7 hb7 hne7
    have hev := h
    refine loop_k (fun e M' => ∃ i : Nat, i ≤ st.length ∧ e 1 = w ∧ e 3 = .sc (.ptr (some (b3, 0))) ∧ e 7 = .sc (.ptr (some (b7, 0))) ∧ e 9 = .sc (.int .i64 i) ∧ Gr 1 ((M.set b3 [a, b]).set b7 [x, y, z]) M' (e 8) ((st.take i).map vi)) (fun e _ => ctrV st.length (e 9)) ?_ ?_
    · exact ⟨0, by omega, sT0, sT0, sT0, by refine sS0 ?_; rfl, by refine sS0 ?_; exact Gr.new' (Sub.refl _) hbk rfl⟩
    · rintro e M1 ⟨i, hi, e1, e3, e7, e9, hg⟩ K hK
      refine sS5 @e1 @e3 @e7 @e9 @hw.len ?_
      refine cond_dec (fun h => ?_) (fun h => ?_)
      · have hi' : i < st.length := by omega
        refine sS4 @e1 @e9 @hw.iaddr @hw.at ?_
        intro bt hbt
        refine app_int hg hbt (by simp; omega) (by omega) ?_
        intro s' M' hg' _
        refine sS0 ?_
        exact hK _ _ ⟨i + 1, by omega, sT0, sT0, sT0, by refine sS0 ?_; rfl, by refine sS0 ?_; rw [take_snoc hi']; exact hg'⟩ (by refine sS2 @ctrV_int @e9 ?_; omega)
      · obtain rfl : i = st.length := by omega
        rw [List.take_length] at hg
        refine sS0 ?_
        refine loop_k (fun e M' => ∃ i : Nat, i ≤ s.rules[k].sets.length ∧ e 1 = w ∧ e 3 = .sc (.ptr (some (b3, 0))) ∧ e 7 = .sc (.ptr (some (b7, 0))) ∧ e 10 = .sc (.int .i64 i) ∧ Gr 1 ((M.set b3 [a, b]).set b7 [x, y, z]) M' (e 8) ((setsF st s.rules[k].terms s.rules[k].sets i).map vi)) (fun e _ => ctrV s.rules[k].sets.length (e 10)) ?_ ?_
        · exact ⟨0, by omega, sT0, sT0, sT0, by refine sS0 ?_; rfl, by refine sS0 ?_; exact hg⟩
        · rintro e M2 ⟨i, hi, e1, e3, e7, e10, hg⟩ K2 hK2
          have hm3 : M2 b3 = some [a, b] := hg.sub _ _ (sT0)
          have hm7 : M2 b7 = some [x, y, z] := hg.sub _ _ (sT0)
          have hsl := setsF_len st s.rules[k].terms s.rules[k].sets i
          have hle := sets_le hsets (by omega)
          refine sS6 @e1 @e3 @e7 @e10 @hm7 @hy.len ?_
          refine cond_dec (fun h => ?_) (fun h => ?_)
          · have hi' : i < s.rules[k].sets.length := by omega
            have hi2 : i < s.rules[k].terms.length := by omega
            obtain ⟨ki, hki⟩ := kind_some (hsets.kind hi' hi2)
            have hset := (hsets i hi').1
            have hat8 := hg.at (by rw [len_vi]; omega)
            have hia : ∀ {k : IntKind} {a : Int}, 0 ≤ a → a < (st.length : Int) → iaddrV 1 (e 8) (.int k a) = some (.sc (.ptr (some (oB (e 8), a.toNat)))) := fun q1 q2 => hg.own.iaddr q1 (by rw [len_vi, hsl]; exact q2)
            have hso : s.rules[k].sets[i].toNat < ((setsF st s.rules[k].terms s.rules[k].sets i).map vi).length := by rw [len_vi]; omega
            simp (maxSteps := 2000000) (disch := first | omega | assumption | exact idP rfl | exact idP (bL rfl)) only [go_sem, reduceIte, Nat.reduceEqDiff, wpV_kd, wpV_tH, e1, e3, e7, e10, hm7, hy.iaddr, hy.at hi', hz.iaddr]
            refine (t_l2Last (hz.elt hi2) hw hki hok (by omega)).mono ?_
            rintro _ _ ⟨rfl, rfl⟩
            simp (maxSteps := 2000000) (disch := first | omega | assumption | exact idP rfl | exact idP (bL rfl)) only [go_sem, reduceIte, Nat.reduceEqDiff, wpV_kd, wpV_tH, e1, e3, e7, e10, hm7, hy.iaddr, hy.at hi', hz.iaddr, hia, hat8]
            refine hK2 _ _ ⟨i + 1, by omega, sT0, sT0, sT0, by refine sS0 ?_; rfl, ?_⟩ (by refine sS2 @ctrV_int @e10 ?_; omega)
            refine sS0 ?_
            have := hg.setO (l' := (setsF st s.rules[k].terms s.rules[k].sets (i + 1)).map vi) (by rw [len_vi]; omega) (by simp [setsF_len])
            simp only [setsF, getD_eq hi', getD_eq hi2] at this ⊢
            rw [← set_vi] at this ⊢
            exact this
          · obtain rfl : i = s.rules[k].sets.length := by omega
            refine sS1 @hm3 ?_
            refine (VCall.lend1 hg.own flat_eq fun u M' hu => t_l2In ha hu.li (by omega)).mono ?_
            rintro _ _ ⟨rfl, rfl⟩
            have hsub : Sub M ((M.set b3 [a, b]).set b7 [x, y, z]) := sB
            cases hib : inB s.vars (setsF st s.rules[k].terms s.rules[k].sets s.rules[k].sets.length) with
            | false =>
              refine sS0 ?_
              refine hP _ _ (hsub.trans hg.sub) ?_
              simp [useR, hev, hib, lRes]
            | true =>
              refine sS0 ?_
              refine hG _ _ 1 _ ⟨hsub.trans hg.sub, fun b' h' => hsub.none (hg.new b' h'), hg.own⟩ fun u hu => ?_
              have : useR s.vars s.rules[k] st = some (setsF st s.rules[k].terms s.rules[k].sets s.rules[k].sets.length) := by simp [useR, hev, hib]
              rw [this]
              exact hu.li
theorem lessF_take {a b : List Int} {i : Nat} (hi : i ≤ a.length) (hj : i ≤ b.length) (h : a.take i = b.take i) : lessF a b = lessF (a.drop i) (b.drop i) := by
  induction i generalizing a b with
  | zero => simp
  | succ i ih =>
    match a, b, hi, hj with
    | x :: s, y :: t, hi, hj =>
      simp only [List.take_succ_cons, List.cons.injEq] at h
      simp only [lessF, List.drop_succ_cons, if_pos h.1]
      exact ih (by simpa using hi) (by simpa using hj) h.2
theorem t_l2Same {v w : V} {xs ys : List Int} (hv : LI v xs) (hw : LI w ys) (hl : xs.length ≤ 1048576) : VCall Try.prog n_spec_l2Same [v, w] M (fun r M' => M = M' ∧ r = .sc (.bool (decide (xs = ys)))) := by
  refine VCall.pure fun R hR => v_spec_l2Same rfl ?_
  (repeat' (first | ((with_reducible first | refine cond_dec (fun h => ?_) (fun h => ?_) | refine guardK_dec (fun h => ?_) (fun h => ?_) | refine guardD3_dec (fun h => ?_) (fun h => ?_)) <;> first | (exfalso; omega) | (simp (maxSteps := 2000000) (disch := first | omega | assumption | exact idP rfl | exact idP (bL rfl)) only [go_sem, reduceIte, Nat.reduceEqDiff, wpV_kd, wpV_tH, h, hv.len, hw.len]) | skip) | ((with_reducible first | refine cond_split (fun h => ?_) (fun h => ?_) | refine guardK_split (fun h => ?_) (fun h => ?_) | refine guardD3_split (fun h => ?_) (fun h => ?_)) <;> ((try simp only [Bool.not_eq_true', Bool.not_eq_false'] at h); first | (simp (maxSteps := 2000000) (disch := first | omega | assumption | exact idP rfl | exact idP (bL rfl)) only [go_sem, reduceIte, Nat.reduceEqDiff, wpV_kd, wpV_tH, h, hv.len, hw.len]) | skip)) | (with_reducible intro bk hbk; try have hnk := (fresh_set hbk).1) | (simp (maxSteps := 2000000) (disch := first | omega | assumption | exact idP rfl | exact idP (bL rfl)) only [go_sem, reduceIte, Nat.reduceEqDiff, wpV_kd, wpV_tH, hv.len, hw.len])))
  · refine hR _ _ (sB) ?_
    have : ¬ xs = ys := fun e => by subst e; omega
    simp [this]
  · have hlen : xs.length = ys.length := by omega
    refine loop_k (fun e M' => M' = M ∧ ∃ i : Nat, i ≤ xs.length ∧ e 0 = v ∧ e 1 = w ∧ e 5 = .sc (.int .i64 i) ∧ xs.take i = ys.take i) (fun e _ => ctrV xs.length (e 5)) ?_ ?_
    · exact ⟨rfl, 0, by omega, sT0, sT0, by refine sS0 ?_; rfl, rfl⟩
    · rintro e _ ⟨rfl, i, hi, e0, e1, e5, ht⟩ K hK
      refine sS4 @e0 @e1 @e5 @hv.len ?_
      refine cond_dec (fun h => ?_) (fun h => ?_)
      · have hi1 : i < xs.length := by omega
        have hi2 : i < ys.length := by omega
        simp (maxSteps := 2000000) (disch := first | omega | assumption | exact idP rfl | exact idP (bL rfl)) only [go_sem, reduceIte, Nat.reduceEqDiff, wpV_kd, wpV_tH, e0, e1, e5, hv.iaddr, hw.iaddr, hv.at hi1, hw.at hi2]
        refine cond_dec (fun h2 => ?_) (fun h2 => ?_)
        · refine sS0 ?_
          refine hR _ _ (sB) ?_
          have : ¬ xs = ys := fun e => by subst e; exact h2 rfl
          simp [this]
        · refine sS3 @e0 @e1 @e5 ?_
          exact hK _ _ ⟨rfl, i + 1, by omega, sT0, sT0, by refine sS0 ?_; rfl, by rw [take_snoc hi1, take_snoc hi2, ht, Decidable.not_not.1 h2]⟩ (by refine sS2 @ctrV_int @e5 ?_; omega)
      · obtain rfl : i = xs.length := by omega
        refine sS0 ?_
        refine hR _ _ (sB) ?_
        rw [List.take_length, hlen, List.take_length] at ht
        simp [ht]
theorem t_l2Less {v w : V} {xs ys : List Int} (hv : LI v xs) (hw : LI w ys) (hl : xs.length ≤ 1048576) (hl2 : ys.length ≤ 1048576) : VCall Try.prog n_spec_l2Less [v, w] M (fun r M' => M = M' ∧ r = .sc (.bool (lessF xs ys))) := by
  refine VCall.pure fun R hR => v_spec_l2Less rfl ?_
  refine sS0 ?_
  refine loop_k (fun e M' => M' = M ∧ ∃ i : Nat, i ≤ xs.length ∧ i ≤ ys.length ∧ e 0 = v ∧ e 1 = w ∧ e 5 = .sc (.int .i64 i) ∧ xs.take i = ys.take i) (fun e _ => ctrV xs.length (e 5)) ?_ ?_
  · exact ⟨rfl, 0, by omega, by omega, sT0, sT0, by refine sS0 ?_; rfl, rfl⟩
  · rintro e _ ⟨rfl, i, hi, hj, e0, e1, e5, ht⟩ K hK
    have hlt := lessF_take hi hj ht
    (repeat' (first | ((with_reducible first | refine cond_dec (fun h => ?_) (fun h => ?_) | refine guardK_dec (fun h => ?_) (fun h => ?_) | refine guardD3_dec (fun h => ?_) (fun h => ?_)) <;> first | (exfalso; omega) | (simp (maxSteps := 2000000) (disch := first | omega | assumption | exact idP rfl | exact idP (bL rfl)) only [go_sem, reduceIte, Nat.reduceEqDiff, wpV_kd, wpV_tH, h, e0, e1, e5, hv.len, hw.len]) | skip) | ((with_reducible first | refine cond_split (fun h => ?_) (fun h => ?_) | refine guardK_split (fun h => ?_) (fun h => ?_) | refine guardD3_split (fun h => ?_) (fun h => ?_)) <;> ((try simp only [Bool.not_eq_true', Bool.not_eq_false'] at h); first | (simp (maxSteps := 2000000) (disch := first | omega | assumption | exact idP rfl | exact idP (bL rfl)) only [go_sem, reduceIte, Nat.reduceEqDiff, wpV_kd, wpV_tH, h, e0, e1, e5, hv.len, hw.len]) | skip)) | (with_reducible intro bk hbk; try have hnk := (fresh_set hbk).1) | (simp (maxSteps := 2000000) (disch := first | omega | assumption | exact idP rfl | exact idP (bL rfl)) only [go_sem, reduceIte, Nat.reduceEqDiff, wpV_kd, wpV_tH, e0, e1, e5, hv.len, hw.len])))
    · have hi1 : i < xs.length := by omega
      have hi2 : i < ys.length := by omega
      have hd : lessF (xs.drop i) (ys.drop i) = if xs[i] = ys[i] then lessF (xs.drop (i + 1)) (ys.drop (i + 1)) else decide (xs[i] < ys[i]) := by
        rw [List.drop_eq_getElem_cons hi1, List.drop_eq_getElem_cons hi2]; rfl
      simp (maxSteps := 2000000) (disch := first | omega | assumption | exact idP rfl | exact idP (bL rfl)) only [go_sem, reduceIte, Nat.reduceEqDiff, wpV_kd, wpV_tH, e0, e1, e5, hv.iaddr, hw.iaddr, hv.at hi1, hw.at hi2]
      refine cond_dec (fun h2 => ?_) (fun h2 => ?_)
      · simp (maxSteps := 2000000) (disch := first | omega | assumption | exact idP rfl | exact idP (bL rfl)) only [go_sem, reduceIte, Nat.reduceEqDiff, wpV_kd, wpV_tH, e0, e1, e5, hv.iaddr, hw.iaddr, hv.at hi1, hw.at hi2]
        refine hR _ _ (sB) ?_
        rw [hlt, hd, if_neg h2]
      · refine sS3 @e0 @e1 @e5 ?_
        exact hK _ _ ⟨rfl, i + 1, by omega, by omega, sT0, sT0, by refine sS0 ?_; rfl, by rw [take_snoc hi1, take_snoc hi2, ht, Decidable.not_not.1 h2]⟩ (by refine sS2 @ctrV_int @e5 ?_; omega)
    · refine hR _ _ (sB) ?_
      rw [hlt, show ys.drop i = [] by apply List.drop_eq_nil_of_le; omega]
      have : ¬ xs.length < ys.length := by omega
      cases xs.drop i <;> simp [lessF] <;> omega
    · refine hR _ _ (sB) ?_
      obtain rfl : i = xs.length := by omega
      rw [hlt, List.drop_length]
      by_cases h3 : xs.length < ys.length
      · rw [List.drop_eq_getElem_cons h3]
        simp [lessF]; omega
      · rw [show ys.drop xs.length = [] by apply List.drop_eq_nil_of_le; omega]
        simp [lessF]; omega
end Go.M2

namespace Go.M2
open Go.Proofs
variable {M : MH}
theorem t_do {op a b : Int} (h : DoOk op a b) : VCall Try.prog n_impl_do [.sc (.int .i64 op), .sc (.int .i64 a), .sc (.int .i64 b)] M (fun r M' => M = M' ∧ r = .sc (.int .i64 (do1 op a b))) := by
  refine VCall.pure fun R hR => v_impl_do rfl ?_
  obtain ⟨o2, o9, a1, a2, b1, b2, tr⟩ := h
  have hm := mul_bd a1 a2 b1 b2
  (repeat' (first | ((with_reducible first | refine cond_dec (fun h => ?_) (fun h => ?_) | refine guardK_dec (fun h => ?_) (fun h => ?_) | refine guardD3_dec (fun h => ?_) (fun h => ?_)) <;> first | (exfalso; omega) | (simp (maxSteps := 2000000) (disch := first | omega | assumption | exact idP rfl | exact idP (bL rfl)) only [go_sem, reduceIte, Nat.reduceEqDiff, wpV_kd, wpV_tH, h]) | skip) | ((with_reducible first | refine cond_split (fun h => ?_) (fun h => ?_) | refine guardK_split (fun h => ?_) (fun h => ?_) | refine guardD3_split (fun h => ?_) (fun h => ?_)) <;> ((try simp only [Bool.not_eq_true', Bool.not_eq_false'] at h); first | (simp (maxSteps := 2000000) (disch := first | omega | assumption | exact idP rfl | exact idP (bL rfl)) only [go_sem, reduceIte, Nat.reduceEqDiff, wpV_kd, wpV_tH, h]) | skip)) | ((with_reducible refine (t_held).mono ?_); rintro _ _ ⟨rfl, rfl⟩) | ((with_reducible refine (t_bit).mono ?_); rintro _ _ ⟨rfl, rfl⟩) | (with_reducible intro bk hbk; try have hnk := (fresh_set hbk).1) | (simp (maxSteps := 2000000) (disch := first | omega | assumption | exact idP rfl | exact idP (bL rfl)) only [go_sem, reduceIte, Nat.reduceEqDiff, wpV_kd, wpV_tH])))
  all_goals refine hR _ _ (sB) (eqI ?_)
  all_goals unfold do1
  all_goals try (simp (config := { decide := true }) only [*, if_true, if_false]; done)
  all_goals simp only [*, decide_eq_true_eq, if_false, if_true, if_pos, if_neg, not_false_eq_true]
  all_goals try (simp; done)
  all_goals rw [if_neg (by omega)]
theorem t_eval {v w : V} {ts : List TermS} {state ks : List Int} {vars : Int} (hv : LT v ts) (hw : LI w state) (hk : kindsF vars ts = some ks) (hs : stOk state) (hvs : vars ≤ (state.length : Int)) :
    VCall Try.prog n_impl_eval [v, w] M (fun r M' => M = M' ∧ r = .sc (.int .i64 (evalF ts state))) := by
  obtain ⟨_, _, k1, k2, hk, _⟩ := kindsF_some hk
  refine VCall.pure fun R hR => v_impl_eval rfl ?_
  refine sS1 @hv.len ?_
  refine mks3 (by omega) (by simp [mostCells]; omega) (by simp [mostCells]; omega) ?_
  intro b5 hb5
  simp (maxSteps := 2000000) (disch := first | omega | assumption | exact idP rfl | exact idP (bL rfl)) only [go_sem, reduceIte, Nat.reduceEqDiff, wpV_kd, wpV_tH, hv.len, zeros_vi]
  refine loop_k (fun e M' => Sub M M' ∧ ∃ i : Nat, i ≤ ts.length ∧ e 1 = w ∧ e 5 = .sc (.sl (some (b5, 0)) ts.length ts.length true 1) ∧ e 11 = v ∧ e 12 = .sc (.int .i64 ts.length) ∧ e 13 = .sc (.int .i64 i) ∧
    M' b5 = some ((valsF state (ts.take i) ++ List.replicate (ts.length - i) 0).map vi)) (fun e _ => ctrV ts.length (e 13)) ?_ ?_
  · exact ⟨(Sub.refl _).set hb5, 0, by omega, sT0, sT0, sT0, sT0, by refine sS0 ?_; rfl, by refine sS0 ?_; simp [valsF]⟩
  · rintro e M1 ⟨hsub, i, hi, e1, e5, e11, e12, e13, hm⟩ K hK
    have hvl : (valsF state (ts.take i)).length = i := by rw [valsF_len]; simp; omega
    have hll : (valsF state (ts.take i) ++ List.replicate (ts.length - i) 0).length = ts.length := by simp; omega
    refine sS2 @e12 @e13 ?_
    refine cond_dec (fun h => ?_) (fun h => ?_)
    · have hi' : i < ts.length := by omega
      have hso : i < ((valsF state (ts.take i) ++ List.replicate (ts.length - i) 0).map vi).length := by rw [len_vi]; omega
      have hset : ∀ x, x = val1 state ts[i] (valsF state (ts.take i)) → (valsF state (ts.take i) ++ List.replicate (ts.length - i) 0).set i x = valsF state (ts.take (i + 1)) ++ List.replicate (ts.length - (i + 1)) 0 := by
        rintro x rfl
        rw [valsF_take hi', show ts.length - i = (ts.length - (i + 1)) + 1 by omega, List.replicate_succ, List.set_append_right _ _ (by omega), hvl]
        simp
      have rd : ∀ {a : Int}, 0 ≤ a → a < (i : Int) → ((valsF state (ts.take i) ++ List.replicate (ts.length - i) 0).map vi)[a.toNat]? = some (.sc (.int .i64 (ix (valsF state (ts.take i)) a))) := fun {a} q1 q2 => by
        rw [List.map_append, nth_ix_app q1 (by omega)]
      simp (maxSteps := 2000000) (disch := first | omega | assumption | exact idP rfl | exact idP (bL rfl)) only [go_sem, reduceIte, Nat.reduceEqDiff, wpV_kd, wpV_tH, e1, e5, e11, e12, e13, hv.iaddr, LT.at hv hi', encT_eq]
      intro b7 hb7
      have hne : b5 ≠ b7 := fun hh => by subst hh; rw [hm] at hb7; cases hb7
      have fin : ∀ x cl, x = val1 state ts[i] (valsF state (ts.take i)) → ∀ e' : EnvV, e' 1 = w → e' 5 = .sc (.sl (some (b5, 0)) ts.length ts.length true 1) → e' 11 = v → e' 12 = .sc (.int .i64 ts.length) → e' 13 = .sc (.int .i64 ((i : Int) + 1)) → K e' ((M1.set b7 cl).set b5 (((valsF state (ts.take i) ++ List.replicate (ts.length - i) 0).set i x).map vi)) := by
        intro x cl hx e' g1 g5 g11 g12 g13
        refine hK _ _ ⟨?_, i + 1, by omega, g1, g5, g11, g12, g13, by rw [set_same, hset x hx]⟩ (by rw [g13, e13]; refine sS0 ?_; omega)
        refine Sub.set (sB) (by cases hq : M b5 with | none => rfl | some l => rw [hq] at hb5; cases hb5)
      refine cond_dec (fun h0 => ?_) (fun h0 => ?_)
      · simp (maxSteps := 2000000) (disch := first | omega | assumption | exact idP rfl | exact idP (bL rfl)) only [go_sem, reduceIte, Nat.reduceEqDiff, wpV_kd, wpV_tH, e5, hm, set_vi]
        exact fin _ _ (by simp [val1, h0]) _ (sT0) (sT0) (sT0) (sT0) (sT0)
      · refine sS0 ?_
        refine cond_dec (fun h1 => ?_) (fun h1 => ?_)
        · have hn := varOk_of hk hi' h1
          simp (maxSteps := 2000000) (disch := first | omega | assumption | exact idP rfl | exact idP (bL rfl)) only [go_sem, reduceIte, Nat.reduceEqDiff, wpV_kd, wpV_tH, e1, e5, hm, hw.iaddr, hw.ix, set_vi]
          exact fin _ _ (by simp [val1, h0, h1]) _ (sT0) (sT0) (sT0) (sT0) (sT0)
        · obtain ⟨hd, ha, hb⟩ := DoOk.of hk hs hvs hi' h0 h1
          refine sS3 @e5 @hm @rd ?_
          refine (t_do hd).mono ?_
          rintro _ _ ⟨rfl, rfl⟩
          simp (maxSteps := 2000000) (disch := first | omega | assumption | exact idP rfl | exact idP (bL rfl)) only [go_sem, reduceIte, Nat.reduceEqDiff, wpV_kd, wpV_tH, e5, hm, set_vi]
          exact fin _ _ (by simp [val1, h0, h1]) _ (sT0) (sT0) (sT0) (sT0) (sT0)
    · obtain rfl : i = ts.length := by omega
      rw [List.take_length] at hm
      simp only [Nat.sub_self, List.replicate_zero, List.append_nil] at hm
      have e1 : ((ts.length : Int) - 1).toNat = ts.length - 1 := by omega
      have hn := nth_vi (xs := valsF state ts) (i := ts.length - 1) (by rw [valsF_len]; omega)
      refine sS4 @e5 @hm @e1 @hn ?_
      exact hR _ _ hsub (by rw [evalF_eq (by omega)])
theorem t_inRange {a b w : V} {vars : List VarS} {st : List Int} (ha : LVar a vars) (hw : LI w st) (hvl : vars.length ≤ 5) : VCall Try.prog n_impl_inRange [.agg [a, b], w] M (fun r M' => M = M' ∧ r = .sc (.bool (inB vars st))) := by
  refine VCall.pure fun R hR => v_impl_inRange rfl ?_
  (repeat' (first | ((with_reducible first | refine cond_dec (fun h => ?_) (fun h => ?_) | refine guardK_dec (fun h => ?_) (fun h => ?_) | refine guardD3_dec (fun h => ?_) (fun h => ?_)) <;> first | (exfalso; omega) | (simp (maxSteps := 2000000) (disch := first | omega | assumption | exact idP rfl | exact idP (bL rfl)) only [go_sem, reduceIte, Nat.reduceEqDiff, wpV_kd, wpV_tH, h, ha.len, hw.len]) | skip) | ((with_reducible first | refine cond_split (fun h => ?_) (fun h => ?_) | refine guardK_split (fun h => ?_) (fun h => ?_) | refine guardD3_split (fun h => ?_) (fun h => ?_)) <;> ((try simp only [Bool.not_eq_true', Bool.not_eq_false'] at h); first | (simp (maxSteps := 2000000) (disch := first | omega | assumption | exact idP rfl | exact idP (bL rfl)) only [go_sem, reduceIte, Nat.reduceEqDiff, wpV_kd, wpV_tH, h, ha.len, hw.len]) | skip)) | (with_reducible intro bk hbk; try have hnk := (fresh_set hbk).1) | (simp (maxSteps := 2000000) (disch := first | omega | assumption | exact idP rfl | exact idP (bL rfl)) only [go_sem, reduceIte, Nat.reduceEqDiff, wpV_kd, wpV_tH, ha.len, hw.len])))
  · refine hR _ _ (sB) ?_
    rw [(inB_false _ _).2 (fun hh => by have := hh.1; omega)]
  · have hlen : st.length = vars.length := by omega
    refine loop_k (fun e M' => Sub M M' ∧ ∃ i : Nat, i ≤ st.length ∧ e 1 = w ∧ e 14 = a ∧ e 15 = .sc (.int .i64 vars.length) ∧ e 16 = .sc (.int .i64 i) ∧ ∀ j (hj : j < vars.length) (h2 : j < st.length), j < i → vars[j].low ≤ st[j] ∧ st[j] ≤ vars[j].high) (fun e _ => ctrV st.length (e 16)) ?_ ?_
    · exact ⟨sB, 0, by omega, sT0, sT0, sT0, by refine sS0 ?_; rfl, fun j _ _ h => by omega⟩
    · rintro e M1 ⟨hsub, i, hi, e1, e14, e15, e16, hj⟩ K hK
      refine sS2 @e15 @e16 ?_
      refine cond_dec (fun h => ?_) (fun h => ?_)
      · have hi' : i < vars.length := by omega
        have hi2 : i < st.length := by omega
        simp (maxSteps := 2000000) (disch := first | omega | assumption | exact idP rfl | exact idP (bL rfl)) only [go_sem, reduceIte, Nat.reduceEqDiff, wpV_kd, wpV_tH, e1, e14, e16, ha.iaddr, LVar.at ha hi']
        intro b6 hb6
        (repeat' (first | ((with_reducible first | refine cond_dec (fun h => ?_) (fun h => ?_) | refine guardK_dec (fun h => ?_) (fun h => ?_) | refine guardD3_dec (fun h => ?_) (fun h => ?_)) <;> first | (exfalso; omega) | (simp (maxSteps := 2000000) (disch := first | omega | assumption | exact idP rfl | exact idP (bL rfl)) only [go_sem, reduceIte, Nat.reduceEqDiff, wpV_kd, wpV_tH, h, e1, hw.iaddr, LI.at hw hi2]) | skip) | ((with_reducible first | refine cond_split (fun h => ?_) (fun h => ?_) | refine guardK_split (fun h => ?_) (fun h => ?_) | refine guardD3_split (fun h => ?_) (fun h => ?_)) <;> ((try simp only [Bool.not_eq_true', Bool.not_eq_false'] at h); first | (simp (maxSteps := 2000000) (disch := first | omega | assumption | exact idP rfl | exact idP (bL rfl)) only [go_sem, reduceIte, Nat.reduceEqDiff, wpV_kd, wpV_tH, h, e1, hw.iaddr, LI.at hw hi2]) | skip)) | ((with_reducible refine (t_in).mono ?_); rintro _ _ ⟨rfl, rfl⟩) | (with_reducible intro bk hbk; try have hnk := (fresh_set hbk).1) | (simp (maxSteps := 2000000) (disch := first | omega | assumption | exact idP rfl | exact idP (bL rfl)) only [go_sem, reduceIte, Nat.reduceEqDiff, wpV_kd, wpV_tH, e1, hw.iaddr, LI.at hw hi2])))
        · refine hR _ _ (sB) ?_
          rw [(inB_false _ _).2 (fun hh => by have := hh.2 i hi' hi2; omega)]
        · refine hK _ _ ⟨sB, i + 1, by omega, sT0, sT0, sT0, by refine sS0 ?_; rfl, fun j hj1 hj2 hj3 => ?_⟩ (by refine sS2 @ctrV_int @e16 ?_; omega)
          by_cases hji : j = i
          · subst hji; omega
          · exact hj j hj1 hj2 (by omega)
      · refine sS0 ?_
        refine hR _ _ hsub ?_
        rw [(inB_iff _ _).2 ⟨hlen, fun j h1 h2 => hj j h1 h2 (by omega)⟩]
theorem setAtG_all {α : Type} : ∀ (c z : List α) (o : Nat), o + c.length = z.length → setAtG z o c = z.take o ++ c
  | [], z, o, h => by
    simp only [setAtG, List.append_nil]
    rw [List.take_of_length_le (by simp at h; omega)]
  | x :: t, z, o, h => by
    simp only [setAtG]
    rw [setAtG_all t _ _ (by simp at h ⊢; omega)]
    simp at h
    rw [List.take_succ_eq_append_getElem (by simp; omega)]
    simp
    apply List.ext_getElem?
    intro i
    simp only [List.getElem?_take]
    split
    · rw [List.getElem?_set_ne (by omega)]
    · rfl
theorem t_cloneInt {v : V} {xs : List Int} (hv : LI v xs) (hl : xs.length ≤ 1048576) : VCall Try.prog n_impl_clone_int [v] M (fun r M' => Gr 1 M M' r (xs.map vi)) := by
  refine VCall.plain fun R hR => v_impl_clone_int rfl ?_
  refine sS1 @hv.len ?_
  refine cond_dec (fun h => ?_) (fun h => ?_)
  · refine sS0 ?_
    have : xs = [] := List.eq_nil_of_length_eq_zero (by omega)
    subst this
    exact hR _ _ (.nil (Sub.refl _))
  · refine sS1 @hv.len ?_
    refine mks3 (by omega) (by simp [mostCells]; omega) (by simp [mostCells]; omega) ?_
    intro b3 hb3
    have hcs := hv.cells (M := M.set b3 ((List.replicate xs.length (0 : Int)).map vi))
    rw [Nat.mul_one] at hcs
    simp (maxSteps := 2000000) (disch := first | omega | assumption | exact idP rfl | exact idP (bL rfl)) only [go_sem, reduceIte, Nat.reduceEqDiff, wpV_kd, wpV_tH, zeros_vi]
    simp only [copyV, hv.lenS, Nat.min_self, Nat.mul_one, hcs]
    rw [if_neg (by omega)]
    simp only [set_same, Nat.zero_add]
    refine ⟨by simp [vi, oneV, er, oneA], by simp, ?_⟩
    rw [setAtG_all _ _ _ (by simp)]
    refine sS0 ?_
    exact hR _ _ (Gr.new' (Sub.refl _) hb3 (by simp))
end Go.M2

namespace Go.M2
open Go.Proofs
variable {M : MH}
theorem t_isNaN {n : Int} : VCall Try.prog n_cmp_isNaN_int [.sc (.int .i64 n)] M (fun r M' => M = M' ∧ r = .sc (.bool false)) := by
  refine VCall.pure fun R hR => v_cmp_isNaN_int rfl ?_
  (repeat' (first | ((with_reducible first | refine cond_dec (fun h => ?_) (fun h => ?_) | refine guardK_dec (fun h => ?_) (fun h => ?_) | refine guardD3_dec (fun h => ?_) (fun h => ?_)) <;> first | (exfalso; omega) | (simp (maxSteps := 2000000) (disch := first | omega | assumption | exact idP rfl | exact idP (bL rfl)) only [go_sem, reduceIte, Nat.reduceEqDiff, wpV_kd, wpV_tH, h]) | skip) | ((with_reducible first | refine cond_split (fun h => ?_) (fun h => ?_) | refine guardK_split (fun h => ?_) (fun h => ?_) | refine guardD3_split (fun h => ?_) (fun h => ?_)) <;> ((try simp only [Bool.not_eq_true', Bool.not_eq_false'] at h); first | (simp (maxSteps := 2000000) (disch := first | omega | assumption | exact idP rfl | exact idP (bL rfl)) only [go_sem, reduceIte, Nat.reduceEqDiff, wpV_kd, wpV_tH, h]) | skip)) | (with_reducible intro bk hbk; try have hnk := (fresh_set hbk).1) | (simp (maxSteps := 2000000) (disch := first | omega | assumption | exact idP rfl | exact idP (bL rfl)) only [go_sem, reduceIte, Nat.reduceEqDiff, wpV_kd, wpV_tH])))
  all_goals exact hR _ _ (sB) (by (refine eqB ?_; (try simp only [decide_eq_true_eq, Bool.false_eq_true, Bool.and_eq_true, Bool.or_eq_true, Bool.not_eq_true', decide_eq_false_iff_not, eq_self_iff_true, true_iff, false_iff, iff_true, iff_false, ne_eq]); (try omega)))
def cmp1 (a b : Int) : Int := if a < b then -1 else if b < a then 1 else 0
theorem t_cmpInt {a b : Int} : VCall Try.prog n_cmp_Compare_int [.sc (.int .i64 a), .sc (.int .i64 b)] M (fun r M' => M = M' ∧ r = .sc (.int .i64 (cmp1 a b))) := by
  refine VCall.pure fun R hR => v_cmp_Compare_int rfl ?_
  (repeat' (first | ((with_reducible first | refine cond_dec (fun h => ?_) (fun h => ?_) | refine guardK_dec (fun h => ?_) (fun h => ?_) | refine guardD3_dec (fun h => ?_) (fun h => ?_)) <;> first | (exfalso; omega) | (simp (maxSteps := 2000000) (disch := first | omega | assumption | exact idP rfl | exact idP (bL rfl)) only [go_sem, reduceIte, Nat.reduceEqDiff, wpV_kd, wpV_tH, h]) | skip) | ((with_reducible first | refine cond_split (fun h => ?_) (fun h => ?_) | refine guardK_split (fun h => ?_) (fun h => ?_) | refine guardD3_split (fun h => ?_) (fun h => ?_)) <;> ((try simp only [Bool.not_eq_true', Bool.not_eq_false'] at h); first | (simp (maxSteps := 2000000) (disch := first | omega | assumption | exact idP rfl | exact idP (bL rfl)) only [go_sem, reduceIte, Nat.reduceEqDiff, wpV_kd, wpV_tH, h]) | skip)) | ((with_reducible refine (t_isNaN).mono ?_); rintro _ _ ⟨rfl, rfl⟩) | (with_reducible intro bk hbk; try have hnk := (fresh_set hbk).1) | (simp (maxSteps := 2000000) (disch := first | omega | assumption | exact idP rfl | exact idP (bL rfl)) only [go_sem, reduceIte, Nat.reduceEqDiff, wpV_kd, wpV_tH])))
  all_goals exact hR _ _ (sB) (eqI (by unfold cmp1; repeat' split; all_goals omega))
def cmpF (xs ys : List Int) : Int := if lessF xs ys = true then -1 else if xs = ys then 0 else 1
theorem t_slicesCompare {v w : V} {xs ys : List Int} (hv : LI v xs) (hw : LI w ys) (hl : xs.length ≤ 1048576) : VCall Try.prog n_slices_Compare_Sint_int [v, w] M (fun r M' => M = M' ∧ r = .sc (.int .i64 (cmpF xs ys))) := by
  refine VCall.pure fun R hR => v_slices_Compare_Sint_int rfl ?_
  refine sS1 @hv.len ?_
  refine loop_k (fun e M' => M' = M ∧ ∃ i : Nat, i ≤ xs.length ∧ i ≤ ys.length ∧ e 0 = v ∧ e 1 = w ∧ e 9 = v ∧ e 10 = .sc (.int .i64 xs.length) ∧ e 11 = .sc (.int .i64 i) ∧ xs.take i = ys.take i) (fun e _ => ctrV xs.length (e 11)) ?_ ?_
  · exact ⟨rfl, 0, by omega, by omega, sT0, sT0, sT0, sT0, by refine sS0 ?_; rfl, rfl⟩
  · rintro e M1 ⟨hM, i, hi, hj, e0, e1, e9, e10, e11, ht⟩ K hK
    subst hM
    have hlt := lessF_take hi hj ht
    refine sS2 @e10 @e11 ?_
    refine cond_dec (fun h => ?_) (fun h => ?_)
    · have hi1 : i < xs.length := by omega
      simp (maxSteps := 2000000) (disch := first | omega | assumption | exact idP rfl | exact idP (bL rfl)) only [go_sem, reduceIte, Nat.reduceEqDiff, wpV_kd, wpV_tH, e0, e1, e9, e11, hv.iaddr, hv.at hi1, hw.len]
      refine cond_dec (fun h2 => ?_) (fun h2 => ?_)
      · refine sS0 ?_
        refine hR _ _ (sB) (eqI ?_)
        have e2 : lessF xs ys = false := by
          rw [hlt, show ys.drop i = [] by apply List.drop_eq_nil_of_le; omega]
          cases xs.drop i <;> rfl
        have e3 : ¬ xs = ys := fun e => by subst e; omega
        simp [cmpF, e2, e3]
      · have hi2 : i < ys.length := by omega
        have hd : lessF (xs.drop i) (ys.drop i) = if xs[i] = ys[i] then lessF (xs.drop (i + 1)) (ys.drop (i + 1)) else decide (xs[i] < ys[i]) := by
          rw [List.drop_eq_getElem_cons hi1, List.drop_eq_getElem_cons hi2]; rfl
        simp (maxSteps := 2000000) (disch := first | omega | assumption | exact idP rfl | exact idP (bL rfl)) only [go_sem, reduceIte, Nat.reduceEqDiff, wpV_kd, wpV_tH, e1, hw.iaddr, hw.at hi2]
        refine t_cmpInt.mono ?_
        rintro _ _ ⟨rfl, rfl⟩
        refine sS0 ?_
        refine cond_dec (fun h3 => ?_) (fun h3 => ?_)
        · refine sS0 ?_
          refine hR _ _ (sB) (eqI ?_)
          unfold cmp1 at h3 ⊢
          have hne : ¬ xs[i] = ys[i] := fun e => by rw [e] at h3; simp at h3
          have e3 : ¬ xs = ys := fun e => by subst e; exact hne rfl
          unfold cmpF
          rw [hlt, hd, if_neg hne, if_neg e3]
          by_cases hl2 : xs[i] < ys[i]
          · simp [hl2]
          · simp [hl2]; omega
        · have heq : xs[i] = ys[i] := by
            have h3 := Decidable.not_not.1 h3
            unfold cmp1 at h3
            split at h3
            · omega
            · split at h3
              · omega
              · omega
          refine sS5 @e0 @e1 @e9 @e10 @e11 ?_
          exact hK _ _ ⟨rfl, i + 1, by omega, by omega, sT0, sT0, sT0, sT0, by refine sS0 ?_; rfl, by rw [take_snoc hi1, take_snoc hi2, ht, heq]⟩ (by refine sS2 @ctrV_int @e11 ?_; omega)
    · obtain rfl : i = xs.length := by omega
      rw [List.drop_length] at hlt
      refine sS4 @e0 @e1 @hv.len @hw.len ?_
      refine cond_dec (fun h2 => ?_) (fun h2 => ?_)
      · refine sS0 ?_
        refine hR _ _ (sB) (eqI ?_)
        have : lessF xs ys = true := by
          rw [hlt, List.drop_eq_getElem_cons (show xs.length < ys.length by omega)]; rfl
        simp [cmpF, this]
      · refine sS0 ?_
        refine hR _ _ (sB) (eqI ?_)
        have e2 : xs = ys := by
          rw [List.take_length, List.take_of_length_le (by omega)] at ht; exact ht
        subst e2
        simp [cmpF, lessF_irr]
theorem bin_half {a : Int} {k' : IntKind} (h0 : 0 ≤ a) (h1 : a ≤ 9223372036854775807) : binF .shr (.int .u64 (IntKind.u64.wrap a)) (.int k' 1) = some (.int .u64 (a / 2)) := by
  have hw : IntKind.u64.wrap a = a := by
    have e1 : IntKind.u64.wrap a = a % 18446744073709551616 := by
      simp only [IntKind.wrap]
      rfl
    rw [e1]; omega
  rw [hw]
  simp only [binF, isSh, shF, if_true]
  rw [if_neg (by decide)]
  simp only [Option.some.injEq, AV.int.injEq, true_and]
  have : (2 : Int) ^ (min (1 : Int).toNat (IntKind.u64.bits)) = 2 := by decide
  rw [this]
  exact Int.fdiv_eq_ediv_of_nonneg a (by decide)
theorem sorted_lt {l : List (List Int)} (h : SortedF l) {i j : Nat} (hj : j < l.length) (hij : i < j) : lessF (l[i]'(by omega)) l[j] = true := List.pairwise_iff_getElem.1 h i j (by omega) hj hij
theorem t_binarySearch {v w : V} {l : List (List Int)} {x : List Int} (hv : LII v l) (hw : LI w x) (hs : SortedF l) (hl : l.length ≤ 1048576) (hll : ∀ y ∈ l, y.length ≤ 1048576) :
    VCall Try.prog n_slices_BinarySearchFunc_SSint_Sint_Sint [v, w, .fn n_slices_Compare_Sint_int []] M (fun r M' => M = M' ∧ ∃ (i : Nat) (t : Bool), r = .tup [.sc (.int .i64 i), .sc (.bool t)] ∧ i ≤ l.length ∧ (∀ j (h : j < l.length), j < i → lessF l[j] x = true) ∧
      (t = true → ∃ h : i < l.length, l[i] = x) ∧ (t = false → ∀ h : i < l.length, lessF x l[i] = true)) := by
  refine VCall.pure fun R hR => v_slices_BinarySearchFunc_SSint_Sint_Sint rfl ?_
  refine sS1 @hv.len ?_
  refine loop_k (fun e M' => M' = M ∧ ∃ i j : Nat, i ≤ j ∧ j ≤ l.length ∧ e 0 = v ∧ e 1 = w ∧ e 2 = .fn n_slices_Compare_Sint_int [] ∧ e 8 = .sc (.int .i64 l.length) ∧ e 9 = .sc (.int .i64 i) ∧ e 10 = .sc (.int .i64 j) ∧
    (∀ k (h : k < l.length), k < i → lessF l[k] x = true) ∧ (∀ h : j < l.length, lessF l[j] x = false)) (fun e _ => match er (e 9), er (e 10) with | .int _ a, .int _ b => (b - a).toNat | _, _ => 0) ?_ ?_
  · exact ⟨rfl, 0, l.length, by omega, by omega, sT0, sT0, sT0, sT0, by refine sS0 ?_; rfl, sT0, fun k _ h => by omega, fun h => by omega⟩
  · rintro e M1 ⟨hM, i, j, hij, hj, e0, e1, e2, e8, e9, e10, hlo, hhi⟩ K hK
    subst hM
    refine sS2 @e9 @e10 ?_
    refine cond_dec (fun h => ?_) (fun h => ?_)
    · have hh : ((i : Int) + (j : Int)) / 2 = (((i + j) / 2 : Nat) : Int) := by omega
      have hm1 : (i + j) / 2 < j := by omega
      have hm2 : i ≤ (i + j) / 2 := by omega
      have hml : (i + j) / 2 < l.length := by omega
      simp (maxSteps := 2000000) (disch := first | omega | assumption | exact idP rfl | exact idP (bL rfl)) only [go_sem, reduceIte, Nat.reduceEqDiff, wpV_kd, wpV_tH, e0, e1, e2, e9, e10, bin_half, hh, hv.iaddr]
      refine (t_slicesCompare (hv.elt hml) hw (hll _ (List.getElem_mem hml))).mono ?_
      rintro _ _ ⟨rfl, rfl⟩
      refine sS0 ?_
      refine cond_dec (fun h2 => ?_) (fun h2 => ?_)
      · have hless : lessF l[(i + j) / 2] x = true := by
          unfold cmpF at h2
          split at h2
          · assumption
          · split at h2 <;> omega
        refine sS0 ?_
        refine hK _ _ ⟨rfl, (i + j) / 2 + 1, j, by omega, hj, sT1 @e0, sT1 @e1, sT1 @e2, sT1 @e8, by refine sS0 ?_; rfl, sT1 @e10, fun k hk1 hk2 => ?_, hhi⟩ (by refine sS2 @e9 @e10 ?_; omega)
        by_cases hk3 : k = (i + j) / 2
        · subst hk3; exact hless
        · exact lessF_trans (sorted_lt hs hml (by omega)) hless
      · have hnless : lessF l[(i + j) / 2] x = false := by
          unfold cmpF at h2
          split at h2
          · omega
          · simp_all
        refine sS0 ?_
        exact hK _ _ ⟨rfl, i, (i + j) / 2, hm2, by omega, sT1 @e0, sT1 @e1, sT1 @e2, sT1 @e8, sT1 @e9, sT0, hlo, fun _ => hnless⟩ (by refine sS2 @e9 @e10 ?_; omega)
    · obtain rfl : i = j := by omega
      by_cases hil : i < l.length
      · have hd : decide ((i : Int) < (l.length : Int)) = true := by simpa using hil
        refine sS7 @e0 @e1 @e2 @e8 @e9 @hd @hv.iaddr ?_
        refine (t_slicesCompare (hv.elt hil) hw (hll _ (List.getElem_mem hil))).mono ?_
        rintro _ _ ⟨rfl, rfl⟩
        refine sS0 ?_
        refine hR _ _ (sB) ⟨i, decide (cmpF l[i] x = 0), rfl, by omega, hlo, fun ht => ⟨hil, ?_⟩, fun ht _ => ?_⟩
        · have h3 : cmpF l[i] x = 0 := by simpa using ht
          unfold cmpF at h3
          rw [hhi hil] at h3
          simp only [Bool.false_eq_true, if_false] at h3
          split at h3
          · assumption
          · omega
        · have h3 : ¬ cmpF l[i] x = 0 := by simpa using ht
          unfold cmpF at h3
          rw [hhi hil] at h3
          simp only [Bool.false_eq_true, if_false] at h3
          rcases lessF_tri l[i] x with h4 | h4 | h4
          · rw [hhi hil] at h4; cases h4
          · rw [if_pos h4] at h3; exact absurd rfl h3
          · exact h4
      · have hd : decide ((i : Int) < (l.length : Int)) = false := by simpa using hil
        refine sS6 @e0 @e1 @e2 @e8 @e9 @hd ?_
        exact hR _ _ (sB) ⟨i, false, rfl, by omega, hlo, fun h => (by cases h), fun _ h => absurd h hil⟩
end Go.M2

namespace Go.M2
open Go.Proofs
variable {M : MH}
theorem slc_lo {b o n c : Nat} {ex : Bool} {k : IntKind} {a : Int} (h0 : 0 ≤ a) (h1 : a ≤ (n : Int)) (hc : a < (c : Int)) (hn : n ≤ c) :
    slcV 1 (some (.int k a)) none none (.sc (.sl (some (b, o)) n c ex 1)) = some (.sc (.sl (some (b, o + a.toNat)) (n - a.toNat) (c - a.toNat) ex 1)) := by
  simp only [slcV, slcF, bnds, natIn, Option.isSome_none, Bool.false_eq_true, if_false, h0, h1, and_self, if_true]
  rw [if_neg (by intro h; rcases h with h | h <;> omega), if_neg (by omega)]
  simp
theorem slc_end {b o n c : Nat} {k : IntKind} {a : Int} (h0 : a = (c : Int)) (h1 : n = c) :
    slcV 1 (some (.int k a)) none none (.sc (.sl (some (b, o)) n c true 1)) = some (.sc (.sl (some (b, o)) (n - c) 0 true 1)) := by
  subst h0 h1
  simp [slcV, slcF, bnds, natIn]
theorem slc_hi {b o n c kk : Nat} {ex : Bool} {k : IntKind} {a : Int} (h0 : 0 ≤ a) (h1 : a ≤ (c : Int)) (hc : 0 < c) :
    slcV 1 none (some (.int k a)) none (.sc (.sl (some (b, o)) n c ex kk)) = some (.sc (.sl (some (b, o)) a.toNat c ex kk)) := by
  simp only [slcV, slcF, bnds, natIn, Option.isSome_none, Bool.false_eq_true, if_false, h0, h1, and_self, if_true]
  rw [if_neg (by intro h; rcases h with h | h <;> omega), if_neg (by omega)]
  simp
theorem copy_own {K : V → MH → Prop} {b o n c k bs os m cs ks t : Nat} {ex exs : Bool} {ld ls : List V} (hs : M bs = some ls) (hd : M b = some ld) (ht : min m n = t) (h0 : 0 < t) (h1 : os + t ≤ ls.length) (h2 : o + t ≤ ld.length)
    (ho : ((ls.drop os).take t).all oneV = true) (hk : K (.sc (.int .i64 (t : Int))) (M.set b (setAtG ld o ((ls.drop os).take t)))) : copyV 1 (.sc (.sl (some (b, o)) n c ex k)) (.sc (.sl (some (bs, os)) m cs exs ks)) M K := by
  subst ht
  simp only [copyV, lenS, cellsS, Nat.mul_one, if_neg (show ¬ min m n = 0 by omega), hs, if_pos h1, hd]
  exact ⟨ho, h2, hk⟩
theorem setAtG_mid {α : Type} : ∀ (c z : List α) (o : Nat), o + c.length ≤ z.length → setAtG z o c = z.take o ++ c ++ z.drop (o + c.length)
  | [], z, o, h => by simp [setAtG]
  | x :: t, z, o, h => by
    simp only [setAtG]
    simp at h
    rw [setAtG_mid t _ _ (by simp; omega)]
    rw [List.take_succ_eq_append_getElem (by simp; omega)]
    have e1 : (z.set o x).take o = z.take o := by
      apply List.ext_getElem?
      intro i
      simp only [List.getElem?_take]
      split
      · rw [List.getElem?_set_ne (by omega)]
      · rfl
    have e2 : (z.set o x).drop (o + 1 + t.length) = z.drop (o + (x :: t).length) := by
      apply List.ext_getElem?
      intro i
      simp only [List.getElem?_drop]
      rw [List.getElem?_set_ne (by omega)]
      simp; congr 1; omega
    rw [e1, e2]
    simp
def GrN (M0 M : MH) (v : V) (us : List V) : Prop := Gr 1 M0 M v us ∧ ((us = [] ∧ ∃ k, v = .sc (.sl none 0 0 true k)) ∨ ∃ b n, v = .sc (.sl (some (b, 0)) n n false 1))
theorem slc_nil {k : IntKind} {kk : Nat} : slcV 1 (some (.int k 0)) none none (.sc (.sl none 0 0 true kk)) = some (.sc (.sl none 0 0 true kk)) := by
  simp [slcV, slcF, bnds, natIn]
theorem ins_new {us Z : List V} {u : V} {i : Nat} (hi : i ≤ us.length) (hz : i + Z.length = us.length + 1) : setAtG ((us.take i ++ Z).set i u) (i + 1) (us.drop i) = us.take i ++ u :: us.drop i := by
  have h1 : (us.take i).length = i := by simp; omega
  obtain ⟨z0, Z', rfl⟩ : ∃ z0 Z', Z = z0 :: Z' := by
    cases Z with
    | nil => simp at hz; omega
    | cons a t => exact ⟨a, t, rfl⟩
  have e0 : (us.take i ++ z0 :: Z').set i u = us.take i ++ [u] ++ Z' := by
    rw [List.set_append_right _ _ (by omega), h1]
    simp
  have hz' : i + (Z'.length + 1) = us.length + 1 := by simpa using hz
  have h2 : (us.take i ++ [u]).length = i + 1 := by rw [List.length_append, h1]; rfl
  have h3 : (us.drop i).length = us.length - i := List.length_drop
  have h5 : (us.take i ++ [u] ++ Z').drop (i + 1 + (us.drop i).length) = [] := List.drop_eq_nil_of_le (by rw [List.length_append, h2, h3]; omega)
  rw [e0, setAtG_mid _ _ _ (by rw [List.length_append, h2, h3]; omega), List.take_left' h2, h5]
  simp
theorem ins_room {us J : List V} {u : V} {i : Nat} (hi : i < us.length) (hj : 0 < J.length) : ((setAtG (us ++ J) (i + 1) (us.drop i)).set i u).take (us.length + 1) = us.take i ++ u :: us.drop i := by
  have h1 : (us.take i).length = i := by simp; omega
  have h3 : (us.drop i).length = us.length - i := List.length_drop
  have h4 : (us ++ J).length = us.length + J.length := List.length_append
  rw [setAtG_mid _ _ _ (by omega), List.take_append_of_le_length (by omega), List.take_succ_eq_append_getElem hi]
  generalize (us ++ J).drop (i + 1 + (us.drop i).length) = T
  have e0 : (us.take i ++ [us[i]] ++ us.drop i ++ T).set i u = (us.take i ++ u :: us.drop i) ++ T := by
    rw [List.append_assoc, List.append_assoc, List.set_append_right _ _ (by omega), h1]
    simp
  rw [e0, List.take_left' (by rw [List.length_append, List.length_cons, h1, h3]; omega)]
theorem all_drop {us : List V} (h : us.all oneV = true) (i : Nat) : (us.drop i).all oneV = true := List.all_eq_true.2 fun x hx => List.all_eq_true.1 h x (List.mem_of_mem_drop hx)
theorem t_Insert {M0 M1 : MH} {s u : V} {us : List V} {bt i : Nat} (h : GrN M0 M1 s us) (hbt : M1 bt = none) (hu : oneV u = true) (hus : us.all oneV = true) (hi : i ≤ us.length) (hl : us.length ≤ 1048576) :
    VCall Try.prog n_slices_Insert_SSint_Sint [s, .sc (.int .i64 i), .sc (.sl (some (bt, 0)) 1 1 true 1)] (M1.set bt [u]) (fun r M' => GrN M0 M' r (us.take i ++ u :: us.drop i)) := by
  have hsub : Sub M0 (M1.set bt [u]) := h.1.sub.set' hbt
  have hlit : cellsS (1 * 1) (.sc (.sl (some (bt, 0)) 1 1 true 1)) (M1.set bt [u]) = some [u] := by
    simp only [cellsS, Nat.one_mul, set_same, Nat.zero_add, List.drop_zero]; rfl
  rcases h with ⟨hg, ⟨rfl, k, rfl⟩ | ⟨b, n, rfl⟩⟩
  · obtain rfl : i = 0 := by simpa using hi
    refine VCall.plain fun R hR => v_slices_Insert_SSint_Sint rfl ?_
    have e0 : ((0 : Nat) : Int) = 0 := rfl
    simp (maxSteps := 2000000) (disch := first | omega | assumption | exact idP rfl | exact idP (bL rfl)) only [go_sem, reduceIte, Nat.reduceEqDiff, wpV_kd, wpV_tH, e0, slc_nil]
    refine cond_dec (fun h => by omega) (fun h => ?_)
    refine sS0 ?_
    refine cond_dec (fun h => ?_) (fun h => by omega)
    refine sS0 ?_
    simp only [appV, lenS, hlit]
    refine ⟨_, _, .refl _ _, ?_⟩
    simp only [appW]
    rw [if_neg (by omega), if_neg (by omega)]
    refine ⟨by simp [mostCells], by simp [mostCells], ?_⟩
    simp only [if_true, cellsS, Nat.zero_mul]
    intro b hb
    refine sS0 ?_
    exact hR _ _ ⟨Gr.new' hsub hb rfl, .inr ⟨b, _, rfl⟩⟩
  · obtain ⟨hm, _, _, _, hn, hm0⟩ := hg.get
    have hn : us.length = n := by omega
    have hne : b ≠ bt := fun e => by subst e; rw [hbt] at hm; cases hm
    refine VCall.closeCap (VCall.openCap (a1 := []) (l := us) (by rw [set_ne hne]; exact hm) fun c' hc => ?_)
    have eJ : 0 + c' * 1 - us.length = c' - n := by omega
    rw [eJ]
    generalize hJ : List.replicate (c' - n) (V.sc .junk) = J
    have hJl : J.length = c' - n := by rw [← hJ]; simp
    refine VCall.plain fun R hR => v_slices_Insert_SSint_Sint rfl ?_
    have fin : ∀ b' M', Gr 1 M0 M' (.sc (.sl (some (b', 0)) (n + 1) (n + 1) false 1)) (us.take i ++ u :: us.drop i) → R (.sc (.sl (some (b', 0)) (n + 1) (n + 1) false 1)) M' := fun b' M' q => hR _ _ (.inl ⟨q, .inr ⟨b', _, rfl⟩⟩)
    have finC : ∀ l M', n + 1 ≤ c' → l.take (n + 1) = us.take i ++ u :: us.drop i → n + 1 ≤ l.length → Sub M0 M' → M' b = some l → R (.sc (.sl (some (b, 0)) (n + 1) c' true 1)) M' := fun l M' q0 q1 q2 q3 q4 =>
      hR _ _ (.inr ⟨b, n + 1, c', 1, l, true, rfl, q0, q4, by omega, by
        rw [Nat.mul_one, q1]
        exact ⟨.mk' (q3.set hm0) hm0 (by simp; omega) set_same, .inr ⟨b, _, rfl⟩⟩⟩)
    have hlit2 : cellsS (1 * 1) (.sc (.sl (some (bt, 0)) 1 1 true 1)) ((M1.set bt [u]).set b (us ++ J)) = some [u] := by
      simp only [cellsS, Nat.one_mul, set_ne (Ne.symm hne), set_same, Nat.zero_add, List.drop_zero]; rfl
    have hsub2 : Sub M0 ((M1.set bt [u]).set b (us ++ J)) := hsub.set hm0
    -- the check of the bounds
    have chk : ∃ r, slcV 1 (some (.int .i64 (i : Int))) none none (.sc (.sl (some (b, 0)) n c' true 1)) = some r := by
      by_cases h1 : i < c'
      · exact ⟨_, slc_lo (by omega) (by omega) (by omega) hc⟩
      · exact ⟨_, slc_end (by omega) (by omega)⟩
    obtain ⟨rr, chk⟩ := chk
    by_cases hin : i = n
    · subst hin
      refine sS1 @chk ?_
      refine cond_dec (fun h => by omega) (fun h => ?_)
      refine sS0 ?_
      simp only [appV, lenS, hlit2]
      refine ⟨_, _, .refl _ _, ?_⟩
      simp only [appW, set_same]
      rw [if_neg (by omega)]
      have et : us.take i ++ u :: us.drop i = us ++ [u] := by rw [List.take_of_length_le (by omega), List.drop_eq_nil_of_le (by omega)]
      rw [et] at fin finC
      by_cases hroom : i + 1 ≤ c'
      · rw [if_pos hroom]
        refine ⟨trivial, by simp [hu], by simp; omega, ?_⟩
        refine sS0 ?_
        obtain ⟨j0, J', rfl⟩ : ∃ j0 J', J = j0 :: J' := by
          cases J with
          | nil => simp at hJl; omega
          | cons a t => exact ⟨a, t, rfl⟩
        have e9 : (us ++ j0 :: J').set i u = (us ++ [u]) ++ J' := by
          rw [List.set_append_right _ _ (by omega), hn, Nat.sub_self]; simp
        refine finC _ _ hroom ?_ ?_ (hsub.set hm0) set_same
        · rw [e9, List.take_left' (by simp [hn])]
        · simp; omega
      · rw [if_neg hroom]
        have hJ0 : J = [] := List.eq_nil_of_length_eq_zero (by omega)
        subst hJ0
        refine ⟨by simp [mostCells]; omega, by simp [mostCells]; omega, ?_⟩
        have hco : cellsS (i * 1) (.sc (.sl (some (b, 0)) i c' true 1)) ((M1.set bt [u]).set b (us ++ [])) = some us := by
          simp only [cellsS, set_same, Nat.zero_add, Nat.mul_one, List.append_nil, List.drop_zero]
          split
          · rename_i h0
            have : us = [] := List.eq_nil_of_length_eq_zero (by omega)
            rw [this]
          · first | rw [if_pos (by omega), List.take_of_length_le (by omega)] | rw [List.take_of_length_le (by omega)]
        simp only [if_true, hco]
        intro b' hb'
        refine sS0 ?_
        exact fin _ _ (Gr.new' hsub2 hb' (by simp; omega))
    · have hin' : i < n := by omega
      have e11 : ((1 : Nat) : Int) = 1 := rfl
      have e1 : ((i : Int) + 1).toNat = i + 1 := by omega
      have e2 : ((n : Int) + 1).toNat = n + 1 := by omega
      have e3 : ((n : Int) + 1 - (i : Int)).toNat = n + 1 - i := by omega
      have hdl : ((us ++ J).drop i).take (n - i) = us.drop i := by
        rw [List.drop_append_of_le_length (by omega), List.take_left' (by simp; omega)]
      refine sS1 @chk ?_
      refine cond_dec (fun h => by omega) (fun h => ?_)
      refine sS0 ?_
      refine cond_dec (fun h => by omega) (fun h => ?_)
      refine sS1 @e11 ?_
      refine cond_dec (fun h => ?_) (fun h => ?_)
      · -- no room
        have hcn : c' = n := by omega
        have hJ0 : J = [] := List.eq_nil_of_length_eq_zero (by omega)
        simp (maxSteps := 2000000) (disch := first | omega | assumption | exact idP rfl | exact idP (bL rfl)) only [go_sem, reduceIte, Nat.reduceEqDiff, wpV_kd, wpV_tH, slc_hi, e1, e2, e3, e11]
        have hco : cellsS (i * 1) (.sc (.sl (some (b, 0)) i c' true 1)) ((M1.set bt [u]).set b (us ++ J)) = some (us.take i) := by
          simp only [cellsS, set_same, Nat.zero_add, Nat.mul_one, List.drop_zero]
          split
          · rename_i h0; rw [h0]; rfl
          · rw [if_pos (by simp; omega), List.take_append_of_le_length (by omega)]
        have hco : cellsS (i * [AV.sl none 0 0 true 0].length) (.sc (.sl (some (b, 0)) i c' true 1)) ((M1.set bt [u]).set b (us ++ J)) = some (us.take i) := hco
        simp only [appzV, e3, hco]
        refine ⟨by omega, by omega, by simp [mostCells]; omega, by simp [mostCells]; omega, ?_⟩
        intro b9 hb9
        have hz : ((zeros [AV.sl none 0 0 true 0] (n + 1 - i)).map V.sc).length = n + 1 - i := by simp [zeros_length]
        generalize hZ : (zeros [AV.sl none 0 0 true 0] (n + 1 - i)).map V.sc = Z at hz
        have hlen : i + (n + 1 - i) = n + 1 := by omega
        rw [hlen]
        have ne1 : b9 ≠ b := (fresh_set hb9).1
        have ne2 : b9 ≠ bt := (fresh_set (fresh_set hb9).2).1
        simp (maxSteps := 2000000) (disch := first | omega | assumption | exact idP rfl | exact idP (bL rfl)) only [go_sem, reduceIte, Nat.reduceEqDiff, wpV_kd, wpV_tH, slc_lo]
        refine copy_own (t := 1) (ls := [u]) (ld := us.take i ++ Z) (by rw [set_ne (Ne.symm ne2), set_ne (Ne.symm hne), set_same]) set_same (by omega) (by omega) (by simp) (by simp; omega) (by simp [hu]) ?_
        simp (maxSteps := 2000000) (disch := first | omega | assumption | exact idP rfl | exact idP (bL rfl)) only [go_sem, reduceIte, Nat.reduceEqDiff, wpV_kd, wpV_tH, slc_lo, e11, e1]
        refine copy_own (t := n - i) (ls := us ++ J) (ld := (us.take i ++ Z).set i u) (by rw [set_ne (Ne.symm ne1), set_same]) (by rw [set_same]) (by omega) (by omega) (by simp; omega) (by simp; omega) (by rw [hdl]; exact all_drop hus i) ?_
        refine sS0 ?_
        refine fin _ _ ?_
        simp only [Nat.zero_add, hdl]
        rw [ins_new hi (by omega)]
        exact .mk' (hsub2.set' hb9) (hsub2.none hb9) (by simp; omega) set_same
      · -- room
        have hroom : n + 1 ≤ c' := by omega
        simp (maxSteps := 2000000) (disch := first | omega | assumption | exact idP rfl | exact idP (bL rfl)) only [go_sem, reduceIte, Nat.reduceEqDiff, wpV_kd, wpV_tH, slc_hi, e1, e2, e3, e11]
        simp (maxSteps := 2000000) (disch := first | omega | assumption | exact idP rfl | exact idP (bL rfl)) only [go_sem, reduceIte, Nat.reduceEqDiff, wpV_kd, wpV_tH, slc_lo, e1, e2, e11]
        have husz : 0 < us.length := by omega
        refine ⟨Ne.symm hne, by rw [set_ne (Ne.symm hne), set_same]; rfl, ?_, ?_⟩
        · cases hus' : us with
          | nil => rw [hus'] at husz; simp at husz
          | cons a t => exact ⟨a, t ++ J, by rw [set_same]; rfl⟩
        simp (maxSteps := 2000000) (disch := first | omega | assumption | exact idP rfl | exact idP (bL rfl)) only [go_sem, reduceIte, Nat.reduceEqDiff, wpV_kd, wpV_tH, slc_lo, e1, e2, e11]
        refine copy_own (t := n - i) (ls := us ++ J) (ld := us ++ J) set_same set_same (by omega) (by omega) (by simp; omega) (by simp; omega) (by rw [hdl]; exact all_drop hus i) ?_
        simp (maxSteps := 2000000) (disch := first | omega | assumption | exact idP rfl | exact idP (bL rfl)) only [go_sem, reduceIte, Nat.reduceEqDiff, wpV_kd, wpV_tH, slc_lo, e1, e2, e11]
        refine copy_own (t := 1) (ls := [u]) (ld := setAtG (us ++ J) (i + 1) ((us ++ J).drop i |>.take (n - i))) (by rw [set_ne (Ne.symm hne), set_same]) set_same (by omega) (by omega) (by simp) (by rw [setAtG_mid _ _ _ (by simp; omega)]; simp; omega) (by simp [hu]) ?_
        refine sS0 ?_
        refine finC _ _ hroom ?_ ?_ (hsub.set hm0) set_same
        · rw [hdl, ← hn]
          exact ins_room (by omega) (by omega)
        · rw [hdl, setAtG_mid _ _ _ (by simp; omega)]; simp; omega
end Go.M2

namespace Go.M2
open Go.Proofs
variable {M : MH}
def isL (xs : List Int) (u : V) : Prop := LI u xs
theorem t_l2Put {v w : V} {l : List (List Int)} {x : List Int} (hv : LII v l) (hw : LI w x) (hl : l.length ≤ 1048576) (hll : ∀ y ∈ l, y.length ≤ 1048576) (hx : x.length ≤ 1048576) :
    VCall Try.prog n_spec_l2Put [v, w] M (fun r M' => ∃ us, Gr 1 M M' r us ∧ Cs isL us (putF l x)) := by
  refine VCall.plain fun R hR => v_spec_l2Put rfl ?_
  have hw1 := hw.one.1
  have hw2 := hw.one.2
  (repeat' (first | ((with_reducible first | refine cond_dec (fun h => ?_) (fun h => ?_) | refine guardK_dec (fun h => ?_) (fun h => ?_) | refine guardD3_dec (fun h => ?_) (fun h => ?_)) <;> first | (exfalso; omega) | (simp (maxSteps := 2000000) (disch := first | omega | assumption | exact idP rfl | exact idP (bL rfl)) only [go_sem, reduceIte, Nat.reduceEqDiff, wpV_kd, wpV_tH, h]) | skip) | ((with_reducible first | refine cond_split (fun h => ?_) (fun h => ?_) | refine guardK_split (fun h => ?_) (fun h => ?_) | refine guardD3_split (fun h => ?_) (fun h => ?_)) <;> ((try simp only [Bool.not_eq_true', Bool.not_eq_false'] at h); first | (simp (maxSteps := 2000000) (disch := first | omega | assumption | exact idP rfl | exact idP (bL rfl)) only [go_sem, reduceIte, Nat.reduceEqDiff, wpV_kd, wpV_tH, h]) | skip)) | (with_reducible intro bk hbk; try have hnk := (fresh_set hbk).1) | (simp (maxSteps := 2000000) (disch := first | omega | assumption | exact idP rfl | exact idP (bL rfl)) only [go_sem, reduceIte, Nat.reduceEqDiff, wpV_kd, wpV_tH])))
  refine loop_k (fun e M' => ∃ (i : Nat) (d : Bool) (us : List V) (out : List (List Int)), i ≤ l.length ∧ e 0 = v ∧ e 1 = w ∧ e 6 = .sc (.bool d) ∧ e 7 = .sc (.int .i64 i) ∧ Gr 1 M M' (e 5) us ∧ Cs isL us out ∧ out.length ≤ i + 1 ∧
    (d = false → out = l.take i ∧ ∀ j (hj : j < l.length), j < i → lessF l[j] x = true) ∧ (d = true → putF l x = out ++ l.drop i)) (fun e _ => ctrV l.length (e 7)) ?_ ?_
  · exact ⟨0, false, [], [], by omega, sT0, sT0, sT0, by refine sS0 ?_; rfl, by refine sS0 ?_; exact Gr.new' (Sub.refl _) hbk rfl, .nil, by simp, fun _ => ⟨rfl, fun j _ h => by omega⟩, fun h => (by cases h)⟩
  · rintro e M1 ⟨i, d, us, out, hi, e0, e1, e6, e7, hg, hc, hol, hd0, hd1⟩ K hK
    have hul := hc.1
    refine sS5 @e0 @e1 @e6 @e7 @hv.len ?_
    refine cond_dec (fun h => ?_) (fun h => ?_)
    · have hi' : i < l.length := by omega
      have hat := hv.elt hi'
      have ha1 := hat.one.1
      have ha2 := hat.one.2
      have hll' := hll _ (List.getElem_mem hi')
      have step : ∀ (us' : List V) (out' : List (List Int)) (s : V) (M2 : MH) (d' : Bool), Gr 1 M M2 s us' → Cs isL us' out' → out'.length ≤ i + 1 → (d' = false → out' = l.take i ∧ (∀ j (hj : j < l.length), j < i + 1 → lessF l[j] x = true)) → (d' = true → putF l x = out' ++ l.drop i) →
          ∀ bt, M2 bt = none → ∀ (K' : V → MH → Prop), (∀ s' M', Gr 1 M M' s' (us' ++ [at1 v i]) → Cs isL (us' ++ [at1 v i]) (out' ++ [l[i]]) → (out' ++ [l[i]]).length ≤ i + 1 + 1 →
            (d' = false → out' ++ [l[i]] = l.take (i + 1) ∧ ∀ j (hj : j < l.length), j < i + 1 → lessF l[j] x = true) → (d' = true → putF l x = (out' ++ [l[i]]) ++ l.drop (i + 1)) → K' s' M') →
          appV 1 24 s (.sc (.sl (some (bt, 0)) 1 1 true 1)) (M2.set bt [at1 v i]) K' := by
        intro us' out' s M2 d' q1 q2 q3 q4 q5 bt hbt K' hk
        refine app_val q1 hbt ha1 (by have := q2.1; omega) (by omega) fun s' M' g1 g2 => hk s' M' g1 (q2.snoc hat) (by simp; omega) (fun h => ?_) (fun h => ?_)
        · obtain ⟨rfl, h2⟩ := q4 h
          exact ⟨(take_snoc hi').symm, h2⟩
        · rw [q5 h, List.drop_eq_getElem_cons hi']; simp
      cases d with
      | true =>
        have hd1 := hd1 rfl
        refine sS7 @e0 @e1 @e6 @e7 @hv.iaddr @ha1 @ha2 ?_
        intro bt hbt
        refine step us out _ M1 true hg hc hol (fun h => (by cases h)) (fun _ => hd1) bt hbt _ ?_
        intro s' M' g1 g2 g3 g4 g5
        refine sS4 @e0 @e1 @e6 @e7 ?_
        exact hK _ _ ⟨i + 1, true, _, _, by omega, sT0, sT0, sT0, by refine sS0 ?_; rfl, by refine sS0 ?_; exact g1, g2, g3, g4, g5⟩ (by refine sS2 @ctrV_int @e7 ?_; omega)
      | false =>
        obtain ⟨rfl, hlt⟩ := hd0 rfl
        refine sS7 @e0 @e1 @e6 @e7 @hv.iaddr @ha1 @ha2 ?_
        refine (t_l2Same hat hw hll').mono ?_
        rintro _ _ ⟨rfl, rfl⟩
        by_cases heq : l[i] = x
        · have hd : decide (l[i] = x) = true := by simpa using heq
          refine sS4 @hd @hv.iaddr @ha1 @ha2 ?_
          intro bt hbt
          refine step us (l.take i) _ M1 true hg hc (by simp; omega) (fun h => (by cases h)) (fun _ => by rw [putF_in hi' hlt heq, List.take_append_drop]) bt hbt _ ?_
          intro s' M' g1 g2 g3 g4 g5
          refine sS4 @e0 @e1 @e6 @e7 ?_
          exact hK _ _ ⟨i + 1, true, _, _, by omega, sT0, sT0, sT0, by refine sS0 ?_; rfl, by refine sS0 ?_; exact g1, g2, g3, g4, g5⟩ (by refine sS2 @ctrV_int @e7 ?_; omega)
        · have hd : decide (l[i] = x) = false := by simpa using heq
          refine sS4 @hd @hv.iaddr @ha1 @ha2 ?_
          refine (t_l2Less hw hat hx hll').mono ?_
          rintro _ _ ⟨rfl, rfl⟩
          cases hls : lessF x l[i] with
          | true =>
            refine sS5 @hv.iaddr @ha1 @ha2 @hw1 @hw2 ?_
            intro bt hbt
            refine app_val hg hbt hw1 (by omega) (by omega) ?_
            intro s1 M2 hg2 _
            refine sS3 @hv.iaddr @ha1 @ha2 ?_
            intro bt2 hbt2
            refine step (us ++ [w]) (l.take i ++ [x]) _ M2 true hg2 (hc.snoc hw) (by simp; omega) (fun h => (by cases h)) (fun _ => by rw [putF_at (by omega) hlt (fun _ => hls)]; simp) bt2 hbt2 _ ?_
            intro s' M' g1 g2 g3 g4 g5
            refine sS4 @e0 @e1 @e6 @e7 ?_
            exact hK _ _ ⟨i + 1, true, _, _, by omega, sT0, sT0, sT0, by refine sS0 ?_; rfl, by refine sS0 ?_; exact g1, g2, g3, g4, g5⟩ (by refine sS2 @ctrV_int @e7 ?_; omega)
          | false =>
            refine sS5 @hv.iaddr @ha1 @ha2 @hw1 @hw2 ?_
            intro bt hbt
            refine step us (l.take i) _ M1 false hg hc (by simp; omega) (fun _ => ⟨rfl, fun j hj1 hj2 => ?_⟩) (fun h => (by cases h)) bt hbt _ ?_
            · by_cases hji : j = i
              · subst hji
                rcases lessF_tri l[j] x with h1 | h1 | h1
                · exact h1
                · exact absurd h1 heq
                · rw [hls] at h1; cases h1
              · exact hlt j hj1 (by omega)
            intro s' M' g1 g2 g3 g4 g5
            refine sS4 @e0 @e1 @e6 @e7 ?_
            exact hK _ _ ⟨i + 1, false, _, _, by omega, sT0, sT0, sT0, by refine sS0 ?_; rfl, by refine sS0 ?_; exact g1, g2, g3, g4, g5⟩ (by refine sS2 @ctrV_int @e7 ?_; omega)
    · obtain rfl : i = l.length := by omega
      cases d with
      | true =>
        refine sS1 @e6 ?_
        refine hR _ _ ⟨us, hg, ?_⟩
        rw [hd1 rfl, List.drop_length, List.append_nil]
        exact hc
      | false =>
        obtain ⟨rfl, hlt⟩ := hd0 rfl
        refine sS4 @e1 @e6 @hw1 @hw2 ?_
        intro bt hbt
        refine app_val hg hbt hw1 (by omega) (by omega) ?_
        intro s1 M2 hg2 _
        refine sS0 ?_
        refine hR _ _ ⟨_, hg2, ?_⟩
        rw [putF_at (Nat.le_refl _) hlt (fun h => by omega), List.drop_length]
        exact hc.snoc hw
theorem f_l2Put {v w : V} {l : List (List Int)} {x : List Int} (hv : LII v l) (hw : LI w x) (hl : l.length ≤ 1048576) (hll : ∀ y ∈ l, y.length ≤ 1048576) (hx : x.length ≤ 1048576) :
    VCall Try.prog n_spec_l2Put [v, w] M (fun r M' => M = M' ∧ LII r (putF l x)) :=
  (VCall.fr (l := fun _ us => Cs isL us (putF l x)) (t_l2Put hv hw hl hll hx) (fun _ _ _ h => h)).mono fun r M' ⟨h1, c, h2, h3⟩ => ⟨h1, h2.lsC h3⟩
theorem t_l2Next {v w : V} {s : SysS} {st : List Int} (hv : isSys s v) (hs : SysOk s) (hw : LI w st) (hin : StIn s.vars st) : VCall Try.prog n_spec_l2Next [v, w] M (fun r M' => M = M' ∧ LII r (nextF s st)) := by
  refine VCall.froz fun R hP hG => v_spec_l2Next rfl ?_
  have hv0 := hv
  obtain ⟨a, b, rfl, ha, hb⟩ := hv
  have h1 := hs.v1
  have h5 := hs.v5
  have h8 := hs.r8
  (repeat' (first | ((with_reducible first | refine cond_dec (fun h => ?_) (fun h => ?_) | refine guardK_dec (fun h => ?_) (fun h => ?_) | refine guardD3_dec (fun h => ?_) (fun h => ?_)) <;> first | (exfalso; omega) | (simp (maxSteps := 2000000) (disch := first | omega | assumption | exact idP rfl | exact idP (bL rfl)) only [go_sem, reduceIte, Nat.reduceEqDiff, wpV_kd, wpV_tH, h]) | skip) | ((with_reducible first | refine cond_split (fun h => ?_) (fun h => ?_) | refine guardK_split (fun h => ?_) (fun h => ?_) | refine guardD3_split (fun h => ?_) (fun h => ?_)) <;> ((try simp only [Bool.not_eq_true', Bool.not_eq_false'] at h); first | (simp (maxSteps := 2000000) (disch := first | omega | assumption | exact idP rfl | exact idP (bL rfl)) only [go_sem, reduceIte, Nat.reduceEqDiff, wpV_kd, wpV_tH, h]) | skip)) | (with_reducible intro bk hbk; try have hnk := (fresh_set hbk).1) | (simp (maxSteps := 2000000) (disch := first | omega | assumption | exact idP rfl | exact idP (bL rfl)) only [go_sem, reduceIte, Nat.reduceEqDiff, wpV_kd, wpV_tH])))
  rename_i bb hbb
  -- the list is frozen from the second round on: the first one is owned, and empty
  refine loop_k (fun e M' => Sub (M.set bb [a, b]) M' ∧ ∃ i : Nat, i ≤ s.rules.length ∧ e 1 = w ∧ e 2 = .sc (.ptr (some (bb, 0))) ∧ e 6 = .sc (.int .i64 i) ∧ (LII (e 5) (nextGo s.vars st (s.rules.take i) []) ∨ (nextGo s.vars st (s.rules.take i) [] = [] ∧ Gr 1 (M.set bb [a, b]) M' (e 5) []))) (fun e _ => ctrV s.rules.length (e 6)) ?_ ?_
  · refine ⟨(Sub.refl _).set hbk, 0, by omega, sT0, sT0, by refine sS0 ?_; rfl, .inr ⟨rfl, ?_⟩⟩
    refine sS0 ?_
    exact Gr.new' (Sub.refl _) hbk rfl
  · rintro e M1 ⟨hsub, i, hi, e1, e2, e6, h5'⟩ K hK
    have hm : M1 bb = some [a, b] := hsub _ _ set_same
    refine sS5 @e1 @e2 @e6 @hm @hb.len ?_
    refine cond_dec (fun h => ?_) (fun h => ?_)
    · have hi' : i < s.rules.length := by omega
      refine sS4 @e1 @e2 @e6 @hm ?_
      refine (t_l2Use hv0 hs hw hin hi').mono ?_
      rintro r _ ⟨rfl, hr⟩
      have hnt := nextGo_take (vars := s.vars) (st := st) hi'
      have hok := nextGo_ok (vars := s.vars) (st := st) (rs := s.rules.take i) (l := []) List.Pairwise.nil (fun x hx => by cases hx)
      have hnl := nextGo_len (vars := s.vars) (st := st) (rs := s.rules.take i) (l := [])
      simp at hnl
      cases hu : useR s.vars s.rules[i] st with
      | none =>
        rw [hu] at hr hnt
        simp only [lRes] at hr
        subst hr
        (repeat' (first | ((with_reducible first | refine cond_dec (fun h => ?_) (fun h => ?_) | refine guardK_dec (fun h => ?_) (fun h => ?_) | refine guardD3_dec (fun h => ?_) (fun h => ?_)) <;> first | (exfalso; omega) | (simp (maxSteps := 2000000) (disch := first | omega | assumption | exact idP rfl | exact idP (bL rfl)) only [go_sem, reduceIte, Nat.reduceEqDiff, wpV_kd, wpV_tH, h]) | skip) | ((with_reducible first | refine cond_split (fun h => ?_) (fun h => ?_) | refine guardK_split (fun h => ?_) (fun h => ?_) | refine guardD3_split (fun h => ?_) (fun h => ?_)) <;> ((try simp only [Bool.not_eq_true', Bool.not_eq_false'] at h); first | (simp (maxSteps := 2000000) (disch := first | omega | assumption | exact idP rfl | exact idP (bL rfl)) only [go_sem, reduceIte, Nat.reduceEqDiff, wpV_kd, wpV_tH, h]) | skip)) | (with_reducible intro bk hbk; try have hnk := (fresh_set hbk).1) | (simp (maxSteps := 2000000) (disch := first | omega | assumption | exact idP rfl | exact idP (bL rfl)) only [go_sem, reduceIte, Nat.reduceEqDiff, wpV_kd, wpV_tH])))
        refine hK _ _ ⟨hsub, i + 1, by omega, sT0, sT0, by refine sS0 ?_; rfl, ?_⟩ (by refine sS2 @ctrV_int @e6 ?_; omega)
        refine sS0 ?_
        rw [hnt]; exact h5'
      | some x =>
        rw [hu] at hr hnt
        have hr : LI r x := hr
        have hxi := useR_in hu
        have hxl : x.length = s.vars.length := hxi.1
        refine sS1 @hr.len ?_
        refine cond_dec (fun h0 => ?_) (fun h0 => by omega)
        refine sS0 ?_
        rcases h5' with h6 | ⟨h6, h7⟩
        · refine (f_l2Put h6 hr (by omega) (fun y hy => by have := (hok.2 y hy).1; omega) (by omega)).mono ?_
          rintro r' _ ⟨rfl, hr'⟩
          refine sS0 ?_
          refine hK _ _ ⟨hsub, i + 1, by omega, sT0, sT0, by refine sS0 ?_; rfl, .inl ?_⟩ (by refine sS2 @ctrV_int @e6 ?_; omega)
          refine sS0 ?_
          rw [hnt]; exact hr'
        · refine VCall.give0 h7 fun u M2 hu hs2 => ?_
          have hun : LII u [] := hu.ls rfl fun i h => by simp at h
          refine (f_l2Put hun hr (by simp) (fun y hy => (by cases hy)) (by omega)).mono ?_
          rintro r' _ ⟨rfl, hr'⟩
          refine sS0 ?_
          refine hK _ _ ⟨hs2, i + 1, by omega, sT0, sT0, by refine sS0 ?_; rfl, .inl ?_⟩ (by refine sS2 @ctrV_int @e6 ?_; omega)
          refine sS0 ?_
          rw [hnt, h6]; exact hr'
    · obtain rfl : i = s.rules.length := by omega
      have hM : Sub M (M.set bb [a, b]) := sB
      rw [List.take_length] at h5'
      refine sS0 ?_
      rcases h5' with h6 | ⟨h6, h7⟩
      · exact hP _ _ (hM.trans hsub) h6
      · refine hG _ _ 1 _ ⟨hM.trans h7.sub, fun b' h' => hM.none (h7.new b' h'), h7.own⟩ fun u hu => ?_
        have : nextF s st = [] := h6
        rw [this]
        exact hu.ls rfl fun i h => by simp at h
end Go.M2

namespace Go.M2
open Go.Proofs
variable {M : MH}
theorem sizeF_mono {vs : List VarS} (hv : ∀ v ∈ vs, VarOk v) (h5 : vs.length ≤ 5) {i : Nat} : 1 ≤ sizeF (vs.take i) ∧ sizeF (vs.take i) ≤ 3200000 := sizeF_take_bd h5 fun j hj _ => hv _ (List.getElem_mem hj)
theorem t_l4Number {a b w : V} {vars : List VarS} {st : List Int} (ha : LVar a vars) (hw : LI w st) (hv : ∀ v ∈ vars, VarOk v) (h5 : vars.length ≤ 5) (hin : StIn vars st) :
    VCall Try.prog n_spec_l4Number [.agg [a, b], w] M (fun r M' => M = M' ∧ r = .sc (.int .i64 (numF vars st))) := by
  refine VCall.pure fun R hR => v_spec_l4Number rfl ?_
  have hlen := hin.1
  (repeat' (first | ((with_reducible first | refine cond_dec (fun h => ?_) (fun h => ?_) | refine guardK_dec (fun h => ?_) (fun h => ?_) | refine guardD3_dec (fun h => ?_) (fun h => ?_)) <;> first | (exfalso; omega) | (simp (maxSteps := 2000000) (disch := first | omega | assumption | exact idP rfl | exact idP (bL rfl)) only [go_sem, reduceIte, Nat.reduceEqDiff, wpV_kd, wpV_tH, h]) | skip) | ((with_reducible first | refine cond_split (fun h => ?_) (fun h => ?_) | refine guardK_split (fun h => ?_) (fun h => ?_) | refine guardD3_split (fun h => ?_) (fun h => ?_)) <;> ((try simp only [Bool.not_eq_true', Bool.not_eq_false'] at h); first | (simp (maxSteps := 2000000) (disch := first | omega | assumption | exact idP rfl | exact idP (bL rfl)) only [go_sem, reduceIte, Nat.reduceEqDiff, wpV_kd, wpV_tH, h]) | skip)) | (with_reducible intro bk hbk; try have hnk := (fresh_set hbk).1) | (simp (maxSteps := 2000000) (disch := first | omega | assumption | exact idP rfl | exact idP (bL rfl)) only [go_sem, reduceIte, Nat.reduceEqDiff, wpV_kd, wpV_tH])))
  refine loop_k (fun e M' => M' = M.set bk [a, b] ∧ ∃ i : Nat, i ≤ st.length ∧ e 1 = w ∧ e 2 = .sc (.ptr (some (bk, 0))) ∧ e 5 = .sc (.int .i64 (numF (vars.take i) (st.take i))) ∧ e 6 = .sc (.int .i64 i)) (fun e _ => ctrV st.length (e 6)) ?_ ?_
  · exact ⟨rfl, 0, by omega, sT0, sT0, by refine sS0 ?_; simp [numF, numGo], by refine sS0 ?_; rfl⟩
  · rintro e _ ⟨rfl, i, hi, e1, e2, e5, e6⟩ K hK
    refine sS5 @e1 @e2 @e5 @e6 @hw.len ?_
    refine cond_dec (fun h => ?_) (fun h => ?_)
    · have hi1 : i < vars.length := by omega
      have hi2 : i < st.length := by omega
      have hok := hv _ (List.getElem_mem hi1)
      have hinr := hin.2 i hi1 hi2
      have hb1 := numF_bd hv hin i (by omega)
      have hb2 := numF_bd hv hin (i + 1) (by omega)
      have hs1 := sizeF_mono hv h5 (i := i)
      have hs2 := sizeF_mono hv h5 (i := i + 1)
      have hnt := numF_take hi1 hi2
      have hmb : 0 ≤ numF (vars.take i) (st.take i) * (vars[i].high - vars[i].low + 1) ∧ numF (vars.take i) (st.take i) * (vars[i].high - vars[i].low + 1) ≤ 3200000 * 20 := by
        unfold VarOk at hok
        exact ⟨Int.mul_nonneg hb1.1 (by omega), Int.mul_le_mul (by omega) (by omega) (by omega) (by omega)⟩
      unfold VarOk at hok
      simp (maxSteps := 2000000) (disch := first | omega | assumption | exact idP rfl | exact idP (bL rfl)) only [go_sem, reduceIte, Nat.reduceEqDiff, wpV_kd, wpV_tH, e1, e2, e5, e6, ha.iaddr, LVar.at ha hi1, hw.iaddr, hw.at hi2]
      refine hK _ _ ⟨rfl, i + 1, by omega, sT0, sT0, by refine sS0 ?_; rw [hnt]; rfl, by refine sS0 ?_; rfl⟩ (by refine sS2 @ctrV_int @e6 ?_; omega)
    · obtain rfl : i = st.length := by omega
      refine sS1 @e5 ?_
      exact hR _ _ (sB) (by rw [List.take_length, hlen, List.take_length])
theorem drop_cons' {α : Type} {l : List α} {j : Nat} (h : j < l.length) : l.drop j = l[j] :: l.drop (j + 1) := List.drop_eq_getElem_cons h
theorem set_take {l t : List Int} {j : Nat} (h : j < l.length) (x : Int) : (l.take (j + 1) ++ t).set j x = l.take j ++ x :: t := by
  rw [take_snoc h, List.append_assoc, List.set_append_right _ _ (by simp; omega)]
  have : j - (l.take j).length = 0 := by simp; omega
  rw [this]; rfl
theorem t_l4State {v : V} {s : SysS} {n : Int} (hv : isSys s v) (hs : SysOk s) (h0 : 0 ≤ n) (h1 : n ≤ 1099511627776) : VCall Try.prog n_spec_l4State [v, .sc (.int .i64 n)] M (fun r M' => Gr 1 M M' r ((stGo s.vars n).map vi)) := by
  refine VCall.plain fun R hR => v_spec_l4State rfl ?_
  have hv0 := hv
  obtain ⟨a, b, rfl, ha, hb⟩ := hv
  have h1' := hs.v1
  have h5 := hs.v5
  have hfl : (firstF s).length = s.vars.length := by simp [firstF]
  (repeat' (first | ((with_reducible first | refine cond_dec (fun h => ?_) (fun h => ?_) | refine guardK_dec (fun h => ?_) (fun h => ?_) | refine guardD3_dec (fun h => ?_) (fun h => ?_)) <;> first | (exfalso; omega) | (simp (maxSteps := 2000000) (disch := first | omega | assumption | exact idP rfl | exact idP (bL rfl)) only [go_sem, reduceIte, Nat.reduceEqDiff, wpV_kd, wpV_tH, h]) | skip) | ((with_reducible first | refine cond_split (fun h => ?_) (fun h => ?_) | refine guardK_split (fun h => ?_) (fun h => ?_) | refine guardD3_split (fun h => ?_) (fun h => ?_)) <;> ((try simp only [Bool.not_eq_true', Bool.not_eq_false'] at h); first | (simp (maxSteps := 2000000) (disch := first | omega | assumption | exact idP rfl | exact idP (bL rfl)) only [go_sem, reduceIte, Nat.reduceEqDiff, wpV_kd, wpV_tH, h]) | skip)) | (with_reducible intro bk hbk; try have hnk := (fresh_set hbk).1) | (simp (maxSteps := 2000000) (disch := first | omega | assumption | exact idP rfl | exact idP (bL rfl)) only [go_sem, reduceIte, Nat.reduceEqDiff, wpV_kd, wpV_tH])))
  refine (VCall.fr1 (t_FirstState hv0 hs)).mono ?_
  rintro r _ ⟨rfl, hr⟩
  refine sS0 ?_
  refine (t_l3Copy hr.li (by omega)).mono ?_
  rintro r2 M2 hg2
  simp (maxSteps := 2000000) (disch := first | omega | assumption | exact idP rfl | exact idP (bL rfl)) only [go_sem, reduceIte, Nat.reduceEqDiff, wpV_kd, wpV_tH, hg2.sub bk _ set_same, ha.len]
  refine loop_k (fun e M' => ∃ j : Nat, j ≤ s.vars.length ∧ e 1 = .sc (.int .i64 (qGo (s.vars.drop j) n)) ∧ e 2 = .sc (.ptr (some (bk, 0))) ∧ e 6 = .sc (.int .i64 ((j : Int) - 1)) ∧ Gr 1 (M.set bk [a, b]) M' (e 5) (((firstF s).take j ++ stGo (s.vars.drop j) n).map vi)) (fun e _ => match e 6 with | .sc (.int _ i) => (i + 1).toNat | _ => 0) ?_ ?_
  · refine ⟨s.vars.length, Nat.le_refl _, by refine sS0 ?_; simp [qGo], sT0, sT0, ?_⟩
    refine sS0 ?_
    rw [List.drop_length, ← hfl, List.take_length]
    simpa [stGo] using hg2
  · rintro e M3 ⟨j, hj, e1, e2, e6, hg⟩ K hK
    have hm := hg.sub bk _ set_same
    refine sS3 @e1 @e2 @e6 ?_
    refine cond_dec (fun h => ?_) (fun h => ?_)
    · obtain ⟨i, rfl⟩ : ∃ i, j = i + 1 := ⟨j - 1, by omega⟩
      have hi : i < s.vars.length := by omega
      have hok := hs.vars _ (List.getElem_mem hi)
      have hsp := span_pos hok
      have hq := qGo_bd (vs := s.vars.drop (i + 1)) (n := n) (fun u hu => hs.vars u (List.mem_of_mem_drop hu)) h0
      have et : (((i + 1 : Nat) : Int) - 1) = (i : Int) := by omega
      have hol : ((firstF s).take (i + 1) ++ stGo (s.vars.drop (i + 1)) n).length = s.vars.length := by simp [stGo_len]; omega
      have hat := hg.at (by rw [len_vi]; omega)
      have hia : ∀ {k : IntKind} {x : Int}, 0 ≤ x → x < (s.vars.length : Int) → iaddrV 1 (e 5) (.int k x) = some (.sc (.ptr (some (oB (e 5), x.toNat)))) := fun q1 q2 => hg.own.iaddr q1 (by rw [len_vi, hol]; exact q2)
      have hso : i < (((firstF s).take (i + 1) ++ stGo (s.vars.drop (i + 1)) n).map vi).length := by rw [len_vi]; omega
      have hm1 := Int.emod_nonneg (qGo (s.vars.drop (i + 1)) n) (show span1 s.vars[i] ≠ 0 by omega)
      have hm2 := Int.emod_lt_of_pos (qGo (s.vars.drop (i + 1)) n) (show 0 < span1 s.vars[i] by omega)
      unfold span1 at hsp hm1 hm2
      unfold VarOk at hok
      simp (maxSteps := 2000000) (disch := first | omega | assumption | exact idP rfl | exact idP (bL rfl)) only [go_sem, reduceIte, Nat.reduceEqDiff, wpV_kd, wpV_tH, e1, e2, e6, hm, et, ha.iaddr, LVar.at ha hi, hia, hat]
      have hgs := hg.setO (l' := ((firstF s).take i ++ stGo (s.vars.drop i) n).map vi) (by rw [len_vi]; omega) (by rw [len_vi, len_vi, hol]; simp [stGo_len]; omega)
      refine hK _ _ ⟨i, by omega, by refine sS0 ?_; rw [drop_cons' hi]; rfl, sT0, sT0, ?_⟩ (by refine sS1 @e6 ?_; omega)
      refine sS0 ?_
      have e9 : ((firstF s).take (i + 1) ++ stGo (s.vars.drop (i + 1)) n).set i (s.vars[i].low + qGo (s.vars.drop (i + 1)) n % (s.vars[i].high - s.vars[i].low + 1)) = (firstF s).take i ++ stGo (s.vars.drop i) n := by
        rw [set_take (by omega), drop_cons' hi]; rfl
      rw [set_vi, e9]
      exact hgs
    · obtain rfl : j = 0 := by omega
      refine sS0 ?_
      refine hR _ _ ?_
      rw [List.take_zero, List.nil_append, List.drop_zero] at hg
      have hsub : Sub M (M.set bk [a, b]) := sB
      exact ⟨hsub.trans hg.sub, fun b' h' => hsub.none (hg.new b' h'), hg.own⟩
theorem f_l4State {v : V} {s : SysS} {n : Int} (hv : isSys s v) (hs : SysOk s) (h0 : 0 ≤ n) (h1 : n ≤ 1099511627776) : VCall Try.prog n_spec_l4State [v, .sc (.int .i64 n)] M (fun r M' => M = M' ∧ LI r (stGo s.vars n)) :=
  (VCall.fr1 (t_l4State hv hs h0 h1)).mono fun r M' ⟨h1, h2⟩ => ⟨h1, h2.li⟩
end Go.M2

namespace Go.M2
open Go.Proofs
variable {M : MH}
theorem SysOk.sz {s : SysS} (hs : SysOk s) : 1 ≤ sizeF s.vars ∧ sizeF s.vars ≤ 400 := by
  have := sizeF_mono hs.vars hs.v5 (i := s.vars.length)
  rw [List.take_length] at this
  exact ⟨this.1, hs.size⟩
theorem tabF_take {s : SysS} {n : Nat} (h : n < (sizeF s.vars).toNat) : (tabF s).take (n + 1) = (tabF s).take n ++ [rowF s n] := by
  rw [take_snoc (by rw [tabF_len]; exact h)]
  simp [tabF]
theorem nextF_len {s : SysS} (hs : SysOk s) (st : List Int) : (nextF s st).length ≤ 8 := by
  have := nextGo_len (vars := s.vars) (st := st) (rs := s.rules) (l := [])
  have := hs.r8
  simp at *
  unfold nextF
  omega
theorem t_l4Steps {v : V} {s : SysS} (hv : isSys s v) (hs : SysOk s) : VCall Try.prog n_spec_l4Steps [v] M (fun r M' => ∃ us, Gr 1 M M' r us ∧ Cs isL us (tabF s)) := by
  refine VCall.plain fun R hR => v_spec_l4Steps rfl ?_
  have hv0 := hv
  obtain ⟨a, b, rfl, ha, hb⟩ := hv
  have hsz := hs.sz
  (repeat' (first | ((with_reducible first | refine cond_dec (fun h => ?_) (fun h => ?_) | refine guardK_dec (fun h => ?_) (fun h => ?_) | refine guardD3_dec (fun h => ?_) (fun h => ?_)) <;> first | (exfalso; omega) | (simp (maxSteps := 2000000) (disch := first | omega | assumption | exact idP rfl | exact idP (bL rfl)) only [go_sem, reduceIte, Nat.reduceEqDiff, wpV_kd, wpV_tH, h]) | skip) | ((with_reducible first | refine cond_split (fun h => ?_) (fun h => ?_) | refine guardK_split (fun h => ?_) (fun h => ?_) | refine guardD3_split (fun h => ?_) (fun h => ?_)) <;> ((try simp only [Bool.not_eq_true', Bool.not_eq_false'] at h); first | (simp (maxSteps := 2000000) (disch := first | omega | assumption | exact idP rfl | exact idP (bL rfl)) only [go_sem, reduceIte, Nat.reduceEqDiff, wpV_kd, wpV_tH, h]) | skip)) | (with_reducible intro bk hbk; try have hnk := (fresh_set hbk).1) | (simp (maxSteps := 2000000) (disch := first | omega | assumption | exact idP rfl | exact idP (bL rfl)) only [go_sem, reduceIte, Nat.reduceEqDiff, wpV_kd, wpV_tH])))
  rename_i bb hbb
  refine loop_k (fun e M' => ∃ (n : Nat) (us : List V), (n : Int) ≤ sizeF s.vars ∧ e 1 = .sc (.ptr (some (bb, 0))) ∧ e 4 = .sc (.int .i64 n) ∧ Gr 1 (M.set bb [a, b]) M' (e 3) us ∧ Cs isL us ((tabF s).take n)) (fun e _ => ctrV (sizeF s.vars).toNat (e 4)) ?_ ?_
  · exact ⟨0, [], by omega, sT0, by refine sS0 ?_; rfl, by refine sS0 ?_; exact Gr.new' (Sub.refl _) hbk rfl, .nil⟩
  · rintro e M1 ⟨n, us, hn, e1, e4, hg, hc⟩ K hK
    have hm := hg.sub bb _ set_same
    have hul := hc.1
    rw [List.length_take, tabF_len] at hul
    (repeat' (first | ((with_reducible first | refine cond_dec (fun h => ?_) (fun h => ?_) | refine guardK_dec (fun h => ?_) (fun h => ?_) | refine guardD3_dec (fun h => ?_) (fun h => ?_)) <;> first | (exfalso; omega) | (simp (maxSteps := 2000000) (disch := first | omega | assumption | exact idP rfl | exact idP (bL rfl)) only [go_sem, reduceIte, Nat.reduceEqDiff, wpV_kd, wpV_tH, h, e1, e4, hm]) | skip) | ((with_reducible first | refine cond_split (fun h => ?_) (fun h => ?_) | refine guardK_split (fun h => ?_) (fun h => ?_) | refine guardD3_split (fun h => ?_) (fun h => ?_)) <;> ((try simp only [Bool.not_eq_true', Bool.not_eq_false'] at h); first | (simp (maxSteps := 2000000) (disch := first | omega | assumption | exact idP rfl | exact idP (bL rfl)) only [go_sem, reduceIte, Nat.reduceEqDiff, wpV_kd, wpV_tH, h, e1, e4, hm]) | skip)) | ((with_reducible refine (t_SizeOf hv0 hs).mono ?_); rintro _ _ ⟨rfl, rfl⟩) | (with_reducible intro bk hbk; try have hnk := (fresh_set hbk).1) | (simp (maxSteps := 2000000) (disch := first | omega | assumption | exact idP rfl | exact idP (bL rfl)) only [go_sem, reduceIte, Nat.reduceEqDiff, wpV_kd, wpV_tH, e1, e4, hm])))
    · -- one more row
      have hn' : n < (sizeF s.vars).toNat := by omega
      refine (f_l4State hv0 hs (n := (n : Int)) (by omega) (by omega)).mono ?_
      rintro st _ ⟨rfl, hst⟩
      refine sS3 @e1 @e4 @hm ?_
      have hin : StIn s.vars (stGo s.vars (n : Int)) := stGo_in hs.vars
      refine (t_l2Next hv0 hs hst hin).mono ?_
      rintro nx _ ⟨rfl, hnx⟩
      have hnl := nextF_len hs (stGo s.vars (n : Int))
      refine sS2 @e1 @e4 ?_
      intro b6 hb6
      refine loop_k (fun e' M' => ∃ i : Nat, i ≤ (nextF s (stGo s.vars (n : Int))).length ∧ e' 1 = .sc (.ptr (some (bb, 0))) ∧ e' 3 = e 3 ∧ e' 4 = .sc (.int .i64 n) ∧ e' 5 = nx ∧ e' 7 = .sc (.int .i64 i) ∧ Gr 1 M1 M' (e' 6) ((((nextF s (stGo s.vars (n : Int))).take i).map (numF s.vars)).map vi)) (fun e' _ => ctrV (nextF s (stGo s.vars (n : Int))).length (e' 7)) ?_ ?_
      · exact ⟨0, by omega, sT0, sT0, sT0, sT0, by refine sS0 ?_; rfl, by refine sS0 ?_; exact Gr.new' (Sub.refl _) hb6 rfl⟩
      · rintro e' M2 ⟨i, hi, f1, f3, f4, f5, f7, hg2⟩ K2 hK2
        have hm2 := hg2.sub bb _ hm
        refine sS6 @f1 @f3 @f4 @f5 @f7 @hnx.len ?_
        refine cond_dec (fun h => ?_) (fun h => ?_)
        · have hi' : i < (nextF s (stGo s.vars (n : Int))).length := by omega
          have hxi := nextF_in (List.getElem_mem hi')
          refine sS7 @f1 @f3 @f4 @f5 @f7 @hm2 @hnx.iaddr ?_
          refine (t_l4Number ha (hnx.elt hi') hs.vars hs.v5 hxi).mono ?_
          rintro _ _ ⟨rfl, rfl⟩
          refine sS5 @f1 @f3 @f4 @f5 @f7 ?_
          intro bt hbt
          refine app_int hg2 hbt (by simp; omega) (by omega) ?_
          intro s' M' hg' _
          refine sS5 @f1 @f3 @f4 @f5 @f7 ?_
          refine hK2 _ _ ⟨i + 1, by omega, sT0, sT0, sT0, sT0, by refine sS0 ?_; rfl, ?_⟩ (by refine sS2 @ctrV_int @f7 ?_; omega)
          refine sS0 ?_
          rw [take_snoc hi', List.map_append]
          exact hg'
        · have hie : i = (nextF s (stGo s.vars (n : Int))).length := by omega
          rw [hie, List.take_length] at hg2
          have ho := hg2.one
          have ho1 := ho.1
          refine sS6 @f1 @f3 @f4 @f5 ho.1 ho.2 ?_
          intro bt hbt
          refine app_row hg hg2 hbt (by omega) (by omega) ?_
          intro s' M' u hg' hu
          refine sS0 ?_
          refine hK _ _ ⟨n + 1, _, by omega, sT0, by refine sS0 ?_; rfl, by refine sS0 ?_; exact hg', ?_⟩ (by refine sS2 @ctrV_int @e4 ?_; omega)
          rw [tabF_take hn']
          exact hc.snoc (x := rowF s n) hu.li
    · have hne : n = (sizeF s.vars).toNat := by omega
      rw [hne, List.take_of_length_le (by rw [tabF_len]; exact Nat.le_refl _)] at hc
      exact hR _ _ ⟨us, hg.base (sB), hc⟩
theorem f_l4Steps {v : V} {s : SysS} (hv : isSys s v) (hs : SysOk s) : VCall Try.prog n_spec_l4Steps [v] M (fun r M' => M = M' ∧ LII r (tabF s)) :=
  (VCall.fr (l := fun _ us => Cs isL us (tabF s)) (t_l4Steps hv hs) (fun _ _ _ h => h)).mono fun r M' ⟨h1, c, h2, h3⟩ => ⟨h1, h2.lsC h3⟩
end Go.M2

namespace Go.M2
open Go.Proofs
variable {M : MH}
def uRes (r : V) : Option (List Int) → Prop
  | none => r = .tup [.sc (.sl none 0 0 true 0), .sc (.bool false)]
  | some xs => ∃ u, r = .tup [u, .sc (.bool true)] ∧ LI u xs
theorem t_use {v w : V} {s : SysS} {st : List Int} {k : Nat} (hv : isSys s v) (hs : SysOk s) (hw : LI w st) (hin : StIn s.vars st) (hk : k < s.rules.length) :
    VCall Try.prog n_impl_use [v, w, .sc (.int .i64 k)] M (fun r M' => M = M' ∧ uRes r (useR s.vars s.rules[k] st)) := by
  refine VCall.froz2 fun R hP hG => v_impl_use rfl ?_
  obtain ⟨a, b, rfl, ha, hb⟩ := hv
  obtain ⟨x, y, z, hat, hx, hy, hz⟩ := hb.elt hk
  have h1 := hs.v1
  have h5 := hs.v5
  have hl := hin.1
  have hok := hin.ok hs
  obtain ⟨hw2, hst, hsets⟩ := hs.rules _ (List.getElem_mem hk)
  obtain ⟨kw, hkw⟩ := kind_some hw2
  have hx1 := hx.one.1
  have hy1 := hy.one.1
  have hz1 := hz.one.1
  (repeat' (first | ((with_reducible first | refine cond_dec (fun h => ?_) (fun h => ?_) | refine guardK_dec (fun h => ?_) (fun h => ?_) | refine guardD3_dec (fun h => ?_) (fun h => ?_)) <;> first | (exfalso; omega) | (simp (maxSteps := 2000000) (disch := first | omega | assumption | exact idP rfl | exact idP (bL rfl)) only [go_sem, reduceIte, Nat.reduceEqDiff, wpV_kd, wpV_tH, h, hb.len, hb.iaddr, hat]) | skip) | ((with_reducible first | refine cond_split (fun h => ?_) (fun h => ?_) | refine guardK_split (fun h => ?_) (fun h => ?_) | refine guardD3_split (fun h => ?_) (fun h => ?_)) <;> ((try simp only [Bool.not_eq_true', Bool.not_eq_false'] at h); first | (simp (maxSteps := 2000000) (disch := first | omega | assumption | exact idP rfl | exact idP (bL rfl)) only [go_sem, reduceIte, Nat.reduceEqDiff, wpV_kd, wpV_tH, h, hb.len, hb.iaddr, hat]) | skip)) | ((with_reducible refine (t_eval hx hw hkw hok (by omega)).mono ?_); rintro _ _ ⟨rfl, rfl⟩) | (with_reducible intro bk hbk; try have hnk := (fresh_set hbk).1) | (simp (maxSteps := 2000000) (disch := first | omega | assumption | exact idP rfl | exact idP (bL rfl)) only [go_sem, reduceIte, Nat.reduceEqDiff, wpV_kd, wpV_tH, hb.len, hb.iaddr, hat])))
  · refine hP _ _ (sB) ?_
    rename_i h
    simp only [useR, h, if_true, uRes]
  · rename_i b3 hb3
    have hev := h
    refine (t_cloneInt hw (by omega)).mono ?_
    rintro r M1 hg
    have hm8 : M1 bk = some [x, y, z] := hg.sub _ _ (sT0)
    refine sS2 @hm8 @hy.len ?_
    refine loop_k (fun e M' => ∃ i : Nat, i ≤ s.rules[k].sets.length ∧ e 1 = w ∧ e 3 = .sc (.ptr (some (b3, 0))) ∧ e 8 = .sc (.ptr (some (bk, 0))) ∧ e 25 = y ∧ e 26 = .sc (.int .i64 s.rules[k].sets.length) ∧ e 27 = .sc (.int .i64 i) ∧ Gr 1 ((M.set b3 [a, b]).set bk [x, y, z]) M' (e 9) ((setsF st s.rules[k].terms s.rules[k].sets i).map vi)) (fun e _ => ctrV s.rules[k].sets.length (e 27)) ?_ ?_
    · exact ⟨0, by omega, sT0, sT0, sT0, sT0, sT0, by refine sS0 ?_; rfl, by refine sS0 ?_; exact hg⟩
    · rintro e M2 ⟨i, hi, e1, e3, e8, e25, e26, e27, hg⟩ K2 hK2
      have hm3 : M2 b3 = some [a, b] := hg.sub _ _ (sT0)
      have hm8 : M2 bk = some [x, y, z] := hg.sub _ _ (sT0)
      have hsl := setsF_len st s.rules[k].terms s.rules[k].sets i
      have hle := sets_le hsets (by omega)
      refine sS2 @e26 @e27 ?_
      refine cond_dec (fun h => ?_) (fun h => ?_)
      · have hi' : i < s.rules[k].sets.length := by omega
        have hi2 : i < s.rules[k].terms.length := by omega
        obtain ⟨ki, hki⟩ := kind_some (hsets.kind hi' hi2)
        have hset := (hsets i hi').1
        have hat8 := hg.at (by rw [len_vi]; omega)
        have hia : ∀ {k : IntKind} {a : Int}, 0 ≤ a → a < (st.length : Int) → iaddrV 1 (e 9) (.int k a) = some (.sc (.ptr (some (oB (e 9), a.toNat)))) := fun q1 q2 => hg.own.iaddr q1 (by rw [len_vi, hsl]; exact q2)
        have hso : s.rules[k].sets[i].toNat < ((setsF st s.rules[k].terms s.rules[k].sets i).map vi).length := by rw [len_vi]; omega
        simp (maxSteps := 2000000) (disch := first | omega | assumption | exact idP rfl | exact idP (bL rfl)) only [go_sem, reduceIte, Nat.reduceEqDiff, wpV_kd, wpV_tH, e1, e3, e8, e25, e27, hm8, hy.iaddr, hy.at hi', hz.iaddr]
        refine (t_eval (hz.elt hi2) hw hki hok (by omega)).mono ?_
        rintro _ _ ⟨rfl, rfl⟩
        refine sS9 @e1 @e3 @e8 @e25 @e26 @e27 @hm8 @hia @hat8 ?_
        refine hK2 _ _ ⟨i + 1, by omega, sT0, sT0, sT0, sT0, sT0, by refine sS0 ?_; rfl, ?_⟩ (by refine sS2 @ctrV_int @e27 ?_; omega)
        refine sS0 ?_
        have := hg.setO (l' := (setsF st s.rules[k].terms s.rules[k].sets (i + 1)).map vi) (by rw [len_vi]; omega) (by simp [setsF_len])
        simp only [setsF, getD_eq hi', getD_eq hi2] at this ⊢
        rw [← set_vi] at this ⊢
        exact this
      · obtain rfl : i = s.rules[k].sets.length := by omega
        refine sS2 @hm3 @e3 ?_
        refine (VCall.lend1 hg.own flat_eq fun u M' hu => t_inRange ha hu.li (by omega)).mono ?_
        rintro _ _ ⟨rfl, rfl⟩
        have hsub : Sub M ((M.set b3 [a, b]).set bk [x, y, z]) := sB
        cases hib : inB s.vars (setsF st s.rules[k].terms s.rules[k].sets s.rules[k].sets.length) with
        | false =>
          refine sS0 ?_
          refine hP _ _ (hsub.trans hg.sub) ?_
          simp [useR, hev, hib, uRes]
        | true =>
          refine sS0 ?_
          refine hG _ _ _ 1 _ ⟨hsub.trans hg.sub, fun b' h' => hsub.none (hg.new b' h'), hg.own⟩ fun u hu => ?_
          have : useR s.vars s.rules[k] st = some (setsF st s.rules[k].terms s.rules[k].sets s.rules[k].sets.length) := by simp [useR, hev, hib]
          rw [this]
          exact ⟨_, rfl, hu.li⟩
theorem Cs.one {us : List V} {l : List (List Int)} (h : Cs isL us l) : us.all oneV = true := by
  refine List.all_eq_true.2 fun x hx => ?_
  obtain ⟨i, hi, rfl⟩ := List.getElem_of_mem hx
  obtain ⟨u, hu, he⟩ := h.2 i (by rw [← h.1]; exact hi)
  rw [List.getElem?_eq_getElem hi] at hu
  cases hu
  exact he.one.1
theorem Cs.take {us : List V} {l : List (List Int)} (h : Cs isL us l) (i : Nat) : Cs isL (us.take i) (l.take i) := by
  refine ⟨by simp [h.1], fun j hj => ?_⟩
  simp at hj
  obtain ⟨u, hu, he⟩ := h.2 j (by omega)
  exact ⟨u, by rw [List.getElem?_take, if_pos (by omega)]; exact hu, by rw [List.getElem_take]; exact he⟩
theorem Cs.ins {us : List V} {l : List (List Int)} {u : V} {x : List Int} (h : Cs isL us l) (hu : LI u x) {i : Nat} (hi : i ≤ l.length) : Cs isL (us.take i ++ u :: us.drop i) (l.take i ++ x :: l.drop i) := by
  have h1 : (us.take i).length = i := by have := h.1; simp; omega
  have h2 : (l.take i).length = i := by simp; omega
  refine ⟨by simp [h.1], fun j hj => ?_⟩
  have hl := h.1
  by_cases h3 : j < i
  · obtain ⟨v, hv, he⟩ := h.2 j (by omega)
    refine ⟨v, by rw [List.getElem?_append_left (by omega), List.getElem?_take, if_pos h3]; exact hv, ?_⟩
    rw [List.getElem_append_left (by omega), List.getElem_take]; exact he
  · by_cases h4 : j = i
    · subst h4
      refine ⟨u, by rw [List.getElem?_append_right (by omega), h1]; simp, ?_⟩
      rw [List.getElem_append_right (by omega)]; simp only [h2, Nat.sub_self, List.getElem_cons_zero]; exact hu
    · simp at hj
      obtain ⟨v, hv, he⟩ := h.2 (j - 1) (by omega)
      obtain ⟨q, hq⟩ : ∃ q, j - i = q + 1 := ⟨j - i - 1, by omega⟩
      refine ⟨v, ?_, ?_⟩
      · rw [List.getElem?_append_right (by omega), h1, hq, List.getElem?_cons_succ, List.getElem?_drop, show i + q = j - 1 by omega]; exact hv
      · rw [List.getElem_append_right (by omega)]
        simp only [h2, hq, List.getElem_cons_succ, List.getElem_drop, show i + q = j - 1 by omega]; exact he
theorem t_cloneSint {M0 : MH} {v : V} {us : List V} (hg : GrN M0 M v us) (hus : us.all oneV = true) (hl : us.length ≤ 1048576) : VCall Try.prog n_impl_clone_Sint [v] M (fun r M' => Gr 1 M M' r us) := by
  refine VCall.plain fun R hR => v_impl_clone_Sint rfl ?_
  have hlen := hg.1.len1
  refine sS1 @hlen ?_
  refine cond_dec (fun h => ?_) (fun h => ?_)
  · refine sS0 ?_
    have : us = [] := List.eq_nil_of_length_eq_zero (by omega)
    subst this
    exact hR _ _ (.nil (Sub.refl _))
  · refine sS1 @hlen ?_
    refine mks3 (by omega) (by simp [mostCells]; omega) (by simp [mostCells]; omega) ?_
    intro b3 hb3
    obtain ⟨hg1, ⟨rfl, _⟩ | ⟨b, n, rfl⟩⟩ := hg
    · exact absurd rfl h
    obtain ⟨hm, _, _, _, hn, hm0⟩ := hg1.get
    have hne : b ≠ b3 := fun e => by subst e; rw [hb3] at hm; cases hm
    have hz : ((zeros [AV.sl none 0 0 true 0] us.length).map V.sc).length = us.length := by simp [zeros_length]
    refine sS0 ?_
    generalize hZ : (zeros [AV.sl none 0 0 true 0] us.length).map V.sc = Z at hz ⊢
    refine copy_own (t := us.length) (ls := us) (ld := Z) (by rw [set_ne hne]; exact hm) set_same (by omega) (by omega) (by omega) (by omega) (by simpa using hus) ?_
    simp only [List.drop_zero, List.take_length]
    rw [setAtG_all _ _ _ (by omega)]
    refine sS0 ?_
    exact hR _ _ (Gr.new' (Sub.refl _) hb3 (by simp))
theorem t_nextStates {v w : V} {s : SysS} {st : List Int} (hv : isSys s v) (hs : SysOk s) (hw : LI w st) (hin : StIn s.vars st) :
    VCall Try.prog n_impl_nextStates [v, w] M (fun r M' => ∃ us, Gr 1 M M' r us ∧ Cs isL us (nextF s st)) := by
  refine VCall.plain fun R hR => v_impl_nextStates rfl ?_
  have hv0 := hv
  obtain ⟨a, b, rfl, ha, hb⟩ := hv
  have h1 := hs.v1
  have h5 := hs.v5
  have h8 := hs.r8
  (repeat' (first | ((with_reducible first | refine cond_dec (fun h => ?_) (fun h => ?_) | refine guardK_dec (fun h => ?_) (fun h => ?_) | refine guardD3_dec (fun h => ?_) (fun h => ?_)) <;> first | (exfalso; omega) | (simp (maxSteps := 2000000) (disch := first | omega | assumption | exact idP rfl | exact idP (bL rfl)) only [go_sem, reduceIte, Nat.reduceEqDiff, wpV_kd, wpV_tH, h, hb.len]) | skip) | ((with_reducible first | refine cond_split (fun h => ?_) (fun h => ?_) | refine guardK_split (fun h => ?_) (fun h => ?_) | refine guardD3_split (fun h => ?_) (fun h => ?_)) <;> ((try simp only [Bool.not_eq_true', Bool.not_eq_false'] at h); first | (simp (maxSteps := 2000000) (disch := first | omega | assumption | exact idP rfl | exact idP (bL rfl)) only [go_sem, reduceIte, Nat.reduceEqDiff, wpV_kd, wpV_tH, h, hb.len]) | skip)) | (with_reducible intro bk hbk; try have hnk := (fresh_set hbk).1) | (simp (maxSteps := 2000000) (disch := first | omega | assumption | exact idP rfl | exact idP (bL rfl)) only [go_sem, reduceIte, Nat.reduceEqDiff, wpV_kd, wpV_tH, hb.len])))
  refine loop_k (fun e M' => ∃ (i : Nat) (us : List V), i ≤ s.rules.length ∧ e 1 = w ∧ e 2 = .sc (.ptr (some (bk, 0))) ∧ e 13 = .sc (.int .i64 s.rules.length) ∧ e 14 = .sc (.int .i64 i) ∧ GrN (M.set bk [a, b]) M' (e 5) us ∧ Cs isL us (nextGo s.vars st (s.rules.take i) [])) (fun e _ => ctrV s.rules.length (e 14)) ?_ ?_
  · refine ⟨0, [], by omega, sT0, sT0, sT0, by refine sS0 ?_; rfl, ?_, Cs.nil⟩
    refine sS0 ?_
    exact ⟨.nil (Sub.refl _), .inl ⟨rfl, _, rfl⟩⟩
  · rintro e M1 ⟨i, us, hi, e1, e2, e13, e14, hg, hc⟩ K hK
    have hm : M1 bk = some [a, b] := hg.1.sub _ _ set_same
    have hul := hc.1
    have hok := nextGo_ok (vars := s.vars) (st := st) (rs := s.rules.take i) (l := []) List.Pairwise.nil (fun x hx => by cases hx)
    have hnl := nextGo_len (vars := s.vars) (st := st) (rs := s.rules.take i) (l := [])
    simp at hnl
    refine sS5 @e1 @e2 @e13 @e14 @hm ?_
    refine cond_dec (fun h => ?_) (fun h => ?_)
    · have hi' : i < s.rules.length := by omega
      refine sS4 @e1 @e2 @e14 @hm ?_
      refine (t_use hv0 hs hw hin hi').mono ?_
      rintro r _ ⟨rfl, hr⟩
      have hnt := nextGo_take (vars := s.vars) (st := st) hi'
      cases hu : useR s.vars s.rules[i] st with
      | none =>
        rw [hu] at hr hnt
        simp only [uRes] at hr
        subst hr
        (repeat' (first | ((with_reducible first | refine cond_dec (fun h => ?_) (fun h => ?_) | refine guardK_dec (fun h => ?_) (fun h => ?_) | refine guardD3_dec (fun h => ?_) (fun h => ?_)) <;> first | (exfalso; omega) | (simp (maxSteps := 2000000) (disch := first | omega | assumption | exact idP rfl | exact idP (bL rfl)) only [go_sem, reduceIte, Nat.reduceEqDiff, wpV_kd, wpV_tH, h]) | skip) | ((with_reducible first | refine cond_split (fun h => ?_) (fun h => ?_) | refine guardK_split (fun h => ?_) (fun h => ?_) | refine guardD3_split (fun h => ?_) (fun h => ?_)) <;> ((try simp only [Bool.not_eq_true', Bool.not_eq_false'] at h); first | (simp (maxSteps := 2000000) (disch := first | omega | assumption | exact idP rfl | exact idP (bL rfl)) only [go_sem, reduceIte, Nat.reduceEqDiff, wpV_kd, wpV_tH, h]) | skip)) | (with_reducible intro bk hbk; try have hnk := (fresh_set hbk).1) | (simp (maxSteps := 2000000) (disch := first | omega | assumption | exact idP rfl | exact idP (bL rfl)) only [go_sem, reduceIte, Nat.reduceEqDiff, wpV_kd, wpV_tH])))
        refine hK _ _ ⟨i + 1, us, by omega, sT0, sT0, sT0, by refine sS0 ?_; rfl, by refine sS0 ?_; exact hg, ?_⟩ (by refine sS2 @ctrV_int @e14 ?_; omega)
        rw [hnt]; exact hc
      | some x =>
        rw [hu] at hr hnt
        obtain ⟨u, rfl, hu1⟩ := hr
        simp only at hnt
        have hxi := useR_in hu
        have huo := hu1.one.1
        have hxl : x.length = s.vars.length := hxi.1
        refine sS0 ?_
        refine (VCall.lend0 hg.1.own (p := fun r => ∃ (k : Nat) (t : Bool), r = .tup [.sc (.int .i64 k), .sc (.bool t)] ∧ k ≤ (nextGo s.vars st (s.rules.take i) []).length ∧ (∀ j (h : j < (nextGo s.vars st (s.rules.take i) []).length), j < k → lessF (nextGo s.vars st (s.rules.take i) [])[j] x = true) ∧
          (t = true → ∃ h : k < (nextGo s.vars st (s.rules.take i) []).length, (nextGo s.vars st (s.rules.take i) [])[k] = x) ∧ (t = false → ∀ h : k < (nextGo s.vars st (s.rules.take i) []).length, lessF x (nextGo s.vars st (s.rules.take i) [])[k] = true))
          (fun r ⟨k, t, hr, _⟩ => by subst hr; simp [flat, flatL]) fun u' M' hu' => t_binarySearch (hu'.lsC hc) hu1 hok.1 (by omega) (fun y hy => by have := (hok.2 y hy).1; omega)).mono ?_
        rintro _ _ ⟨rfl, k, t, rfl, hk, hlt, ht, hf⟩
        cases t with
        | true =>
          obtain ⟨hk', he⟩ := ht rfl
          (repeat' (first | ((with_reducible first | refine cond_dec (fun h => ?_) (fun h => ?_) | refine guardK_dec (fun h => ?_) (fun h => ?_) | refine guardD3_dec (fun h => ?_) (fun h => ?_)) <;> first | (exfalso; omega) | (simp (maxSteps := 2000000) (disch := first | omega | assumption | exact idP rfl | exact idP (bL rfl)) only [go_sem, reduceIte, Nat.reduceEqDiff, wpV_kd, wpV_tH, h]) | skip) | ((with_reducible first | refine cond_split (fun h => ?_) (fun h => ?_) | refine guardK_split (fun h => ?_) (fun h => ?_) | refine guardD3_split (fun h => ?_) (fun h => ?_)) <;> ((try simp only [Bool.not_eq_true', Bool.not_eq_false'] at h); first | (simp (maxSteps := 2000000) (disch := first | omega | assumption | exact idP rfl | exact idP (bL rfl)) only [go_sem, reduceIte, Nat.reduceEqDiff, wpV_kd, wpV_tH, h]) | skip)) | (with_reducible intro bk hbk; try have hnk := (fresh_set hbk).1) | (simp (maxSteps := 2000000) (disch := first | omega | assumption | exact idP rfl | exact idP (bL rfl)) only [go_sem, reduceIte, Nat.reduceEqDiff, wpV_kd, wpV_tH])))
          refine hK _ _ ⟨i + 1, us, by omega, sT0, sT0, sT0, by refine sS0 ?_; rfl, by refine sS0 ?_; exact hg, ?_⟩ (by refine sS2 @ctrV_int @e14 ?_; omega)
          rw [hnt, putF_in hk' hlt he]; exact hc
        | false =>
          have hge := hf rfl
          refine sS2 hu1.one.1 hu1.one.2 ?_
          intro bt hbt
          refine (t_Insert hg hbt huo hc.one (by omega) (by omega)).mono ?_
          rintro r M2 hg2
          refine sS0 ?_
          refine hK _ _ ⟨i + 1, _, by omega, sT0, sT0, sT0, by refine sS0 ?_; rfl, by refine sS0 ?_; exact hg2, ?_⟩ (by refine sS2 @ctrV_int @e14 ?_; omega)
          rw [hnt, putF_at hk hlt hge]
          exact hc.ins hu1 hk
    · obtain rfl : i = s.rules.length := by omega
      rw [List.take_length] at hc
      have hnl2 := nextGo_len (vars := s.vars) (st := st) (rs := s.rules) (l := [])
      simp at hnl2
      refine sS0 ?_
      refine (t_cloneSint hg hc.one (by omega)).mono ?_
      rintro r M2 hg2
      refine sS0 ?_
      exact hR _ _ ⟨us, hg2.base ((show Sub M (M.set bk [a, b]) from sB).trans hg.1.sub), hc⟩
theorem f_nextStates {v w : V} {s : SysS} {st : List Int} (hv : isSys s v) (hs : SysOk s) (hw : LI w st) (hin : StIn s.vars st) : VCall Try.prog n_impl_nextStates [v, w] M (fun r M' => M = M' ∧ LII r (nextF s st)) :=
  (VCall.fr (l := fun _ us => Cs isL us (nextF s st)) (t_nextStates hv hs hw hin) (fun _ _ _ h => h)).mono fun r M' ⟨h1, c, h2, h3⟩ => ⟨h1, h2.lsC h3⟩
end Go.M2
