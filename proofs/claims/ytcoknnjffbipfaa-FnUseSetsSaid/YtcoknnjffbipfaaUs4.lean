/- The functions, turned: printed by program. -/
import Derived.Test.YtcoknnjffbipfaaUs3
import Derived.Test.YtcoknnjffbipfaaProg
import Derived.KernelRfl
set_option linter.unusedVariables false
set_option linter.unusedSimpArgs false
set_option maxRecDepth 10000
set_option maxHeartbeats 4000000
namespace Go.M2
open Go.Proofs
variable {M : MH} {vs : List V} {RV : V → MH → Prop}
@[go_sem] def l129_0 (_ : Unit) : KL := [kB 6 (.mv (.c (.bool false))) [0, 1, 2]]
@[go_sem] def l129_1 (_ : Unit) : KL := [kA 11 (.mv (.t 1)),
  kA 12 (.bin .add (.t 11) (cI 1)),
  kB 7 (.mv (.t 12)) [0, 1, 2, 7]]
@[go_sem] def l129_2 (_ : Unit) : KL := [kB 8 (.mv (cI 0)) [0, 1, 2, 7, 8]]
@[go_sem] def l129_3 (_ : Unit) : KL := [kA 13 (.mv (.t 8)),
  kB 14 (.bin .lss (.t 13) (.c (.int .i64 5))) [0, 1, 2, 7, 8, 14]]
@[go_sem] def s129_4 (_ : Unit) : IR := (sQ [(kT l129_3), (.cond (.t 14) .skip (.exit 0))])
@[go_sem] def l129_5 : Nat → GOp
  | 0 => ⟨(some 17), .mv (.t 7), none⟩
  | 1 => ⟨(some 18), .mv (.t 2), none⟩
  | 2 => ⟨(some 19), .bin .lss (.t 17) (.t 18), none⟩
  | 3 => ⟨(some 20), .mv (.t 19), none⟩
  | 4 => ⟨(some 21), .mv (.t 0), (some (20, true))⟩
  | 5 => ⟨(some 22), .mv (.t 7), (some (20, true))⟩
  | 6 => ⟨(some 23), .iaddr (.t 21) (.t 22) 1, (some (20, true))⟩
  | 7 => ⟨(some 24), .load (.t 23) 1 false, (some (20, true))⟩
  | 8 => ⟨(some 25), .mv (.t 0), (some (20, true))⟩
  | 9 => ⟨(some 26), .mv (.t 7), (some (20, true))⟩
  | 10 => ⟨(some 27), .bin .sub (.t 26) (cI 1), (some (20, true))⟩
  | 11 => ⟨(some 28), .iaddr (.t 25) (.t 27) 1, (some (20, true))⟩
  | 12 => ⟨(some 29), .load (.t 28) 1 false, (some (20, true))⟩
  | 13 => ⟨(some 30), .call (n_cmp_Less_int) [(.t 24), (.t 29)], (some (20, true))⟩
  | 14 => ⟨(some 31), .un .not (.t 30), (some (20, true))⟩
  | 15 => ⟨(some 32), .pick (.t 20) (.t 31) (.c (.bool false)), none⟩
  | _ => ⟨none, .mkmap, none⟩
@[go_sem] def s129_6 (_ : Unit) : IR := (sQ [(.kd (oF l129_5 16) [(0, []), (1, []), (2, []), (3, []), (4, []), (5, []), (6, []), (7, []), (8, []), (9, []), (10, []), (11, []), (12, []), (13, []), (14, []), (15, [])] [0, 1, 2, 7, 8, 32]), (.cond (.t 32) .skip (.exit 2))])
@[go_sem] def l129_7 (_ : Unit) : KL := [kA 33 (.mv (.t 7)),
  kA 34 (.bin .add (.t 33) (cI 1)),
  kB 7 (.mv (.t 34)) [0, 1, 2, 7, 8]]
@[go_sem] def s129_8 (_ : Unit) : IR := (.block 3 (kT l129_7))
@[go_sem] def s129_9 (_ : Unit) : IR := (sQ [(tH s129_6), (tH s129_8)])
@[go_sem] def s129_10 (_ : Unit) : IR := (.loop (tH s129_9))
@[go_sem] def s129_11 (_ : Unit) : IR := (.block 2 (tH s129_10))
@[go_sem] def l129_12 (_ : Unit) : KL := [kA 35 (.mv (.t 7)),
  kA 36 (.mv (.t 2)),
  kB 37 (.bin .eql (.t 35) (.t 36)) [0, 1, 2, 7, 8, 37]]
@[go_sem] def l129_13 (_ : Unit) : KL := [kB 6 (.mv (.c (.bool true))) [6]]
@[go_sem] def s129_14 (_ : Unit) : IR := (sQ [(kT l129_13), .ret])
@[go_sem] def s129_15 (_ : Unit) : IR := (sQ [(kT l129_12), (.cond (.t 37) (tH s129_14) .skip)])
@[go_sem] def l129_16 (_ : Unit) : KL := [kA 38 (.mv (.t 2)),
  kA 39 (.mv (.t 1)),
  kA 40 (.bin .sub (.t 38) (.t 39)),
  kB 41 (.bin .lss (.t 40) (.c (.int .i64 50))) [0, 1, 2, 7, 8, 41]]
@[go_sem] def l129_17 (_ : Unit) : KL := [kB 6 (.mv (.c (.bool false))) [6]]
@[go_sem] def s129_18 (_ : Unit) : IR := (sQ [(kT l129_17), .ret])
@[go_sem] def s129_19 (_ : Unit) : IR := (sQ [(kT l129_16), (.cond (.t 41) (tH s129_18) .skip)])
@[go_sem] def l129_20 : Nat → GOp
  | 0 => ⟨(some 42), .mv (.t 0), none⟩
  | 1 => ⟨(some 43), .mv (.t 7), none⟩
  | 2 => ⟨(some 44), .mv (.t 0), none⟩
  | 3 => ⟨(some 45), .mv (.t 7), none⟩
  | 4 => ⟨(some 46), .bin .sub (.t 45) (cI 1), none⟩
  | 5 => ⟨(some 47), .mv (.t 0), none⟩
  | 6 => ⟨(some 48), .mv (.t 7), none⟩
  | 7 => ⟨(some 49), .bin .sub (.t 48) (cI 1), none⟩
  | 8 => ⟨(some 50), .iaddr (.t 47) (.t 49) 1, none⟩
  | 9 => ⟨(some 51), .load (.t 50) 1 false, none⟩
  | 10 => ⟨(some 52), .mv (.t 0), none⟩
  | 11 => ⟨(some 53), .mv (.t 7), none⟩
  | 12 => ⟨(some 54), .iaddr (.t 52) (.t 53) 1, none⟩
  | 13 => ⟨(some 55), .load (.t 54) 1 false, none⟩
  | 14 => ⟨(some 56), .iaddr (.t 42) (.t 43) 1, none⟩
  | 15 => ⟨none, .store (.t 56) 1 (.t 51), none⟩
  | 16 => ⟨(some 57), .iaddr (.t 44) (.t 46) 1, none⟩
  | 17 => ⟨none, .store (.t 57) 1 (.t 55), none⟩
  | _ => ⟨none, .mkmap, none⟩
@[go_sem] def l129_21 (_ : Unit) : KL := [kA 58 (.mv (.t 7)),
  kA 59 (.mv (.t 1)),
  kA 60 (.bin .sub (.t 58) (.t 59)),
  kB 61 (.bin .geq (.t 60) (.c (.int .i64 2))) [0, 1, 2, 7, 8, 61]]
@[go_sem] def l129_22 (_ : Unit) : KL := [kA 62 (.mv (.t 7)),
  kA 63 (.bin .sub (.t 62) (cI 1)),
  kB 9 (.mv (.t 63)) [0, 1, 2, 7, 8, 9]]
@[go_sem] def l129_23 (_ : Unit) : KL := [kA 64 (.mv (.t 9)),
  kB 65 (.bin .geq (.t 64) (cI 1)) [0, 1, 2, 7, 8, 9, 65]]
@[go_sem] def s129_24 (_ : Unit) : IR := (sQ [(kT l129_23), (.cond (.t 65) .skip (.exit 4))])
@[go_sem] def l129_25 : Nat → GOp
  | 0 => ⟨(some 68), .mv (.t 0), none⟩
  | 1 => ⟨(some 69), .mv (.t 9), none⟩
  | 2 => ⟨(some 70), .iaddr (.t 68) (.t 69) 1, none⟩
  | 3 => ⟨(some 71), .load (.t 70) 1 false, none⟩
  | 4 => ⟨(some 72), .mv (.t 0), none⟩
  | 5 => ⟨(some 73), .mv (.t 9), none⟩
  | 6 => ⟨(some 74), .bin .sub (.t 73) (cI 1), none⟩
  | 7 => ⟨(some 75), .iaddr (.t 72) (.t 74) 1, none⟩
  | 8 => ⟨(some 76), .load (.t 75) 1 false, none⟩
  | 9 => ⟨(some 77), .call (n_cmp_Less_int) [(.t 71), (.t 76)], none⟩
  | 10 => ⟨(some 78), .un .not (.t 77), none⟩
  | _ => ⟨none, .mkmap, none⟩
@[go_sem] def s129_26 (_ : Unit) : IR := (sQ [(.kd (oF l129_25 11) [(0, []), (1, []), (2, []), (3, []), (4, []), (5, []), (6, []), (7, []), (8, []), (9, []), (10, [])] [0, 1, 2, 7, 8, 9, 78]), (.cond (.t 78) (.exit 4) .skip)])
@[go_sem] def l129_27 : Nat → GOp
  | 0 => ⟨(some 79), .mv (.t 0), none⟩
  | 1 => ⟨(some 80), .mv (.t 9), none⟩
  | 2 => ⟨(some 81), .mv (.t 0), none⟩
  | 3 => ⟨(some 82), .mv (.t 9), none⟩
  | 4 => ⟨(some 83), .bin .sub (.t 82) (cI 1), none⟩
  | 5 => ⟨(some 84), .mv (.t 0), none⟩
  | 6 => ⟨(some 85), .mv (.t 9), none⟩
  | 7 => ⟨(some 86), .bin .sub (.t 85) (cI 1), none⟩
  | 8 => ⟨(some 87), .iaddr (.t 84) (.t 86) 1, none⟩
  | 9 => ⟨(some 88), .load (.t 87) 1 false, none⟩
  | 10 => ⟨(some 89), .mv (.t 0), none⟩
  | 11 => ⟨(some 90), .mv (.t 9), none⟩
  | 12 => ⟨(some 91), .iaddr (.t 89) (.t 90) 1, none⟩
  | 13 => ⟨(some 92), .load (.t 91) 1 false, none⟩
  | 14 => ⟨(some 93), .iaddr (.t 79) (.t 80) 1, none⟩
  | 15 => ⟨none, .store (.t 93) 1 (.t 88), none⟩
  | 16 => ⟨(some 94), .iaddr (.t 81) (.t 83) 1, none⟩
  | 17 => ⟨none, .store (.t 94) 1 (.t 92), none⟩
  | _ => ⟨none, .mkmap, none⟩
@[go_sem] def s129_28 (_ : Unit) : IR := (sQ [(tH s129_26), (.kd (oF l129_27 18) [(0, []), (1, []), (2, []), (3, []), (4, []), (5, []), (6, []), (7, []), (8, []), (9, []), (10, []), (11, []), (12, []), (13, []), (14, []), (15, []), (16, []), (17, [])] [0, 1, 2, 7, 8, 9])])
@[go_sem] def s129_29 (_ : Unit) : IR := (.block 5 (tH s129_28))
@[go_sem] def l129_30 (_ : Unit) : KL := [kA 66 (.mv (.t 9)),
  kA 67 (.bin .sub (.t 66) (cI 1)),
  kB 9 (.mv (.t 67)) [0, 1, 2, 7, 8, 9]]
@[go_sem] def s129_31 (_ : Unit) : IR := (sQ [(tH s129_24), (tH s129_29), (kT l129_30)])
@[go_sem] def s129_32 (_ : Unit) : IR := (.loop (tH s129_31))
@[go_sem] def s129_33 (_ : Unit) : IR := (.block 4 (tH s129_32))
@[go_sem] def s129_34 (_ : Unit) : IR := (sQ [(kT l129_22), (tH s129_33)])
@[go_sem] def s129_35 (_ : Unit) : IR := (sQ [(kT l129_21), (.cond (.t 61) (tH s129_34) .skip)])
@[go_sem] def l129_36 (_ : Unit) : KL := [kA 95 (.mv (.t 2)),
  kA 96 (.mv (.t 7)),
  kA 97 (.bin .sub (.t 95) (.t 96)),
  kB 98 (.bin .geq (.t 97) (.c (.int .i64 2))) [0, 1, 2, 7, 8, 98]]
@[go_sem] def l129_37 (_ : Unit) : KL := [kA 99 (.mv (.t 7)),
  kA 100 (.bin .add (.t 99) (cI 1)),
  kB 10 (.mv (.t 100)) [0, 1, 2, 7, 8, 10]]
@[go_sem] def l129_38 (_ : Unit) : KL := [kA 101 (.mv (.t 10)),
  kA 102 (.mv (.t 2)),
  kB 103 (.bin .lss (.t 101) (.t 102)) [0, 1, 2, 7, 8, 10, 103]]
@[go_sem] def s129_39 (_ : Unit) : IR := (sQ [(kT l129_38), (.cond (.t 103) .skip (.exit 6))])
@[go_sem] def l129_40 : Nat → GOp
  | 0 => ⟨(some 106), .mv (.t 0), none⟩
  | 1 => ⟨(some 107), .mv (.t 10), none⟩
  | 2 => ⟨(some 108), .iaddr (.t 106) (.t 107) 1, none⟩
  | 3 => ⟨(some 109), .load (.t 108) 1 false, none⟩
  | 4 => ⟨(some 110), .mv (.t 0), none⟩
  | 5 => ⟨(some 111), .mv (.t 10), none⟩
  | 6 => ⟨(some 112), .bin .sub (.t 111) (cI 1), none⟩
  | 7 => ⟨(some 113), .iaddr (.t 110) (.t 112) 1, none⟩
  | 8 => ⟨(some 114), .load (.t 113) 1 false, none⟩
  | 9 => ⟨(some 115), .call (n_cmp_Less_int) [(.t 109), (.t 114)], none⟩
  | 10 => ⟨(some 116), .un .not (.t 115), none⟩
  | _ => ⟨none, .mkmap, none⟩
@[go_sem] def s129_41 (_ : Unit) : IR := (sQ [(.kd (oF l129_40 11) [(0, []), (1, []), (2, []), (3, []), (4, []), (5, []), (6, []), (7, []), (8, []), (9, []), (10, [])] [0, 1, 2, 7, 8, 10, 116]), (.cond (.t 116) (.exit 6) .skip)])
@[go_sem] def l129_42 : Nat → GOp
  | 0 => ⟨(some 117), .mv (.t 0), none⟩
  | 1 => ⟨(some 118), .mv (.t 10), none⟩
  | 2 => ⟨(some 119), .mv (.t 0), none⟩
  | 3 => ⟨(some 120), .mv (.t 10), none⟩
  | 4 => ⟨(some 121), .bin .sub (.t 120) (cI 1), none⟩
  | 5 => ⟨(some 122), .mv (.t 0), none⟩
  | 6 => ⟨(some 123), .mv (.t 10), none⟩
  | 7 => ⟨(some 124), .bin .sub (.t 123) (cI 1), none⟩
  | 8 => ⟨(some 125), .iaddr (.t 122) (.t 124) 1, none⟩
  | 9 => ⟨(some 126), .load (.t 125) 1 false, none⟩
  | 10 => ⟨(some 127), .mv (.t 0), none⟩
  | 11 => ⟨(some 128), .mv (.t 10), none⟩
  | 12 => ⟨(some 129), .iaddr (.t 127) (.t 128) 1, none⟩
  | 13 => ⟨(some 130), .load (.t 129) 1 false, none⟩
  | 14 => ⟨(some 131), .iaddr (.t 117) (.t 118) 1, none⟩
  | 15 => ⟨none, .store (.t 131) 1 (.t 126), none⟩
  | 16 => ⟨(some 132), .iaddr (.t 119) (.t 121) 1, none⟩
  | 17 => ⟨none, .store (.t 132) 1 (.t 130), none⟩
  | _ => ⟨none, .mkmap, none⟩
@[go_sem] def s129_43 (_ : Unit) : IR := (sQ [(tH s129_41), (.kd (oF l129_42 18) [(0, []), (1, []), (2, []), (3, []), (4, []), (5, []), (6, []), (7, []), (8, []), (9, []), (10, []), (11, []), (12, []), (13, []), (14, []), (15, []), (16, []), (17, [])] [0, 1, 2, 7, 8, 10])])
@[go_sem] def s129_44 (_ : Unit) : IR := (.block 7 (tH s129_43))
@[go_sem] def l129_45 (_ : Unit) : KL := [kA 104 (.mv (.t 10)),
  kA 105 (.bin .add (.t 104) (cI 1)),
  kB 10 (.mv (.t 105)) [0, 1, 2, 7, 8, 10]]
@[go_sem] def s129_46 (_ : Unit) : IR := (sQ [(tH s129_39), (tH s129_44), (kT l129_45)])
@[go_sem] def s129_47 (_ : Unit) : IR := (.loop (tH s129_46))
@[go_sem] def s129_48 (_ : Unit) : IR := (.block 6 (tH s129_47))
@[go_sem] def s129_49 (_ : Unit) : IR := (sQ [(kT l129_37), (tH s129_48)])
@[go_sem] def s129_50 (_ : Unit) : IR := (sQ [(tH s129_11), (tH s129_15), (tH s129_19), (.kd (oF l129_20 18) [(0, []), (1, []), (2, []), (3, []), (4, []), (5, []), (6, []), (7, []), (8, []), (9, []), (10, []), (11, []), (12, []), (13, []), (14, []), (15, []), (16, []), (17, [])] [0, 1, 2, 7, 8]), (tH s129_35), (kT l129_36), (.cond (.t 98) (tH s129_49) .skip)])
@[go_sem] def s129_51 (_ : Unit) : IR := (.block 1 (tH s129_50))
@[go_sem] def l129_52 (_ : Unit) : KL := [kA 15 (.mv (.t 8)),
  kA 16 (.bin .add (.t 15) (cI 1)),
  kB 8 (.mv (.t 16)) [0, 1, 2, 7, 8]]
@[go_sem] def s129_53 (_ : Unit) : IR := (sQ [(tH s129_4), (tH s129_51), (kT l129_52)])
@[go_sem] def s129_54 (_ : Unit) : IR := (.loop (tH s129_53))
@[go_sem] def s129_55 (_ : Unit) : IR := (.block 0 (tH s129_54))
@[go_sem] def s129_56 (_ : Unit) : IR := (sQ [(kT l129_2), (tH s129_55)])
@[go_sem] def l129_57 (_ : Unit) : KL := [kB 6 (.mv (.c (.bool false))) [6]]
@[go_sem] def s129_58 (_ : Unit) : IR := (sQ [(kT l129_0), (kT l129_1), (tH s129_56), (kT l129_57), .ret])
@[go_sem] def l131_0 (_ : Unit) : KL := [kB 8 (.mv (cI 0)) [0, 1, 2, 3]]
@[go_sem] def l131_1 : Nat → GOp
  | 0 => ⟨(some 11), .mv (.t 0), none⟩
  | 1 => ⟨(some 12), .mv (.t 1), none⟩
  | 2 => ⟨(some 13), .mv (.t 0), none⟩
  | 3 => ⟨(some 14), .mv (.t 3), none⟩
  | 4 => ⟨(some 15), .mv (.t 0), none⟩
  | 5 => ⟨(some 16), .mv (.t 3), none⟩
  | 6 => ⟨(some 17), .iaddr (.t 15) (.t 16) 1, none⟩
  | 7 => ⟨(some 18), .load (.t 17) 1 false, none⟩
  | 8 => ⟨(some 19), .mv (.t 0), none⟩
  | 9 => ⟨(some 20), .mv (.t 1), none⟩
  | 10 => ⟨(some 21), .iaddr (.t 19) (.t 20) 1, none⟩
  | 11 => ⟨(some 22), .load (.t 21) 1 false, none⟩
  | 12 => ⟨(some 23), .iaddr (.t 11) (.t 12) 1, none⟩
  | 13 => ⟨none, .store (.t 23) 1 (.t 18), none⟩
  | 14 => ⟨(some 24), .iaddr (.t 13) (.t 14) 1, none⟩
  | 15 => ⟨none, .store (.t 24) 1 (.t 22), none⟩
  | _ => ⟨none, .mkmap, none⟩
@[go_sem] def l131_2 (_ : Unit) : KL := [kA 25 (.mv (.t 1)),
  kA 26 (.bin .add (.t 25) (cI 1)),
  kA 27 (.mv (.t 2)),
  kA 28 (.bin .sub (.t 27) (cI 1)),
  kB 9 (.mv (.t 26)) [0, 1, 9, 28],
  kB 10 (.mv (.t 28)) [0, 1, 9, 10]]
@[go_sem] def l131_3 : Nat → GOp
  | 0 => ⟨(some 29), .mv (.t 9), none⟩
  | 1 => ⟨(some 30), .mv (.t 10), none⟩
  | 2 => ⟨(some 31), .bin .leq (.t 29) (.t 30), none⟩
  | 3 => ⟨(some 32), .mv (.t 31), none⟩
  | 4 => ⟨(some 33), .mv (.t 0), (some (32, true))⟩
  | 5 => ⟨(some 34), .mv (.t 1), (some (32, true))⟩
  | 6 => ⟨(some 35), .iaddr (.t 33) (.t 34) 1, (some (32, true))⟩
  | 7 => ⟨(some 36), .load (.t 35) 1 false, (some (32, true))⟩
  | 8 => ⟨(some 37), .mv (.t 0), (some (32, true))⟩
  | 9 => ⟨(some 38), .mv (.t 9), (some (32, true))⟩
  | 10 => ⟨(some 39), .iaddr (.t 37) (.t 38) 1, (some (32, true))⟩
  | 11 => ⟨(some 40), .load (.t 39) 1 false, (some (32, true))⟩
  | 12 => ⟨(some 41), .call (n_cmp_Less_int) [(.t 36), (.t 40)], (some (32, true))⟩
  | 13 => ⟨(some 42), .un .not (.t 41), (some (32, true))⟩
  | 14 => ⟨(some 43), .pick (.t 32) (.t 42) (.c (.bool false)), none⟩
  | _ => ⟨none, .mkmap, none⟩
@[go_sem] def s131_4 (_ : Unit) : IR := (sQ [(.kd (oF l131_3 15) [(0, []), (1, []), (2, []), (3, []), (4, []), (5, []), (6, []), (7, []), (8, []), (9, []), (10, []), (11, []), (12, []), (13, []), (14, [])] [0, 1, 9, 10, 43]), (.cond (.t 43) .skip (.exit 2))])
@[go_sem] def l131_5 (_ : Unit) : KL := [kA 44 (.mv (.t 9)),
  kA 45 (.bin .add (.t 44) (cI 1)),
  kB 9 (.mv (.t 45)) [0, 1, 9, 10]]
@[go_sem] def s131_6 (_ : Unit) : IR := (.block 3 (kT l131_5))
@[go_sem] def s131_7 (_ : Unit) : IR := (sQ [(tH s131_4), (tH s131_6)])
@[go_sem] def s131_8 (_ : Unit) : IR := (.loop (tH s131_7))
@[go_sem] def s131_9 (_ : Unit) : IR := (.block 2 (tH s131_8))
@[go_sem] def l131_10 : Nat → GOp
  | 0 => ⟨(some 46), .mv (.t 9), none⟩
  | 1 => ⟨(some 47), .mv (.t 10), none⟩
  | 2 => ⟨(some 48), .bin .leq (.t 46) (.t 47), none⟩
  | 3 => ⟨(some 49), .mv (.t 48), none⟩
  | 4 => ⟨(some 50), .mv (.t 0), (some (49, true))⟩
  | 5 => ⟨(some 51), .mv (.t 1), (some (49, true))⟩
  | 6 => ⟨(some 52), .iaddr (.t 50) (.t 51) 1, (some (49, true))⟩
  | 7 => ⟨(some 53), .load (.t 52) 1 false, (some (49, true))⟩
  | 8 => ⟨(some 54), .mv (.t 0), (some (49, true))⟩
  | 9 => ⟨(some 55), .mv (.t 10), (some (49, true))⟩
  | 10 => ⟨(some 56), .iaddr (.t 54) (.t 55) 1, (some (49, true))⟩
  | 11 => ⟨(some 57), .load (.t 56) 1 false, (some (49, true))⟩
  | 12 => ⟨(some 58), .call (n_cmp_Less_int) [(.t 53), (.t 57)], (some (49, true))⟩
  | 13 => ⟨(some 59), .pick (.t 49) (.t 58) (.c (.bool false)), none⟩
  | _ => ⟨none, .mkmap, none⟩
@[go_sem] def s131_11 (_ : Unit) : IR := (sQ [(.kd (oF l131_10 14) [(0, []), (1, []), (2, []), (3, []), (4, []), (5, []), (6, []), (7, []), (8, []), (9, []), (10, []), (11, []), (12, []), (13, [])] [0, 1, 9, 10, 59]), (.cond (.t 59) .skip (.exit 4))])
@[go_sem] def l131_12 (_ : Unit) : KL := [kA 60 (.mv (.t 10)),
  kA 61 (.bin .sub (.t 60) (cI 1)),
  kB 10 (.mv (.t 61)) [0, 1, 9, 10]]
@[go_sem] def s131_13 (_ : Unit) : IR := (.block 5 (kT l131_12))
@[go_sem] def s131_14 (_ : Unit) : IR := (sQ [(tH s131_11), (tH s131_13)])
@[go_sem] def s131_15 (_ : Unit) : IR := (.loop (tH s131_14))
@[go_sem] def s131_16 (_ : Unit) : IR := (.block 4 (tH s131_15))
@[go_sem] def l131_17 (_ : Unit) : KL := [kA 62 (.mv (.t 9)),
  kA 63 (.mv (.t 10)),
  kB 64 (.bin .gtr (.t 62) (.t 63)) [0, 1, 9, 10, 64]]
@[go_sem] def s131_18 (_ : Unit) : IR := (sQ [(kT l131_17), (.cond (.t 64) (.exit 0) .skip)])
@[go_sem] def l131_19 : Nat → GOp
  | 0 => ⟨(some 65), .mv (.t 0), none⟩
  | 1 => ⟨(some 66), .mv (.t 9), none⟩
  | 2 => ⟨(some 67), .mv (.t 0), none⟩
  | 3 => ⟨(some 68), .mv (.t 10), none⟩
  | 4 => ⟨(some 69), .mv (.t 0), none⟩
  | 5 => ⟨(some 70), .mv (.t 10), none⟩
  | 6 => ⟨(some 71), .iaddr (.t 69) (.t 70) 1, none⟩
  | 7 => ⟨(some 72), .load (.t 71) 1 false, none⟩
  | 8 => ⟨(some 73), .mv (.t 0), none⟩
  | 9 => ⟨(some 74), .mv (.t 9), none⟩
  | 10 => ⟨(some 75), .iaddr (.t 73) (.t 74) 1, none⟩
  | 11 => ⟨(some 76), .load (.t 75) 1 false, none⟩
  | 12 => ⟨(some 77), .iaddr (.t 65) (.t 66) 1, none⟩
  | 13 => ⟨none, .store (.t 77) 1 (.t 72), none⟩
  | 14 => ⟨(some 78), .iaddr (.t 67) (.t 68) 1, none⟩
  | 15 => ⟨none, .store (.t 78) 1 (.t 76), none⟩
  | _ => ⟨none, .mkmap, none⟩
@[go_sem] def l131_20 (_ : Unit) : KL := [kA 79 (.mv (.t 9)),
  kA 80 (.bin .add (.t 79) (cI 1)),
  kB 9 (.mv (.t 80)) [0, 1, 9, 10]]
@[go_sem] def l131_21 (_ : Unit) : KL := [kA 81 (.mv (.t 10)),
  kA 82 (.bin .sub (.t 81) (cI 1)),
  kB 10 (.mv (.t 82)) [0, 1, 9, 10]]
@[go_sem] def s131_22 (_ : Unit) : IR := (sQ [(tH s131_9), (tH s131_16), (tH s131_18), (.kd (oF l131_19 16) [(0, []), (1, []), (2, []), (3, []), (4, []), (5, []), (6, []), (7, []), (8, []), (9, []), (10, []), (11, []), (12, []), (13, []), (14, []), (15, [])] [0, 1, 9, 10]), (kT l131_20), (kT l131_21)])
@[go_sem] def s131_23 (_ : Unit) : IR := (.block 1 (tH s131_22))
@[go_sem] def s131_24 (_ : Unit) : IR := (.loop (tH s131_23))
@[go_sem] def s131_25 (_ : Unit) : IR := (.block 0 (tH s131_24))
@[go_sem] def l131_26 (_ : Unit) : KL := [kA 83 (.mv (.t 9)),
  kB 8 (.mv (.t 83)) [8]]
@[go_sem] def s131_27 (_ : Unit) : IR := (sQ [(kT l131_0), (.kd (oF l131_1 16) [(0, []), (1, []), (2, []), (3, []), (4, []), (5, []), (6, []), (7, []), (8, []), (9, []), (10, []), (11, []), (12, []), (13, []), (14, []), (15, [])] [0, 1, 2]), (kT l131_2), (tH s131_25), (kT l131_26), .ret])
@[go_sem] def l132_0 (_ : Unit) : KL := [kA 8 (.mv (cI 0)),
  kB 9 (.mv (.c (.bool false))) [0, 1, 2, 3]]
@[go_sem] def l132_1 : Nat → GOp
  | 0 => ⟨(some 12), .mv (.t 0), none⟩
  | 1 => ⟨(some 13), .mv (.t 1), none⟩
  | 2 => ⟨(some 14), .mv (.t 0), none⟩
  | 3 => ⟨(some 15), .mv (.t 3), none⟩
  | 4 => ⟨(some 16), .mv (.t 0), none⟩
  | 5 => ⟨(some 17), .mv (.t 3), none⟩
  | 6 => ⟨(some 18), .iaddr (.t 16) (.t 17) 1, none⟩
  | 7 => ⟨(some 19), .load (.t 18) 1 false, none⟩
  | 8 => ⟨(some 20), .mv (.t 0), none⟩
  | 9 => ⟨(some 21), .mv (.t 1), none⟩
  | 10 => ⟨(some 22), .iaddr (.t 20) (.t 21) 1, none⟩
  | 11 => ⟨(some 23), .load (.t 22) 1 false, none⟩
  | 12 => ⟨(some 24), .iaddr (.t 12) (.t 13) 1, none⟩
  | 13 => ⟨none, .store (.t 24) 1 (.t 19), none⟩
  | 14 => ⟨(some 25), .iaddr (.t 14) (.t 15) 1, none⟩
  | 15 => ⟨none, .store (.t 25) 1 (.t 23), none⟩
  | _ => ⟨none, .mkmap, none⟩
@[go_sem] def l132_2 (_ : Unit) : KL := [kA 26 (.mv (.t 1)),
  kA 27 (.bin .add (.t 26) (cI 1)),
  kA 28 (.mv (.t 2)),
  kA 29 (.bin .sub (.t 28) (cI 1)),
  kB 10 (.mv (.t 27)) [0, 1, 10, 29],
  kB 11 (.mv (.t 29)) [0, 1, 10, 11]]
@[go_sem] def l132_3 : Nat → GOp
  | 0 => ⟨(some 30), .mv (.t 10), none⟩
  | 1 => ⟨(some 31), .mv (.t 11), none⟩
  | 2 => ⟨(some 32), .bin .leq (.t 30) (.t 31), none⟩
  | 3 => ⟨(some 33), .mv (.t 32), none⟩
  | 4 => ⟨(some 34), .mv (.t 0), (some (33, true))⟩
  | 5 => ⟨(some 35), .mv (.t 10), (some (33, true))⟩
  | 6 => ⟨(some 36), .iaddr (.t 34) (.t 35) 1, (some (33, true))⟩
  | 7 => ⟨(some 37), .load (.t 36) 1 false, (some (33, true))⟩
  | 8 => ⟨(some 38), .mv (.t 0), (some (33, true))⟩
  | 9 => ⟨(some 39), .mv (.t 1), (some (33, true))⟩
  | 10 => ⟨(some 40), .iaddr (.t 38) (.t 39) 1, (some (33, true))⟩
  | 11 => ⟨(some 41), .load (.t 40) 1 false, (some (33, true))⟩
  | 12 => ⟨(some 42), .call (n_cmp_Less_int) [(.t 37), (.t 41)], (some (33, true))⟩
  | 13 => ⟨(some 43), .pick (.t 33) (.t 42) (.c (.bool false)), none⟩
  | _ => ⟨none, .mkmap, none⟩
@[go_sem] def s132_4 (_ : Unit) : IR := (sQ [(.kd (oF l132_3 14) [(0, []), (1, []), (2, []), (3, []), (4, []), (5, []), (6, []), (7, []), (8, []), (9, []), (10, []), (11, []), (12, []), (13, [])] [0, 1, 10, 11, 43]), (.cond (.t 43) .skip (.exit 0))])
@[go_sem] def l132_5 (_ : Unit) : KL := [kA 44 (.mv (.t 10)),
  kA 45 (.bin .add (.t 44) (cI 1)),
  kB 10 (.mv (.t 45)) [0, 1, 10, 11]]
@[go_sem] def s132_6 (_ : Unit) : IR := (.block 1 (kT l132_5))
@[go_sem] def s132_7 (_ : Unit) : IR := (sQ [(tH s132_4), (tH s132_6)])
@[go_sem] def s132_8 (_ : Unit) : IR := (.loop (tH s132_7))
@[go_sem] def s132_9 (_ : Unit) : IR := (.block 0 (tH s132_8))
@[go_sem] def l132_10 : Nat → GOp
  | 0 => ⟨(some 46), .mv (.t 10), none⟩
  | 1 => ⟨(some 47), .mv (.t 11), none⟩
  | 2 => ⟨(some 48), .bin .leq (.t 46) (.t 47), none⟩
  | 3 => ⟨(some 49), .mv (.t 48), none⟩
  | 4 => ⟨(some 50), .mv (.t 0), (some (49, true))⟩
  | 5 => ⟨(some 51), .mv (.t 11), (some (49, true))⟩
  | 6 => ⟨(some 52), .iaddr (.t 50) (.t 51) 1, (some (49, true))⟩
  | 7 => ⟨(some 53), .load (.t 52) 1 false, (some (49, true))⟩
  | 8 => ⟨(some 54), .mv (.t 0), (some (49, true))⟩
  | 9 => ⟨(some 55), .mv (.t 1), (some (49, true))⟩
  | 10 => ⟨(some 56), .iaddr (.t 54) (.t 55) 1, (some (49, true))⟩
  | 11 => ⟨(some 57), .load (.t 56) 1 false, (some (49, true))⟩
  | 12 => ⟨(some 58), .call (n_cmp_Less_int) [(.t 53), (.t 57)], (some (49, true))⟩
  | 13 => ⟨(some 59), .un .not (.t 58), (some (49, true))⟩
  | 14 => ⟨(some 60), .pick (.t 49) (.t 59) (.c (.bool false)), none⟩
  | _ => ⟨none, .mkmap, none⟩
@[go_sem] def s132_11 (_ : Unit) : IR := (sQ [(.kd (oF l132_10 15) [(0, []), (1, []), (2, []), (3, []), (4, []), (5, []), (6, []), (7, []), (8, []), (9, []), (10, []), (11, []), (12, []), (13, []), (14, [])] [0, 1, 10, 11, 60]), (.cond (.t 60) .skip (.exit 2))])
@[go_sem] def l132_12 (_ : Unit) : KL := [kA 61 (.mv (.t 11)),
  kA 62 (.bin .sub (.t 61) (cI 1)),
  kB 11 (.mv (.t 62)) [0, 1, 10, 11]]
@[go_sem] def s132_13 (_ : Unit) : IR := (.block 3 (kT l132_12))
@[go_sem] def s132_14 (_ : Unit) : IR := (sQ [(tH s132_11), (tH s132_13)])
@[go_sem] def s132_15 (_ : Unit) : IR := (.loop (tH s132_14))
@[go_sem] def s132_16 (_ : Unit) : IR := (.block 2 (tH s132_15))
@[go_sem] def l132_17 (_ : Unit) : KL := [kA 63 (.mv (.t 10)),
  kA 64 (.mv (.t 11)),
  kB 65 (.bin .gtr (.t 63) (.t 64)) [0, 1, 10, 11, 65]]
@[go_sem] def l132_18 : Nat → GOp
  | 0 => ⟨(some 66), .mv (.t 0), none⟩
  | 1 => ⟨(some 67), .mv (.t 11), none⟩
  | 2 => ⟨(some 68), .mv (.t 0), none⟩
  | 3 => ⟨(some 69), .mv (.t 1), none⟩
  | 4 => ⟨(some 70), .mv (.t 0), none⟩
  | 5 => ⟨(some 71), .mv (.t 1), none⟩
  | 6 => ⟨(some 72), .iaddr (.t 70) (.t 71) 1, none⟩
  | 7 => ⟨(some 73), .load (.t 72) 1 false, none⟩
  | 8 => ⟨(some 74), .mv (.t 0), none⟩
  | 9 => ⟨(some 75), .mv (.t 11), none⟩
  | 10 => ⟨(some 76), .iaddr (.t 74) (.t 75) 1, none⟩
  | 11 => ⟨(some 77), .load (.t 76) 1 false, none⟩
  | 12 => ⟨(some 78), .iaddr (.t 66) (.t 67) 1, none⟩
  | 13 => ⟨none, .store (.t 78) 1 (.t 73), none⟩
  | 14 => ⟨(some 79), .iaddr (.t 68) (.t 69) 1, none⟩
  | 15 => ⟨none, .store (.t 79) 1 (.t 77), none⟩
  | _ => ⟨none, .mkmap, none⟩
@[go_sem] def l132_19 (_ : Unit) : KL := [kA 80 (.mv (.t 11)),
  kA 8 (.mv (.t 80)),
  kB 9 (.mv (.c (.bool true))) [8, 9]]
@[go_sem] def s132_20 (_ : Unit) : IR := (sQ [(.kd (oF l132_18 16) [(0, []), (1, []), (2, []), (3, []), (4, []), (5, []), (6, []), (7, []), (8, []), (9, []), (10, []), (11, []), (12, []), (13, []), (14, []), (15, [])] [11]), (kT l132_19), .ret])
@[go_sem] def s132_21 (_ : Unit) : IR := (sQ [(kT l132_17), (.cond (.t 65) (tH s132_20) .skip)])
@[go_sem] def l132_22 : Nat → GOp
  | 0 => ⟨(some 81), .mv (.t 0), none⟩
  | 1 => ⟨(some 82), .mv (.t 10), none⟩
  | 2 => ⟨(some 83), .mv (.t 0), none⟩
  | 3 => ⟨(some 84), .mv (.t 11), none⟩
  | 4 => ⟨(some 85), .mv (.t 0), none⟩
  | 5 => ⟨(some 86), .mv (.t 11), none⟩
  | 6 => ⟨(some 87), .iaddr (.t 85) (.t 86) 1, none⟩
  | 7 => ⟨(some 88), .load (.t 87) 1 false, none⟩
  | 8 => ⟨(some 89), .mv (.t 0), none⟩
  | 9 => ⟨(some 90), .mv (.t 10), none⟩
  | 10 => ⟨(some 91), .iaddr (.t 89) (.t 90) 1, none⟩
  | 11 => ⟨(some 92), .load (.t 91) 1 false, none⟩
  | 12 => ⟨(some 93), .iaddr (.t 81) (.t 82) 1, none⟩
  | 13 => ⟨none, .store (.t 93) 1 (.t 88), none⟩
  | 14 => ⟨(some 94), .iaddr (.t 83) (.t 84) 1, none⟩
  | 15 => ⟨none, .store (.t 94) 1 (.t 92), none⟩
  | _ => ⟨none, .mkmap, none⟩
@[go_sem] def l132_23 (_ : Unit) : KL := [kA 95 (.mv (.t 10)),
  kA 96 (.bin .add (.t 95) (cI 1)),
  kB 10 (.mv (.t 96)) [0, 1, 10, 11]]
@[go_sem] def l132_24 (_ : Unit) : KL := [kA 97 (.mv (.t 11)),
  kA 98 (.bin .sub (.t 97) (cI 1)),
  kB 11 (.mv (.t 98)) [0, 1, 10, 11]]
@[go_sem] def l132_25 : Nat → GOp
  | 0 => ⟨(some 99), .mv (.t 10), none⟩
  | 1 => ⟨(some 100), .mv (.t 11), none⟩
  | 2 => ⟨(some 101), .bin .leq (.t 99) (.t 100), none⟩
  | 3 => ⟨(some 102), .mv (.t 101), none⟩
  | 4 => ⟨(some 103), .mv (.t 0), (some (102, true))⟩
  | 5 => ⟨(some 104), .mv (.t 10), (some (102, true))⟩
  | 6 => ⟨(some 105), .iaddr (.t 103) (.t 104) 1, (some (102, true))⟩
  | 7 => ⟨(some 106), .load (.t 105) 1 false, (some (102, true))⟩
  | 8 => ⟨(some 107), .mv (.t 0), (some (102, true))⟩
  | 9 => ⟨(some 108), .mv (.t 1), (some (102, true))⟩
  | 10 => ⟨(some 109), .iaddr (.t 107) (.t 108) 1, (some (102, true))⟩
  | 11 => ⟨(some 110), .load (.t 109) 1 false, (some (102, true))⟩
  | 12 => ⟨(some 111), .call (n_cmp_Less_int) [(.t 106), (.t 110)], (some (102, true))⟩
  | 13 => ⟨(some 112), .pick (.t 102) (.t 111) (.c (.bool false)), none⟩
  | _ => ⟨none, .mkmap, none⟩
@[go_sem] def s132_26 (_ : Unit) : IR := (sQ [(.kd (oF l132_25 14) [(0, []), (1, []), (2, []), (3, []), (4, []), (5, []), (6, []), (7, []), (8, []), (9, []), (10, []), (11, []), (12, []), (13, [])] [0, 1, 10, 11, 112]), (.cond (.t 112) .skip (.exit 6))])
@[go_sem] def l132_27 (_ : Unit) : KL := [kA 113 (.mv (.t 10)),
  kA 114 (.bin .add (.t 113) (cI 1)),
  kB 10 (.mv (.t 114)) [0, 1, 10, 11]]
@[go_sem] def s132_28 (_ : Unit) : IR := (.block 7 (kT l132_27))
@[go_sem] def s132_29 (_ : Unit) : IR := (sQ [(tH s132_26), (tH s132_28)])
@[go_sem] def s132_30 (_ : Unit) : IR := (.loop (tH s132_29))
@[go_sem] def s132_31 (_ : Unit) : IR := (.block 6 (tH s132_30))
@[go_sem] def l132_32 : Nat → GOp
  | 0 => ⟨(some 115), .mv (.t 10), none⟩
  | 1 => ⟨(some 116), .mv (.t 11), none⟩
  | 2 => ⟨(some 117), .bin .leq (.t 115) (.t 116), none⟩
  | 3 => ⟨(some 118), .mv (.t 117), none⟩
  | 4 => ⟨(some 119), .mv (.t 0), (some (118, true))⟩
  | 5 => ⟨(some 120), .mv (.t 11), (some (118, true))⟩
  | 6 => ⟨(some 121), .iaddr (.t 119) (.t 120) 1, (some (118, true))⟩
  | 7 => ⟨(some 122), .load (.t 121) 1 false, (some (118, true))⟩
  | 8 => ⟨(some 123), .mv (.t 0), (some (118, true))⟩
  | 9 => ⟨(some 124), .mv (.t 1), (some (118, true))⟩
  | 10 => ⟨(some 125), .iaddr (.t 123) (.t 124) 1, (some (118, true))⟩
  | 11 => ⟨(some 126), .load (.t 125) 1 false, (some (118, true))⟩
  | 12 => ⟨(some 127), .call (n_cmp_Less_int) [(.t 122), (.t 126)], (some (118, true))⟩
  | 13 => ⟨(some 128), .un .not (.t 127), (some (118, true))⟩
  | 14 => ⟨(some 129), .pick (.t 118) (.t 128) (.c (.bool false)), none⟩
  | _ => ⟨none, .mkmap, none⟩
@[go_sem] def s132_33 (_ : Unit) : IR := (sQ [(.kd (oF l132_32 15) [(0, []), (1, []), (2, []), (3, []), (4, []), (5, []), (6, []), (7, []), (8, []), (9, []), (10, []), (11, []), (12, []), (13, []), (14, [])] [0, 1, 10, 11, 129]), (.cond (.t 129) .skip (.exit 8))])
@[go_sem] def l132_34 (_ : Unit) : KL := [kA 130 (.mv (.t 11)),
  kA 131 (.bin .sub (.t 130) (cI 1)),
  kB 11 (.mv (.t 131)) [0, 1, 10, 11]]
@[go_sem] def s132_35 (_ : Unit) : IR := (.block 9 (kT l132_34))
@[go_sem] def s132_36 (_ : Unit) : IR := (sQ [(tH s132_33), (tH s132_35)])
@[go_sem] def s132_37 (_ : Unit) : IR := (.loop (tH s132_36))
@[go_sem] def s132_38 (_ : Unit) : IR := (.block 8 (tH s132_37))
@[go_sem] def l132_39 (_ : Unit) : KL := [kA 132 (.mv (.t 10)),
  kA 133 (.mv (.t 11)),
  kB 134 (.bin .gtr (.t 132) (.t 133)) [0, 1, 10, 11, 134]]
@[go_sem] def s132_40 (_ : Unit) : IR := (sQ [(kT l132_39), (.cond (.t 134) (.exit 4) .skip)])
@[go_sem] def l132_41 : Nat → GOp
  | 0 => ⟨(some 135), .mv (.t 0), none⟩
  | 1 => ⟨(some 136), .mv (.t 10), none⟩
  | 2 => ⟨(some 137), .mv (.t 0), none⟩
  | 3 => ⟨(some 138), .mv (.t 11), none⟩
  | 4 => ⟨(some 139), .mv (.t 0), none⟩
  | 5 => ⟨(some 140), .mv (.t 11), none⟩
  | 6 => ⟨(some 141), .iaddr (.t 139) (.t 140) 1, none⟩
  | 7 => ⟨(some 142), .load (.t 141) 1 false, none⟩
  | 8 => ⟨(some 143), .mv (.t 0), none⟩
  | 9 => ⟨(some 144), .mv (.t 10), none⟩
  | 10 => ⟨(some 145), .iaddr (.t 143) (.t 144) 1, none⟩
  | 11 => ⟨(some 146), .load (.t 145) 1 false, none⟩
  | 12 => ⟨(some 147), .iaddr (.t 135) (.t 136) 1, none⟩
  | 13 => ⟨none, .store (.t 147) 1 (.t 142), none⟩
  | 14 => ⟨(some 148), .iaddr (.t 137) (.t 138) 1, none⟩
  | 15 => ⟨none, .store (.t 148) 1 (.t 146), none⟩
  | _ => ⟨none, .mkmap, none⟩
@[go_sem] def l132_42 (_ : Unit) : KL := [kA 149 (.mv (.t 10)),
  kA 150 (.bin .add (.t 149) (cI 1)),
  kB 10 (.mv (.t 150)) [0, 1, 10, 11]]
@[go_sem] def l132_43 (_ : Unit) : KL := [kA 151 (.mv (.t 11)),
  kA 152 (.bin .sub (.t 151) (cI 1)),
  kB 11 (.mv (.t 152)) [0, 1, 10, 11]]
@[go_sem] def s132_44 (_ : Unit) : IR := (sQ [(tH s132_31), (tH s132_38), (tH s132_40), (.kd (oF l132_41 16) [(0, []), (1, []), (2, []), (3, []), (4, []), (5, []), (6, []), (7, []), (8, []), (9, []), (10, []), (11, []), (12, []), (13, []), (14, []), (15, [])] [0, 1, 10, 11]), (kT l132_42), (kT l132_43)])
@[go_sem] def s132_45 (_ : Unit) : IR := (.block 5 (tH s132_44))
@[go_sem] def s132_46 (_ : Unit) : IR := (.loop (tH s132_45))
@[go_sem] def s132_47 (_ : Unit) : IR := (.block 4 (tH s132_46))
@[go_sem] def l132_48 : Nat → GOp
  | 0 => ⟨(some 153), .mv (.t 0), none⟩
  | 1 => ⟨(some 154), .mv (.t 11), none⟩
  | 2 => ⟨(some 155), .mv (.t 0), none⟩
  | 3 => ⟨(some 156), .mv (.t 1), none⟩
  | 4 => ⟨(some 157), .mv (.t 0), none⟩
  | 5 => ⟨(some 158), .mv (.t 1), none⟩
  | 6 => ⟨(some 159), .iaddr (.t 157) (.t 158) 1, none⟩
  | 7 => ⟨(some 160), .load (.t 159) 1 false, none⟩
  | 8 => ⟨(some 161), .mv (.t 0), none⟩
  | 9 => ⟨(some 162), .mv (.t 11), none⟩
  | 10 => ⟨(some 163), .iaddr (.t 161) (.t 162) 1, none⟩
  | 11 => ⟨(some 164), .load (.t 163) 1 false, none⟩
  | 12 => ⟨(some 165), .iaddr (.t 153) (.t 154) 1, none⟩
  | 13 => ⟨none, .store (.t 165) 1 (.t 160), none⟩
  | 14 => ⟨(some 166), .iaddr (.t 155) (.t 156) 1, none⟩
  | 15 => ⟨none, .store (.t 166) 1 (.t 164), none⟩
  | _ => ⟨none, .mkmap, none⟩
@[go_sem] def l132_49 (_ : Unit) : KL := [kA 167 (.mv (.t 11)),
  kA 8 (.mv (.t 167)),
  kB 9 (.mv (.c (.bool false))) [8, 9]]
@[go_sem] def s132_50 (_ : Unit) : IR := (sQ [(kT l132_0), (.kd (oF l132_1 16) [(0, []), (1, []), (2, []), (3, []), (4, []), (5, []), (6, []), (7, []), (8, []), (9, []), (10, []), (11, []), (12, []), (13, []), (14, []), (15, [])] [0, 1, 2]), (kT l132_2), (tH s132_9), (tH s132_16), (tH s132_21), (.kd (oF l132_22 16) [(0, []), (1, []), (2, []), (3, []), (4, []), (5, []), (6, []), (7, []), (8, []), (9, []), (10, []), (11, []), (12, []), (13, []), (14, []), (15, [])] [0, 1, 10, 11]), (kT l132_23), (kT l132_24), (tH s132_47), (.kd (oF l132_48 16) [(0, []), (1, []), (2, []), (3, []), (4, []), (5, []), (6, []), (7, []), (8, []), (9, []), (10, []), (11, []), (12, []), (13, []), (14, []), (15, [])] [11]), (kT l132_49), .ret])
@[go_sem] def l111_0 (_ : Unit) : KL := [kB 8 (.mv (.c (.bool true))) [0, 1, 2, 3, 8]]
@[go_sem] def l111_1 (_ : Unit) : KL := [kB 9 (.mv (.c (.bool true))) [0, 1, 2, 3, 8, 9]]
@[go_sem] def l111_2 (_ : Unit) : KL := [kA 19 (.mv (.t 2)),
  kA 20 (.mv (.t 1)),
  kA 21 (.bin .sub (.t 19) (.t 20)),
  kB 10 (.mv (.t 21)) [0, 1, 2, 3, 8, 9, 10]]
@[go_sem] def l111_3 (_ : Unit) : KL := [kA 22 (.mv (.t 10)),
  kB 23 (.bin .leq (.t 22) (.c (.int .i64 12))) [0, 1, 2, 3, 8, 9, 10, 23]]
@[go_sem] def l111_4 (_ : Unit) : KL := [kA 24 (.mv (.t 0)),
  kA 25 (.mv (.t 1)),
  kA 26 (.mv (.t 2)),
  kB 27 (.call (n_slices_insertionSortOrdered_int) [(.t 24), (.t 25), (.t 26)]) []]
@[go_sem] def s111_5 (_ : Unit) : IR := (sQ [(kT l111_4), .ret])
@[go_sem] def s111_6 (_ : Unit) : IR := (sQ [(kT l111_3), (.cond (.t 23) (tH s111_5) .skip)])
@[go_sem] def l111_7 (_ : Unit) : KL := [kA 28 (.mv (.t 3)),
  kB 29 (.bin .eql (.t 28) (cI 0)) [0, 1, 2, 3, 8, 9, 10, 29]]
@[go_sem] def l111_8 (_ : Unit) : KL := [kA 30 (.mv (.t 0)),
  kA 31 (.mv (.t 1)),
  kA 32 (.mv (.t 2)),
  kB 33 (.call (n_slices_heapSortOrdered_int) [(.t 30), (.t 31), (.t 32)]) []]
@[go_sem] def s111_9 (_ : Unit) : IR := (sQ [(kT l111_8), .ret])
@[go_sem] def s111_10 (_ : Unit) : IR := (sQ [(kT l111_7), (.cond (.t 29) (tH s111_9) .skip)])
@[go_sem] def l111_11 (_ : Unit) : KL := [kA 34 (.mv (.t 8)),
  kB 35 (.un .not (.t 34)) [0, 1, 2, 3, 8, 9, 10, 35]]
@[go_sem] def l111_12 (_ : Unit) : KL := [kA 36 (.mv (.t 0)),
  kA 37 (.mv (.t 1)),
  kA 38 (.mv (.t 2)),
  kB 39 (.call (n_slices_breakPatternsOrdered_int) [(.t 36), (.t 37), (.t 38)]) [0, 1, 2, 3, 8, 9, 10]]
@[go_sem] def l111_13 (_ : Unit) : KL := [kA 40 (.mv (.t 3)),
  kA 41 (.bin .sub (.t 40) (cI 1)),
  kB 3 (.mv (.t 41)) [0, 1, 2, 3, 8, 9, 10]]
@[go_sem] def s111_14 (_ : Unit) : IR := (sQ [(kT l111_12), (kT l111_13)])
@[go_sem] def s111_15 (_ : Unit) : IR := (sQ [(kT l111_11), (.cond (.t 35) (tH s111_14) .skip)])
@[go_sem] def l111_16 (_ : Unit) : KL := [kA 43 (.mv (.t 0)),
  kA 44 (.mv (.t 1)),
  kA 45 (.mv (.t 2)),
  kA 46 (.call (n_slices_choosePivotOrdered_int) [(.t 43), (.t 44), (.t 45)]),
  kB 42 (.mv (.t 46)) [0, 1, 2, 3, 8, 9, 10, 42],
  kA 47 (.ext (.t 42) 0),
  kA 48 (.ext (.t 42) 1),
  kA 11 (.mv (.t 47)),
  kB 12 (.mv (.t 48)) [0, 1, 2, 3, 8, 9, 10, 11, 12]]
@[go_sem] def l111_17 (_ : Unit) : KL := [kA 49 (.mv (.t 12)),
  kB 50 (.bin .eql (.t 49) (.c (.int .i64 2))) [0, 1, 2, 3, 8, 9, 10, 11, 12, 50]]
@[go_sem] def l111_18 (_ : Unit) : KL := [kA 51 (.mv (.t 0)),
  kA 52 (.mv (.t 1)),
  kA 53 (.mv (.t 2)),
  kB 54 (.call (n_slices_reverseRangeOrdered_int) [(.t 51), (.t 52), (.t 53)]) [0, 1, 2, 3, 8, 9, 10, 11]]
@[go_sem] def l111_19 (_ : Unit) : KL := [kA 55 (.mv (.t 2)),
  kA 56 (.bin .sub (.t 55) (cI 1)),
  kA 57 (.mv (.t 11)),
  kA 58 (.mv (.t 1)),
  kB 59 (.bin .sub (.t 57) (.t 58)) [0, 1, 2, 3, 8, 9, 10, 56, 59],
  kA 60 (.bin .sub (.t 56) (.t 59)),
  kB 11 (.mv (.t 60)) [0, 1, 2, 3, 8, 9, 10, 11]]
@[go_sem] def l111_20 (_ : Unit) : KL := [kB 12 (.mv (cI 1)) [0, 1, 2, 3, 8, 9, 10, 11, 12]]
@[go_sem] def s111_21 (_ : Unit) : IR := (sQ [(kT l111_18), (kT l111_19), (kT l111_20)])
@[go_sem] def s111_22 (_ : Unit) : IR := (sQ [(kT l111_17), (.cond (.t 50) (tH s111_21) .skip)])
@[go_sem] def l111_23 (_ : Unit) : KL := [kA 61 (.mv (.t 8)),
  kA 62 (.mv (.t 61)),
  (⟨(some 63), .mv (.t 9), (some (62, true))⟩, none),
  kA 64 (.pick (.t 62) (.t 63) (.c (.bool false))),
  kB 65 (.mv (.t 64)) [0, 1, 2, 3, 8, 9, 10, 11, 12, 65],
  (⟨(some 66), .mv (.t 12), (some (65, true))⟩, none),
  (⟨(some 67), .bin .eql (.t 66) (cI 1), (some (65, true))⟩, none),
  kB 68 (.pick (.t 65) (.t 67) (.c (.bool false))) [0, 1, 2, 3, 8, 9, 10, 11, 68]]
@[go_sem] def l111_24 (_ : Unit) : KL := [kA 69 (.mv (.t 0)),
  kA 70 (.mv (.t 1)),
  kA 71 (.mv (.t 2)),
  kB 72 (.call (n_slices_partialInsertionSortOrdered_int) [(.t 69), (.t 70), (.t 71)]) [0, 1, 2, 3, 8, 9, 10, 11, 72]]
@[go_sem] def s111_25 (_ : Unit) : IR := (sQ [(kT l111_24), (.cond (.t 72) .ret .skip)])
@[go_sem] def s111_26 (_ : Unit) : IR := (sQ [(kT l111_23), (.cond (.t 68) (tH s111_25) .skip)])
@[go_sem] def l111_27 : Nat → GOp
  | 0 => ⟨(some 73), .mv (.t 1), none⟩
  | 1 => ⟨(some 74), .bin .gtr (.t 73) (cI 0), none⟩
  | 2 => ⟨(some 75), .mv (.t 74), none⟩
  | 3 => ⟨(some 76), .mv (.t 0), (some (75, true))⟩
  | 4 => ⟨(some 77), .mv (.t 1), (some (75, true))⟩
  | 5 => ⟨(some 78), .bin .sub (.t 77) (cI 1), (some (75, true))⟩
  | 6 => ⟨(some 79), .iaddr (.t 76) (.t 78) 1, (some (75, true))⟩
  | 7 => ⟨(some 80), .load (.t 79) 1 false, (some (75, true))⟩
  | 8 => ⟨(some 81), .mv (.t 0), (some (75, true))⟩
  | 9 => ⟨(some 82), .mv (.t 11), (some (75, true))⟩
  | 10 => ⟨(some 83), .iaddr (.t 81) (.t 82) 1, (some (75, true))⟩
  | 11 => ⟨(some 84), .load (.t 83) 1 false, (some (75, true))⟩
  | 12 => ⟨(some 85), .call (n_cmp_Less_int) [(.t 80), (.t 84)], (some (75, true))⟩
  | 13 => ⟨(some 86), .un .not (.t 85), (some (75, true))⟩
  | 14 => ⟨(some 87), .pick (.t 75) (.t 86) (.c (.bool false)), none⟩
  | _ => ⟨none, .mkmap, none⟩
@[go_sem] def l111_28 (_ : Unit) : KL := [kA 88 (.mv (.t 0)),
  kA 89 (.mv (.t 1)),
  kA 90 (.mv (.t 2)),
  kA 91 (.mv (.t 11)),
  kB 92 (.call (n_slices_partitionEqualOrdered_int) [(.t 88), (.t 89), (.t 90), (.t 91)]) [0, 2, 3, 8, 9, 92],
  kB 13 (.mv (.t 92)) [0, 2, 3, 8, 9, 13]]
@[go_sem] def l111_29 (_ : Unit) : KL := [kA 93 (.mv (.t 13)),
  kB 1 (.mv (.t 93)) [0, 1, 2, 3, 8, 9]]
@[go_sem] def s111_30 (_ : Unit) : IR := (sQ [(kT l111_28), (kT l111_29), (.exit 1)])
@[go_sem] def s111_31 (_ : Unit) : IR := (sQ [(.kd (oF l111_27 15) [(0, []), (1, []), (2, []), (3, []), (4, []), (5, []), (6, []), (7, []), (8, []), (9, []), (10, []), (11, []), (12, []), (13, []), (14, [])] [0, 1, 2, 3, 8, 9, 10, 11, 87]), (.cond (.t 87) (tH s111_30) .skip)])
@[go_sem] def l111_32 (_ : Unit) : KL := [kA 95 (.mv (.t 0)),
  kA 96 (.mv (.t 1)),
  kA 97 (.mv (.t 2)),
  kA 98 (.mv (.t 11)),
  kB 99 (.call (n_slices_partitionOrdered_int) [(.t 95), (.t 96), (.t 97), (.t 98)]) [0, 1, 2, 3, 10, 99],
  kA 94 (.mv (.t 99)),
  kA 100 (.ext (.t 94) 0),
  kA 101 (.ext (.t 94) 1),
  kA 14 (.mv (.t 100)),
  kB 15 (.mv (.t 101)) [0, 1, 2, 3, 10, 14, 15]]
@[go_sem] def l111_33 (_ : Unit) : KL := [kA 102 (.mv (.t 15)),
  kB 9 (.mv (.t 102)) [0, 1, 2, 3, 9, 10, 14]]
@[go_sem] def l111_34 (_ : Unit) : KL := [kA 103 (.mv (.t 14)),
  kA 104 (.mv (.t 1)),
  kA 105 (.bin .sub (.t 103) (.t 104)),
  kA 106 (.mv (.t 2)),
  kB 107 (.mv (.t 14)) [0, 1, 2, 3, 9, 10, 14, 105, 106, 107],
  kA 108 (.bin .sub (.t 106) (.t 107)),
  kA 16 (.mv (.t 105)),
  kB 17 (.mv (.t 108)) [0, 1, 2, 3, 9, 10, 14, 16, 17]]
@[go_sem] def l111_35 (_ : Unit) : KL := [kA 109 (.mv (.t 10)),
  kA 110 (.bin .quo (.t 109) (.c (.int .i64 8))),
  kB 18 (.mv (.t 110)) [0, 1, 2, 3, 9, 14, 16, 17, 18]]
@[go_sem] def l111_36 (_ : Unit) : KL := [kA 111 (.mv (.t 16)),
  kA 112 (.mv (.t 17)),
  kB 113 (.bin .lss (.t 111) (.t 112)) [0, 1, 2, 3, 9, 14, 16, 17, 18, 113]]
@[go_sem] def l111_37 (_ : Unit) : KL := [kA 114 (.mv (.t 16)),
  kA 115 (.mv (.t 18)),
  kA 116 (.bin .geq (.t 114) (.t 115)),
  kB 8 (.mv (.t 116)) [0, 1, 2, 3, 8, 9, 14]]
@[go_sem] def l111_38 (_ : Unit) : KL := [kA 117 (.mv (.t 0)),
  kA 118 (.mv (.t 1)),
  kA 119 (.mv (.t 14)),
  kA 120 (.mv (.t 3)),
  kB 121 (.call (n_slices_pdqsortOrdered_int) [(.t 117), (.t 118), (.t 119), (.t 120)]) [0, 2, 3, 8, 9, 14]]
@[go_sem] def l111_39 (_ : Unit) : KL := [kA 122 (.mv (.t 14)),
  kA 123 (.bin .add (.t 122) (cI 1)),
  kB 1 (.mv (.t 123)) [0, 1, 2, 3, 8, 9]]
@[go_sem] def s111_40 (_ : Unit) : IR := (sQ [(kT l111_37), (kT l111_38), (kT l111_39)])
@[go_sem] def l111_41 (_ : Unit) : KL := [kA 124 (.mv (.t 17)),
  kA 125 (.mv (.t 18)),
  kA 126 (.bin .geq (.t 124) (.t 125)),
  kB 8 (.mv (.t 126)) [0, 1, 2, 3, 8, 9, 14]]
@[go_sem] def l111_42 (_ : Unit) : KL := [kA 127 (.mv (.t 0)),
  kA 128 (.mv (.t 14)),
  kA 129 (.bin .add (.t 128) (cI 1)),
  kA 130 (.mv (.t 2)),
  kB 131 (.mv (.t 3)) [0, 1, 3, 8, 9, 14, 127, 129, 130, 131],
  kB 132 (.call (n_slices_pdqsortOrdered_int) [(.t 127), (.t 129), (.t 130), (.t 131)]) [0, 1, 3, 8, 9, 14]]
@[go_sem] def l111_43 (_ : Unit) : KL := [kA 133 (.mv (.t 14)),
  kB 2 (.mv (.t 133)) [0, 1, 2, 3, 8, 9]]
@[go_sem] def s111_44 (_ : Unit) : IR := (sQ [(kT l111_41), (kT l111_42), (kT l111_43)])
@[go_sem] def s111_45 (_ : Unit) : IR := (sQ [(kT l111_2), (tH s111_6), (tH s111_10), (tH s111_15), (kT l111_16), (tH s111_22), (tH s111_26), (tH s111_31), (kT l111_32), (kT l111_33), (kT l111_34), (kT l111_35), (kT l111_36), (.cond (.t 113) (tH s111_40) (tH s111_44))])
@[go_sem] def s111_46 (_ : Unit) : IR := (.block 1 (tH s111_45))
@[go_sem] def s111_47 (_ : Unit) : IR := (.loop (tH s111_46))
@[go_sem] def s111_48 (_ : Unit) : IR := (.block 0 (tH s111_47))
@[go_sem] def s111_49 (_ : Unit) : IR := (sQ [(kT l111_0), (kT l111_1), (tH s111_48)])
@[go_sem] def l93_0 (_ : Unit) : KL := [kA 3 (.mv (.t 0)),
  kA 4 (.len (.t 3)),
  kB 2 (.mv (.t 4)) [0, 2]]
@[go_sem] def l93_1 (_ : Unit) : KL := [kA 5 (.mv (.t 0)),
  kA 6 (.mv (.t 2)),
  kA 7 (.mv (.t 2)),
  kA 8 (.cvi .u64 (.t 7)),
  kB 9 (.call (n_math_bits_Len) [(.t 8)]) [5, 6, 9],
  kB 10 (.call (n_slices_pdqsortOrdered_int) [(.t 5), (cI 0), (.t 6), (.t 9)]) []]
@[go_sem] def s93_2 (_ : Unit) : IR := (sQ [(kT l93_0), (kT l93_1)])
@[go_sem] def l94_0 (_ : Unit) : KL := [kB 2 (.mv (.c (.sl none 0 0 true 0))) [0]]
@[go_sem] def l94_1 (_ : Unit) : KL := [kA 6 (.mv (.t 0)),
  kA 7 (.len (.t 6)),
  kB 8 (.bin .lss (.t 7) (.c (.int .i64 2))) [0, 8]]
@[go_sem] def l94_2 (_ : Unit) : KL := [kA 9 (.mv (.t 0)),
  kB 2 (.mv (.t 9)) [2]]
@[go_sem] def s94_3 (_ : Unit) : IR := (sQ [(kT l94_2), .ret])
@[go_sem] def s94_4 (_ : Unit) : IR := (sQ [(kT l94_1), (.cond (.t 8) (tH s94_3) .skip)])
@[go_sem] def l94_5 (_ : Unit) : KL := [kB 3 (.mv (cI 1)) [0, 3]]
@[go_sem] def l94_6 (_ : Unit) : KL := [kA 10 (.mv (.t 3)),
  kA 11 (.mv (.t 0)),
  kA 12 (.len (.t 11)),
  kB 13 (.bin .lss (.t 10) (.t 12)) [0, 3, 13]]
@[go_sem] def s94_7 (_ : Unit) : IR := (sQ [(kT l94_6), (.cond (.t 13) .skip (.exit 0))])
@[go_sem] def l94_8 : Nat → GOp
  | 0 => ⟨(some 16), .mv (.t 0), none⟩
  | 1 => ⟨(some 17), .mv (.t 3), none⟩
  | 2 => ⟨(some 18), .iaddr (.t 16) (.t 17) 1, none⟩
  | 3 => ⟨(some 19), .load (.t 18) 1 false, none⟩
  | 4 => ⟨(some 20), .mv (.t 0), none⟩
  | 5 => ⟨(some 21), .mv (.t 3), none⟩
  | 6 => ⟨(some 22), .bin .sub (.t 21) (cI 1), none⟩
  | 7 => ⟨(some 23), .iaddr (.t 20) (.t 22) 1, none⟩
  | 8 => ⟨(some 24), .load (.t 23) 1 false, none⟩
  | 9 => ⟨(some 25), .bin .eql (.t 19) (.t 24), none⟩
  | _ => ⟨none, .mkmap, none⟩
@[go_sem] def l94_9 (_ : Unit) : KL := [kA 26 (.mv (.t 0)),
  kA 27 (.mv (.t 3)),
  kA 28 (.slc 1 (.t 26) (some (.t 27)) none none),
  kB 4 (.mv (.t 28)) [0, 3, 4]]
@[go_sem] def l94_10 (_ : Unit) : KL := [kB 5 (.mv (cI 1)) [0, 3, 4, 5]]
@[go_sem] def l94_11 (_ : Unit) : KL := [kA 29 (.mv (.t 5)),
  kA 30 (.mv (.t 4)),
  kA 31 (.len (.t 30)),
  kB 32 (.bin .lss (.t 29) (.t 31)) [0, 3, 4, 5, 32]]
@[go_sem] def s94_12 (_ : Unit) : IR := (sQ [(kT l94_11), (.cond (.t 32) .skip (.exit 2))])
@[go_sem] def l94_13 : Nat → GOp
  | 0 => ⟨(some 35), .mv (.t 4), none⟩
  | 1 => ⟨(some 36), .mv (.t 5), none⟩
  | 2 => ⟨(some 37), .iaddr (.t 35) (.t 36) 1, none⟩
  | 3 => ⟨(some 38), .load (.t 37) 1 false, none⟩
  | 4 => ⟨(some 39), .mv (.t 4), none⟩
  | 5 => ⟨(some 40), .mv (.t 5), none⟩
  | 6 => ⟨(some 41), .bin .sub (.t 40) (cI 1), none⟩
  | 7 => ⟨(some 42), .iaddr (.t 39) (.t 41) 1, none⟩
  | 8 => ⟨(some 43), .load (.t 42) 1 false, none⟩
  | 9 => ⟨(some 44), .bin .neq (.t 38) (.t 43), none⟩
  | _ => ⟨none, .mkmap, none⟩
@[go_sem] def l94_14 (_ : Unit) : KL := [kA 45 (.mv (.t 0)),
  kA 46 (.mv (.t 3)),
  kA 47 (.mv (.t 4)),
  kA 48 (.mv (.t 5)),
  kB 49 (.iaddr (.t 47) (.t 48) 1) [0, 3, 4, 5, 45, 46, 49],
  kA 50 (.load (.t 49) 1 false),
  kA 51 (.iaddr (.t 45) (.t 46) 1),
  (⟨none, .store (.t 51) 1 (.t 50), none⟩, (some [0, 3, 4, 5]))]
@[go_sem] def l94_15 (_ : Unit) : KL := [kA 52 (.mv (.t 3)),
  kA 53 (.bin .add (.t 52) (cI 1)),
  kB 3 (.mv (.t 53)) [0, 3, 4, 5]]
@[go_sem] def s94_16 (_ : Unit) : IR := (sQ [(kT l94_14), (kT l94_15)])
@[go_sem] def s94_17 (_ : Unit) : IR := (sQ [(.kd (oF l94_13 10) [(0, []), (1, []), (2, []), (3, []), (4, []), (5, []), (6, []), (7, []), (8, []), (9, [])] [0, 3, 4, 5, 44]), (.cond (.t 44) (tH s94_16) .skip)])
@[go_sem] def s94_18 (_ : Unit) : IR := (.block 3 (tH s94_17))
@[go_sem] def l94_19 (_ : Unit) : KL := [kA 33 (.mv (.t 5)),
  kA 34 (.bin .add (.t 33) (cI 1)),
  kB 5 (.mv (.t 34)) [0, 3, 4, 5]]
@[go_sem] def s94_20 (_ : Unit) : IR := (sQ [(tH s94_12), (tH s94_18), (kT l94_19)])
@[go_sem] def s94_21 (_ : Unit) : IR := (.loop (tH s94_20))
@[go_sem] def s94_22 (_ : Unit) : IR := (.block 2 (tH s94_21))
@[go_sem] def s94_23 (_ : Unit) : IR := (sQ [(kT l94_10), (tH s94_22)])
@[go_sem] def l94_24 (_ : Unit) : KL := [kA 54 (.mv (.t 0)),
  kA 55 (.mv (.t 3)),
  kA 56 (.slc 1 (.t 54) (some (.t 55)) none none),
  (⟨none, .clear [(.int .i64 0)] (.t 56), none⟩, (some [0, 3]))]
@[go_sem] def l94_25 (_ : Unit) : KL := [kA 57 (.mv (.t 0)),
  kA 58 (.mv (.t 3)),
  kA 59 (.slc 1 (.t 57) none (some (.t 58)) none),
  kB 2 (.mv (.t 59)) [2]]
@[go_sem] def s94_26 (_ : Unit) : IR := (sQ [(kT l94_9), (tH s94_23), (kT l94_24), (kT l94_25), .ret])
@[go_sem] def s94_27 (_ : Unit) : IR := (sQ [(.kd (oF l94_8 10) [(0, []), (1, []), (2, []), (3, []), (4, []), (5, []), (6, []), (7, []), (8, []), (9, [])] [0, 3, 25]), (.cond (.t 25) (tH s94_26) .skip)])
@[go_sem] def s94_28 (_ : Unit) : IR := (.block 1 (tH s94_27))
@[go_sem] def l94_29 (_ : Unit) : KL := [kA 14 (.mv (.t 3)),
  kA 15 (.bin .add (.t 14) (cI 1)),
  kB 3 (.mv (.t 15)) [0, 3]]
@[go_sem] def s94_30 (_ : Unit) : IR := (sQ [(tH s94_7), (tH s94_28), (kT l94_29)])
@[go_sem] def s94_31 (_ : Unit) : IR := (.loop (tH s94_30))
@[go_sem] def s94_32 (_ : Unit) : IR := (.block 0 (tH s94_31))
@[go_sem] def s94_33 (_ : Unit) : IR := (sQ [(kT l94_5), (tH s94_32)])
@[go_sem] def l94_34 (_ : Unit) : KL := [kA 60 (.mv (.t 0)),
  kB 2 (.mv (.t 60)) [2]]
@[go_sem] def s94_35 (_ : Unit) : IR := (sQ [(kT l94_0), (tH s94_4), (tH s94_33), (kT l94_34), .ret])
theorem c94 : compFn Try.prog [(0, [], [oS [0]]), (1, [], [oN, oN, oS [0, 8]]), (2, [], [oN, oS [2]]), (3, [], [oS [0, 3]]), (4, [], [oN, oN, oN, oS [0, 3, 13]]), (6, [(0, []), (1, []), (2, []), (3, []), (4, []), (5, []), (6, []), (7, []), (8, []), (9, [])], [oS [0, 3, 25]]), (7, [], [oN, oN, oN, oS [0, 3, 4]]), (8, [], [oS [0, 3, 4, 5]]), (9, [], [oN, oN, oN, oS [0, 3, 4, 5, 32]]), (11, [(0, []), (1, []), (2, []), (3, []), (4, []), (5, []), (6, []), (7, []), (8, []), (9, [])], [oS [0, 3, 4, 5, 44]]), (12, [], [oN, oN, oN, oN, oS [0, 3, 4, 5, 45, 46, 49], oN, oN, oS [0, 3, 4, 5]]), (13, [], [oN, oN, oS [0, 3, 4, 5]]), (10, [], [oN, oN, oS [0, 3, 4, 5]]), (14, [], [oN, oN, oN, oS [0, 3]]), (15, [], [oN, oN, oN, oS [2]]), (5, [], [oN, oN, oS [0, 3]]), (16, [], [oN, oS [2]])] Try.f94 = some ⟨1, 61, [.t 2], (tH s94_35)⟩ := by kernel_rfl
theorem v_slices_Compact_Sint_int (hl : vs.length = 1) (h : wpV Try.prog (tH s94_35) (postV [.t 2] RV) (envV vs) M) : VCall Try.prog n_slices_Compact_Sint_int vs M RV :=
  vcall_of_wp (fun _ _ _ hl h => acall_of_wp mixed Try.func94 c94 (by kernel_rfl) hl h) hl h
@[go_sem] def l58_0 (_ : Unit) : KL := [kA 2 (.box (.t 0)),
  kB 4 (.mv (.c (.sl none 0 0 true 0))) [1, 2]]
@[go_sem] def l58_1 (_ : Unit) : KL := [kA 9 (.faddr (.t 2) 1),
  kA 10 (.load (.t 9) 1 false),
  kA 11 (.mv (.t 1)),
  kA 12 (.iaddr (.t 10) (.t 11) 3),
  kB 13 (.load (.t 12) 3 true) [2, 13],
  kA 5 (.alloc [(.sl none 0 0 true 0), (.sl none 0 0 true 0), (.sl none 0 0 true 0)]),
  (⟨none, .store (.t 5) 3 (.t 13), none⟩, (some [2, 5]))]
@[go_sem] def l58_2 (_ : Unit) : KL := [kA 14 (.faddr (.t 5) 0),
  kA 15 (.load (.t 14) 1 false),
  kA 16 (.faddr (.t 2) 0),
  kA 17 (.load (.t 16) 1 false),
  kB 18 (.len (.t 17)) [2, 5, 15, 18],
  kA 19 (.call (n_impl_usedBy) [(.t 15), (.t 18)]),
  kB 6 (.mv (.t 19)) [2, 5, 6]]
@[go_sem] def l58_3 (_ : Unit) : KL := [kA 20 (.faddr (.t 5) 2),
  kA 21 (.load (.t 20) 1 false),
  kA 22 (.len (.t 21)),
  kB 23 (.mv (cI 0)) [2, 6, 21, 22, 23]]
@[go_sem] def l58_4 (_ : Unit) : KL := [kB 24 (.bin .lss (.t 23) (.t 22)) [2, 6, 21, 22, 23, 24]]
@[go_sem] def l58_5 (_ : Unit) : KL := [kA 25 (.iaddr (.t 21) (.t 23) 1),
  kA 26 (.load (.t 25) 1 false),
  kB 8 (.mv (.t 26)) [2, 6, 8, 21, 22, 23]]
@[go_sem] def l58_6 (_ : Unit) : KL := [kA 27 (.mv (.t 6)),
  kA 28 (.mv (.t 8)),
  kA 29 (.faddr (.t 2) 0),
  kA 30 (.load (.t 29) 1 false),
  kB 31 (.len (.t 30)) [2, 21, 22, 23, 27, 28, 31],
  kA 32 (.call (n_impl_usedBy) [(.t 28), (.t 31)]),
  kA 33 (.app 1 8 (.t 27) (.t 32)),
  kB 6 (.mv (.t 33)) [2, 6, 21, 22, 23]]
@[go_sem] def s58_7 (_ : Unit) : IR := (sQ [(kT l58_5), (kT l58_6)])
@[go_sem] def s58_8 (_ : Unit) : IR := (.block 1 (tH s58_7))
@[go_sem] def l58_9 (_ : Unit) : KL := [kA 34 (.bin .add (.t 23) (cI 1)),
  kB 23 (.mv (.t 34)) [2, 6, 21, 22, 23]]
@[go_sem] def s58_10 (_ : Unit) : IR := (sQ [(kT l58_4), (.cond (.t 24) .skip (.exit 0)), (tH s58_8), (kT l58_9)])
@[go_sem] def s58_11 (_ : Unit) : IR := (.loop (tH s58_10))
@[go_sem] def s58_12 (_ : Unit) : IR := (.block 0 (tH s58_11))
@[go_sem] def s58_13 (_ : Unit) : IR := (sQ [(kT l58_3), (tH s58_12)])
@[go_sem] def l58_14 (_ : Unit) : KL := [kA 35 (.mv (.t 6)),
  kB 36 (.call (n_slices_Sort_Sint_int) [(.t 35)]) [6]]
@[go_sem] def l58_15 (_ : Unit) : KL := [kA 37 (.mv (.t 6)),
  kA 38 (.call (n_slices_Compact_Sint_int) [(.t 37)]),
  kA 39 (.call (n_impl_clone_int) [(.t 38)]),
  kB 4 (.mv (.t 39)) [4]]
@[go_sem] def s58_16 (_ : Unit) : IR := (sQ [(kT l58_0), (kT l58_1), (kT l58_2), (tH s58_13), (kT l58_14), (kT l58_15), .ret])
theorem c58 : compFn Try.prog [(0, [], [oN, oS [1, 2]]), (1, [], [oN, oN, oN, oN, oS [2, 13], oN, oS [2, 5]]), (2, [], [oN, oN, oN, oN, oS [2, 5, 15, 18], oN, oS [2, 5, 6]]), (3, [], [oN, oN, oN, oS [2, 6, 21, 22, 23]]), (4, [], [oS [2, 6, 21, 22, 23, 24]]), (5, [], [oN, oN, oS [2, 6, 8, 21, 22, 23]]), (6, [], [oN, oN, oN, oN, oS [2, 21, 22, 23, 27, 28, 31], oN, oN, oS [2, 6, 21, 22, 23]]), (7, [], [oN, oS [2, 6, 21, 22, 23]]), (8, [], [oN, oS [6]]), (9, [], [oN, oN, oN, oS [4]])] Try.f58 = some ⟨2, 40, [.t 4], (tH s58_16)⟩ := by kernel_rfl
theorem v_impl_touchedBy (hl : vs.length = 2) (h : wpV Try.prog (tH s58_16) (postV [.t 4] RV) (envV vs) M) : VCall Try.prog n_impl_touchedBy vs M RV :=
  vcall_of_wp (fun _ _ _ hl h => acall_of_wp mixed Try.func58 c58 (by kernel_rfl) hl h) hl h
@[go_sem] def l21_0 (_ : Unit) : KL := [kA 2 (.box (.t 0)),
  kA 4 (.mv (.c (.sl none 0 0 true 0))),
  kB 5 (.mv (.c (.sl none 0 0 true 0))) [1, 2]]
@[go_sem] def l21_1 (_ : Unit) : KL := [kA 6 (.load (.t 2) 2 true),
  kA 7 (.call (n_impl_SystemValid) [(.t 6)]),
  kA 8 (.un .not (.t 7)),
  kA 9 (.mv (.t 8)),
  (⟨(some 10), .mv (.t 1), (some (9, false))⟩, (some [1, 2, 9, 10])),
  (⟨(some 11), .faddr (.t 2) 1, (some (9, false))⟩, none),
  (⟨(some 12), .load (.t 11) 1 false, (some (9, false))⟩, none),
  (⟨(some 13), .len (.t 12), (some (9, false))⟩, none),
  (⟨(some 14), .bin .sub (.t 13) (cI 1), (some (9, false))⟩, none),
  (⟨(some 15), .call (n_impl_in) [(.t 10), (cI 0), (.t 14)], (some (9, false))⟩, (some [1, 2, 9, 15])),
  (⟨(some 16), .un .not (.t 15), (some (9, false))⟩, none),
  kB 17 (.pick (.t 9) (.c (.bool true)) (.t 16)) [1, 2, 17]]
@[go_sem] def l21_2 (_ : Unit) : KL := [kA 4 (.mv (.c (.sl none 0 0 true 0))),
  kB 5 (.mv (.c (.sl none 0 0 true 0))) [4, 5]]
@[go_sem] def s21_3 (_ : Unit) : IR := (sQ [(kT l21_2), .ret])
@[go_sem] def s21_4 (_ : Unit) : IR := (sQ [(kT l21_1), (.cond (.t 17) (tH s21_3) .skip)])
@[go_sem] def l21_5 : Nat → GOp
  | 0 => ⟨(some 18), .faddr (.t 2) 1, none⟩
  | 1 => ⟨(some 19), .load (.t 18) 1 false, none⟩
  | 2 => ⟨(some 20), .mv (.t 1), none⟩
  | 3 => ⟨(some 21), .iaddr (.t 19) (.t 20) 3, none⟩
  | 4 => ⟨(some 22), .faddr (.t 21) 1, none⟩
  | 5 => ⟨(some 23), .load (.t 22) 1 false, none⟩
  | 6 => ⟨(some 24), .call (n_impl_clone_int) [(.t 23)], none⟩
  | 7 => ⟨(some 25), .load (.t 2) 2 true, none⟩
  | 8 => ⟨(some 26), .mv (.t 1), none⟩
  | 9 => ⟨(some 27), .call (n_impl_touchedBy) [(.t 25), (.t 26)], none⟩
  | 10 => ⟨(some 4), .mv (.t 24), none⟩
  | 11 => ⟨(some 5), .mv (.t 27), none⟩
  | _ => ⟨none, .mkmap, none⟩
@[go_sem] def s21_6 (_ : Unit) : IR := (sQ [(kT l21_0), (tH s21_4), (.kd (oF l21_5 12) [(0, []), (1, []), (2, []), (3, []), (4, []), (5, []), (7, []), (8, []), (6, [7]), (9, []), (10, []), (11, [])] [4, 5]), .ret])
theorem c21 : compFn Try.prog [(0, [], [oN, oN, oS [1, 2]]), (1, [], [oN, oN, oN, oN, oS [1, 2, 9, 10], oN, oN, oN, oN, oS [1, 2, 9, 15], oN, oS [1, 2, 17]]), (2, [], [oN, oS [4, 5]]), (3, [(0, []), (1, []), (2, []), (3, []), (4, []), (5, []), (7, []), (8, []), (6, [7]), (9, []), (10, []), (11, [])], [oS [4, 5]])] Try.f21 = some ⟨2, 28, [.t 4, .t 5], (tH s21_6)⟩ := by kernel_rfl
theorem v_impl_TouchedBy (hl : vs.length = 2) (h : wpV Try.prog (tH s21_6) (postV [.t 4, .t 5] RV) (envV vs) M) : VCall Try.prog n_impl_TouchedBy vs M RV :=
  vcall_of_wp (fun _ _ _ hl h => acall_of_wp mixed Try.func21 c21 (by kernel_rfl) hl h) hl h
@[go_sem] def l14_0 (_ : Unit) : KL := [kB 4 (.mv (.c (.bool false))) [0, 1]]
@[go_sem] def l14_1 (_ : Unit) : KL := [kA 7 (.mv (.t 0)),
  kA 8 (.len (.t 7)),
  kB 9 (.mv (cI 0)) [1, 7, 8, 9]]
@[go_sem] def l14_2 (_ : Unit) : KL := [kB 10 (.bin .lss (.t 9) (.t 8)) [1, 7, 8, 9, 10]]
@[go_sem] def l14_3 (_ : Unit) : KL := [kA 11 (.iaddr (.t 7) (.t 9) 1),
  kA 12 (.load (.t 11) 1 false),
  kB 6 (.mv (.t 12)) [1, 6, 7, 8, 9]]
@[go_sem] def l14_4 (_ : Unit) : KL := [kA 13 (.mv (.t 6)),
  kA 14 (.mv (.t 1)),
  kB 15 (.bin .eql (.t 13) (.t 14)) [1, 7, 8, 9, 15]]
@[go_sem] def l14_5 (_ : Unit) : KL := [kB 4 (.mv (.c (.bool true))) [4]]
@[go_sem] def s14_6 (_ : Unit) : IR := (sQ [(kT l14_5), .ret])
@[go_sem] def s14_7 (_ : Unit) : IR := (sQ [(kT l14_3), (kT l14_4), (.cond (.t 15) (tH s14_6) .skip)])
@[go_sem] def s14_8 (_ : Unit) : IR := (.block 1 (tH s14_7))
@[go_sem] def l14_9 (_ : Unit) : KL := [kA 16 (.bin .add (.t 9) (cI 1)),
  kB 9 (.mv (.t 16)) [1, 7, 8, 9]]
@[go_sem] def s14_10 (_ : Unit) : IR := (sQ [(kT l14_2), (.cond (.t 10) .skip (.exit 0)), (tH s14_8), (kT l14_9)])
@[go_sem] def s14_11 (_ : Unit) : IR := (.loop (tH s14_10))
@[go_sem] def s14_12 (_ : Unit) : IR := (.block 0 (tH s14_11))
@[go_sem] def s14_13 (_ : Unit) : IR := (sQ [(kT l14_1), (tH s14_12)])
@[go_sem] def l14_14 (_ : Unit) : KL := [kB 4 (.mv (.c (.bool false))) [4]]
@[go_sem] def s14_15 (_ : Unit) : IR := (sQ [(kT l14_0), (tH s14_13), (kT l14_14), .ret])
theorem c14 : compFn Try.prog [(0, [], [oS [0, 1]]), (1, [], [oN, oN, oS [1, 7, 8, 9]]), (2, [], [oS [1, 7, 8, 9, 10]]), (3, [], [oN, oN, oS [1, 6, 7, 8, 9]]), (4, [], [oN, oN, oS [1, 7, 8, 9, 15]]), (5, [], [oS [4]]), (6, [], [oN, oS [1, 7, 8, 9]]), (7, [], [oS [4]])] Try.f14 = some ⟨2, 17, [.t 4], (tH s14_15)⟩ := by kernel_rfl
theorem v_laws_wcHas (hl : vs.length = 2) (h : wpV Try.prog (tH s14_15) (postV [.t 4] RV) (envV vs) M) : VCall Try.prog n_laws_wcHas vs M RV :=
  vcall_of_wp (fun _ _ _ hl h => acall_of_wp mixed Try.func14 c14 (by kernel_rfl) hl h) hl h
@[go_sem] def l46_0 (_ : Unit) : KL := [kA 2 (.box (.t 0)),
  kB 4 (.mv (.c (.sl none 0 0 true 0))) [1, 2]]
@[go_sem] def l46_1 (_ : Unit) : KL := [kB 5 (.mv (.c (.sl none 0 0 true 0))) [1, 2, 5]]
@[go_sem] def l46_2 (_ : Unit) : KL := [kA 9 (.faddr (.t 2) 1),
  kA 10 (.load (.t 9) 1 false),
  kA 11 (.len (.t 10)),
  kB 12 (.mv (cI 0)) [1, 2, 5, 11, 12]]
@[go_sem] def l46_3 (_ : Unit) : KL := [kB 13 (.bin .lss (.t 12) (.t 11)) [1, 2, 5, 11, 12, 13]]
@[go_sem] def l46_4 (_ : Unit) : KL := [kA 14 (.mv (.t 12)),
  kB 6 (.mv (.t 14)) [1, 2, 5, 6, 11, 12]]
@[go_sem] def l46_5 (_ : Unit) : KL := [kA 16 (.load (.t 2) 2 true),
  kA 17 (.mv (.t 1)),
  kA 18 (.mv (.t 6)),
  kA 19 (.call (n_impl_use) [(.t 16), (.t 17), (.t 18)]),
  kB 15 (.mv (.t 19)) [1, 2, 5, 6, 11, 12, 15],
  kA 20 (.ext (.t 15) 0),
  kA 21 (.ext (.t 15) 1),
  kA 7 (.mv (.t 20)),
  kB 8 (.mv (.t 21)) [1, 2, 5, 6, 8, 11, 12]]
@[go_sem] def l46_6 (_ : Unit) : KL := [kB 22 (.mv (.t 8)) [1, 2, 5, 6, 11, 12, 22]]
@[go_sem] def l46_7 (_ : Unit) : KL := [kA 23 (.mv (.t 5)),
  kA 24 (.mv (.t 6)),
  kA 25 (.bslc 1 1 [(.int .i64 0)] [(0, (.t 24))]),
  kA 26 (.app 1 8 (.t 23) (.t 25)),
  kB 5 (.mv (.t 26)) [1, 2, 5, 11, 12]]
@[go_sem] def s46_8 (_ : Unit) : IR := (sQ [(kT l46_4), (kT l46_5), (kT l46_6), (.cond (.t 22) (kT l46_7) .skip)])
@[go_sem] def s46_9 (_ : Unit) : IR := (.block 1 (tH s46_8))
@[go_sem] def l46_10 (_ : Unit) : KL := [kA 27 (.bin .add (.t 12) (cI 1)),
  kB 12 (.mv (.t 27)) [1, 2, 5, 11, 12]]
@[go_sem] def s46_11 (_ : Unit) : IR := (sQ [(kT l46_3), (.cond (.t 13) .skip (.exit 0)), (tH s46_9), (kT l46_10)])
@[go_sem] def s46_12 (_ : Unit) : IR := (.loop (tH s46_11))
@[go_sem] def s46_13 (_ : Unit) : IR := (.block 0 (tH s46_12))
@[go_sem] def s46_14 (_ : Unit) : IR := (sQ [(kT l46_2), (tH s46_13)])
@[go_sem] def l46_15 (_ : Unit) : KL := [kA 28 (.mv (.t 5)),
  kA 29 (.call (n_impl_clone_int) [(.t 28)]),
  kB 4 (.mv (.t 29)) [4]]
@[go_sem] def s46_16 (_ : Unit) : IR := (sQ [(kT l46_0), (kT l46_1), (tH s46_14), (kT l46_15), .ret])
theorem c46 : compFn Try.prog [(0, [], [oN, oS [1, 2]]), (1, [], [oS [1, 2, 5]]), (2, [], [oN, oN, oN, oS [1, 2, 5, 11, 12]]), (3, [], [oS [1, 2, 5, 11, 12, 13]]), (4, [], [oN, oS [1, 2, 5, 6, 11, 12]]), (5, [], [oN, oN, oN, oN, oS [1, 2, 5, 6, 11, 12, 15], oN, oN, oN, oS [1, 2, 5, 6, 8, 11, 12]]), (6, [], [oS [1, 2, 5, 6, 11, 12, 22]]), (7, [], [oN, oN, oN, oN, oS [1, 2, 5, 11, 12]]), (8, [], [oN, oS [1, 2, 5, 11, 12]]), (9, [], [oN, oN, oS [4]])] Try.f46 = some ⟨2, 30, [.t 4], (tH s46_16)⟩ := by kernel_rfl
theorem v_impl_usableIn (hl : vs.length = 2) (h : wpV Try.prog (tH s46_16) (postV [.t 4] RV) (envV vs) M) : VCall Try.prog n_impl_usableIn vs M RV :=
  vcall_of_wp (fun _ _ _ hl h => acall_of_wp mixed Try.func46 c46 (by kernel_rfl) hl h) hl h
@[go_sem] def l23_0 (_ : Unit) : KL := [kA 2 (.box (.t 0)),
  kB 4 (.mv (.c (.sl none 0 0 true 0))) [1, 2]]
@[go_sem] def l23_1 (_ : Unit) : KL := [kA 5 (.load (.t 2) 2 true),
  kA 6 (.mv (.t 1)),
  kA 7 (.call (n_impl_InRange) [(.t 5), (.t 6)]),
  kB 8 (.un .not (.t 7)) [1, 2, 8]]
@[go_sem] def l23_2 (_ : Unit) : KL := [kB 4 (.mv (.c (.sl none 0 0 true 0))) [4]]
@[go_sem] def s23_3 (_ : Unit) : IR := (sQ [(kT l23_2), .ret])
@[go_sem] def s23_4 (_ : Unit) : IR := (sQ [(kT l23_1), (.cond (.t 8) (tH s23_3) .skip)])
@[go_sem] def l23_5 (_ : Unit) : KL := [kA 9 (.load (.t 2) 2 true),
  kA 10 (.mv (.t 1)),
  kA 11 (.call (n_impl_usableIn) [(.t 9), (.t 10)]),
  kB 4 (.mv (.t 11)) [4]]
@[go_sem] def s23_6 (_ : Unit) : IR := (sQ [(kT l23_0), (tH s23_4), (kT l23_5), .ret])
theorem c23 : compFn Try.prog [(0, [], [oN, oS [1, 2]]), (1, [], [oN, oN, oN, oS [1, 2, 8]]), (2, [], [oS [4]]), (3, [], [oN, oN, oN, oS [4]])] Try.f23 = some ⟨2, 12, [.t 4], (tH s23_6)⟩ := by kernel_rfl
theorem v_impl_UsableIn (hl : vs.length = 2) (h : wpV Try.prog (tH s23_6) (postV [.t 4] RV) (envV vs) M) : VCall Try.prog n_impl_UsableIn vs M RV :=
  vcall_of_wp (fun _ _ _ hl h => acall_of_wp mixed Try.func23 c23 (by kernel_rfl) hl h) hl h
@[go_sem] def l4_0 (_ : Unit) : KL := [kB 2 (.mv (.c (.bool false))) [0]]
@[go_sem] def l4_1 (_ : Unit) : KL := [kA 13 (.mv (.t 0)),
  kA 14 (.len (.t 13)),
  kB 15 (.bin .gtr (.t 14) (cI 1048576)) [0, 15]]
@[go_sem] def l4_2 (_ : Unit) : KL := [kB 2 (.mv (.c (.bool true))) [2]]
@[go_sem] def s4_3 (_ : Unit) : IR := (sQ [(kT l4_2), .ret])
@[go_sem] def s4_4 (_ : Unit) : IR := (sQ [(kT l4_1), (.cond (.t 15) (tH s4_3) .skip)])
@[go_sem] def l4_5 (_ : Unit) : KL := [kA 17 (.mv (.t 0)),
  kA 18 (.call (n_spec_DrawUse) [(.t 17)]),
  kA 16 (.mv (.t 18)),
  kA 19 (.ext (.t 16) 0),
  kB 20 (.ext (.t 16) 1) [16, 19, 20],
  kA 21 (.ext (.t 16) 2),
  kA 3 (.alloc [(.sl none 0 0 true 0), (.sl none 0 0 true 0)]),
  (⟨none, .store (.t 3) 2 (.t 19), none⟩, none),
  kA 4 (.mv (.t 20)),
  kB 5 (.mv (.t 21)) [3, 4, 5]]
@[go_sem] def l4_6 (_ : Unit) : KL := [kA 23 (.load (.t 3) 2 true),
  kA 24 (.mv (.t 4)),
  kA 25 (.mv (.t 5)),
  kA 26 (.call (n_impl_Use) [(.t 23), (.t 24), (.t 25)]),
  kB 22 (.mv (.t 26)) [3, 4, 5, 22],
  kA 27 (.ext (.t 22) 0),
  kA 28 (.ext (.t 22) 1),
  kA 6 (.mv (.t 27)),
  kB 7 (.mv (.t 28)) [3, 4, 5, 6, 7]]
@[go_sem] def l4_7 (_ : Unit) : KL := [kA 30 (.load (.t 3) 2 true),
  kA 31 (.mv (.t 4)),
  kA 32 (.mv (.t 5)),
  kA 33 (.call (n_spec_Use) [(.t 30), (.t 31), (.t 32)]),
  kB 29 (.mv (.t 33)) [3, 4, 5, 6, 7, 29],
  kA 34 (.ext (.t 29) 0),
  kA 35 (.ext (.t 29) 1),
  kA 8 (.mv (.t 34)),
  kB 9 (.mv (.t 35)) [3, 4, 5, 6, 7, 8, 9]]
@[go_sem] def l4_8 (_ : Unit) : KL := [kA 36 (.mv (.t 7)),
  kA 37 (.mv (.t 9)),
  kA 38 (.beq true (.t 36) (.t 37)),
  kA 39 (.mv (.t 38)),
  (⟨(some 40), .mv (.t 6), (some (39, false))⟩, (some [3, 4, 5, 6, 7, 8, 9, 39, 40])),
  (⟨(some 41), .mv (.t 8), (some (39, false))⟩, none),
  (⟨(some 42), .call (n_laws_wcInts) [(.t 40), (.t 41)], (some (39, false))⟩, none),
  (⟨(some 43), .un .not (.t 42), (some (39, false))⟩, none),
  kA 44 (.pick (.t 39) (.c (.bool true)) (.t 43)),
  kB 45 (.mv (.t 44)) [3, 4, 5, 6, 7, 8, 9, 45],
  (⟨(some 46), .mv (.t 7), (some (45, false))⟩, none),
  (⟨(some 47), .un .not (.t 46), (some (45, false))⟩, none),
  kB 48 (.pick (.t 45) (.c (.bool true)) (.t 47)) [3, 4, 5, 6, 7, 8, 9, 48]]
@[go_sem] def l4_9 (_ : Unit) : KL := [kA 49 (.mv (.t 7)),
  kA 50 (.mv (.t 9)),
  kA 51 (.beq false (.t 49) (.t 50)),
  kA 52 (.mv (.t 51)),
  (⟨(some 53), .mv (.t 6), (some (52, true))⟩, (some [8, 52, 53])),
  (⟨(some 54), .len (.t 53), (some (52, true))⟩, none),
  (⟨(some 55), .bin .eql (.t 54) (cI 0), (some (52, true))⟩, none),
  kA 56 (.pick (.t 52) (.t 55) (.c (.bool false))),
  kA 57 (.mv (.t 56)),
  (⟨(some 58), .mv (.t 8), (some (57, true))⟩, (some [57, 58])),
  (⟨(some 59), .len (.t 58), (some (57, true))⟩, none),
  (⟨(some 60), .bin .eql (.t 59) (cI 0), (some (57, true))⟩, none),
  kA 61 (.pick (.t 57) (.t 60) (.c (.bool false))),
  kB 2 (.mv (.t 61)) [2]]
@[go_sem] def s4_10 (_ : Unit) : IR := (sQ [(kT l4_9), .ret])
@[go_sem] def s4_11 (_ : Unit) : IR := (sQ [(kT l4_8), (.cond (.t 48) (tH s4_10) .skip)])
@[go_sem] def l4_12 (_ : Unit) : KL := [kA 63 (.load (.t 3) 2 true),
  kA 64 (.mv (.t 5)),
  kA 65 (.call (n_impl_TouchedBy) [(.t 63), (.t 64)]),
  kA 62 (.mv (.t 65)),
  kB 66 (.ext (.t 62) 0) [3, 4, 5, 6, 62, 66],
  kA 67 (.ext (.t 62) 1),
  kA 10 (.mv (.t 66)),
  kB 11 (.mv (.t 67)) [3, 4, 5, 6, 10]]
@[go_sem] def l4_13 (_ : Unit) : KL := [kA 68 (.mv (.t 4)),
  kA 69 (.len (.t 68)),
  kB 70 (.mv (cI 0)) [3, 4, 5, 6, 10, 69, 70]]
@[go_sem] def l4_14 (_ : Unit) : KL := [kB 71 (.bin .lss (.t 70) (.t 69)) [3, 4, 5, 6, 10, 69, 70, 71]]
@[go_sem] def l4_15 (_ : Unit) : KL := [kA 72 (.mv (.t 70)),
  kB 12 (.mv (.t 72)) [3, 4, 5, 6, 10, 12, 69, 70]]
@[go_sem] def l4_16 : Nat → GOp
  | 0 => ⟨(some 73), .mv (.t 6), none⟩
  | 1 => ⟨(some 74), .mv (.t 12), none⟩
  | 2 => ⟨(some 75), .iaddr (.t 73) (.t 74) 1, none⟩
  | 3 => ⟨(some 76), .load (.t 75) 1 false, none⟩
  | 4 => ⟨(some 77), .mv (.t 4), none⟩
  | 5 => ⟨(some 78), .mv (.t 12), none⟩
  | 6 => ⟨(some 79), .iaddr (.t 77) (.t 78) 1, none⟩
  | 7 => ⟨(some 80), .load (.t 79) 1 false, none⟩
  | 8 => ⟨(some 81), .bin .neq (.t 76) (.t 80), none⟩
  | 9 => ⟨(some 82), .mv (.t 81), none⟩
  | 10 => ⟨(some 83), .mv (.t 10), (some (82, true))⟩
  | 11 => ⟨(some 84), .mv (.t 12), (some (82, true))⟩
  | 12 => ⟨(some 85), .call (n_laws_wcHas) [(.t 83), (.t 84)], (some (82, true))⟩
  | 13 => ⟨(some 86), .un .not (.t 85), (some (82, true))⟩
  | 14 => ⟨(some 87), .pick (.t 82) (.t 86) (.c (.bool false)), none⟩
  | _ => ⟨none, .mkmap, none⟩
@[go_sem] def l4_17 (_ : Unit) : KL := [kB 2 (.mv (.c (.bool false))) [2]]
@[go_sem] def s4_18 (_ : Unit) : IR := (sQ [(kT l4_17), .ret])
@[go_sem] def s4_19 (_ : Unit) : IR := (sQ [(kT l4_15), (.kd (oF l4_16 15) [(0, []), (1, []), (2, []), (3, []), (4, []), (5, []), (6, []), (7, []), (8, []), (9, []), (10, []), (11, []), (12, []), (13, []), (14, [])] [3, 4, 5, 6, 10, 69, 70, 87]), (.cond (.t 87) (tH s4_18) .skip)])
@[go_sem] def s4_20 (_ : Unit) : IR := (.block 1 (tH s4_19))
@[go_sem] def l4_21 (_ : Unit) : KL := [kA 88 (.bin .add (.t 70) (cI 1)),
  kB 70 (.mv (.t 88)) [3, 4, 5, 6, 10, 69, 70]]
@[go_sem] def s4_22 (_ : Unit) : IR := (sQ [(kT l4_14), (.cond (.t 71) .skip (.exit 0)), (tH s4_20), (kT l4_21)])
@[go_sem] def s4_23 (_ : Unit) : IR := (.loop (tH s4_22))
@[go_sem] def s4_24 (_ : Unit) : IR := (.block 0 (tH s4_23))
@[go_sem] def s4_25 (_ : Unit) : IR := (sQ [(kT l4_13), (tH s4_24)])
@[go_sem] def l4_26 (_ : Unit) : KL := [kA 89 (.load (.t 3) 2 true),
  kA 90 (.mv (.t 6)),
  kA 91 (.call (n_impl_InRange) [(.t 89), (.t 90)]),
  kA 92 (.mv (.t 91)),
  (⟨(some 93), .load (.t 3) 2 true, (some (92, true))⟩, (some [4, 5, 92, 93])),
  (⟨(some 94), .mv (.t 4), (some (92, true))⟩, none),
  (⟨(some 95), .call (n_impl_UsableIn) [(.t 93), (.t 94)], (some (92, true))⟩, none),
  (⟨(some 96), .mv (.t 5), (some (92, true))⟩, none),
  (⟨(some 97), .call (n_laws_wcHas) [(.t 95), (.t 96)], (some (92, true))⟩, none),
  kB 98 (.pick (.t 92) (.t 97) (.c (.bool false))) [98],
  kB 2 (.mv (.t 98)) [2]]
@[go_sem] def s4_27 (_ : Unit) : IR := (sQ [(kT l4_0), (tH s4_4), (kT l4_5), (kT l4_6), (kT l4_7), (tH s4_11), (kT l4_12), (tH s4_25), (kT l4_26), .ret])
theorem c4 : compFn Try.prog [(0, [], [oS [0]]), (1, [], [oN, oN, oS [0, 15]]), (2, [], [oS [2]]), (3, [], [oN, oN, oN, oN, oS [16, 19, 20], oN, oN, oN, oN, oS [3, 4, 5]]), (4, [], [oN, oN, oN, oN, oS [3, 4, 5, 22], oN, oN, oN, oS [3, 4, 5, 6, 7]]), (5, [], [oN, oN, oN, oN, oS [3, 4, 5, 6, 7, 29], oN, oN, oN, oS [3, 4, 5, 6, 7, 8, 9]]), (6, [], [oN, oN, oN, oN, oS [3, 4, 5, 6, 7, 8, 9, 39, 40], oN, oN, oN, oN, oS [3, 4, 5, 6, 7, 8, 9, 45], oN, oN, oS [3, 4, 5, 6, 7, 8, 9, 48]]), (7, [], [oN, oN, oN, oN, oS [8, 52, 53], oN, oN, oN, oN, oS [57, 58], oN, oN, oN, oS [2]]), (8, [], [oN, oN, oN, oN, oS [3, 4, 5, 6, 62, 66], oN, oN, oS [3, 4, 5, 6, 10]]), (9, [], [oN, oN, oS [3, 4, 5, 6, 10, 69, 70]]), (10, [], [oS [3, 4, 5, 6, 10, 69, 70, 71]]), (11, [], [oN, oS [3, 4, 5, 6, 10, 12, 69, 70]]), (12, [(0, []), (1, []), (2, []), (3, []), (4, []), (5, []), (6, []), (7, []), (8, []), (9, []), (10, []), (11, []), (12, []), (13, []), (14, [])], [oS [3, 4, 5, 6, 10, 69, 70, 87]]), (13, [], [oS [2]]), (14, [], [oN, oS [3, 4, 5, 6, 10, 69, 70]]), (15, [], [oN, oN, oN, oN, oS [4, 5, 92, 93], oN, oN, oN, oN, oS [98], oS [2]])] Try.f4 = some ⟨1, 99, [.t 2], (tH s4_27)⟩ := by kernel_rfl
theorem v_laws_FnUseSets (hl : vs.length = 1) (h : wpV Try.prog (tH s4_27) (postV [.t 2] RV) (envV vs) M) : VCall Try.prog n_laws_FnUseSets vs M RV :=
  vcall_of_wp (fun _ _ _ hl h => acall_of_wp mixed Try.func4 c4 (by kernel_rfl) hl h) hl h
end Go.M2

namespace Go.M2
open Go.Proofs
variable {M : MH}
theorem eqB {a b : Bool} (h : a = true ↔ b = true) : V.sc (.bool a) = V.sc (.bool b) := by
  have : a = b := by cases a <;> cases b <;> simp_all
  rw [this]
theorem eqI {a b : Int} (h : a = b) : V.sc (.int .i64 a) = V.sc (.int .i64 b) := by rw [h]
theorem t_l1In {n lo hi : Int} : VCall Try.prog n_spec_l1In [.sc (.int .i64 n), .sc (.int .i64 lo), .sc (.int .i64 hi)] M (fun r M' => M = M' ∧ r = .sc (.bool (decide (lo ≤ n ∧ n ≤ hi)))) := by
  refine VCall.pure fun R hR => v_spec_l1In rfl ?_
  (repeat' (first | ((with_reducible first | refine cond_dec (fun h => ?_) (fun h => ?_) | refine guardK_dec (fun h => ?_) (fun h => ?_) | refine guardD3_dec (fun h => ?_) (fun h => ?_)) <;> first | (exfalso; omega) | (simp (maxSteps := 2000000) (disch := first | omega | assumption | exact idP rfl | exact idP (bL rfl)) only [go_sem, reduceIte, Nat.reduceEqDiff, wpV_kd, wpV_tH, h]) | skip) | ((with_reducible first | refine cond_split (fun h => ?_) (fun h => ?_) | refine guardK_split (fun h => ?_) (fun h => ?_) | refine guardD3_split (fun h => ?_) (fun h => ?_)) <;> ((try simp only [Bool.not_eq_true', Bool.not_eq_false'] at h); first | (simp (maxSteps := 2000000) (disch := first | omega | assumption | exact idP rfl | exact idP (bL rfl)) only [go_sem, reduceIte, Nat.reduceEqDiff, wpV_kd, wpV_tH, h]) | skip)) | (with_reducible intro bk hbk; try have hnk := (fresh_set hbk).1) | (simp (maxSteps := 2000000) (disch := first | omega | assumption | exact idP rfl | exact idP (bL rfl)) only [go_sem, reduceIte, Nat.reduceEqDiff, wpV_kd, wpV_tH])))
  all_goals exact hR _ _ (Sub.refl _) (by (refine eqB ?_; (try simp only [decide_eq_true_eq, Bool.false_eq_true, Bool.and_eq_true, Bool.or_eq_true, Bool.not_eq_true', decide_eq_false_iff_not, eq_self_iff_true, true_iff, false_iff, iff_true, iff_false, ne_eq]); (try omega)))
theorem t_in {n lo hi : Int} : VCall Try.prog n_impl_in [.sc (.int .i64 n), .sc (.int .i64 lo), .sc (.int .i64 hi)] M (fun r M' => M = M' ∧ r = .sc (.bool (decide (lo ≤ n ∧ n ≤ hi)))) := by
  refine VCall.pure fun R hR => v_impl_in rfl ?_
  (repeat' (first | ((with_reducible first | refine cond_dec (fun h => ?_) (fun h => ?_) | refine guardK_dec (fun h => ?_) (fun h => ?_) | refine guardD3_dec (fun h => ?_) (fun h => ?_)) <;> first | (exfalso; omega) | (simp (maxSteps := 2000000) (disch := first | omega | assumption | exact idP rfl | exact idP (bL rfl)) only [go_sem, reduceIte, Nat.reduceEqDiff, wpV_kd, wpV_tH, h]) | skip) | ((with_reducible first | refine cond_split (fun h => ?_) (fun h => ?_) | refine guardK_split (fun h => ?_) (fun h => ?_) | refine guardD3_split (fun h => ?_) (fun h => ?_)) <;> ((try simp only [Bool.not_eq_true', Bool.not_eq_false'] at h); first | (simp (maxSteps := 2000000) (disch := first | omega | assumption | exact idP rfl | exact idP (bL rfl)) only [go_sem, reduceIte, Nat.reduceEqDiff, wpV_kd, wpV_tH, h]) | skip)) | (with_reducible intro bk hbk; try have hnk := (fresh_set hbk).1) | (simp (maxSteps := 2000000) (disch := first | omega | assumption | exact idP rfl | exact idP (bL rfl)) only [go_sem, reduceIte, Nat.reduceEqDiff, wpV_kd, wpV_tH])))
  all_goals exact hR _ _ (Sub.refl _) (by (refine eqB ?_; (try simp only [decide_eq_true_eq, Bool.false_eq_true, Bool.and_eq_true, Bool.or_eq_true, Bool.not_eq_true', decide_eq_false_iff_not, eq_self_iff_true, true_iff, false_iff, iff_true, iff_false, ne_eq]); (try omega)))
theorem t_l1Held {n : Int} : VCall Try.prog n_spec_l1Held [.sc (.int .i64 n)] M (fun r M' => M = M' ∧ r = .sc (.int .i64 (heldF n))) := by
  refine VCall.pure fun R hR => v_spec_l1Held rfl ?_
  (repeat' (first | ((with_reducible first | refine cond_dec (fun h => ?_) (fun h => ?_) | refine guardK_dec (fun h => ?_) (fun h => ?_) | refine guardD3_dec (fun h => ?_) (fun h => ?_)) <;> first | (exfalso; omega) | (simp (maxSteps := 2000000) (disch := first | omega | assumption | exact idP rfl | exact idP (bL rfl)) only [go_sem, reduceIte, Nat.reduceEqDiff, wpV_kd, wpV_tH, h]) | skip) | ((with_reducible first | refine cond_split (fun h => ?_) (fun h => ?_) | refine guardK_split (fun h => ?_) (fun h => ?_) | refine guardD3_split (fun h => ?_) (fun h => ?_)) <;> ((try simp only [Bool.not_eq_true', Bool.not_eq_false'] at h); first | (simp (maxSteps := 2000000) (disch := first | omega | assumption | exact idP rfl | exact idP (bL rfl)) only [go_sem, reduceIte, Nat.reduceEqDiff, wpV_kd, wpV_tH, h]) | skip)) | (with_reducible intro bk hbk; try have hnk := (fresh_set hbk).1) | (simp (maxSteps := 2000000) (disch := first | omega | assumption | exact idP rfl | exact idP (bL rfl)) only [go_sem, reduceIte, Nat.reduceEqDiff, wpV_kd, wpV_tH])))
  all_goals exact hR _ _ (Sub.refl _) (eqI (by unfold heldF; split <;> (try split) <;> omega))
theorem t_held {n : Int} : VCall Try.prog n_impl_held [.sc (.int .i64 n)] M (fun r M' => M = M' ∧ r = .sc (.int .i64 (heldF n))) := by
  refine VCall.pure fun R hR => v_impl_held rfl ?_
  (repeat' (first | ((with_reducible first | refine cond_dec (fun h => ?_) (fun h => ?_) | refine guardK_dec (fun h => ?_) (fun h => ?_) | refine guardD3_dec (fun h => ?_) (fun h => ?_)) <;> first | (exfalso; omega) | (simp (maxSteps := 2000000) (disch := first | omega | assumption | exact idP rfl | exact idP (bL rfl)) only [go_sem, reduceIte, Nat.reduceEqDiff, wpV_kd, wpV_tH, h]) | skip) | ((with_reducible first | refine cond_split (fun h => ?_) (fun h => ?_) | refine guardK_split (fun h => ?_) (fun h => ?_) | refine guardD3_split (fun h => ?_) (fun h => ?_)) <;> ((try simp only [Bool.not_eq_true', Bool.not_eq_false'] at h); first | (simp (maxSteps := 2000000) (disch := first | omega | assumption | exact idP rfl | exact idP (bL rfl)) only [go_sem, reduceIte, Nat.reduceEqDiff, wpV_kd, wpV_tH, h]) | skip)) | (with_reducible intro bk hbk; try have hnk := (fresh_set hbk).1) | (simp (maxSteps := 2000000) (disch := first | omega | assumption | exact idP rfl | exact idP (bL rfl)) only [go_sem, reduceIte, Nat.reduceEqDiff, wpV_kd, wpV_tH])))
  all_goals exact hR _ _ (Sub.refl _) (eqI (by unfold heldF; split <;> (try split) <;> omega))
theorem t_l1One {n : Int} : VCall Try.prog n_spec_l1One [.sc (.int .i64 n)] M (fun r M' => M = M' ∧ r = .sc (.bool (decide (n = 7)))) := by
  refine VCall.pure fun R hR => v_spec_l1One rfl ?_
  (repeat' (first | ((with_reducible first | refine cond_dec (fun h => ?_) (fun h => ?_) | refine guardK_dec (fun h => ?_) (fun h => ?_) | refine guardD3_dec (fun h => ?_) (fun h => ?_)) <;> first | (exfalso; omega) | (simp (maxSteps := 2000000) (disch := first | omega | assumption | exact idP rfl | exact idP (bL rfl)) only [go_sem, reduceIte, Nat.reduceEqDiff, wpV_kd, wpV_tH, h]) | skip) | ((with_reducible first | refine cond_split (fun h => ?_) (fun h => ?_) | refine guardK_split (fun h => ?_) (fun h => ?_) | refine guardD3_split (fun h => ?_) (fun h => ?_)) <;> ((try simp only [Bool.not_eq_true', Bool.not_eq_false'] at h); first | (simp (maxSteps := 2000000) (disch := first | omega | assumption | exact idP rfl | exact idP (bL rfl)) only [go_sem, reduceIte, Nat.reduceEqDiff, wpV_kd, wpV_tH, h]) | skip)) | (with_reducible intro bk hbk; try have hnk := (fresh_set hbk).1) | (simp (maxSteps := 2000000) (disch := first | omega | assumption | exact idP rfl | exact idP (bL rfl)) only [go_sem, reduceIte, Nat.reduceEqDiff, wpV_kd, wpV_tH])))
  all_goals exact hR _ _ (Sub.refl _) rfl
theorem t_l1Truth {b : Bool} : VCall Try.prog n_spec_l1Truth [.sc (.bool b)] M (fun r M' => M = M' ∧ r = .sc (.int .i64 (if b = true then 1 else 0))) := by
  refine VCall.pure fun R hR => v_spec_l1Truth rfl ?_
  cases b <;> (repeat' (first | ((with_reducible first | refine cond_dec (fun h => ?_) (fun h => ?_) | refine guardK_dec (fun h => ?_) (fun h => ?_) | refine guardD3_dec (fun h => ?_) (fun h => ?_)) <;> first | (exfalso; omega) | (simp (maxSteps := 2000000) (disch := first | omega | assumption | exact idP rfl | exact idP (bL rfl)) only [go_sem, reduceIte, Nat.reduceEqDiff, wpV_kd, wpV_tH, h]) | skip) | ((with_reducible first | refine cond_split (fun h => ?_) (fun h => ?_) | refine guardK_split (fun h => ?_) (fun h => ?_) | refine guardD3_split (fun h => ?_) (fun h => ?_)) <;> ((try simp only [Bool.not_eq_true', Bool.not_eq_false'] at h); first | (simp (maxSteps := 2000000) (disch := first | omega | assumption | exact idP rfl | exact idP (bL rfl)) only [go_sem, reduceIte, Nat.reduceEqDiff, wpV_kd, wpV_tH, h]) | skip)) | (with_reducible intro bk hbk; try have hnk := (fresh_set hbk).1) | (simp (maxSteps := 2000000) (disch := first | omega | assumption | exact idP rfl | exact idP (bL rfl)) only [go_sem, reduceIte, Nat.reduceEqDiff, wpV_kd, wpV_tH])))
  all_goals exact hR _ _ (Sub.refl _) rfl
theorem t_bit {b : Bool} : VCall Try.prog n_impl_bit [.sc (.bool b)] M (fun r M' => M = M' ∧ r = .sc (.int .i64 (if b = true then 1 else 0))) := by
  refine VCall.pure fun R hR => v_impl_bit rfl ?_
  cases b <;> (repeat' (first | ((with_reducible first | refine cond_dec (fun h => ?_) (fun h => ?_) | refine guardK_dec (fun h => ?_) (fun h => ?_) | refine guardD3_dec (fun h => ?_) (fun h => ?_)) <;> first | (exfalso; omega) | (simp (maxSteps := 2000000) (disch := first | omega | assumption | exact idP rfl | exact idP (bL rfl)) only [go_sem, reduceIte, Nat.reduceEqDiff, wpV_kd, wpV_tH, h]) | skip) | ((with_reducible first | refine cond_split (fun h => ?_) (fun h => ?_) | refine guardK_split (fun h => ?_) (fun h => ?_) | refine guardD3_split (fun h => ?_) (fun h => ?_)) <;> ((try simp only [Bool.not_eq_true', Bool.not_eq_false'] at h); first | (simp (maxSteps := 2000000) (disch := first | omega | assumption | exact idP rfl | exact idP (bL rfl)) only [go_sem, reduceIte, Nat.reduceEqDiff, wpV_kd, wpV_tH, h]) | skip)) | (with_reducible intro bk hbk; try have hnk := (fresh_set hbk).1) | (simp (maxSteps := 2000000) (disch := first | omega | assumption | exact idP rfl | exact idP (bL rfl)) only [go_sem, reduceIte, Nat.reduceEqDiff, wpV_kd, wpV_tH])))
  all_goals exact hR _ _ (Sub.refl _) rfl
def encT (t : TermS) : List V := [.sc (.int .i64 t.op), .sc (.int .i64 t.n), .sc (.int .i64 t.a), .sc (.int .i64 t.b)]
def isT (t : TermS) (cs : List V) : Prop := cs = encT t
abbrev LT : V → List TermS → Prop := Lc 4 isT
theorem LI.ix {v : V} {ys : List Int} (h : LI v ys) {i : Int} (h0 : 0 ≤ i) (h1 : i < (ys.length : Int)) : at1 v i.toNat = .sc (.int .i64 (ix ys i)) := by
  obtain ⟨h2, e⟩ := ix_eq h0 h1
  rw [LI.at h h2, e]
theorem t_l1Kind {t : TermS} {v : V} {ks : List Int} {vars : Int} (hv : LI v ks) (hl : ks.length ≤ 40) (h0 : 0 ≤ vars) (h1 : vars ≤ 5) :
    VCall Try.prog n_spec_l1Kind [.agg (encT t), v, .sc (.int .i64 vars)] M (fun r M' => M = M' ∧ r = .sc (.int .i64 (kind1 vars t ks))) := by
  refine VCall.pure fun R hR => v_spec_l1Kind rfl ?_
  obtain ⟨op, n, a, b⟩ := t
  simp only [encT]
  (repeat' (first | ((with_reducible first | refine cond_dec (fun h => ?_) (fun h => ?_) | refine guardK_dec (fun h => ?_) (fun h => ?_) | refine guardD3_dec (fun h => ?_) (fun h => ?_)) <;> first | (exfalso; omega) | (simp (maxSteps := 2000000) (disch := first | omega | assumption | exact idP rfl | exact idP (bL rfl)) only [go_sem, reduceIte, Nat.reduceEqDiff, wpV_kd, wpV_tH, h, hv.len, hv.iaddr, hv.ix]) | skip) | ((with_reducible first | refine cond_split (fun h => ?_) (fun h => ?_) | refine guardK_split (fun h => ?_) (fun h => ?_) | refine guardD3_split (fun h => ?_) (fun h => ?_)) <;> ((try simp only [Bool.not_eq_true', Bool.not_eq_false'] at h); first | (simp (maxSteps := 2000000) (disch := first | omega | assumption | exact idP rfl | exact idP (bL rfl)) only [go_sem, reduceIte, Nat.reduceEqDiff, wpV_kd, wpV_tH, h, hv.len, hv.iaddr, hv.ix]) | skip)) | ((with_reducible refine (t_l1In).mono ?_); rintro _ _ ⟨rfl, rfl⟩) | ((with_reducible refine (t_l1One).mono ?_); rintro _ _ ⟨rfl, rfl⟩) | (with_reducible intro bk hbk; try have hnk := (fresh_set hbk).1) | (simp (maxSteps := 2000000) (disch := first | omega | assumption | exact idP rfl | exact idP (bL rfl)) only [go_sem, reduceIte, Nat.reduceEqDiff, wpV_kd, wpV_tH, hv.len, hv.iaddr, hv.ix])))
  all_goals refine hR _ _ (sB) (eqI ?_)
  all_goals simp only [kind1, wantK]
  all_goals repeat' split
  all_goals first | omega | trace_state
theorem nth_ix {ks : List Int} {a : Int} (h0 : 0 ≤ a) (h1 : a < (ks.length : Int)) : (ks.map vi)[a.toNat]? = some (.sc (.int .i64 (ix ks a))) := by
  obtain ⟨h, e⟩ := ix_eq h0 h1
  rw [nth_vi h, e]
end Go.M2

namespace Go.M2
open Go.Proofs
variable {M : MH}
theorem encT_eq (t : TermS) : encT t = [.sc (.int .i64 t.op), .sc (.int .i64 t.n), .sc (.int .i64 t.a), .sc (.int .i64 t.b)] := rfl
theorem encT_take (t : TermS) : (encT t).take 4 = encT t := rfl
theorem LT.at {v : V} {ts : List TermS} (h : LT v ts) {i : Nat} (hi : i < ts.length) : atN 4 v i = encT ts[i] := h.elt hi
def kRes (r : V) : Option (List Int) → Prop
  | none => r = .sc (.sl none 0 0 true 0)
  | some ks => LI r ks
theorem t_KindsOf {v : V} {ts : List TermS} {vars : Int} (hv : LT v ts) : VCall Try.prog n_spec_KindsOf [v, .sc (.int .i64 vars)] M (fun r M' => M = M' ∧ kRes r (kindsF vars ts)) := by
  refine VCall.froz fun R hP hG => v_spec_KindsOf rfl ?_
  (repeat' (first | ((with_reducible first | refine cond_dec (fun h => ?_) (fun h => ?_) | refine guardK_dec (fun h => ?_) (fun h => ?_) | refine guardD3_dec (fun h => ?_) (fun h => ?_)) <;> first | (exfalso; omega) | (simp (maxSteps := 2000000) (disch := first | omega | assumption | exact idP rfl | exact idP (bL rfl)) only [go_sem, reduceIte, Nat.reduceEqDiff, wpV_kd, wpV_tH, h, hv.len]) | skip) | ((with_reducible first | refine cond_split (fun h => ?_) (fun h => ?_) | refine guardK_split (fun h => ?_) (fun h => ?_) | refine guardD3_split (fun h => ?_) (fun h => ?_)) <;> ((try simp only [Bool.not_eq_true', Bool.not_eq_false'] at h); first | (simp (maxSteps := 2000000) (disch := first | omega | assumption | exact idP rfl | exact idP (bL rfl)) only [go_sem, reduceIte, Nat.reduceEqDiff, wpV_kd, wpV_tH, h, hv.len]) | skip)) | ((with_reducible refine (t_l1In).mono ?_); rintro _ _ ⟨rfl, rfl⟩) | (with_reducible intro bk hbk; try have hnk := (fresh_set hbk).1) | (simp (maxSteps := 2000000) (disch := first | omega | assumption | exact idP rfl | exact idP (bL rfl)) only [go_sem, reduceIte, Nat.reduceEqDiff, wpV_kd, wpV_tH, hv.len])))
  all_goals try (refine hP _ _ (sB) ?_; unfold kindsF; rw [if_neg (by omega)]; rfl)
  have hkf : kindsF vars ts = kindsGo vars ts [] := by unfold kindsF; rw [if_pos (by omega)]
  refine loop_k (fun e M' => ∃ (i : Nat) (ks : List Int), i ≤ ts.length ∧ e 0 = v ∧ e 1 = .sc (.int .i64 vars) ∧ e 6 = .sc (.int .i64 i) ∧ kindsGo vars (ts.take i) [] = some ks ∧ Gr 1 M M' (e 5) (ks.map vi)) (fun e _ => ctrV ts.length (e 6)) ?_ ?_
  · exact ⟨0, [], by omega, sT0, sT0, by refine sS0 ?_; rfl, rfl, by refine sS0 ?_; exact Gr.new' (Sub.refl _) (by assumption) rfl⟩
  · rintro e M1 ⟨i, ks, hi, e0, e1, e6, hk, hg⟩ K hK
    have hkl := (kindsGo_len hk).1
    simp at hkl
    refine sS4 @e0 @e1 @e6 @hv.len ?_
    refine cond_dec (fun h => ?_) (fun h => ?_)
    · have hi' : i < ts.length := by omega
      simp (maxSteps := 2000000) (disch := first | omega | assumption | exact idP rfl | exact idP (bL rfl)) only [go_sem, reduceIte, Nat.reduceEqDiff, wpV_kd, wpV_tH, e0, e1, e6, hv.iaddr, LT.at hv hi', encT_take]
      refine (VCall.lend1 hg.own flat_eq fun u M' hu => t_l1Kind hu.li (by omega) (by omega) (by omega)).mono ?_
      rintro _ _ ⟨rfl, rfl⟩
      have hs := kindsGo_take hi' hk
      refine sS0 ?_
      refine cond_dec (fun h0 => ?_) (fun h0 => ?_)
      · refine sS0 ?_
        refine hP _ _ hg.sub ?_
        rw [hkf, kindsGo_none (i := i + 1) (by rw [hs, if_pos h0])]; rfl
      · refine sS0 ?_
        intro bt hbt
        refine app_int hg hbt (by omega) (by omega) ?_
        intro s' M' hg' _
        refine sS0 ?_
        exact hK _ _ ⟨i + 1, _, by omega, sT0, sT0, by refine sS0 ?_; rfl, by rw [hs, if_neg h0], by refine sS0 ?_; exact hg'⟩ (by refine sS2 @ctrV_int @e6 ?_; omega)
    · obtain rfl : i = ts.length := by omega
      rw [List.take_length] at hk
      refine sS0 ?_
      exact hG _ _ _ _ hg fun u hu => by rw [hkf, hk]; exact hu.li
end Go.M2

namespace Go.M2
open Go.Proofs
variable {M : MH}
def encVar (v : VarS) : List V := [.sc (.int .i64 v.low), .sc (.int .i64 v.high), .sc (.int .i64 v.first)]
def isVar (v : VarS) (cs : List V) : Prop := cs = encVar v
abbrev LVar : V → List VarS → Prop := Lc 3 isVar
abbrev LTT : V → List (List TermS) → Prop := Ls (fun ts u => LT u ts)
def isRule (r : RuleS) (cs : List V) : Prop := ∃ a b c, cs = [a, b, c] ∧ LT a r.when_ ∧ LI b r.sets ∧ LTT c r.terms
abbrev LR : V → List RuleS → Prop := Lc 3 isRule
theorem LVar.at {v : V} {vs : List VarS} (h : LVar v vs) {i : Nat} (hi : i < vs.length) : atN 3 v i = [.sc (.int .i64 vs[i].low), .sc (.int .i64 vs[i].high), .sc (.int .i64 vs[i].first)] := h.elt hi
def isSys (s : SysS) (v : V) : Prop := ∃ a b, v = .agg [a, b] ∧ LVar a s.vars ∧ LR b s.rules
theorem t_l2Var {v : VarS} : VCall Try.prog n_spec_l2Var [.agg (encVar v)] M (fun r M' => M = M' ∧ r = .sc (.bool (decide (VarOk v)))) := by
  refine VCall.pure fun R hR => v_spec_l2Var rfl ?_
  obtain ⟨lo, hi, f⟩ := v
  simp only [encVar]
  (repeat' (first | ((with_reducible first | refine cond_dec (fun h => ?_) (fun h => ?_) | refine guardK_dec (fun h => ?_) (fun h => ?_) | refine guardD3_dec (fun h => ?_) (fun h => ?_)) <;> first | (exfalso; omega) | (simp (maxSteps := 2000000) (disch := first | omega | assumption | exact idP rfl | exact idP (bL rfl)) only [go_sem, reduceIte, Nat.reduceEqDiff, wpV_kd, wpV_tH, h]) | skip) | ((with_reducible first | refine cond_split (fun h => ?_) (fun h => ?_) | refine guardK_split (fun h => ?_) (fun h => ?_) | refine guardD3_split (fun h => ?_) (fun h => ?_)) <;> ((try simp only [Bool.not_eq_true', Bool.not_eq_false'] at h); first | (simp (maxSteps := 2000000) (disch := first | omega | assumption | exact idP rfl | exact idP (bL rfl)) only [go_sem, reduceIte, Nat.reduceEqDiff, wpV_kd, wpV_tH, h]) | skip)) | ((with_reducible refine (t_l1In).mono ?_); rintro _ _ ⟨rfl, rfl⟩) | (with_reducible intro bk hbk; try have hnk := (fresh_set hbk).1) | (simp (maxSteps := 2000000) (disch := first | omega | assumption | exact idP rfl | exact idP (bL rfl)) only [go_sem, reduceIte, Nat.reduceEqDiff, wpV_kd, wpV_tH])))
  all_goals exact hR _ _ (sB) (by (refine eqB ?_; (try simp only [decide_eq_true_eq, Bool.false_eq_true, Bool.and_eq_true, Bool.or_eq_true, Bool.not_eq_true', decide_eq_false_iff_not, eq_self_iff_true, true_iff, false_iff, iff_true, iff_false, ne_eq]); (try simp only [VarOk]); (try omega)))
theorem t_l2Is {v : V} {ts : List TermS} {vars kind : Int} (hv : LT v ts) : VCall Try.prog n_spec_l2Is [v, .sc (.int .i64 vars), .sc (.int .i64 kind)] M (fun r M' => M = M' ∧ r = .sc (.bool (kindIs vars kind ts))) := by
  refine VCall.pure fun R hR => v_spec_l2Is rfl ?_
  refine sS0 ?_
  refine (t_KindsOf hv).mono ?_
  rintro r _ ⟨rfl, hr⟩
  cases hk : kindsF vars ts with
  | none =>
    rw [hk] at hr
    simp only [kRes] at hr
    subst hr
    (repeat' (first | ((with_reducible first | refine cond_dec (fun h => ?_) (fun h => ?_) | refine guardK_dec (fun h => ?_) (fun h => ?_) | refine guardD3_dec (fun h => ?_) (fun h => ?_)) <;> first | (exfalso; omega) | (simp (maxSteps := 2000000) (disch := first | omega | assumption | exact idP rfl | exact idP (bL rfl)) only [go_sem, reduceIte, Nat.reduceEqDiff, wpV_kd, wpV_tH, h]) | skip) | ((with_reducible first | refine cond_split (fun h => ?_) (fun h => ?_) | refine guardK_split (fun h => ?_) (fun h => ?_) | refine guardD3_split (fun h => ?_) (fun h => ?_)) <;> ((try simp only [Bool.not_eq_true', Bool.not_eq_false'] at h); first | (simp (maxSteps := 2000000) (disch := first | omega | assumption | exact idP rfl | exact idP (bL rfl)) only [go_sem, reduceIte, Nat.reduceEqDiff, wpV_kd, wpV_tH, h]) | skip)) | (with_reducible intro bk hbk; try have hnk := (fresh_set hbk).1) | (simp (maxSteps := 2000000) (disch := first | omega | assumption | exact idP rfl | exact idP (bL rfl)) only [go_sem, reduceIte, Nat.reduceEqDiff, wpV_kd, wpV_tH])))
    all_goals exact hR _ _ (sB) (by simp [kindIs, hk])
  | some ks =>
    rw [hk] at hr
    have hr : LI r ks := hr
    obtain ⟨_, _, q1, q2, _, q3⟩ := kindsF_some hk
    have e1 : ((ks.length : Int) - 1).toNat = ks.length - 1 := by omega
    (repeat' (first | ((with_reducible first | refine cond_dec (fun h => ?_) (fun h => ?_) | refine guardK_dec (fun h => ?_) (fun h => ?_) | refine guardD3_dec (fun h => ?_) (fun h => ?_)) <;> first | (exfalso; omega) | (simp (maxSteps := 2000000) (disch := first | omega | assumption | exact idP rfl | exact idP (bL rfl)) only [go_sem, reduceIte, Nat.reduceEqDiff, wpV_kd, wpV_tH, h, hr.len, hr.iaddr, e1, hr.at]) | skip) | ((with_reducible first | refine cond_split (fun h => ?_) (fun h => ?_) | refine guardK_split (fun h => ?_) (fun h => ?_) | refine guardD3_split (fun h => ?_) (fun h => ?_)) <;> ((try simp only [Bool.not_eq_true', Bool.not_eq_false'] at h); first | (simp (maxSteps := 2000000) (disch := first | omega | assumption | exact idP rfl | exact idP (bL rfl)) only [go_sem, reduceIte, Nat.reduceEqDiff, wpV_kd, wpV_tH, h, hr.len, hr.iaddr, e1, hr.at]) | skip)) | (with_reducible intro bk hbk; try have hnk := (fresh_set hbk).1) | (simp (maxSteps := 2000000) (disch := first | omega | assumption | exact idP rfl | exact idP (bL rfl)) only [go_sem, reduceIte, Nat.reduceEqDiff, wpV_kd, wpV_tH, hr.len, hr.iaddr, e1, hr.at])))
    all_goals refine hR _ _ (sB) (by simp only [kindIs, hk, getLastD_eq (show 0 < ks.length by omega)]; refine eqB ?_; simp [*])
end Go.M2

namespace Go.M2
open Go.Proofs
variable {M : MH}
def pN (op : Int) : Int := if 2 ≤ op ∧ op ≤ 6 then 2 else if op = 7 then 1 else if op = 8 ∨ op = 9 then 2 else 0
def pOf (op : Int) : Int := if 2 ≤ op ∧ op ≤ 6 then 1 else if 7 ≤ op ∧ op ≤ 9 then 2 else 0
def pKind (op : Int) : Int := if 5 ≤ op ∧ op ≤ 9 then 2 else 1
theorem tup3 {a b c a' b' c' : Int} (h1 : a = a') (h2 : b = b') (h3 : c = c') : V.tup [.sc (.int .i64 a), .sc (.int .i64 b), .sc (.int .i64 c)] = V.tup [.sc (.int .i64 a'), .sc (.int .i64 b'), .sc (.int .i64 c')] := by rw [h1, h2, h3]
theorem t_parts {op : Int} : VCall Try.prog n_impl_parts [.sc (.int .i64 op)] M (fun r M' => M = M' ∧ r = .tup [.sc (.int .i64 (pN op)), .sc (.int .i64 (pOf op)), .sc (.int .i64 (pKind op))]) := by
  refine VCall.pure fun R hR => v_impl_parts rfl ?_
  (repeat' (first | ((with_reducible first | refine cond_dec (fun h => ?_) (fun h => ?_) | refine guardK_dec (fun h => ?_) (fun h => ?_) | refine guardD3_dec (fun h => ?_) (fun h => ?_)) <;> first | (exfalso; omega) | (simp (maxSteps := 2000000) (disch := first | omega | assumption | exact idP rfl | exact idP (bL rfl)) only [go_sem, reduceIte, Nat.reduceEqDiff, wpV_kd, wpV_tH, h]) | skip) | ((with_reducible first | refine cond_split (fun h => ?_) (fun h => ?_) | refine guardK_split (fun h => ?_) (fun h => ?_) | refine guardD3_split (fun h => ?_) (fun h => ?_)) <;> ((try simp only [Bool.not_eq_true', Bool.not_eq_false'] at h); first | (simp (maxSteps := 2000000) (disch := first | omega | assumption | exact idP rfl | exact idP (bL rfl)) only [go_sem, reduceIte, Nat.reduceEqDiff, wpV_kd, wpV_tH, h]) | skip)) | (with_reducible intro bk hbk; try have hnk := (fresh_set hbk).1) | (simp (maxSteps := 2000000) (disch := first | omega | assumption | exact idP rfl | exact idP (bL rfl)) only [go_sem, reduceIte, Nat.reduceEqDiff, wpV_kd, wpV_tH])))
  all_goals refine hR _ _ (sB) (tup3 ?_ ?_ ?_)
  all_goals first | (unfold pN; repeat' split) | (unfold pOf; repeat' split) | (unfold pKind; repeat' split)
  all_goals omega
theorem kind1_eq (vars : Int) (t : TermS) (ks : List Int) : kind1 vars t ks = (if t.op = 0 then (if -9999 ≤ t.n ∧ t.n ≤ 9999 ∧ t.a = 0 ∧ t.b = 0 then pKind t.op else 0)
  else if t.op = 1 then (if 0 ≤ t.n ∧ t.n < vars ∧ t.a = 0 ∧ t.b = 0 then pKind t.op else 0)
  else if 2 ≤ t.op ∧ t.op ≤ 9 ∧ t.n = 0 ∧ (0 ≤ t.a ∧ t.a < (ks.length : Int)) ∧ (0 ≤ t.b ∧ t.b < (ks.length : Int)) ∧ ix ks t.a = pOf t.op ∧ ix ks t.b = pOf t.op ∧ (pN t.op = 2 ∨ t.a = t.b) then pKind t.op else 0) := by
  unfold kind1 wantK pOf pN pKind
  repeat' split
  all_goals first | omega | skip
def kRes' (r : V) : Option (List Int) → Prop
  | none => r = .sc (.sl none 0 0 true 0)
  | some ks => LI r ks ∧ isNilF .sl (er r) = some false
theorem rep_snoc {ks : List Int} {x : Int} {n : Nat} (h : 0 < n) : (ks.map vi ++ List.replicate n (vi 0)).set ks.length (.sc (.int .i64 x)) = (ks ++ [x]).map vi ++ List.replicate (n - 1) (vi 0) := by
  obtain ⟨m, rfl⟩ : ∃ m, n = m + 1 := ⟨n - 1, by omega⟩
  rw [List.set_append_right _ _ (by simp)]
  simp [List.replicate_succ, vi]
theorem rep_snoc' {ks : List Int} {x : Int} {i L : Nat} (hk : ks.length = i) (h : i < L) : (ks.map vi ++ List.replicate (L - i) (vi 0)).set i (.sc (.int .i64 x)) = (ks ++ [x]).map vi ++ List.replicate (L - (i + 1)) (vi 0) := by
  subst hk
  rw [rep_snoc (by omega)]
  congr 2
theorem nth_ix_app {ks : List Int} {l : List V} {a : Int} (h0 : 0 ≤ a) (h1 : a < (ks.length : Int)) : (ks.map vi ++ l)[a.toNat]? = some (.sc (.int .i64 (ix ks a))) := by
  rw [List.getElem?_append_left (by simp; omega), nth_ix h0 h1]
theorem t_kindsOf {v : V} {ts : List TermS} {vars : Int} (hv : LT v ts) : VCall Try.prog n_impl_kindsOf [v, .sc (.int .i64 vars)] M (fun r M' => M = M' ∧ kRes' r (kindsF vars ts)) := by
  refine VCall.froz fun R hP hG => v_impl_kindsOf rfl ?_
  (repeat' (first | ((with_reducible first | refine cond_dec (fun h => ?_) (fun h => ?_) | refine guardK_dec (fun h => ?_) (fun h => ?_) | refine guardD3_dec (fun h => ?_) (fun h => ?_)) <;> first | (exfalso; omega) | (simp (maxSteps := 2000000) (disch := first | omega | assumption | exact idP rfl | exact idP (bL rfl)) only [go_sem, reduceIte, Nat.reduceEqDiff, wpV_kd, wpV_tH, h, hv.len]) | skip) | ((with_reducible first | refine cond_split (fun h => ?_) (fun h => ?_) | refine guardK_split (fun h => ?_) (fun h => ?_) | refine guardD3_split (fun h => ?_) (fun h => ?_)) <;> ((try simp only [Bool.not_eq_true', Bool.not_eq_false'] at h); first | (simp (maxSteps := 2000000) (disch := first | omega | assumption | exact idP rfl | exact idP (bL rfl)) only [go_sem, reduceIte, Nat.reduceEqDiff, wpV_kd, wpV_tH, h, hv.len]) | skip)) | ((with_reducible refine (t_in).mono ?_); rintro _ _ ⟨rfl, rfl⟩) | (with_reducible intro bk hbk; try have hnk := (fresh_set hbk).1) | (simp (maxSteps := 2000000) (disch := first | omega | assumption | exact idP rfl | exact idP (bL rfl)) only [go_sem, reduceIte, Nat.reduceEqDiff, wpV_kd, wpV_tH, hv.len])))
  all_goals try (refine hP _ _ (sB) ?_; unfold kindsF; rw [if_neg (by omega)]; rfl)
  have hkf : kindsF vars ts = kindsGo vars ts [] := by unfold kindsF; rw [if_pos (by omega)]
  refine ⟨by omega, by omega, by simp [mostCells]; omega, by simp [mostCells]; omega, ?_⟩
  intro b5 hb5
  have e0' : (0 : Int).toNat = 0 := rfl
  refine sS2 @hv.len @e0' ?_
  refine loop_k (fun e M' => ∃ (i : Nat) (ks : List Int), i ≤ ts.length ∧ e 1 = .sc (.int .i64 vars) ∧ e 5 = .sc (.sl (some (b5, 0)) i ts.length true 1) ∧ e 24 = v ∧ e 25 = .sc (.int .i64 ts.length) ∧ e 26 = .sc (.int .i64 i) ∧ kindsGo vars (ts.take i) [] = some ks ∧ Sub M M' ∧ M' b5 = some (ks.map vi ++ List.replicate (ts.length - i) (vi 0))) (fun e _ => ctrV ts.length (e 26)) ?_ ?_
  · exact ⟨0, [], by omega, sT0, sT0, sT0, sT0, by refine sS0 ?_; rfl, rfl, (Sub.refl _).set hb5, by
      refine sS0 ?_
      rw [zeros_vi]; simp⟩
  · rintro e M1 ⟨i, ks, hi, e1, e5, e24, e25, e26, hk, hsub, hm⟩ K hK
    have hkl := (kindsGo_len hk).1
    simp at hkl
    refine sS2 @e25 @e26 ?_
    refine cond_dec (fun h => ?_) (fun h => ?_)
    · have hi' : i < ts.length := by omega
      have hkl' : ks.length = i := by omega
      have hs := kindsGo_take hi' hk
      have hke := kind1_eq vars ts[i] ks
      rw [hkl'] at hke
      simp (maxSteps := 2000000) (disch := first | omega | assumption | exact idP rfl | exact idP (bL rfl)) only [go_sem, reduceIte, Nat.reduceEqDiff, wpV_kd, wpV_tH, e1, e5, e24, e25, e26, hv.iaddr, LT.at hv hi', encT_eq]
      intro b7 hb7
      have hne : b5 ≠ b7 := fun hh => by subst hh; rw [hm] at hb7; cases hb7
      refine t_parts.mono ?_
      rintro _ _ ⟨rfl, rfl⟩
      have hpk : pKind ts[i].op ≠ 0 := by unfold pKind; split <;> omega
      have bad : kind1 vars ts[i] ks = 0 → ∀ cl, R (.sc (.sl none 0 0 true 0)) (M1.set b7 cl) := fun h0 cl => by
        refine hP _ _ (sB) ?_
        rw [hkf, kindsGo_none (i := i + 1) (by rw [hs, if_pos h0])]; rfl
      have good : kind1 vars ts[i] ks = pKind ts[i].op → ∀ (cl : List V) (K' : V → MH → Prop), (∀ M', kindsGo vars (ts.take (i + 1)) [] = some (ks ++ [pKind ts[i].op]) → Sub M M' → M' b5 = some ((ks ++ [pKind ts[i].op]).map vi ++ List.replicate (ts.length - (i + 1)) (vi 0)) → K' (.sc (.sl (some (b5, 0)) (i + 1) ts.length true 1)) M') →
          ∀ bt, (M1.set b7 cl) bt = none → appV 1 8 (.sc (.sl (some (b5, 0)) i ts.length true 1)) (.sc (.sl (some (bt, 0)) 1 1 true 1)) ((M1.set b7 cl).set bt [.sc (.int .i64 (pKind ts[i].op))]) K' := by
        intro h0 cl K' hk' bt hbt
        refine app_room (by rw [set_ne hne]; exact hm) hbt (by simp [oneV, er, oneA]) (by omega) (by simp; omega) ?_
        refine hk' _ (by rw [hs, if_neg (by rw [h0]; exact hpk), h0]) ?_ ?_
        · refine Sub.set ?_ (by cases hq : M b5 with | none => rfl | some l => rw [hq] at hb5; cases hb5)
          (repeat (first | exact Sub.refl _ | assumption | (refine Sub.set' ?_ (by assumption))))
        · rw [set_same, Nat.zero_add, rep_snoc' hkl' hi']
      have fin : ∀ M', kindsGo vars (ts.take (i + 1)) [] = some (ks ++ [pKind ts[i].op]) → Sub M M' → M' b5 = some ((ks ++ [pKind ts[i].op]).map vi ++ List.replicate (ts.length - (i + 1)) (vi 0)) → ∀ e' : EnvV, e' 1 = .sc (.int .i64 vars) → e' 5 = .sc (.sl (some (b5, 0)) ((i + 1 : Nat)) ts.length true 1) → e' 24 = v → e' 25 = .sc (.int .i64 ts.length) → e' 26 = .sc (.int .i64 ((i : Int) + 1)) → K e' M' :=
        fun M' q1 q2 q3 e' g1 g5 g24 g25 g26 => hK _ _ ⟨i + 1, _, by omega, g1, g5, g24, g25, g26, q1, q2, q3⟩ (by rw [g26, e26]; refine sS0 ?_; omega)
      by_cases c0 : ts[i].op = 0
      · rw [if_pos c0] at hke
        have c0' : decide (ts[i].op = 0) = true := by simpa using c0
        (repeat' (first | ((with_reducible first | refine cond_dec (fun h => ?_) (fun h => ?_) | refine guardK_dec (fun h => ?_) (fun h => ?_) | refine guardD3_dec (fun h => ?_) (fun h => ?_)) <;> first | (exfalso; omega) | (simp (maxSteps := 2000000) (disch := first | omega | assumption | exact idP rfl | exact idP (bL rfl)) only [go_sem, reduceIte, Nat.reduceEqDiff, wpV_kd, wpV_tH, h, c0', e1, e5]) | skip) | ((with_reducible first | refine cond_split (fun h => ?_) (fun h => ?_) | refine guardK_split (fun h => ?_) (fun h => ?_) | refine guardD3_split (fun h => ?_) (fun h => ?_)) <;> ((try simp only [Bool.not_eq_true', Bool.not_eq_false'] at h); first | (simp (maxSteps := 2000000) (disch := first | omega | assumption | exact idP rfl | exact idP (bL rfl)) only [go_sem, reduceIte, Nat.reduceEqDiff, wpV_kd, wpV_tH, h, c0', e1, e5]) | skip)) | ((with_reducible refine (t_in).mono ?_); rintro _ _ ⟨rfl, rfl⟩) | (with_reducible intro bk hbk; try have hnk := (fresh_set hbk).1) | (simp (maxSteps := 2000000) (disch := first | omega | assumption | exact idP rfl | exact idP (bL rfl)) only [go_sem, reduceIte, Nat.reduceEqDiff, wpV_kd, wpV_tH, c0', e1, e5])))
        all_goals first
          | (refine bad ?_ _; rw [hke, if_neg (by omega)])
          | (refine good (by rw [hke, if_pos (by omega)]) _ _ ?_ _ (by assumption); intro M' q1 q2 q3; refine sS0 ?_; exact fin M' q1 q2 q3 _ (sT0) (sT0) (sT0) (sT0) (sT0))
      · rw [if_neg c0] at hke
        have c0' : decide (ts[i].op = 0) = false := by simpa using c0
        by_cases c1 : ts[i].op = 1
        · rw [if_pos c1] at hke
          have c1' : decide (ts[i].op = 1) = true := by simpa using c1
          (repeat' (first | ((with_reducible first | refine cond_dec (fun h => ?_) (fun h => ?_) | refine guardK_dec (fun h => ?_) (fun h => ?_) | refine guardD3_dec (fun h => ?_) (fun h => ?_)) <;> first | (exfalso; omega) | (simp (maxSteps := 2000000) (disch := first | omega | assumption | exact idP rfl | exact idP (bL rfl)) only [go_sem, reduceIte, Nat.reduceEqDiff, wpV_kd, wpV_tH, h, c0', c1', e1, e5]) | skip) | ((with_reducible first | refine cond_split (fun h => ?_) (fun h => ?_) | refine guardK_split (fun h => ?_) (fun h => ?_) | refine guardD3_split (fun h => ?_) (fun h => ?_)) <;> ((try simp only [Bool.not_eq_true', Bool.not_eq_false'] at h); first | (simp (maxSteps := 2000000) (disch := first | omega | assumption | exact idP rfl | exact idP (bL rfl)) only [go_sem, reduceIte, Nat.reduceEqDiff, wpV_kd, wpV_tH, h, c0', c1', e1, e5]) | skip)) | ((with_reducible refine (t_in).mono ?_); rintro _ _ ⟨rfl, rfl⟩) | (with_reducible intro bk hbk; try have hnk := (fresh_set hbk).1) | (simp (maxSteps := 2000000) (disch := first | omega | assumption | exact idP rfl | exact idP (bL rfl)) only [go_sem, reduceIte, Nat.reduceEqDiff, wpV_kd, wpV_tH, c0', c1', e1, e5])))
          all_goals first
            | (refine bad ?_ _; rw [hke, if_neg (by omega)])
            | (refine good (by rw [hke, if_pos (by omega)]) _ _ ?_ _ (by assumption); intro M' q1 q2 q3; refine sS0 ?_; exact fin M' q1 q2 q3 _ (sT0) (sT0) (sT0) (sT0) (sT0))
        · rw [if_neg c1] at hke
          have c1' : decide (ts[i].op = 1) = false := by simpa using c1
          have rd : ∀ {a : Int}, 0 ≤ a → a < (i : Int) → (ks.map vi ++ List.replicate (ts.length - i) (vi 0))[a.toNat]? = some (.sc (.int .i64 (ix ks a))) := fun q1 q2 => nth_ix_app q1 (by omega)
          (repeat' (first | ((with_reducible first | refine cond_dec (fun h => ?_) (fun h => ?_) | refine guardK_dec (fun h => ?_) (fun h => ?_) | refine guardD3_dec (fun h => ?_) (fun h => ?_)) <;> first | (exfalso; omega) | (simp (maxSteps := 2000000) (disch := first | omega | assumption | exact idP rfl | exact idP (bL rfl)) only [go_sem, reduceIte, Nat.reduceEqDiff, wpV_kd, wpV_tH, h, c0', c1', e1, e5, hm, rd]) | skip) | ((with_reducible first | refine cond_split (fun h => ?_) (fun h => ?_) | refine guardK_split (fun h => ?_) (fun h => ?_) | refine guardD3_split (fun h => ?_) (fun h => ?_)) <;> ((try simp only [Bool.not_eq_true', Bool.not_eq_false'] at h); first | (simp (maxSteps := 2000000) (disch := first | omega | assumption | exact idP rfl | exact idP (bL rfl)) only [go_sem, reduceIte, Nat.reduceEqDiff, wpV_kd, wpV_tH, h, c0', c1', e1, e5, hm, rd]) | skip)) | ((with_reducible refine (t_in).mono ?_); rintro _ _ ⟨rfl, rfl⟩) | (with_reducible intro bk hbk; try have hnk := (fresh_set hbk).1) | (simp (maxSteps := 2000000) (disch := first | omega | assumption | exact idP rfl | exact idP (bL rfl)) only [go_sem, reduceIte, Nat.reduceEqDiff, wpV_kd, wpV_tH, c0', c1', e1, e5, hm, rd])))
          all_goals first
            | (refine bad ?_ _; rw [hke, if_neg (by omega)])
            | (refine good (by rw [hke, if_pos (by omega)]) _ _ ?_ _ (by assumption); intro M' q1 q2 q3; refine sS0 ?_; exact fin M' q1 q2 q3 _ (sT0) (sT0) (sT0) (sT0) (sT0))
    · obtain rfl : i = ts.length := by omega
      rw [List.take_length] at hk
      have hkl2 : ks.length = ts.length := by omega
      refine sS1 @e5 ?_
      refine hG _ _ 1 (ks.map vi) (.mk' hsub (by cases hq : M b5 with | none => rfl | some l => rw [hq] at hb5; cases hb5) (by simp; omega) (by rw [hm]; simp)) fun u hu => ?_
      rw [hkf, hk]
      exact ⟨hu.li, hu.some (by simp; omega)⟩
theorem t_kindOf {v : V} {ts : List TermS} {vars : Int} (hv : LT v ts) : VCall Try.prog n_impl_kindOf [v, .sc (.int .i64 vars)] M (fun r M' => M = M' ∧ ∃ k : Int, r = .sc (.int .i64 k) ∧ ∀ want, 0 < want → ((k = want) ↔ kindIs vars want ts = true)) := by
  refine VCall.pure fun R hR => v_impl_kindOf rfl ?_
  refine sS0 ?_
  refine (t_kindsOf hv).mono ?_
  rintro r _ ⟨rfl, hr⟩
  cases hk : kindsF vars ts with
  | none =>
    rw [hk] at hr
    simp only [kRes'] at hr
    subst hr
    (repeat' (first | ((with_reducible first | refine cond_dec (fun h => ?_) (fun h => ?_) | refine guardK_dec (fun h => ?_) (fun h => ?_) | refine guardD3_dec (fun h => ?_) (fun h => ?_)) <;> first | (exfalso; omega) | (simp (maxSteps := 2000000) (disch := first | omega | assumption | exact idP rfl | exact idP (bL rfl)) only [go_sem, reduceIte, Nat.reduceEqDiff, wpV_kd, wpV_tH, h]) | skip) | ((with_reducible first | refine cond_split (fun h => ?_) (fun h => ?_) | refine guardK_split (fun h => ?_) (fun h => ?_) | refine guardD3_split (fun h => ?_) (fun h => ?_)) <;> ((try simp only [Bool.not_eq_true', Bool.not_eq_false'] at h); first | (simp (maxSteps := 2000000) (disch := first | omega | assumption | exact idP rfl | exact idP (bL rfl)) only [go_sem, reduceIte, Nat.reduceEqDiff, wpV_kd, wpV_tH, h]) | skip)) | (with_reducible intro bk hbk; try have hnk := (fresh_set hbk).1) | (simp (maxSteps := 2000000) (disch := first | omega | assumption | exact idP rfl | exact idP (bL rfl)) only [go_sem, reduceIte, Nat.reduceEqDiff, wpV_kd, wpV_tH])))
    all_goals exact hR _ _ (sB) ⟨0, rfl, fun want hw => by simp [kindIs, hk]; omega⟩
  | some ks =>
    rw [hk] at hr
    obtain ⟨hr, hn⟩ := hr
    obtain ⟨_, _, q1, q2, _, q3⟩ := kindsF_some hk
    have e1 : ((ks.length : Int) - 1).toNat = ks.length - 1 := by omega
    (repeat' (first | ((with_reducible first | refine cond_dec (fun h => ?_) (fun h => ?_) | refine guardK_dec (fun h => ?_) (fun h => ?_) | refine guardD3_dec (fun h => ?_) (fun h => ?_)) <;> first | (exfalso; omega) | (simp (maxSteps := 2000000) (disch := first | omega | assumption | exact idP rfl | exact idP (bL rfl)) only [go_sem, reduceIte, Nat.reduceEqDiff, wpV_kd, wpV_tH, h, hn, hr.len, hr.iaddr, e1, hr.at]) | skip) | ((with_reducible first | refine cond_split (fun h => ?_) (fun h => ?_) | refine guardK_split (fun h => ?_) (fun h => ?_) | refine guardD3_split (fun h => ?_) (fun h => ?_)) <;> ((try simp only [Bool.not_eq_true', Bool.not_eq_false'] at h); first | (simp (maxSteps := 2000000) (disch := first | omega | assumption | exact idP rfl | exact idP (bL rfl)) only [go_sem, reduceIte, Nat.reduceEqDiff, wpV_kd, wpV_tH, h, hn, hr.len, hr.iaddr, e1, hr.at]) | skip)) | (with_reducible intro bk hbk; try have hnk := (fresh_set hbk).1) | (simp (maxSteps := 2000000) (disch := first | omega | assumption | exact idP rfl | exact idP (bL rfl)) only [go_sem, reduceIte, Nat.reduceEqDiff, wpV_kd, wpV_tH, hn, hr.len, hr.iaddr, e1, hr.at])))
    all_goals exact hR _ _ (sB) ⟨_, rfl, fun want hw => by simp only [kindIs, hk, getLastD_eq (show 0 < ks.length by omega), beq_iff_eq]⟩
end Go.M2

namespace Go.M2
open Go.Proofs
variable {M : MH}
theorem sets_le {vars : Int} {r : RuleS} (h : SetsOk vars r) (h0 : 0 ≤ vars) : (r.sets.length : Int) ≤ vars := by
  have : ∀ i (hi : i < r.sets.length), (i : Int) ≤ r.sets[i] := by
    intro i
    induction i with
    | zero => intro hi; have := (h 0 hi).1.1; omega
    | succ i ih =>
      intro hi
      have h1 := ih (by omega)
      have h2 := (h (i + 1) hi).2.1 (by omega)
      simp at h2
      omega
  by_cases hl : r.sets.length = 0
  · omega
  · have h1 := this (r.sets.length - 1) (by omega)
    have h2 := (h (r.sets.length - 1) (by omega)).1.2
    omega
theorem SetsOk.kind {vars : Int} {r : RuleS} (h : SetsOk vars r) {i : Nat} (hi : i < r.sets.length) (h2 : i < r.terms.length) : kindIs vars 1 r.terms[i] = true := (h i hi).2.2 h2
theorem t_l2Rule {a b c : V} {r : RuleS} {vars : Int} (ha : LT a r.when_) (hb : LI b r.sets) (hc : LTT c r.terms) (h0 : 0 ≤ vars) (h5 : vars ≤ 5) :
    VCall Try.prog n_spec_l2Rule [.agg [a, b, c], .sc (.int .i64 vars)] M (fun r' M' => M = M' ∧ ∃ t : Bool, r' = .sc (.bool t) ∧ (t = true ↔ RuleOk vars r)) := by
  refine VCall.pure fun R hR => v_spec_l2Rule rfl ?_
  refine sS0 ?_
  intro bb hbb
  have fin : ∀ t : Bool, (t = true ↔ RuleOk vars r) → R (.sc (.bool t)) (M.set bb [a, b, c]) := fun t h => hR _ _ ((Sub.refl _).set hbb) ⟨t, rfl, h⟩
  refine (t_l2Is ha).mono ?_
  rintro _ _ ⟨rfl, rfl⟩
  cases hw : kindIs vars 2 r.when_ with
  | false =>
    refine sS1 @hw ?_
    exact fin _ (by simp [RuleOk, hw])
  | true =>
    (repeat' (first | ((with_reducible first | refine cond_dec (fun h => ?_) (fun h => ?_) | refine guardK_dec (fun h => ?_) (fun h => ?_) | refine guardD3_dec (fun h => ?_) (fun h => ?_)) <;> first | (exfalso; omega) | (simp (maxSteps := 2000000) (disch := first | omega | assumption | exact idP rfl | exact idP (bL rfl)) only [go_sem, reduceIte, Nat.reduceEqDiff, wpV_kd, wpV_tH, h, hw, hb.len, hc.len]) | skip) | ((with_reducible first | refine cond_split (fun h => ?_) (fun h => ?_) | refine guardK_split (fun h => ?_) (fun h => ?_) | refine guardD3_split (fun h => ?_) (fun h => ?_)) <;> ((try simp only [Bool.not_eq_true', Bool.not_eq_false'] at h); first | (simp (maxSteps := 2000000) (disch := first | omega | assumption | exact idP rfl | exact idP (bL rfl)) only [go_sem, reduceIte, Nat.reduceEqDiff, wpV_kd, wpV_tH, h, hw, hb.len, hc.len]) | skip)) | (with_reducible intro bk hbk; try have hnk := (fresh_set hbk).1) | (simp (maxSteps := 2000000) (disch := first | omega | assumption | exact idP rfl | exact idP (bL rfl)) only [go_sem, reduceIte, Nat.reduceEqDiff, wpV_kd, wpV_tH, hw, hb.len, hc.len])))
    all_goals try (refine fin _ ?_; simp only [Bool.false_eq_true, false_iff]; intro hr; have := hr.2.1; have := sets_le hr.2.2 h0; omega)
    refine loop_k (fun e M' => M' = M.set bb [a, b, c] ∧ ∃ i : Nat, i ≤ r.sets.length ∧ e 1 = .sc (.int .i64 vars) ∧ e 2 = .sc (.ptr (some (bb, 0))) ∧ e 5 = .sc (.int .i64 i) ∧
      ∀ j (hj : j < r.sets.length), j < i → (0 ≤ r.sets[j] ∧ r.sets[j] < vars) ∧ (∀ h0 : 0 < j, r.sets[j - 1]'(by omega) < r.sets[j]) ∧ (∀ h2 : j < r.terms.length, kindIs vars 1 r.terms[j] = true)) (fun e _ => ctrV r.sets.length (e 5)) ?_ ?_
    · exact ⟨rfl, 0, by omega, sT0, sT0, by refine sS0 ?_; rfl, fun j _ h => by omega⟩
    · rintro e _ ⟨rfl, i, hi, e1, e2, e5, hj⟩ K hK
      refine sS4 @e1 @e2 @e5 @hb.len ?_
      refine cond_dec (fun h => ?_) (fun h => ?_)
      · have hi' : i < r.sets.length := by omega
        have ht := hc.elt (i := i) (by omega)
        have e8 : ((i : Int) - 1).toNat = i - 1 := by omega
        (repeat' (first | ((with_reducible first | refine cond_dec (fun h => ?_) (fun h => ?_) | refine guardK_dec (fun h => ?_) (fun h => ?_) | refine guardD3_dec (fun h => ?_) (fun h => ?_)) <;> first | (exfalso; omega) | (simp (maxSteps := 2000000) (disch := first | omega | assumption | exact idP rfl | exact idP (bL rfl)) only [go_sem, reduceIte, Nat.reduceEqDiff, wpV_kd, wpV_tH, h, e1, e2, e5, hb.len, hb.iaddr, hb.at, hc.iaddr, e8]) | skip) | ((with_reducible first | refine cond_split (fun h => ?_) (fun h => ?_) | refine guardK_split (fun h => ?_) (fun h => ?_) | refine guardD3_split (fun h => ?_) (fun h => ?_)) <;> ((try simp only [Bool.not_eq_true', Bool.not_eq_false'] at h); first | (simp (maxSteps := 2000000) (disch := first | omega | assumption | exact idP rfl | exact idP (bL rfl)) only [go_sem, reduceIte, Nat.reduceEqDiff, wpV_kd, wpV_tH, h, e1, e2, e5, hb.len, hb.iaddr, hb.at, hc.iaddr, e8]) | skip)) | ((with_reducible refine (t_l1In).mono ?_); rintro _ _ ⟨rfl, rfl⟩) | ((with_reducible refine (t_l2Is ht).mono ?_); rintro _ _ ⟨rfl, rfl⟩) | (with_reducible intro bk hbk; try have hnk := (fresh_set hbk).1) | (simp (maxSteps := 2000000) (disch := first | omega | assumption | exact idP rfl | exact idP (bL rfl)) only [go_sem, reduceIte, Nat.reduceEqDiff, wpV_kd, wpV_tH, e1, e2, e5, hb.len, hb.iaddr, hb.at, hc.iaddr, e8])))
        all_goals first
          | (refine fin _ ?_; simp only [Bool.false_eq_true, false_iff]; intro hr; have h3 := (hr.2.2 i hi').1; have h4 := (hr.2.2 i hi').2.1; have h5 := (hr.2.2 i hi').2.2 (by omega); first | omega | (have := h4 (by omega); omega) | (simp_all; done))
          | (refine hK _ _ ⟨rfl, i + 1, by omega, sT0, sT0, by refine sS0 ?_; rfl, fun j hj1 hj2 => ?_⟩ (by refine sS2 @ctrV_int @e5 ?_; omega)
             by_cases hji : j = i
             · subst hji; exact ⟨by omega, fun h0 => by omega, fun _ => by assumption⟩
             · exact hj j hj1 (by omega))
      · refine sS0 ?_
        exact fin _ (by
          simp only [true_iff]
          exact ⟨hw, by omega, fun j hj1 => hj j hj1 (by omega)⟩)
theorem t_specSystemValid {v : V} {s : SysS} (hv : isSys s v) : VCall Try.prog n_spec_SystemValid [v] M (fun r' M' => M = M' ∧ ∃ t : Bool, r' = .sc (.bool t) ∧ (t = true ↔ SysOk s)) := by
  refine VCall.pure fun R hR => v_spec_SystemValid rfl ?_
  obtain ⟨a, b, rfl, ha, hb⟩ := hv
  refine sS0 ?_
  intro bb hbb
  have fin : ∀ t : Bool, (t = true ↔ SysOk s) → R (.sc (.bool t)) (M.set bb [a, b]) := fun t h => hR _ _ ((Sub.refl _).set hbb) ⟨t, rfl, h⟩
  (repeat' (first | ((with_reducible first | refine cond_dec (fun h => ?_) (fun h => ?_) | refine guardK_dec (fun h => ?_) (fun h => ?_) | refine guardD3_dec (fun h => ?_) (fun h => ?_)) <;> first | (exfalso; omega) | (simp (maxSteps := 2000000) (disch := first | omega | assumption | exact idP rfl | exact idP (bL rfl)) only [go_sem, reduceIte, Nat.reduceEqDiff, wpV_kd, wpV_tH, h, ha.len, hb.len]) | skip) | ((with_reducible first | refine cond_split (fun h => ?_) (fun h => ?_) | refine guardK_split (fun h => ?_) (fun h => ?_) | refine guardD3_split (fun h => ?_) (fun h => ?_)) <;> ((try simp only [Bool.not_eq_true', Bool.not_eq_false'] at h); first | (simp (maxSteps := 2000000) (disch := first | omega | assumption | exact idP rfl | exact idP (bL rfl)) only [go_sem, reduceIte, Nat.reduceEqDiff, wpV_kd, wpV_tH, h, ha.len, hb.len]) | skip)) | ((with_reducible refine (t_l1In).mono ?_); rintro _ _ ⟨rfl, rfl⟩) | (with_reducible intro bk hbk; try have hnk := (fresh_set hbk).1) | (simp (maxSteps := 2000000) (disch := first | omega | assumption | exact idP rfl | exact idP (bL rfl)) only [go_sem, reduceIte, Nat.reduceEqDiff, wpV_kd, wpV_tH, ha.len, hb.len])))
  all_goals try (refine fin _ ?_; simp only [Bool.false_eq_true, false_iff]; intro hr; have := hr.v1; have := hr.v5; have := hr.r8; omega)
  refine loop_k (fun e M' => M' = M.set bb [a, b] ∧ ∃ i : Nat, i ≤ s.vars.length ∧ e 1 = .sc (.ptr (some (bb, 0))) ∧ e 3 = .sc (.int .i64 (sizeF (s.vars.take i))) ∧ e 4 = .sc (.int .i64 i) ∧
    ∀ j (hj : j < s.vars.length), j < i → VarOk s.vars[j]) (fun e _ => ctrV s.vars.length (e 4)) ?_ ?_
  · exact ⟨rfl, 0, by omega, sT0, by refine sS0 ?_; simp [sizeF], by refine sS0 ?_; rfl, fun j _ h => by omega⟩
  · rintro e _ ⟨rfl, i, hi, e1, e3, e4, hj⟩ K hK
    have hbd := sizeF_take_bd (by omega) hj
    refine sS4 @e1 @e3 @e4 @ha.len ?_
    refine cond_dec (fun h => ?_) (fun h => ?_)
    · have hi' : i < s.vars.length := by omega
      have e5 : (encVar s.vars[i]).take 3 = encVar s.vars[i] := rfl
      have hat := ha.elt hi'
      simp only [isVar] at hat
      refine sS6 @e1 @e3 @e4 @ha.iaddr @hat @e5 ?_
      refine t_l2Var.mono ?_
      rintro _ _ ⟨rfl, rfl⟩
      refine sS0 ?_
      refine cond_dec (fun h2 => ?_) (fun h2 => ?_)
      · refine sS0 ?_
        exact fin _ (by simp only [Bool.false_eq_true, false_iff]; intro hr; exact h2 (hr.vars _ (List.getElem_mem hi')))
      · have h2 : VarOk s.vars[i] := Decidable.not_not.1 h2
        have hbd2 := sizeF_take_bd (i := i + 1) (vs := s.vars) (by omega) (fun j hj1 hj2 => by
          by_cases hji : j = i
          · subst hji; exact h2
          · exact hj j hj1 (by omega))
        have hsz := sizeF_take hi'
        rw [hsz] at hbd2
        obtain ⟨q1, q2, q3, q4⟩ := h2
        simp (maxSteps := 2000000) (disch := first | omega | assumption | exact idP rfl | exact idP (bL rfl)) only [go_sem, reduceIte, Nat.reduceEqDiff, wpV_kd, wpV_tH, e1, e3, e4, ha.iaddr, hat, encVar]
        refine hK _ _ ⟨rfl, i + 1, by omega, sT0, by refine sS0 ?_; rw [hsz], by refine sS0 ?_; rfl, fun j hj1 hj2 => ?_⟩ (by refine sS2 @ctrV_int @e4 ?_; omega)
        by_cases hji : j = i
        · subst hji; exact ⟨q1, q2, q3, q4⟩
        · exact hj j hj1 (by omega)
    · obtain rfl : i = s.vars.length := by omega
      rw [List.take_length] at e3 hbd
      refine sS1 @e3 ?_
      refine loop_k (fun e M' => M' = M.set bb [a, b] ∧ ∃ i : Nat, i ≤ s.rules.length ∧ e 1 = .sc (.ptr (some (bb, 0))) ∧ e 3 = .sc (.int .i64 (sizeF s.vars)) ∧ e 5 = .sc (.int .i64 i) ∧
        ∀ j (hj : j < s.rules.length), j < i → RuleOk (s.vars.length : Int) s.rules[j]) (fun e _ => ctrV s.rules.length (e 5)) ?_ ?_
      · exact ⟨rfl, 0, by omega, sT1 @e1, by simp (maxSteps := 2000000) (disch := first | omega | assumption | exact idP rfl | exact idP (bL rfl)) only [go_sem, reduceIte, Nat.reduceEqDiff, wpV_kd, wpV_tH, List.take_length], by refine sS0 ?_; rfl, fun j _ h => by omega⟩
      · rintro e _ ⟨rfl, i, hi2, e1, e3, e5, hj2⟩ K2 hK2
        refine sS4 @e1 @e3 @e5 @hb.len ?_
        refine cond_dec (fun h => ?_) (fun h => ?_)
        · have hi' : i < s.rules.length := by omega
          obtain ⟨x, y, z, hat, q1, q2, q3⟩ := hb.elt hi'
          refine sS6 @e1 @e3 @e5 @hb.iaddr @hat @ha.len ?_
          refine (t_l2Rule q1 q2 q3 (by omega) (by omega)).mono ?_
          rintro _ _ ⟨rfl, t, rfl, ht⟩
          cases t with
          | false =>
            refine sS0 ?_
            exact fin _ (by simp only [Bool.false_eq_true, false_iff]; intro hr; have := ht.2 (hr.rules _ (List.getElem_mem hi')); cases this)
          | true =>
            refine sS0 ?_
            refine hK2 _ _ ⟨rfl, i + 1, by omega, sT0, sT0, by refine sS0 ?_; rfl, fun j hj3 hj4 => ?_⟩ (by refine sS2 @ctrV_int @e5 ?_; omega)
            by_cases hji : j = i
            · subst hji; exact ht.1 rfl
            · exact hj2 j hj3 (by omega)
        · refine sS1 @e3 ?_
          refine fin _ ?_
          simp only [decide_eq_true_eq]
          refine ⟨fun h400 => ⟨by omega, by omega, by omega, fun v hv => ?_, fun r hr => ?_, h400⟩, fun h => h.size⟩
          · obtain ⟨j, hj1, rfl⟩ := List.getElem_of_mem hv
            exact hj j hj1 hj1
          · obtain ⟨j, hj1, rfl⟩ := List.getElem_of_mem hr
            exact hj2 j hj1 (by omega)
noncomputable def sysB (s : SysS) : Bool := @decide (SysOk s) (Classical.propDecidable _)
theorem sysB_iff (s : SysS) : sysB s = true ↔ SysOk s := by unfold sysB; exact @decide_eq_true_iff _ (Classical.propDecidable _)
theorem eq_of_iff {t u : Bool} (h : t = true ↔ u = true) : t = u := by cases t <;> cases u <;> simp_all
theorem t_SystemValidS {v : V} {s : SysS} (hv : isSys s v) : VCall Try.prog n_spec_SystemValid [v] M (fun r' M' => M = M' ∧ r' = .sc (.bool (sysB s))) :=
  (t_specSystemValid hv).mono fun r M' ⟨h, t, h1, h2⟩ => ⟨h, by rw [h1, eq_of_iff (h2.trans (sysB_iff s).symm)]⟩
end Go.M2

namespace Go.M2
open Go.Proofs
variable {M : MH}
theorem t_varOk {v : VarS} : VCall Try.prog n_impl_varOk [.agg (encVar v)] M (fun r M' => M = M' ∧ r = .sc (.bool (decide (VarOk v)))) := by
  refine VCall.pure fun R hR => v_impl_varOk rfl ?_
  obtain ⟨lo, hi, f⟩ := v
  simp only [encVar]
  (repeat' (first | ((with_reducible first | refine cond_dec (fun h => ?_) (fun h => ?_) | refine guardK_dec (fun h => ?_) (fun h => ?_) | refine guardD3_dec (fun h => ?_) (fun h => ?_)) <;> first | (exfalso; omega) | (simp (maxSteps := 2000000) (disch := first | omega | assumption | exact idP rfl | exact idP (bL rfl)) only [go_sem, reduceIte, Nat.reduceEqDiff, wpV_kd, wpV_tH, h]) | skip) | ((with_reducible first | refine cond_split (fun h => ?_) (fun h => ?_) | refine guardK_split (fun h => ?_) (fun h => ?_) | refine guardD3_split (fun h => ?_) (fun h => ?_)) <;> ((try simp only [Bool.not_eq_true', Bool.not_eq_false'] at h); first | (simp (maxSteps := 2000000) (disch := first | omega | assumption | exact idP rfl | exact idP (bL rfl)) only [go_sem, reduceIte, Nat.reduceEqDiff, wpV_kd, wpV_tH, h]) | skip)) | ((with_reducible refine (t_in).mono ?_); rintro _ _ ⟨rfl, rfl⟩) | (with_reducible intro bk hbk; try have hnk := (fresh_set hbk).1) | (simp (maxSteps := 2000000) (disch := first | omega | assumption | exact idP rfl | exact idP (bL rfl)) only [go_sem, reduceIte, Nat.reduceEqDiff, wpV_kd, wpV_tH])))
  all_goals exact hR _ _ (sB) (by (refine eqB ?_; (try simp only [decide_eq_true_eq, Bool.false_eq_true, Bool.and_eq_true, Bool.or_eq_true, Bool.not_eq_true', decide_eq_false_iff_not, eq_self_iff_true, true_iff, false_iff, iff_true, iff_false, ne_eq]); (try simp only [VarOk]); (try omega)))
theorem t_impSize {v : V} {vars : List VarS} (hv : LVar v vars) (hok : ∀ x ∈ vars, VarOk x) (h5 : vars.length ≤ 5) : VCall Try.prog n_impl_size [v] M (fun r M' => M = M' ∧ r = .sc (.int .i64 (sizeF vars))) := by
  refine VCall.pure fun R hR => v_impl_size rfl ?_
  refine sS1 @hv.len ?_
  refine loop_k (fun e M' => Sub M M' ∧ ∃ i : Nat, i ≤ vars.length ∧ e 3 = .sc (.int .i64 (sizeF (vars.take i))) ∧ e 6 = v ∧ e 7 = .sc (.int .i64 vars.length) ∧ e 8 = .sc (.int .i64 i)) (fun e _ => ctrV vars.length (e 8)) ?_ ?_
  · exact ⟨Sub.refl _, 0, by omega, by refine sS0 ?_; simp [sizeF], sT0, sT0, by refine sS0 ?_; rfl⟩
  · rintro e M1 ⟨hsub, i, hi, e3, e6, e7, e8⟩ K hK
    have hb1 := sizeF_take_bd (vs := vars) (i := i) h5 (fun j hj _ => hok _ (List.getElem_mem hj))
    refine sS2 @e7 @e8 ?_
    refine cond_dec (fun h => ?_) (fun h => ?_)
    · have hi' : i < vars.length := by omega
      have hb2 := sizeF_take_bd (vs := vars) (i := i + 1) h5 (fun j hj _ => hok _ (List.getElem_mem hj))
      have hsz := sizeF_take hi'
      rw [hsz] at hb2
      have ho := hok _ (List.getElem_mem hi')
      unfold VarOk at ho
      simp (maxSteps := 2000000) (disch := first | omega | assumption | exact idP rfl | exact idP (bL rfl)) only [go_sem, reduceIte, Nat.reduceEqDiff, wpV_kd, wpV_tH, e3, e6, e8, hv.iaddr, LVar.at hv hi']
      intro b5 hb5
      exact hK _ _ ⟨sB, i + 1, by omega, by refine sS0 ?_; rw [hsz], sT0, sT0, by refine sS0 ?_; rfl⟩ (by refine sS2 @ctrV_int @e8 ?_; omega)
    · obtain rfl : i = vars.length := by omega
      refine sS1 @e3 ?_
      exact hR _ _ (sB) (by rw [List.take_length])
theorem t_ruleOk {a b c : V} {r : RuleS} {vars : Int} (ha : LT a r.when_) (hb : LI b r.sets) (hc : LTT c r.terms) (h0 : 0 ≤ vars) (h5 : vars ≤ 5) (hl : r.sets.length ≤ 1048576) :
    VCall Try.prog n_impl_ruleOk [.agg [a, b, c], .sc (.int .i64 vars)] M (fun r' M' => M = M' ∧ ∃ t : Bool, r' = .sc (.bool t) ∧ (t = true ↔ RuleOk vars r)) := by
  refine VCall.pure fun R hR => v_impl_ruleOk rfl ?_
  refine sS0 ?_
  intro bb hbb
  refine (t_kindOf ha).mono ?_
  rintro _ _ ⟨rfl, kw, rfl, hw⟩
  have hw := hw 2 (by omega)
  (repeat' (first | ((with_reducible first | refine cond_dec (fun h => ?_) (fun h => ?_) | refine guardK_dec (fun h => ?_) (fun h => ?_) | refine guardD3_dec (fun h => ?_) (fun h => ?_)) <;> first | (exfalso; omega) | (simp (maxSteps := 2000000) (disch := first | omega | assumption | exact idP rfl | exact idP (bL rfl)) only [go_sem, reduceIte, Nat.reduceEqDiff, wpV_kd, wpV_tH, h, hb.len, hc.len]) | skip) | ((with_reducible first | refine cond_split (fun h => ?_) (fun h => ?_) | refine guardK_split (fun h => ?_) (fun h => ?_) | refine guardD3_split (fun h => ?_) (fun h => ?_)) <;> ((try simp only [Bool.not_eq_true', Bool.not_eq_false'] at h); first | (simp (maxSteps := 2000000) (disch := first | omega | assumption | exact idP rfl | exact idP (bL rfl)) only [go_sem, reduceIte, Nat.reduceEqDiff, wpV_kd, wpV_tH, h, hb.len, hc.len]) | skip)) | (with_reducible intro bk hbk; try have hnk := (fresh_set hbk).1) | (simp (maxSteps := 2000000) (disch := first | omega | assumption | exact idP rfl | exact idP (bL rfl)) only [go_sem, reduceIte, Nat.reduceEqDiff, wpV_kd, wpV_tH, hb.len, hc.len])))
  · refine hR _ _ (sB) ⟨false, rfl, ?_⟩
    simp only [Bool.false_eq_true, false_iff]
    intro hr; exact absurd (hw.2 hr.1) (by assumption)
  · refine hR _ _ (sB) ⟨false, rfl, ?_⟩
    simp only [Bool.false_eq_true, false_iff]
    intro hr; have := hr.2.1; omega
  · have hkw : kindIs vars 2 r.when_ = true := hw.1 (by omega)
    refine loop_k (fun e M' => M' = M.set bb [a, b, c] ∧ ∃ i : Nat, i ≤ r.sets.length ∧ e 1 = .sc (.int .i64 vars) ∧ e 2 = .sc (.ptr (some (bb, 0))) ∧ e 22 = b ∧ e 23 = .sc (.int .i64 r.sets.length) ∧ e 24 = .sc (.int .i64 i) ∧
      ∀ j (hj : j < r.sets.length), j < i → (0 ≤ r.sets[j] ∧ r.sets[j] < vars) ∧ (∀ h0 : 0 < j, r.sets[j - 1]'(by omega) < r.sets[j]) ∧ (∀ h2 : j < r.terms.length, kindIs vars 1 r.terms[j] = true)) (fun e _ => ctrV r.sets.length (e 24)) ?_ ?_
    · exact ⟨rfl, 0, by omega, sT0, sT0, sT0, sT0, by refine sS0 ?_; rfl, fun j _ h => by omega⟩
    · rintro e _ ⟨rfl, i, hi, e1, e2, e22, e23, e24, hj⟩ K hK
      refine sS2 @e23 @e24 ?_
      refine cond_dec (fun h => ?_) (fun h => ?_)
      · have hi' : i < r.sets.length := by omega
        have e8 : ((i : Int) - 1).toNat = i - 1 := by omega
        have bad : ¬ RuleOk vars r → R (.sc (.bool false)) (M.set bb [a, b, c]) := fun hn => hR _ _ (sB) ⟨false, rfl, by simp only [Bool.false_eq_true, false_iff]; exact hn⟩
        have hti := hc.elt (i := i) (by omega)
        (repeat' (first | ((with_reducible first | refine cond_dec (fun h => ?_) (fun h => ?_) | refine guardK_dec (fun h => ?_) (fun h => ?_) | refine guardD3_dec (fun h => ?_) (fun h => ?_)) <;> first | (exfalso; omega) | (simp (maxSteps := 2000000) (disch := first | omega | assumption | exact idP rfl | exact idP (bL rfl)) only [go_sem, reduceIte, Nat.reduceEqDiff, wpV_kd, wpV_tH, h, e1, e2, e22, e24, hb.iaddr, hb.at, hc.iaddr, e8]) | skip) | ((with_reducible first | refine cond_split (fun h => ?_) (fun h => ?_) | refine guardK_split (fun h => ?_) (fun h => ?_) | refine guardD3_split (fun h => ?_) (fun h => ?_)) <;> ((try simp only [Bool.not_eq_true', Bool.not_eq_false'] at h); first | (simp (maxSteps := 2000000) (disch := first | omega | assumption | exact idP rfl | exact idP (bL rfl)) only [go_sem, reduceIte, Nat.reduceEqDiff, wpV_kd, wpV_tH, h, e1, e2, e22, e24, hb.iaddr, hb.at, hc.iaddr, e8]) | skip)) | ((with_reducible refine (t_in).mono ?_); rintro _ _ ⟨rfl, rfl⟩) | (with_reducible intro bk hbk; try have hnk := (fresh_set hbk).1) | (simp (maxSteps := 2000000) (disch := first | omega | assumption | exact idP rfl | exact idP (bL rfl)) only [go_sem, reduceIte, Nat.reduceEqDiff, wpV_kd, wpV_tH, e1, e2, e22, e24, hb.iaddr, hb.at, hc.iaddr, e8])))
        all_goals first
          | (refine bad fun hr => ?_; have h3 := (hr.2.2 i hi').1; have h4 := (hr.2.2 i hi').2.1; first | omega | (have := h4 (by omega); omega))
          | skip
        all_goals (refine (t_kindOf hti).mono ?_; rintro _ _ ⟨rfl, ki, rfl, hki⟩; have hki := hki 1 (by omega))
        all_goals (repeat' (first | ((with_reducible first | refine cond_dec (fun h => ?_) (fun h => ?_) | refine guardK_dec (fun h => ?_) (fun h => ?_) | refine guardD3_dec (fun h => ?_) (fun h => ?_)) <;> first | (exfalso; omega) | (simp (maxSteps := 2000000) (disch := first | omega | assumption | exact idP rfl | exact idP (bL rfl)) only [go_sem, reduceIte, Nat.reduceEqDiff, wpV_kd, wpV_tH, h, e1, e2, e22, e24, hb.iaddr, hb.at, hc.iaddr, e8]) | skip) | ((with_reducible first | refine cond_split (fun h => ?_) (fun h => ?_) | refine guardK_split (fun h => ?_) (fun h => ?_) | refine guardD3_split (fun h => ?_) (fun h => ?_)) <;> ((try simp only [Bool.not_eq_true', Bool.not_eq_false'] at h); first | (simp (maxSteps := 2000000) (disch := first | omega | assumption | exact idP rfl | exact idP (bL rfl)) only [go_sem, reduceIte, Nat.reduceEqDiff, wpV_kd, wpV_tH, h, e1, e2, e22, e24, hb.iaddr, hb.at, hc.iaddr, e8]) | skip)) | (with_reducible intro bk hbk; try have hnk := (fresh_set hbk).1) | (simp (maxSteps := 2000000) (disch := first | omega | assumption | exact idP rfl | exact idP (bL rfl)) only [go_sem, reduceIte, Nat.reduceEqDiff, wpV_kd, wpV_tH, e1, e2, e22, e24, hb.iaddr, hb.at, hc.iaddr, e8])))
        all_goals first
          | (refine bad fun hr => ?_; have h5 := (hr.2.2 i hi').2.2 (by omega); exact absurd (hki.2 h5) (by assumption))
          | (refine hK _ _ ⟨rfl, i + 1, by omega, sT0, sT0, sT0, sT0, by refine sS0 ?_; rfl, fun j hj1 hj2 => ?_⟩ (by refine sS2 @ctrV_int @e24 ?_; omega)
             by_cases hji : j = i
             · subst hji; exact ⟨by omega, fun h0 => by omega, fun _ => hki.1 (by omega)⟩
             · exact hj j hj1 (by omega))
      · refine sS0 ?_
        exact hR _ _ (sB) ⟨true, rfl, by
          simp only [true_iff]
          exact ⟨hkw, by omega, fun j hj1 => hj j hj1 (by omega)⟩⟩
theorem t_IndexVar {v : V} {fn : Nat} {caps : List V} {xs : List VarS} {pred : VarS → Bool} (hv : LVar v xs) (hl : xs.length ≤ 1048576)
    (hf : ∀ x ∈ xs, VCall Try.prog fn (.agg (encVar x) :: caps) M (fun r M' => M = M' ∧ r = .sc (.bool (pred x)))) :
    VCall Try.prog n_slices_ContainsFunc_Simpl_Var_impl_Var [v, .fn fn caps] M (fun r M' => M = M' ∧ r = .sc (.bool (xs.any pred))) := by
  have key : VCall Try.prog n_slices_IndexFunc_Simpl_Var_impl_Var [v, .fn fn caps] M (fun r M' => M = M' ∧ ∃ k : Int, r = .sc (.int .i64 k) ∧ (0 ≤ k ↔ xs.any pred = true)) := by
    refine VCall.pure fun R hR => v_slices_IndexFunc_Simpl_Var_impl_Var rfl ?_
    refine sS1 @hv.len ?_
    refine loop_k (fun e M' => M' = M ∧ ∃ i : Nat, i ≤ xs.length ∧ e 0 = v ∧ e 1 = .fn fn caps ∧ e 7 = .sc (.int .i64 xs.length) ∧ e 8 = .sc (.int .i64 i) ∧ ∀ j (hj : j < xs.length), j < i → pred xs[j] = false) (fun e _ => ctrV xs.length (e 8)) ?_ ?_
    · exact ⟨rfl, 0, by omega, sT0, sT0, sT0, by refine sS0 ?_; rfl, fun j _ h => by omega⟩
    · rintro e M1 ⟨hM, i, hi, e0, e1, e7, e8, hj⟩ K hK
      subst hM
      refine sS2 @e7 @e8 ?_
      refine cond_dec (fun h => ?_) (fun h => ?_)
      · have hi' : i < xs.length := by omega
        simp (maxSteps := 2000000) (disch := first | omega | assumption | exact idP rfl | exact idP (bL rfl)) only [go_sem, reduceIte, Nat.reduceEqDiff, wpV_kd, wpV_tH, e0, e1, e8, hv.iaddr, LVar.at hv hi']
        refine (hf _ (List.getElem_mem hi')).mono ?_
        rintro _ _ ⟨rfl, rfl⟩
        cases hp : pred xs[i] with
        | true =>
          refine sS0 ?_
          exact hR _ _ (sB) ⟨_, rfl, by simp only [Int.natCast_nonneg, true_iff]; exact List.any_eq_true.2 ⟨_, List.getElem_mem hi', hp⟩⟩
        | false =>
          refine sS1 @e8 ?_
          refine hK _ _ ⟨rfl, i + 1, by omega, sT0, sT0, sT0, by refine sS0 ?_; rfl, fun j hj1 hj2 => ?_⟩ (by refine sS2 @ctrV_int @e8 ?_; omega)
          by_cases hji : j = i
          · subst hji; exact hp
          · exact hj j hj1 (by omega)
      · refine sS0 ?_
        refine hR _ _ (sB) ⟨-1, rfl, ⟨fun h => by omega, fun h => ?_⟩⟩
        obtain ⟨x, hx, hpx⟩ := List.any_eq_true.1 h
        obtain ⟨j, hj1, rfl⟩ := List.getElem_of_mem hx
        rw [hj j hj1 (by omega)] at hpx; cases hpx
  refine VCall.pure fun R hR => v_slices_ContainsFunc_Simpl_Var_impl_Var rfl ?_
  refine sS0 ?_
  refine key.mono ?_
  rintro _ _ ⟨rfl, k, rfl, hk⟩
  refine sS0 ?_
  exact hR _ _ (sB) (eqB (by simp only [decide_eq_true_eq]; exact hk))
end Go.M2

namespace Go.M2
open Go.Proofs
variable {M : MH}
theorem t_IndexRule {v : V} {fn : Nat} {caps : List V} {xs : List RuleS} {pred : RuleS → Bool} (hv : LR v xs) (hl : xs.length ≤ 1048576)
    (hf : ∀ x ∈ xs, ∀ cs, isRule x cs → VCall Try.prog fn (.agg cs :: caps) M (fun r M' => M = M' ∧ r = .sc (.bool (pred x)))) :
    VCall Try.prog n_slices_ContainsFunc_Simpl_Rule_impl_Rule [v, .fn fn caps] M (fun r M' => M = M' ∧ r = .sc (.bool (xs.any pred))) := by
  have key : VCall Try.prog n_slices_IndexFunc_Simpl_Rule_impl_Rule [v, .fn fn caps] M (fun r M' => M = M' ∧ ∃ k : Int, r = .sc (.int .i64 k) ∧ (0 ≤ k ↔ xs.any pred = true)) := by
    refine VCall.pure fun R hR => v_slices_IndexFunc_Simpl_Rule_impl_Rule rfl ?_
    refine sS1 @hv.len ?_
    refine loop_k (fun e M' => M' = M ∧ ∃ i : Nat, i ≤ xs.length ∧ e 0 = v ∧ e 1 = .fn fn caps ∧ e 7 = .sc (.int .i64 xs.length) ∧ e 8 = .sc (.int .i64 i) ∧ ∀ j (hj : j < xs.length), j < i → pred xs[j] = false) (fun e _ => ctrV xs.length (e 8)) ?_ ?_
    · exact ⟨rfl, 0, by omega, sT0, sT0, sT0, by refine sS0 ?_; rfl, fun j _ h => by omega⟩
    · rintro e M1 ⟨hM, i, hi, e0, e1, e7, e8, hj⟩ K hK
      subst hM
      refine sS2 @e7 @e8 ?_
      refine cond_dec (fun h => ?_) (fun h => ?_)
      · have hi' : i < xs.length := by omega
        have hcs := hv.elt hi'
        have hrule := hcs
        obtain ⟨c1, c2, c3, hat, _, _, _⟩ := hcs
        rw [hat] at hrule
        refine sS5 @e0 @e1 @e8 @hv.iaddr @hat ?_
        refine (hf _ (List.getElem_mem hi') _ hrule).mono ?_
        rintro _ _ ⟨rfl, rfl⟩
        cases hp : pred xs[i] with
        | true =>
          refine sS0 ?_
          exact hR _ _ (sB) ⟨_, rfl, by simp only [Int.natCast_nonneg, true_iff]; exact List.any_eq_true.2 ⟨_, List.getElem_mem hi', hp⟩⟩
        | false =>
          refine sS1 @e8 ?_
          refine hK _ _ ⟨rfl, i + 1, by omega, sT0, sT0, sT0, by refine sS0 ?_; rfl, fun j hj1 hj2 => ?_⟩ (by refine sS2 @ctrV_int @e8 ?_; omega)
          by_cases hji : j = i
          · subst hji; exact hp
          · exact hj j hj1 (by omega)
      · refine sS0 ?_
        refine hR _ _ (sB) ⟨-1, rfl, ⟨fun h => by omega, fun h => ?_⟩⟩
        obtain ⟨x, hx, hpx⟩ := List.any_eq_true.1 h
        obtain ⟨j, hj1, rfl⟩ := List.getElem_of_mem hx
        rw [hj j hj1 (by omega)] at hpx; cases hpx
  refine VCall.pure fun R hR => v_slices_ContainsFunc_Simpl_Rule_impl_Rule rfl ?_
  refine sS0 ?_
  refine key.mono ?_
  rintro _ _ ⟨rfl, k, rfl, hk⟩
  refine sS0 ?_
  exact hR _ _ (sB) (eqB (by simp only [decide_eq_true_eq]; exact hk))
noncomputable def ruleB (vars : Int) (r : RuleS) : Bool := @decide (RuleOk vars r) (Classical.propDecidable _)
theorem ruleB_iff (vars : Int) (r : RuleS) : ruleB vars r = true ↔ RuleOk vars r := by unfold ruleB; exact @decide_eq_true_iff _ (Classical.propDecidable _)
def SysSz (s : SysS) : Prop := s.vars.length ≤ 1048576 ∧ s.rules.length ≤ 1048576 ∧ ∀ r ∈ s.rules, r.sets.length ≤ 1048576
theorem t_impSystemValid {v : V} {s : SysS} (hv : isSys s v) (hsz : SysSz s) : VCall Try.prog n_impl_SystemValid [v] M (fun r' M' => M = M' ∧ r' = .sc (.bool (sysB s))) := by
  refine VCall.pure fun R hR => v_impl_SystemValid rfl ?_
  obtain ⟨a, b, rfl, ha, hb⟩ := hv
  have bad : ¬ SysOk s → sysB s = false := fun h => by
    cases hq : sysB s with
    | false => rfl
    | true => exact absurd ((sysB_iff s).1 hq) h
  have h1 : ∀ (M : MH), ∀ x ∈ s.vars, VCall Try.prog n_impl_SystemValid_1 (.agg (encVar x) :: []) M (fun r M' => M = M' ∧ r = .sc (.bool (!decide (VarOk x)))) := by
    intro M x _
    refine VCall.pure fun R hR => v_impl_SystemValid_1 rfl ?_
    simp (maxSteps := 2000000) (disch := first | omega | assumption | exact idP rfl | exact idP (bL rfl)) only [go_sem, reduceIte, Nat.reduceEqDiff, wpV_kd, wpV_tH, encVar]
    intro b1 hb1
    refine (t_varOk (v := x)).mono ?_
    rintro _ _ ⟨rfl, rfl⟩
    refine sS0 ?_
    exact hR _ _ (sB) (by rw [decide_not])
  (repeat' (first | ((with_reducible first | refine cond_dec (fun h => ?_) (fun h => ?_) | refine guardK_dec (fun h => ?_) (fun h => ?_) | refine guardD3_dec (fun h => ?_) (fun h => ?_)) <;> first | (exfalso; omega) | (simp (maxSteps := 2000000) (disch := first | omega | assumption | exact idP rfl | exact idP (bL rfl)) only [go_sem, reduceIte, Nat.reduceEqDiff, wpV_kd, wpV_tH, h, ha.len, hb.len]) | skip) | ((with_reducible first | refine cond_split (fun h => ?_) (fun h => ?_) | refine guardK_split (fun h => ?_) (fun h => ?_) | refine guardD3_split (fun h => ?_) (fun h => ?_)) <;> ((try simp only [Bool.not_eq_true', Bool.not_eq_false'] at h); first | (simp (maxSteps := 2000000) (disch := first | omega | assumption | exact idP rfl | exact idP (bL rfl)) only [go_sem, reduceIte, Nat.reduceEqDiff, wpV_kd, wpV_tH, h, ha.len, hb.len]) | skip)) | ((with_reducible refine (t_in).mono ?_); rintro _ _ ⟨rfl, rfl⟩) | (with_reducible intro bk hbk; try have hnk := (fresh_set hbk).1) | (simp (maxSteps := 2000000) (disch := first | omega | assumption | exact idP rfl | exact idP (bL rfl)) only [go_sem, reduceIte, Nat.reduceEqDiff, wpV_kd, wpV_tH, ha.len, hb.len])))
  all_goals try (exact hR _ _ (sB) (by rw [bad fun hs => by have := hs.v1; have := hs.v5; have := hs.r8; omega]))
  · refine (t_IndexVar ha hsz.1 (h1 _)).mono ?_
    rintro _ _ ⟨rfl, rfl⟩
    cases hany : s.vars.any (fun x => !decide (VarOk x)) with
    | true =>
      (repeat' (first | ((with_reducible first | refine cond_dec (fun h => ?_) (fun h => ?_) | refine guardK_dec (fun h => ?_) (fun h => ?_) | refine guardD3_dec (fun h => ?_) (fun h => ?_)) <;> first | (exfalso; omega) | (simp (maxSteps := 2000000) (disch := first | omega | assumption | exact idP rfl | exact idP (bL rfl)) only [go_sem, reduceIte, Nat.reduceEqDiff, wpV_kd, wpV_tH, h]) | skip) | ((with_reducible first | refine cond_split (fun h => ?_) (fun h => ?_) | refine guardK_split (fun h => ?_) (fun h => ?_) | refine guardD3_split (fun h => ?_) (fun h => ?_)) <;> ((try simp only [Bool.not_eq_true', Bool.not_eq_false'] at h); first | (simp (maxSteps := 2000000) (disch := first | omega | assumption | exact idP rfl | exact idP (bL rfl)) only [go_sem, reduceIte, Nat.reduceEqDiff, wpV_kd, wpV_tH, h]) | skip)) | (with_reducible intro bk hbk; try have hnk := (fresh_set hbk).1) | (simp (maxSteps := 2000000) (disch := first | omega | assumption | exact idP rfl | exact idP (bL rfl)) only [go_sem, reduceIte, Nat.reduceEqDiff, wpV_kd, wpV_tH])))
      all_goals refine hR _ _ (sB) ?_
      all_goals rw [bad fun hs => by
        obtain ⟨x, hx, hpx⟩ := List.any_eq_true.1 hany
        have := hs.vars x hx
        simp [this] at hpx]
    | false =>
      have hvars : ∀ x ∈ s.vars, VarOk x := fun x hx => by
        have := List.any_eq_false.1 hany x hx
        simpa using this
      (repeat' (first | ((with_reducible first | refine cond_dec (fun h => ?_) (fun h => ?_) | refine guardK_dec (fun h => ?_) (fun h => ?_) | refine guardD3_dec (fun h => ?_) (fun h => ?_)) <;> first | (exfalso; omega) | (simp (maxSteps := 2000000) (disch := first | omega | assumption | exact idP rfl | exact idP (bL rfl)) only [go_sem, reduceIte, Nat.reduceEqDiff, wpV_kd, wpV_tH, h]) | skip) | ((with_reducible first | refine cond_split (fun h => ?_) (fun h => ?_) | refine guardK_split (fun h => ?_) (fun h => ?_) | refine guardD3_split (fun h => ?_) (fun h => ?_)) <;> ((try simp only [Bool.not_eq_true', Bool.not_eq_false'] at h); first | (simp (maxSteps := 2000000) (disch := first | omega | assumption | exact idP rfl | exact idP (bL rfl)) only [go_sem, reduceIte, Nat.reduceEqDiff, wpV_kd, wpV_tH, h]) | skip)) | ((with_reducible refine (t_impSize ha hvars (by omega)).mono ?_); rintro _ _ ⟨rfl, rfl⟩) | (with_reducible intro bk hbk; try have hnk := (fresh_set hbk).1) | (simp (maxSteps := 2000000) (disch := first | omega | assumption | exact idP rfl | exact idP (bL rfl)) only [go_sem, reduceIte, Nat.reduceEqDiff, wpV_kd, wpV_tH])))
      · exact hR _ _ (sB) (by rw [bad fun hs => by have := hs.size; omega])
      · have h2 : ∀ x ∈ s.rules, ∀ cs, isRule x cs → VCall Try.prog n_impl_SystemValid_2 (.agg cs :: [.sc (.ptr (some (bk, 0)))]) (M.set bk [a, b]) (fun r M' => (M.set bk [a, b]) = M' ∧ r = .sc (.bool (!ruleB (s.vars.length : Int) x))) := by
          rintro x hx cs ⟨c1, c2, c3, rfl, q1, q2, q3⟩
          refine VCall.pure fun R hR => v_impl_SystemValid_2 rfl ?_
          refine sS0 ?_
          intro b2 hb2
          have hne := (fresh_set hb2).1
          refine sS1 @ha.len ?_
          refine (t_ruleOk q1 q2 q3 (by omega) (by omega) (hsz.2.2 x hx)).mono ?_
          rintro _ _ ⟨rfl, t, rfl, ht⟩
          refine sS0 ?_
          exact hR _ _ (sB) (by rw [eq_of_iff (ht.trans (ruleB_iff _ _).symm)])
        refine (t_IndexRule hb hsz.2.1 h2).mono ?_
        rintro _ _ ⟨rfl, rfl⟩
        refine sS0 ?_
        refine hR _ _ (sB) ?_
        congr 2
        refine eq_of_iff ?_
        rw [sysB_iff, Bool.not_eq_true', List.any_eq_false]
        constructor
        · intro h
          exact ⟨by omega, by omega, by omega, hvars, fun r hr => by have := h r hr; simpa [ruleB_iff] using this, by omega⟩
        · intro hs r hr
          simp [(ruleB_iff _ _).2 (hs.rules r hr)]
end Go.M2

namespace Go.M2
open Go.Proofs
variable {M : MH}
structure DoOk (op a b : Int) : Prop where
  o2 : 2 ≤ op
  o9 : op ≤ 9
  a1 : -9999 ≤ a
  a2 : a ≤ 9999
  b1 : -9999 ≤ b
  b2 : b ≤ 9999
  tr : 8 ≤ op → (a = 0 ∨ a = 1) ∧ (b = 0 ∨ b = 1)
theorem mul_bd {a b : Int} (a1 : -9999 ≤ a) (a2 : a ≤ 9999) (b1 : -9999 ≤ b) (b2 : b ≤ 9999) : -99980001 ≤ a * b ∧ a * b ≤ 99980001 := by
  have h1 : (a * b).natAbs = a.natAbs * b.natAbs := Int.natAbs_mul a b
  have h2 : a.natAbs * b.natAbs ≤ 9999 * 9999 := Nat.mul_le_mul (by omega) (by omega)
  omega
theorem t_l1Do {op a b : Int} (h : DoOk op a b) : VCall Try.prog n_spec_l1Do [.sc (.int .i64 op), .sc (.int .i64 a), .sc (.int .i64 b)] M (fun r M' => M = M' ∧ r = .sc (.int .i64 (do1 op a b))) := by
  refine VCall.pure fun R hR => v_spec_l1Do rfl ?_
  obtain ⟨o2, o9, a1, a2, b1, b2, tr⟩ := h
  have hm := mul_bd a1 a2 b1 b2
  (repeat' (first | ((with_reducible first | refine cond_dec (fun h => ?_) (fun h => ?_) | refine guardK_dec (fun h => ?_) (fun h => ?_) | refine guardD3_dec (fun h => ?_) (fun h => ?_)) <;> first | (exfalso; omega) | (simp (maxSteps := 2000000) (disch := first | omega | assumption | exact idP rfl | exact idP (bL rfl)) only [go_sem, reduceIte, Nat.reduceEqDiff, wpV_kd, wpV_tH, h]) | skip) | ((with_reducible first | refine cond_split (fun h => ?_) (fun h => ?_) | refine guardK_split (fun h => ?_) (fun h => ?_) | refine guardD3_split (fun h => ?_) (fun h => ?_)) <;> ((try simp only [Bool.not_eq_true', Bool.not_eq_false'] at h); first | (simp (maxSteps := 2000000) (disch := first | omega | assumption | exact idP rfl | exact idP (bL rfl)) only [go_sem, reduceIte, Nat.reduceEqDiff, wpV_kd, wpV_tH, h]) | skip)) | ((with_reducible refine (t_l1Held).mono ?_); rintro _ _ ⟨rfl, rfl⟩) | ((with_reducible refine (t_l1Truth).mono ?_); rintro _ _ ⟨rfl, rfl⟩) | (with_reducible intro bk hbk; try have hnk := (fresh_set hbk).1) | (simp (maxSteps := 2000000) (disch := first | omega | assumption | exact idP rfl | exact idP (bL rfl)) only [go_sem, reduceIte, Nat.reduceEqDiff, wpV_kd, wpV_tH])))
  all_goals refine hR _ _ (sB) (eqI ?_)
  all_goals unfold do1
  all_goals try (simp (config := { decide := true }) only [*, if_true, if_false]; done)
  all_goals simp only [*, decide_eq_true_eq, if_false, if_true, if_pos, if_neg, not_false_eq_true]
  all_goals try (simp; done)
  all_goals first
    | (obtain ⟨h1 | h1, h2 | h2⟩ := tr (by omega) <;> subst h1 h2 <;> first | decide | simp)
    | skip
theorem DoOk.of {vars : Int} {ts : List TermS} {ks state : List Int} {i : Nat} (hk : kindsGo vars ts [] = some ks) (hs : stOk state) (hv : vars ≤ (state.length : Int)) (hi : i < ts.length) (h0 : ¬ ts[i].op = 0) (h1 : ¬ ts[i].op = 1) :
    DoOk ts[i].op (ix (valsF state (ts.take i)) ts[i].a) (ix (valsF state (ts.take i)) ts[i].b) ∧ (0 ≤ ts[i].a ∧ ts[i].a < i) ∧ (0 ≤ ts[i].b ∧ ts[i].b < i) := by
  obtain ⟨hl, hat⟩ := kindsGo_at hk
  obtain ⟨q1, q2⟩ := hat i hi (by omega)
  have q3 : kind1 vars ts[i] (ks.take i) ≠ 0 := by rw [q1]; exact q2
  unfold kind1 at q3
  rw [if_neg h0, if_neg h1] at q3
  split at q3
  · rename_i hc
    obtain ⟨c1, c2, c3, c4, c5, c6, c7, c8⟩ := hc
    have hkl : (ks.take i).length = i := by simp; omega
    rw [hkl] at c4 c5
    have hkt : kindsGo vars (ts.take i) [] = some (ks.take i) := by
      have e := hk
      rw [← List.take_append_drop i ts, kindsGo_append] at e
      cases h2 : kindsGo vars (ts.take i) [] with
      | none => rw [h2] at e; cases e
      | some ks0 =>
        rw [h2] at e
        have h3 := (kindsGo_len (show kindsGo vars (ts.drop i) ks0 = some ks from e)).2
        have h4 := (kindsGo_len h2).1
        simp at h4
        rw [show ks0.length = i by omega] at h3
        rw [h3]
    have V := vals_ok hs hv _ (l := ts.take i) (ks := ks.take i) rfl hkt
    have hvl : (valsF state (ts.take i)).length = i := by rw [valsF_len]; simp; omega
    obtain ⟨ha, ea⟩ := ix_eq (l := valsF state (ts.take i)) (i := ts[i].a) c4.1 (by omega)
    obtain ⟨hb, eb⟩ := ix_eq (l := valsF state (ts.take i)) (i := ts[i].b) c5.1 (by omega)
    obtain ⟨ha', ea'⟩ := ix_eq (l := ks.take i) (i := ts[i].a) c4.1 (by omega)
    obtain ⟨hb', eb'⟩ := ix_eq (l := ks.take i) (i := ts[i].b) c5.1 (by omega)
    have A := V _ ha ha'
    have B := V _ hb hb'
    rw [← ea, ← ea', c6] at A
    rw [← eb, ← eb', c7] at B
    refine ⟨⟨c1, c2, A.1, A.2.1, B.1, B.2.1, fun h8 => ?_⟩, c4, c5⟩
    unfold wantK at A B
    rw [if_pos (by omega)] at A B
    have A2 := A.2.2 rfl
    have B2 := B.2.2 rfl
    omega
  · exact absurd rfl q3
theorem varOk_of {vars : Int} {ts : List TermS} {ks : List Int} {i : Nat} (hk : kindsGo vars ts [] = some ks) (hi : i < ts.length) (h1 : ts[i].op = 1) : 0 ≤ ts[i].n ∧ ts[i].n < vars := by
  obtain ⟨hl, hat⟩ := kindsGo_at hk
  obtain ⟨q1, q2⟩ := hat i hi (by omega)
  have q3 : kind1 vars ts[i] (ks.take i) ≠ 0 := by rw [q1]; exact q2
  unfold kind1 at q3
  rw [if_neg (by omega), if_pos h1] at q3
  split at q3
  · rename_i hc; exact ⟨hc.1, hc.2.1⟩
  · exact absurd rfl q3
theorem t_l1Values {v w : V} {ts : List TermS} {state ks : List Int} {vars : Int} (hv : LT v ts) (hw : LI w state) (hk : kindsF vars ts = some ks) (hs : stOk state) (hvs : vars ≤ (state.length : Int)) :
    VCall Try.prog n_spec_l1Values [v, w] M (fun r M' => Gr 1 M M' r ((valsF state ts).map vi)) := by
  obtain ⟨_, _, k1, k2, hk, _⟩ := kindsF_some hk
  refine VCall.plain fun R hR => v_spec_l1Values rfl ?_
  (repeat' (first | ((with_reducible first | refine cond_dec (fun h => ?_) (fun h => ?_) | refine guardK_dec (fun h => ?_) (fun h => ?_) | refine guardD3_dec (fun h => ?_) (fun h => ?_)) <;> first | (exfalso; omega) | (simp (maxSteps := 2000000) (disch := first | omega | assumption | exact idP rfl | exact idP (bL rfl)) only [go_sem, reduceIte, Nat.reduceEqDiff, wpV_kd, wpV_tH, h]) | skip) | ((with_reducible first | refine cond_split (fun h => ?_) (fun h => ?_) | refine guardK_split (fun h => ?_) (fun h => ?_) | refine guardD3_split (fun h => ?_) (fun h => ?_)) <;> ((try simp only [Bool.not_eq_true', Bool.not_eq_false'] at h); first | (simp (maxSteps := 2000000) (disch := first | omega | assumption | exact idP rfl | exact idP (bL rfl)) only [go_sem, reduceIte, Nat.reduceEqDiff, wpV_kd, wpV_tH, h]) | skip)) | (with_reducible intro bk hbk; try have hnk := (fresh_set hbk).1) | (simp (maxSteps := 2000000) (disch := first | omega | assumption | exact idP rfl | exact idP (bL rfl)) only [go_sem, reduceIte, Nat.reduceEqDiff, wpV_kd, wpV_tH])))
  refine loop_k (fun e M' => ∃ i : Nat, i ≤ ts.length ∧ e 0 = v ∧ e 1 = w ∧ e 6 = .sc (.int .i64 i) ∧ Gr 1 M M' (e 5) ((valsF state (ts.take i)).map vi)) (fun e _ => ctrV ts.length (e 6)) ?_ ?_
  · exact ⟨0, by omega, sT0, sT0, by refine sS0 ?_; rfl, by refine sS0 ?_; exact Gr.new' (Sub.refl _) (by assumption) rfl⟩
  · rintro e M1 ⟨i, hi, e0, e1, e6, hg⟩ K hK
    refine sS4 @e0 @e1 @e6 @hv.len ?_
    refine cond_dec (fun h => ?_) (fun h => ?_)
    · have hi' : i < ts.length := by omega
      have hvl : (valsF state (ts.take i)).length = i := by rw [valsF_len]; simp; omega
      have fin : ∀ s' M', Gr 1 M M' s' ((valsF state (ts.take i) ++ [val1 state ts[i] (valsF state (ts.take i))]).map vi) → Gr 1 M M' s' ((valsF state (ts.take (i + 1))).map vi) := fun s' M' h => by rw [valsF_take hi']; exact h
      simp (maxSteps := 2000000) (disch := first | omega | assumption | exact idP rfl | exact idP (bL rfl)) only [go_sem, reduceIte, Nat.reduceEqDiff, wpV_kd, wpV_tH, e0, e1, e6, hv.iaddr, LT.at hv hi', encT_eq]
      intro b7 hb7
      have hg1 := hg.more ((Sub.refl M1).set (l := [.sc (.int .i64 ts[i].op), .sc (.int .i64 ts[i].n), .sc (.int .i64 ts[i].a), .sc (.int .i64 ts[i].b)]) hb7)
      refine cond_dec (fun h0 => ?_) (fun h0 => ?_)
      · refine sS0 ?_
        intro bt hbt
        refine app_int hg1 hbt (by omega) (by omega) ?_
        intro s' M' hg' _
        refine sS0 ?_
        refine hK _ _ ⟨i + 1, by omega, sT0, sT0, by refine sS0 ?_; rfl, ?_⟩ (by refine sS2 @ctrV_int @e6 ?_; omega)
        refine sS0 ?_
        refine fin _ _ ?_
        rw [show val1 state ts[i] (valsF state (ts.take i)) = ts[i].n by simp [val1, h0]]
        exact hg'
      · refine sS0 ?_
        refine cond_dec (fun h1 => ?_) (fun h1 => ?_)
        · have hn := varOk_of hk hi' h1
          refine sS2 @hw.iaddr @hw.ix ?_
          intro bt hbt
          refine app_int hg1 hbt (by omega) (by omega) ?_
          intro s' M' hg' _
          refine sS0 ?_
          refine hK _ _ ⟨i + 1, by omega, sT0, sT0, by refine sS0 ?_; rfl, ?_⟩ (by refine sS2 @ctrV_int @e6 ?_; omega)
          refine sS0 ?_
          refine fin _ _ ?_
          rw [show val1 state ts[i] (valsF state (ts.take i)) = ix state ts[i].n by simp [val1, h0, h1]]
          exact hg'
        · obtain ⟨hd, ha, hb⟩ := DoOk.of hk hs hvs hi' h0 h1
          have hat := hg1.at (by rw [len_vi]; omega)
          have hne : oB (e 5) ≠ b7 := fun hh => by
            have := hg.at (by rw [len_vi]; omega)
            rw [hh, hb7] at this; cases this
          rw [set_ne hne] at hat
          have hia : ∀ {k : IntKind} {a : Int}, 0 ≤ a → a < (i : Int) → iaddrV 1 (e 5) (.int k a) = some (.sc (.ptr (some (oB (e 5), a.toNat)))) := fun q1 q2 => hg.own.iaddr q1 (by rw [len_vi, hvl]; exact q2)
          simp (maxSteps := 2000000) (disch := first | omega | assumption | exact idP rfl | exact idP (bL rfl)) only [go_sem, reduceIte, Nat.reduceEqDiff, wpV_kd, wpV_tH, hia, hat, nth_ix]
          refine (t_l1Do hd).mono ?_
          rintro _ _ ⟨rfl, rfl⟩
          simp (maxSteps := 2000000) (disch := first | omega | assumption | exact idP rfl | exact idP (bL rfl)) only [go_sem, reduceIte, Nat.reduceEqDiff, wpV_kd, wpV_tH, hia, hat, nth_ix]
          intro bt hbt
          refine app_int hg1 hbt (by omega) (by omega) ?_
          intro s' M' hg' _
          refine sS0 ?_
          refine hK _ _ ⟨i + 1, by omega, sT0, sT0, by refine sS0 ?_; rfl, ?_⟩ (by refine sS2 @ctrV_int @e6 ?_; omega)
          refine sS0 ?_
          refine fin _ _ ?_
          rw [show val1 state ts[i] (valsF state (ts.take i)) = do1 ts[i].op (ix (valsF state (ts.take i)) ts[i].a) (ix (valsF state (ts.take i)) ts[i].b) by simp [val1, h0, h1]]
          exact hg'
    · obtain rfl : i = ts.length := by omega
      rw [List.take_length] at hg
      refine sS0 ?_
      exact hR _ _ hg
theorem f_l1Values {v w : V} {ts : List TermS} {state ks : List Int} {vars : Int} (hv : LT v ts) (hw : LI w state) (hk : kindsF vars ts = some ks) (hs : stOk state) (hvs : vars ≤ (state.length : Int)) :
    VCall Try.prog n_spec_l1Values [v, w] M (fun r M' => M = M' ∧ LI r (valsF state ts)) := (VCall.fr1 (t_l1Values hv hw hk hs hvs)).mono fun r M' ⟨h1, h2⟩ => ⟨h1, h2.li⟩
theorem evalF_eq {ts : List TermS} {state : List Int} (h : 0 < ts.length) : evalF ts state = (valsF state ts)[ts.length - 1]'(by rw [valsF_len]; omega) := by
  unfold evalF
  rw [getLastD_eq (by rw [valsF_len]; exact h)]
  congr 1
  rw [valsF_len]
theorem t_l2Last {v w : V} {ts : List TermS} {state ks : List Int} {vars : Int} (hv : LT v ts) (hw : LI w state) (hk : kindsF vars ts = some ks) (hs : stOk state) (hvs : vars ≤ (state.length : Int)) :
    VCall Try.prog n_spec_l2Last [v, w] M (fun r M' => M = M' ∧ r = .sc (.int .i64 (evalF ts state))) := by
  obtain ⟨_, _, k1, k2, _, _⟩ := kindsF_some hk
  refine VCall.pure fun R hR => v_spec_l2Last rfl ?_
  refine sS0 ?_
  refine (f_l1Values hv hw hk hs hvs).mono ?_
  rintro r _ ⟨rfl, hr⟩
  have e1 : ((ts.length : Int) - 1).toNat = ts.length - 1 := by omega
  have hl := valsF_len state ts
  refine sS4 @hv.len @hr.iaddr @e1 @hr.at ?_
  exact hR _ _ (sB) (by rw [evalF_eq (by omega)])
end Go.M2

namespace Go.M2
open Go.Proofs
variable {M : MH}
theorem t_l2In {a b w : V} {vars : List VarS} {st : List Int} (ha : LVar a vars) (hw : LI w st) (hvl : vars.length ≤ 5) : VCall Try.prog n_spec_l2In [.agg [a, b], w] M (fun r M' => M = M' ∧ r = .sc (.bool (inB vars st))) := by
  refine VCall.pure fun R hR => v_spec_l2In rfl ?_
  (repeat' (first | ((with_reducible first | refine cond_dec (fun h => ?_) (fun h => ?_) | refine guardK_dec (fun h => ?_) (fun h => ?_) | refine guardD3_dec (fun h => ?_) (fun h => ?_)) <;> first | (exfalso; omega) | (simp (maxSteps := 2000000) (disch := first | omega | assumption | exact idP rfl | exact idP (bL rfl)) only [go_sem, reduceIte, Nat.reduceEqDiff, wpV_kd, wpV_tH, h, ha.len, hw.len]) | skip) | ((with_reducible first | refine cond_split (fun h => ?_) (fun h => ?_) | refine guardK_split (fun h => ?_) (fun h => ?_) | refine guardD3_split (fun h => ?_) (fun h => ?_)) <;> ((try simp only [Bool.not_eq_true', Bool.not_eq_false'] at h); first | (simp (maxSteps := 2000000) (disch := first | omega | assumption | exact idP rfl | exact idP (bL rfl)) only [go_sem, reduceIte, Nat.reduceEqDiff, wpV_kd, wpV_tH, h, ha.len, hw.len]) | skip)) | (with_reducible intro bk hbk; try have hnk := (fresh_set hbk).1) | (simp (maxSteps := 2000000) (disch := first | omega | assumption | exact idP rfl | exact idP (bL rfl)) only [go_sem, reduceIte, Nat.reduceEqDiff, wpV_kd, wpV_tH, ha.len, hw.len])))
  · refine hR _ _ (sB) ?_
    rw [(inB_false _ _).2 (fun hh => by have := hh.1; omega)]
  · have hlen : st.length = vars.length := by omega
    refine loop_k (fun e M' => M' = M.set bk [a, b] ∧ ∃ i : Nat, i ≤ st.length ∧ e 1 = w ∧ e 2 = .sc (.ptr (some (bk, 0))) ∧ e 5 = .sc (.int .i64 i) ∧ ∀ j (hj : j < vars.length) (h2 : j < st.length), j < i → vars[j].low ≤ st[j] ∧ st[j] ≤ vars[j].high) (fun e _ => ctrV st.length (e 5)) ?_ ?_
    · exact ⟨rfl, 0, by omega, sT0, sT0, by refine sS0 ?_; rfl, fun j _ _ h => by omega⟩
    · rintro e _ ⟨rfl, i, hi, e1, e2, e5, hj⟩ K hK
      refine sS4 @e1 @e2 @e5 @hw.len ?_
      refine cond_dec (fun h => ?_) (fun h => ?_)
      · have hi' : i < vars.length := by omega
        have hi2 : i < st.length := by omega
        (repeat' (first | ((with_reducible first | refine cond_dec (fun h => ?_) (fun h => ?_) | refine guardK_dec (fun h => ?_) (fun h => ?_) | refine guardD3_dec (fun h => ?_) (fun h => ?_)) <;> first | (exfalso; omega) | (simp (maxSteps := 2000000) (disch := first | omega | assumption | exact idP rfl | exact idP (bL rfl)) only [go_sem, reduceIte, Nat.reduceEqDiff, wpV_kd, wpV_tH, h, e1, e2, e5, ha.iaddr, LVar.at ha hi', hw.iaddr, LI.at hw hi2]) | skip) | ((with_reducible first | refine cond_split (fun h => ?_) (fun h => ?_) | refine guardK_split (fun h => ?_) (fun h => ?_) | refine guardD3_split (fun h => ?_) (fun h => ?_)) <;> ((try simp only [Bool.not_eq_true', Bool.not_eq_false'] at h); first | (simp (maxSteps := 2000000) (disch := first | omega | assumption | exact idP rfl | exact idP (bL rfl)) only [go_sem, reduceIte, Nat.reduceEqDiff, wpV_kd, wpV_tH, h, e1, e2, e5, ha.iaddr, LVar.at ha hi', hw.iaddr, LI.at hw hi2]) | skip)) | ((with_reducible refine (t_l1In).mono ?_); rintro _ _ ⟨rfl, rfl⟩) | (with_reducible intro bk hbk; try have hnk := (fresh_set hbk).1) | (simp (maxSteps := 2000000) (disch := first | omega | assumption | exact idP rfl | exact idP (bL rfl)) only [go_sem, reduceIte, Nat.reduceEqDiff, wpV_kd, wpV_tH, e1, e2, e5, ha.iaddr, LVar.at ha hi', hw.iaddr, LI.at hw hi2])))
        · refine hR _ _ (sB) ?_
          rw [(inB_false _ _).2 (fun hh => by have := hh.2 i hi' hi2; omega)]
        · refine hK _ _ ⟨rfl, i + 1, by omega, sT0, sT0, by refine sS0 ?_; rfl, fun j hj1 hj2 hj3 => ?_⟩ (by refine sS2 @ctrV_int @e5 ?_; omega)
          by_cases hji : j = i
          · subst hji; omega
          · exact hj j hj1 hj2 (by omega)
      · refine sS0 ?_
        refine hR _ _ (sB) ?_
        rw [(inB_iff _ _).2 ⟨hlen, fun j h1 h2 => hj j h1 h2 (by omega)⟩]
end Go.M2

namespace Go.M2
open Go.Proofs
variable {M : MH}
theorem getD_eq {α : Type} {l : List α} {i : Nat} {d : α} (h : i < l.length) : l.getD i d = l[i] := by simp [List.getD, h]
def lRes (r : V) : Option (List Int) → Prop
  | none => r = .sc (.sl none 0 0 true 0)
  | some xs => LI r xs
theorem kind_some {vars kind : Int} {ts : List TermS} (h : kindIs vars kind ts = true) : ∃ ks, kindsF vars ts = some ks := by
  unfold kindIs at h
  split at h
  · exact ⟨_, by assumption⟩
  · cases h
theorem t_l2Use {v w : V} {s : SysS} {st : List Int} {k : Nat} (hv : isSys s v) (hs : SysOk s) (hw : LI w st) (hin : StIn s.vars st) (hk : k < s.rules.length) :
    VCall Try.prog n_spec_l2Use [v, w, .sc (.int .i64 k)] M (fun r M' => M = M' ∧ lRes r (useR s.vars s.rules[k] st)) := by
  refine VCall.froz fun R hP hG => v_spec_l2Use rfl ?_
  obtain ⟨a, b, rfl, ha, hb⟩ := hv
  obtain ⟨x, y, z, hat, hx, hy, hz⟩ := hb.elt hk
  have h1 := hs.v1
  have h5 := hs.v5
  have hl := hin.1
  have hok := hin.ok hs
  obtain ⟨hw2, hst, hsets⟩ := hs.rules _ (List.getElem_mem hk)
  obtain ⟨kw, hkw⟩ := kind_some hw2
  have hx1 := hx.one.1
  have hy1 := hy.one.1
  have hz1 := hz.one.1
  (repeat' (first | ((with_reducible first | refine cond_dec (fun h => ?_) (fun h => ?_) | refine guardK_dec (fun h => ?_) (fun h => ?_) | refine guardD3_dec (fun h => ?_) (fun h => ?_)) <;> first | (exfalso; omega) | (simp (maxSteps := 2000000) (disch := first | omega | assumption | exact idP rfl | exact idP (bL rfl)) only [go_sem, reduceIte, Nat.reduceEqDiff, wpV_kd, wpV_tH, h, hb.len, hb.iaddr, hat]) | skip) | ((with_reducible first | refine cond_split (fun h => ?_) (fun h => ?_) | refine guardK_split (fun h => ?_) (fun h => ?_) | refine guardD3_split (fun h => ?_) (fun h => ?_)) <;> ((try simp only [Bool.not_eq_true', Bool.not_eq_false'] at h); first | (simp (maxSteps := 2000000) (disch := first | omega | assumption | exact idP rfl | exact idP (bL rfl)) only [go_sem, reduceIte, Nat.reduceEqDiff, wpV_kd, wpV_tH, h, hb.len, hb.iaddr, hat]) | skip)) | ((with_reducible refine (t_l2Last hx hw hkw hok (by omega)).mono ?_); rintro _ _ ⟨rfl, rfl⟩) | (with_reducible intro bk hbk; try have hnk := (fresh_set hbk).1) | (simp (maxSteps := 2000000) (disch := first | omega | assumption | exact idP rfl | exact idP (bL rfl)) only [go_sem, reduceIte, Nat.reduceEqDiff, wpV_kd, wpV_tH, hb.len, hb.iaddr, hat])))
  · refine hP _ _ (sB) ?_
    rename_i h
    simp only [useR, h, if_true, lRes]
  · rename_i b3 hb3 b7 hb7 hne7
    have hev := h
    refine loop_k (fun e M' => ∃ i : Nat, i ≤ st.length ∧ e 1 = w ∧ e 3 = .sc (.ptr (some (b3, 0))) ∧ e 7 = .sc (.ptr (some (b7, 0))) ∧ e 9 = .sc (.int .i64 i) ∧ Gr 1 ((M.set b3 [a, b]).set b7 [x, y, z]) M' (e 8) ((st.take i).map vi)) (fun e _ => ctrV st.length (e 9)) ?_ ?_
    · exact ⟨0, by omega, sT0, sT0, sT0, by refine sS0 ?_; rfl, by refine sS0 ?_; exact Gr.new' (Sub.refl _) hbk rfl⟩
    · rintro e M1 ⟨i, hi, e1, e3, e7, e9, hg⟩ K hK
      refine sS5 @e1 @e3 @e7 @e9 @hw.len ?_
      refine cond_dec (fun h => ?_) (fun h => ?_)
      · have hi' : i < st.length := by omega
        refine sS4 @e1 @e9 @hw.iaddr @hw.at ?_
        intro bt hbt
        refine app_int hg hbt (by simp; omega) (by omega) ?_
        intro s' M' hg' _
        refine sS0 ?_
        exact hK _ _ ⟨i + 1, by omega, sT0, sT0, sT0, by refine sS0 ?_; rfl, by refine sS0 ?_; rw [take_snoc hi']; exact hg'⟩ (by refine sS2 @ctrV_int @e9 ?_; omega)
      · obtain rfl : i = st.length := by omega
        rw [List.take_length] at hg
        refine sS0 ?_
        refine loop_k (fun e M' => ∃ i : Nat, i ≤ s.rules[k].sets.length ∧ e 1 = w ∧ e 3 = .sc (.ptr (some (b3, 0))) ∧ e 7 = .sc (.ptr (some (b7, 0))) ∧ e 10 = .sc (.int .i64 i) ∧ Gr 1 ((M.set b3 [a, b]).set b7 [x, y, z]) M' (e 8) ((setsF st s.rules[k].terms s.rules[k].sets i).map vi)) (fun e _ => ctrV s.rules[k].sets.length (e 10)) ?_ ?_
        · exact ⟨0, by omega, sT0, sT0, sT0, by refine sS0 ?_; rfl, by refine sS0 ?_; exact hg⟩
        · rintro e M2 ⟨i, hi, e1, e3, e7, e10, hg⟩ K2 hK2
          have hm3 : M2 b3 = some [a, b] := hg.sub _ _ (sT0)
          have hm7 : M2 b7 = some [x, y, z] := hg.sub _ _ (sT0)
          have hsl := setsF_len st s.rules[k].terms s.rules[k].sets i
          have hle := sets_le hsets (by omega)
          refine sS6 @e1 @e3 @e7 @e10 @hm7 @hy.len ?_
          refine cond_dec (fun h => ?_) (fun h => ?_)
          · have hi' : i < s.rules[k].sets.length := by omega
            have hi2 : i < s.rules[k].terms.length := by omega
            obtain ⟨ki, hki⟩ := kind_some (hsets.kind hi' hi2)
            have hset := (hsets i hi').1
            have hat8 := hg.at (by rw [len_vi]; omega)
            have hia : ∀ {k : IntKind} {a : Int}, 0 ≤ a → a < (st.length : Int) → iaddrV 1 (e 8) (.int k a) = some (.sc (.ptr (some (oB (e 8), a.toNat)))) := fun q1 q2 => hg.own.iaddr q1 (by rw [len_vi, hsl]; exact q2)
            have hso : s.rules[k].sets[i].toNat < ((setsF st s.rules[k].terms s.rules[k].sets i).map vi).length := by rw [len_vi]; omega
            simp (maxSteps := 2000000) (disch := first | omega | assumption | exact idP rfl | exact idP (bL rfl)) only [go_sem, reduceIte, Nat.reduceEqDiff, wpV_kd, wpV_tH, e1, e3, e7, e10, hm7, hy.iaddr, hy.at hi', hz.iaddr]
            refine (t_l2Last (hz.elt hi2) hw hki hok (by omega)).mono ?_
            rintro _ _ ⟨rfl, rfl⟩
            simp (maxSteps := 2000000) (disch := first | omega | assumption | exact idP rfl | exact idP (bL rfl)) only [go_sem, reduceIte, Nat.reduceEqDiff, wpV_kd, wpV_tH, e1, e3, e7, e10, hm7, hy.iaddr, hy.at hi', hz.iaddr, hia, hat8]
            refine hK2 _ _ ⟨i + 1, by omega, sT0, sT0, sT0, by refine sS0 ?_; rfl, ?_⟩ (by refine sS2 @ctrV_int @e10 ?_; omega)
            refine sS0 ?_
            have := hg.setO (l' := (setsF st s.rules[k].terms s.rules[k].sets (i + 1)).map vi) (by rw [len_vi]; omega) (by simp [setsF_len])
            simp only [setsF, getD_eq hi', getD_eq hi2] at this ⊢
            rw [← set_vi] at this ⊢
            exact this
          · obtain rfl : i = s.rules[k].sets.length := by omega
            refine sS1 @hm3 ?_
            refine (VCall.lend1 hg.own flat_eq fun u M' hu => t_l2In ha hu.li (by omega)).mono ?_
            rintro _ _ ⟨rfl, rfl⟩
            have hsub : Sub M ((M.set b3 [a, b]).set b7 [x, y, z]) := sB
            cases hib : inB s.vars (setsF st s.rules[k].terms s.rules[k].sets s.rules[k].sets.length) with
            | false =>
              refine sS0 ?_
              refine hP _ _ (hsub.trans hg.sub) ?_
              simp [useR, hev, hib, lRes]
            | true =>
              refine sS0 ?_
              refine hG _ _ 1 _ ⟨hsub.trans hg.sub, fun b' h' => hsub.none (hg.new b' h'), hg.own⟩ fun u hu => ?_
              have : useR s.vars s.rules[k] st = some (setsF st s.rules[k].terms s.rules[k].sets s.rules[k].sets.length) := by simp [useR, hev, hib]
              rw [this]
              exact hu.li
end Go.M2

namespace Go.M2
open Go.Proofs
variable {M : MH}
theorem t_do {op a b : Int} (h : DoOk op a b) : VCall Try.prog n_impl_do [.sc (.int .i64 op), .sc (.int .i64 a), .sc (.int .i64 b)] M (fun r M' => M = M' ∧ r = .sc (.int .i64 (do1 op a b))) := by
  refine VCall.pure fun R hR => v_impl_do rfl ?_
  obtain ⟨o2, o9, a1, a2, b1, b2, tr⟩ := h
  have hm := mul_bd a1 a2 b1 b2
  (repeat' (first | ((with_reducible first | refine cond_dec (fun h => ?_) (fun h => ?_) | refine guardK_dec (fun h => ?_) (fun h => ?_) | refine guardD3_dec (fun h => ?_) (fun h => ?_)) <;> first | (exfalso; omega) | (simp (maxSteps := 2000000) (disch := first | omega | assumption | exact idP rfl | exact idP (bL rfl)) only [go_sem, reduceIte, Nat.reduceEqDiff, wpV_kd, wpV_tH, h]) | skip) | ((with_reducible first | refine cond_split (fun h => ?_) (fun h => ?_) | refine guardK_split (fun h => ?_) (fun h => ?_) | refine guardD3_split (fun h => ?_) (fun h => ?_)) <;> ((try simp only [Bool.not_eq_true', Bool.not_eq_false'] at h); first | (simp (maxSteps := 2000000) (disch := first | omega | assumption | exact idP rfl | exact idP (bL rfl)) only [go_sem, reduceIte, Nat.reduceEqDiff, wpV_kd, wpV_tH, h]) | skip)) | ((with_reducible refine (t_held).mono ?_); rintro _ _ ⟨rfl, rfl⟩) | ((with_reducible refine (t_bit).mono ?_); rintro _ _ ⟨rfl, rfl⟩) | (with_reducible intro bk hbk; try have hnk := (fresh_set hbk).1) | (simp (maxSteps := 2000000) (disch := first | omega | assumption | exact idP rfl | exact idP (bL rfl)) only [go_sem, reduceIte, Nat.reduceEqDiff, wpV_kd, wpV_tH])))
  all_goals refine hR _ _ (sB) (eqI ?_)
  all_goals unfold do1
  all_goals try (simp (config := { decide := true }) only [*, if_true, if_false]; done)
  all_goals simp only [*, decide_eq_true_eq, if_false, if_true, if_pos, if_neg, not_false_eq_true]
  all_goals try (simp; done)
  all_goals rw [if_neg (by omega)]
theorem t_eval {v w : V} {ts : List TermS} {state ks : List Int} {vars : Int} (hv : LT v ts) (hw : LI w state) (hk : kindsF vars ts = some ks) (hs : stOk state) (hvs : vars ≤ (state.length : Int)) :
    VCall Try.prog n_impl_eval [v, w] M (fun r M' => M = M' ∧ r = .sc (.int .i64 (evalF ts state))) := by
  obtain ⟨_, _, k1, k2, hk, _⟩ := kindsF_some hk
  refine VCall.pure fun R hR => v_impl_eval rfl ?_
  refine sS1 @hv.len ?_
  refine mks3 (by omega) (by simp [mostCells]; omega) (by simp [mostCells]; omega) ?_
  intro b5 hb5
  simp (maxSteps := 2000000) (disch := first | omega | assumption | exact idP rfl | exact idP (bL rfl)) only [go_sem, reduceIte, Nat.reduceEqDiff, wpV_kd, wpV_tH, hv.len, zeros_vi]
  refine loop_k (fun e M' => Sub M M' ∧ ∃ i : Nat, i ≤ ts.length ∧ e 1 = w ∧ e 5 = .sc (.sl (some (b5, 0)) ts.length ts.length true 1) ∧ e 11 = v ∧ e 12 = .sc (.int .i64 ts.length) ∧ e 13 = .sc (.int .i64 i) ∧
    M' b5 = some ((valsF state (ts.take i) ++ List.replicate (ts.length - i) 0).map vi)) (fun e _ => ctrV ts.length (e 13)) ?_ ?_
  · exact ⟨(Sub.refl _).set hb5, 0, by omega, sT0, sT0, sT0, sT0, by refine sS0 ?_; rfl, by refine sS0 ?_; simp [valsF]⟩
  · rintro e M1 ⟨hsub, i, hi, e1, e5, e11, e12, e13, hm⟩ K hK
    have hvl : (valsF state (ts.take i)).length = i := by rw [valsF_len]; simp; omega
    have hll : (valsF state (ts.take i) ++ List.replicate (ts.length - i) 0).length = ts.length := by simp; omega
    refine sS2 @e12 @e13 ?_
    refine cond_dec (fun h => ?_) (fun h => ?_)
    · have hi' : i < ts.length := by omega
      have hso : i < ((valsF state (ts.take i) ++ List.replicate (ts.length - i) 0).map vi).length := by rw [len_vi]; omega
      have hset : ∀ x, x = val1 state ts[i] (valsF state (ts.take i)) → (valsF state (ts.take i) ++ List.replicate (ts.length - i) 0).set i x = valsF state (ts.take (i + 1)) ++ List.replicate (ts.length - (i + 1)) 0 := by
        rintro x rfl
        rw [valsF_take hi', show ts.length - i = (ts.length - (i + 1)) + 1 by omega, List.replicate_succ, List.set_append_right _ _ (by omega), hvl]
        simp
      have rd : ∀ {a : Int}, 0 ≤ a → a < (i : Int) → ((valsF state (ts.take i) ++ List.replicate (ts.length - i) 0).map vi)[a.toNat]? = some (.sc (.int .i64 (ix (valsF state (ts.take i)) a))) := fun {a} q1 q2 => by
        rw [List.map_append, nth_ix_app q1 (by omega)]
      simp (maxSteps := 2000000) (disch := first | omega | assumption | exact idP rfl | exact idP (bL rfl)) only [go_sem, reduceIte, Nat.reduceEqDiff, wpV_kd, wpV_tH, e1, e5, e11, e12, e13, hv.iaddr, LT.at hv hi', encT_eq]
      intro b7 hb7
      have hne : b5 ≠ b7 := fun hh => by subst hh; rw [hm] at hb7; cases hb7
      have fin : ∀ x cl, x = val1 state ts[i] (valsF state (ts.take i)) → ∀ e' : EnvV, e' 1 = w → e' 5 = .sc (.sl (some (b5, 0)) ts.length ts.length true 1) → e' 11 = v → e' 12 = .sc (.int .i64 ts.length) → e' 13 = .sc (.int .i64 ((i : Int) + 1)) → K e' ((M1.set b7 cl).set b5 (((valsF state (ts.take i) ++ List.replicate (ts.length - i) 0).set i x).map vi)) := by
        intro x cl hx e' g1 g5 g11 g12 g13
        refine hK _ _ ⟨?_, i + 1, by omega, g1, g5, g11, g12, g13, by rw [set_same, hset x hx]⟩ (by rw [g13, e13]; refine sS0 ?_; omega)
        refine Sub.set (sB) (by cases hq : M b5 with | none => rfl | some l => rw [hq] at hb5; cases hb5)
      refine cond_dec (fun h0 => ?_) (fun h0 => ?_)
      · simp (maxSteps := 2000000) (disch := first | omega | assumption | exact idP rfl | exact idP (bL rfl)) only [go_sem, reduceIte, Nat.reduceEqDiff, wpV_kd, wpV_tH, e5, hm, set_vi]
        exact fin _ _ (by simp [val1, h0]) _ (sT0) (sT0) (sT0) (sT0) (sT0)
      · refine sS0 ?_
        refine cond_dec (fun h1 => ?_) (fun h1 => ?_)
        · have hn := varOk_of hk hi' h1
          simp (maxSteps := 2000000) (disch := first | omega | assumption | exact idP rfl | exact idP (bL rfl)) only [go_sem, reduceIte, Nat.reduceEqDiff, wpV_kd, wpV_tH, e1, e5, hm, hw.iaddr, hw.ix, set_vi]
          exact fin _ _ (by simp [val1, h0, h1]) _ (sT0) (sT0) (sT0) (sT0) (sT0)
        · obtain ⟨hd, ha, hb⟩ := DoOk.of hk hs hvs hi' h0 h1
          refine sS3 @e5 @hm @rd ?_
          refine (t_do hd).mono ?_
          rintro _ _ ⟨rfl, rfl⟩
          simp (maxSteps := 2000000) (disch := first | omega | assumption | exact idP rfl | exact idP (bL rfl)) only [go_sem, reduceIte, Nat.reduceEqDiff, wpV_kd, wpV_tH, e5, hm, set_vi]
          exact fin _ _ (by simp [val1, h0, h1]) _ (sT0) (sT0) (sT0) (sT0) (sT0)
    · obtain rfl : i = ts.length := by omega
      rw [List.take_length] at hm
      simp only [Nat.sub_self, List.replicate_zero, List.append_nil] at hm
      have e1 : ((ts.length : Int) - 1).toNat = ts.length - 1 := by omega
      have hn := nth_vi (xs := valsF state ts) (i := ts.length - 1) (by rw [valsF_len]; omega)
      refine sS4 @e5 @hm @e1 @hn ?_
      exact hR _ _ hsub (by rw [evalF_eq (by omega)])
theorem t_inRange {a b w : V} {vars : List VarS} {st : List Int} (ha : LVar a vars) (hw : LI w st) (hvl : vars.length ≤ 5) : VCall Try.prog n_impl_inRange [.agg [a, b], w] M (fun r M' => M = M' ∧ r = .sc (.bool (inB vars st))) := by
  refine VCall.pure fun R hR => v_impl_inRange rfl ?_
  (repeat' (first | ((with_reducible first | refine cond_dec (fun h => ?_) (fun h => ?_) | refine guardK_dec (fun h => ?_) (fun h => ?_) | refine guardD3_dec (fun h => ?_) (fun h => ?_)) <;> first | (exfalso; omega) | (simp (maxSteps := 2000000) (disch := first | omega | assumption | exact idP rfl | exact idP (bL rfl)) only [go_sem, reduceIte, Nat.reduceEqDiff, wpV_kd, wpV_tH, h, ha.len, hw.len]) | skip) | ((with_reducible first | refine cond_split (fun h => ?_) (fun h => ?_) | refine guardK_split (fun h => ?_) (fun h => ?_) | refine guardD3_split (fun h => ?_) (fun h => ?_)) <;> ((try simp only [Bool.not_eq_true', Bool.not_eq_false'] at h); first | (simp (maxSteps := 2000000) (disch := first | omega | assumption | exact idP rfl | exact idP (bL rfl)) only [go_sem, reduceIte, Nat.reduceEqDiff, wpV_kd, wpV_tH, h, ha.len, hw.len]) | skip)) | (with_reducible intro bk hbk; try have hnk := (fresh_set hbk).1) | (simp (maxSteps := 2000000) (disch := first | omega | assumption | exact idP rfl | exact idP (bL rfl)) only [go_sem, reduceIte, Nat.reduceEqDiff, wpV_kd, wpV_tH, ha.len, hw.len])))
  · refine hR _ _ (sB) ?_
    rw [(inB_false _ _).2 (fun hh => by have := hh.1; omega)]
  · have hlen : st.length = vars.length := by omega
    refine loop_k (fun e M' => Sub M M' ∧ ∃ i : Nat, i ≤ st.length ∧ e 1 = w ∧ e 14 = a ∧ e 15 = .sc (.int .i64 vars.length) ∧ e 16 = .sc (.int .i64 i) ∧ ∀ j (hj : j < vars.length) (h2 : j < st.length), j < i → vars[j].low ≤ st[j] ∧ st[j] ≤ vars[j].high) (fun e _ => ctrV st.length (e 16)) ?_ ?_
    · exact ⟨sB, 0, by omega, sT0, sT0, sT0, by refine sS0 ?_; rfl, fun j _ _ h => by omega⟩
    · rintro e M1 ⟨hsub, i, hi, e1, e14, e15, e16, hj⟩ K hK
      refine sS2 @e15 @e16 ?_
      refine cond_dec (fun h => ?_) (fun h => ?_)
      · have hi' : i < vars.length := by omega
        have hi2 : i < st.length := by omega
        simp (maxSteps := 2000000) (disch := first | omega | assumption | exact idP rfl | exact idP (bL rfl)) only [go_sem, reduceIte, Nat.reduceEqDiff, wpV_kd, wpV_tH, e1, e14, e16, ha.iaddr, LVar.at ha hi']
        intro b6 hb6
        (repeat' (first | ((with_reducible first | refine cond_dec (fun h => ?_) (fun h => ?_) | refine guardK_dec (fun h => ?_) (fun h => ?_) | refine guardD3_dec (fun h => ?_) (fun h => ?_)) <;> first | (exfalso; omega) | (simp (maxSteps := 2000000) (disch := first | omega | assumption | exact idP rfl | exact idP (bL rfl)) only [go_sem, reduceIte, Nat.reduceEqDiff, wpV_kd, wpV_tH, h, e1, hw.iaddr, LI.at hw hi2]) | skip) | ((with_reducible first | refine cond_split (fun h => ?_) (fun h => ?_) | refine guardK_split (fun h => ?_) (fun h => ?_) | refine guardD3_split (fun h => ?_) (fun h => ?_)) <;> ((try simp only [Bool.not_eq_true', Bool.not_eq_false'] at h); first | (simp (maxSteps := 2000000) (disch := first | omega | assumption | exact idP rfl | exact idP (bL rfl)) only [go_sem, reduceIte, Nat.reduceEqDiff, wpV_kd, wpV_tH, h, e1, hw.iaddr, LI.at hw hi2]) | skip)) | ((with_reducible refine (t_in).mono ?_); rintro _ _ ⟨rfl, rfl⟩) | (with_reducible intro bk hbk; try have hnk := (fresh_set hbk).1) | (simp (maxSteps := 2000000) (disch := first | omega | assumption | exact idP rfl | exact idP (bL rfl)) only [go_sem, reduceIte, Nat.reduceEqDiff, wpV_kd, wpV_tH, e1, hw.iaddr, LI.at hw hi2])))
        · refine hR _ _ (sB) ?_
          rw [(inB_false _ _).2 (fun hh => by have := hh.2 i hi' hi2; omega)]
        · refine hK _ _ ⟨sB, i + 1, by omega, sT0, sT0, sT0, by refine sS0 ?_; rfl, fun j hj1 hj2 hj3 => ?_⟩ (by refine sS2 @ctrV_int @e16 ?_; omega)
          by_cases hji : j = i
          · subst hji; omega
          · exact hj j hj1 hj2 (by omega)
      · refine sS0 ?_
        refine hR _ _ hsub ?_
        rw [(inB_iff _ _).2 ⟨hlen, fun j h1 h2 => hj j h1 h2 (by omega)⟩]
theorem setAtG_all {α : Type} : ∀ (c z : List α) (o : Nat), o + c.length = z.length → setAtG z o c = z.take o ++ c
  | [], z, o, h => by
    simp only [setAtG, List.append_nil]
    rw [List.take_of_length_le (by simp at h; omega)]
  | x :: t, z, o, h => by
    simp only [setAtG]
    rw [setAtG_all t _ _ (by simp at h ⊢; omega)]
    simp at h
    rw [List.take_succ_eq_append_getElem (by simp; omega)]
    simp
    apply List.ext_getElem?
    intro i
    simp only [List.getElem?_take]
    split
    · rw [List.getElem?_set_ne (by omega)]
    · rfl
theorem t_cloneInt {v : V} {xs : List Int} (hv : LI v xs) (hl : xs.length ≤ 1048576) : VCall Try.prog n_impl_clone_int [v] M (fun r M' => Gr 1 M M' r (xs.map vi)) := by
  refine VCall.plain fun R hR => v_impl_clone_int rfl ?_
  refine sS1 @hv.len ?_
  refine cond_dec (fun h => ?_) (fun h => ?_)
  · refine sS0 ?_
    have : xs = [] := List.eq_nil_of_length_eq_zero (by omega)
    subst this
    exact hR _ _ (.nil (Sub.refl _))
  · refine sS1 @hv.len ?_
    refine mks3 (by omega) (by simp [mostCells]; omega) (by simp [mostCells]; omega) ?_
    intro b3 hb3
    have hcs := hv.cells (M := M.set b3 ((List.replicate xs.length (0 : Int)).map vi))
    rw [Nat.mul_one] at hcs
    simp (maxSteps := 2000000) (disch := first | omega | assumption | exact idP rfl | exact idP (bL rfl)) only [go_sem, reduceIte, Nat.reduceEqDiff, wpV_kd, wpV_tH, zeros_vi]
    simp only [copyV, hv.lenS, Nat.min_self, Nat.mul_one, hcs]
    rw [if_neg (by omega)]
    simp only [set_same, Nat.zero_add]
    refine ⟨by simp [vi, oneV, er, oneA], by simp, ?_⟩
    rw [setAtG_all _ _ _ (by simp)]
    refine sS0 ?_
    exact hR _ _ (Gr.new' (Sub.refl _) hb3 (by simp))
end Go.M2

namespace Go.M2
open Go.Proofs
variable {M : MH}
end Go.M2

namespace Go.M2
open Go.Proofs
variable {M : MH}
theorem slc_lo {b o n c : Nat} {ex : Bool} {k : IntKind} {a : Int} (h0 : 0 ≤ a) (h1 : a ≤ (n : Int)) (hc : a < (c : Int)) (hn : n ≤ c) :
    slcV 1 (some (.int k a)) none none (.sc (.sl (some (b, o)) n c ex 1)) = some (.sc (.sl (some (b, o + a.toNat)) (n - a.toNat) (c - a.toNat) ex 1)) := by
  simp only [slcV, slcF, bnds, natIn, Option.isSome_none, Bool.false_eq_true, if_false, h0, h1, and_self, if_true]
  rw [if_neg (by intro h; rcases h with h | h <;> omega), if_neg (by omega)]
  simp
theorem slc_hi {b o n c kk : Nat} {ex : Bool} {k : IntKind} {a : Int} (h0 : 0 ≤ a) (h1 : a ≤ (c : Int)) (hc : 0 < c) :
    slcV 1 none (some (.int k a)) none (.sc (.sl (some (b, o)) n c ex kk)) = some (.sc (.sl (some (b, o)) a.toNat c ex kk)) := by
  simp only [slcV, slcF, bnds, natIn, Option.isSome_none, Bool.false_eq_true, if_false, h0, h1, and_self, if_true]
  rw [if_neg (by intro h; rcases h with h | h <;> omega), if_neg (by omega)]
  simp
end Go.M2

namespace Go.M2
open Go.Proofs
variable {M : MH}
def isL (xs : List Int) (u : V) : Prop := LI u xs
end Go.M2

namespace Go.M2
open Go.Proofs
variable {M : MH}
theorem sizeF_mono {vs : List VarS} (hv : ∀ v ∈ vs, VarOk v) (h5 : vs.length ≤ 5) {i : Nat} : 1 ≤ sizeF (vs.take i) ∧ sizeF (vs.take i) ≤ 3200000 := sizeF_take_bd h5 fun j hj _ => hv _ (List.getElem_mem hj)
end Go.M2

namespace Go.M2
open Go.Proofs
variable {M : MH}
theorem SysOk.sz {s : SysS} (hs : SysOk s) : 1 ≤ sizeF s.vars ∧ sizeF s.vars ≤ 400 := by
  have := sizeF_mono hs.vars hs.v5 (i := s.vars.length)
  rw [List.take_length] at this
  exact ⟨this.1, hs.size⟩
end Go.M2

namespace Go.M2
open Go.Proofs
variable {M : MH}
def uRes (r : V) : Option (List Int) → Prop
  | none => r = .tup [.sc (.sl none 0 0 true 0), .sc (.bool false)]
  | some xs => ∃ u, r = .tup [u, .sc (.bool true)] ∧ LI u xs
theorem t_use {v w : V} {s : SysS} {st : List Int} {k : Nat} (hv : isSys s v) (hs : SysOk s) (hw : LI w st) (hin : StIn s.vars st) (hk : k < s.rules.length) :
    VCall Try.prog n_impl_use [v, w, .sc (.int .i64 k)] M (fun r M' => M = M' ∧ uRes r (useR s.vars s.rules[k] st)) := by
  refine VCall.froz2 fun R hP hG => v_impl_use rfl ?_
  obtain ⟨a, b, rfl, ha, hb⟩ := hv
  obtain ⟨x, y, z, hat, hx, hy, hz⟩ := hb.elt hk
  have h1 := hs.v1
  have h5 := hs.v5
  have hl := hin.1
  have hok := hin.ok hs
  obtain ⟨hw2, hst, hsets⟩ := hs.rules _ (List.getElem_mem hk)
  obtain ⟨kw, hkw⟩ := kind_some hw2
  have hx1 := hx.one.1
  have hy1 := hy.one.1
  have hz1 := hz.one.1
  (repeat' (first | ((with_reducible first | refine cond_dec (fun h => ?_) (fun h => ?_) | refine guardK_dec (fun h => ?_) (fun h => ?_) | refine guardD3_dec (fun h => ?_) (fun h => ?_)) <;> first | (exfalso; omega) | (simp (maxSteps := 2000000) (disch := first | omega | assumption | exact idP rfl | exact idP (bL rfl)) only [go_sem, reduceIte, Nat.reduceEqDiff, wpV_kd, wpV_tH, h, hb.len, hb.iaddr, hat]) | skip) | ((with_reducible first | refine cond_split (fun h => ?_) (fun h => ?_) | refine guardK_split (fun h => ?_) (fun h => ?_) | refine guardD3_split (fun h => ?_) (fun h => ?_)) <;> ((try simp only [Bool.not_eq_true', Bool.not_eq_false'] at h); first | (simp (maxSteps := 2000000) (disch := first | omega | assumption | exact idP rfl | exact idP (bL rfl)) only [go_sem, reduceIte, Nat.reduceEqDiff, wpV_kd, wpV_tH, h, hb.len, hb.iaddr, hat]) | skip)) | ((with_reducible refine (t_eval hx hw hkw hok (by omega)).mono ?_); rintro _ _ ⟨rfl, rfl⟩) | (with_reducible intro bk hbk; try have hnk := (fresh_set hbk).1) | (simp (maxSteps := 2000000) (disch := first | omega | assumption | exact idP rfl | exact idP (bL rfl)) only [go_sem, reduceIte, Nat.reduceEqDiff, wpV_kd, wpV_tH, hb.len, hb.iaddr, hat])))
  · refine hP _ _ (sB) ?_
    rename_i h
    simp only [useR, h, if_true, uRes]
  · rename_i b3 hb3
    have hev := h
    refine (t_cloneInt hw (by omega)).mono ?_
    rintro r M1 hg
    have hm8 : M1 bk = some [x, y, z] := hg.sub _ _ (sT0)
    refine sS2 @hm8 @hy.len ?_
    refine loop_k (fun e M' => ∃ i : Nat, i ≤ s.rules[k].sets.length ∧ e 1 = w ∧ e 3 = .sc (.ptr (some (b3, 0))) ∧ e 8 = .sc (.ptr (some (bk, 0))) ∧ e 25 = y ∧ e 26 = .sc (.int .i64 s.rules[k].sets.length) ∧ e 27 = .sc (.int .i64 i) ∧ Gr 1 ((M.set b3 [a, b]).set bk [x, y, z]) M' (e 9) ((setsF st s.rules[k].terms s.rules[k].sets i).map vi)) (fun e _ => ctrV s.rules[k].sets.length (e 27)) ?_ ?_
    · exact ⟨0, by omega, sT0, sT0, sT0, sT0, sT0, by refine sS0 ?_; rfl, by refine sS0 ?_; exact hg⟩
    · rintro e M2 ⟨i, hi, e1, e3, e8, e25, e26, e27, hg⟩ K2 hK2
      have hm3 : M2 b3 = some [a, b] := hg.sub _ _ (sT0)
      have hm8 : M2 bk = some [x, y, z] := hg.sub _ _ (sT0)
      have hsl := setsF_len st s.rules[k].terms s.rules[k].sets i
      have hle := sets_le hsets (by omega)
      refine sS2 @e26 @e27 ?_
      refine cond_dec (fun h => ?_) (fun h => ?_)
      · have hi' : i < s.rules[k].sets.length := by omega
        have hi2 : i < s.rules[k].terms.length := by omega
        obtain ⟨ki, hki⟩ := kind_some (hsets.kind hi' hi2)
        have hset := (hsets i hi').1
        have hat8 := hg.at (by rw [len_vi]; omega)
        have hia : ∀ {k : IntKind} {a : Int}, 0 ≤ a → a < (st.length : Int) → iaddrV 1 (e 9) (.int k a) = some (.sc (.ptr (some (oB (e 9), a.toNat)))) := fun q1 q2 => hg.own.iaddr q1 (by rw [len_vi, hsl]; exact q2)
        have hso : s.rules[k].sets[i].toNat < ((setsF st s.rules[k].terms s.rules[k].sets i).map vi).length := by rw [len_vi]; omega
        simp (maxSteps := 2000000) (disch := first | omega | assumption | exact idP rfl | exact idP (bL rfl)) only [go_sem, reduceIte, Nat.reduceEqDiff, wpV_kd, wpV_tH, e1, e3, e8, e25, e27, hm8, hy.iaddr, hy.at hi', hz.iaddr]
        refine (t_eval (hz.elt hi2) hw hki hok (by omega)).mono ?_
        rintro _ _ ⟨rfl, rfl⟩
        refine sS9 @e1 @e3 @e8 @e25 @e26 @e27 @hm8 @hia @hat8 ?_
        refine hK2 _ _ ⟨i + 1, by omega, sT0, sT0, sT0, sT0, sT0, by refine sS0 ?_; rfl, ?_⟩ (by refine sS2 @ctrV_int @e27 ?_; omega)
        refine sS0 ?_
        have := hg.setO (l' := (setsF st s.rules[k].terms s.rules[k].sets (i + 1)).map vi) (by rw [len_vi]; omega) (by simp [setsF_len])
        simp only [setsF, getD_eq hi', getD_eq hi2] at this ⊢
        rw [← set_vi] at this ⊢
        exact this
      · obtain rfl : i = s.rules[k].sets.length := by omega
        refine sS2 @hm3 @e3 ?_
        refine (VCall.lend1 hg.own flat_eq fun u M' hu => t_inRange ha hu.li (by omega)).mono ?_
        rintro _ _ ⟨rfl, rfl⟩
        have hsub : Sub M ((M.set b3 [a, b]).set bk [x, y, z]) := sB
        cases hib : inB s.vars (setsF st s.rules[k].terms s.rules[k].sets s.rules[k].sets.length) with
        | false =>
          refine sS0 ?_
          refine hP _ _ (hsub.trans hg.sub) ?_
          simp [useR, hev, hib, uRes]
        | true =>
          refine sS0 ?_
          refine hG _ _ _ 1 _ ⟨hsub.trans hg.sub, fun b' h' => hsub.none (hg.new b' h'), hg.own⟩ fun u hu => ?_
          have : useR s.vars s.rules[k] st = some (setsF st s.rules[k].terms s.rules[k].sets s.rules[k].sets.length) := by simp [useR, hev, hib]
          rw [this]
          exact ⟨_, rfl, hu.li⟩
theorem Cs.one {us : List V} {l : List (List Int)} (h : Cs isL us l) : us.all oneV = true := by
  refine List.all_eq_true.2 fun x hx => ?_
  obtain ⟨i, hi, rfl⟩ := List.getElem_of_mem hx
  obtain ⟨u, hu, he⟩ := h.2 i (by rw [← h.1]; exact hi)
  rw [List.getElem?_eq_getElem hi] at hu
  cases hu
  exact he.one.1
theorem Cs.take {us : List V} {l : List (List Int)} (h : Cs isL us l) (i : Nat) : Cs isL (us.take i) (l.take i) := by
  refine ⟨by simp [h.1], fun j hj => ?_⟩
  simp at hj
  obtain ⟨u, hu, he⟩ := h.2 j (by omega)
  exact ⟨u, by rw [List.getElem?_take, if_pos (by omega)]; exact hu, by rw [List.getElem_take]; exact he⟩
end Go.M2

namespace Go.M2
open Go.Proofs
variable {M : MH}
theorem Fz.pre {M M' : MH} {l l' : List V} (h : Fz M l M' l') : ∀ us : List V, Fz M (us ++ l) M' (us ++ l')
  | [] => h
  | x :: t => .keep x (Fz.pre h t)
theorem FzE.row {M0 M : MH} {b3 sz : Nat} {rv : V} {us post row : List V} (hb : M b3 = some (us ++ rv :: post)) (hr : Gr sz M0 M rv row) (hne : blkV rv ≠ some b3) :
    ∃ M' u, (∀ e, FzE e M e M') ∧ Fr sz u row ∧ M' b3 = some (us ++ u :: post) ∧ (M0 b3 = none → Sub M0 M') := by
  rcases hr.own with ⟨rfl, k, rfl⟩ | ⟨b, n, ex, rfl, h1, h2⟩
  · exact ⟨M, _, fun e => .refl _ _, .inl ⟨rfl, k, rfl⟩, hb, fun _ => hr.sub⟩
  · have hne' : b3 ≠ b := fun e => hne (by rw [e]; rfl)
    have h0 := hr.new b rfl
    have hd : M.del b b3 = some (us ++ V.sc (.sl (some (b, 0)) n n ex sz) :: post) := by simp only [MH.del]; rw [if_neg hne']; exact hb
    have hz : Fz M (us ++ V.sc (.sl (some (b, 0)) n n ex sz) :: post) (M.del b) (us ++ V.fs (some (b, 0)) n n ex sz (row.drop 0) :: post) := Fz.pre (.sl h1 (Fz.refl _ _) (Fz.refl _ _)) us
    refine ⟨_, _, fun e => FzE.cells hb hz hd, .inr ⟨_, _, _, _, _, rfl, by simpa using h2⟩, set_same, fun h3 => Sub.set (fun i l hi => ?_) h3⟩
    simp only [MH.del]
    rw [if_neg (fun e => by subst e; rw [h0] at hi; cases hi)]
    exact hr.sub i l hi
theorem Gr.setN {sz b : Nat} {M0 M : MH} {v : V} {l l' : List V} (h : Gr sz M0 M v l) (hb : M0 b = none) (hne : blkV v ≠ some b) : Gr sz M0 (M.set b l') v l := by
  rcases h.own with ⟨rfl, k, rfl⟩ | ⟨c, n, ex, rfl, h1, h2⟩
  · exact .nil (h.sub.set hb)
  · exact .mk' (h.sub.set hb) (h.new c rfl) h2 (by rw [set_ne (fun e => hne (by rw [← e]; rfl))]; exact h1)
end Go.M2

namespace Go.M2
open Go.Proofs
variable {M : MH}
def nil1 : V := .sc (.sl none 0 0 true 0)
end Go.M2

namespace Go.M2
open Go.Proofs
variable {M : MH}
def AscTo (n : Int) (xs : List Int) (k : Nat) : Prop := ∀ i (h : i < xs.length), i < k → (0 ≤ xs[i] ∧ xs[i] ≤ n - 1) ∧ (0 < i → xs[i - 1] < xs[i])
def SetOk (n : Int) (xs : List Int) : Prop := AscTo n xs xs.length
noncomputable def setB (n : Int) (xs : List Int) : Bool := @decide (SetOk n xs) (Classical.propDecidable _)
theorem AscTo.next {n : Int} {xs : List Int} {k : Nat} (h : AscTo n xs k) (hk : k < xs.length) (h1 : 0 ≤ xs[k] ∧ xs[k] ≤ n - 1) (h2 : 0 < k → xs[k - 1] < xs[k]) : AscTo n xs (k + 1) := fun i hi hik => by
  by_cases e : i = k
  · subst e; exact ⟨h1, h2⟩
  · exact h i hi (by omega)
noncomputable def setV (s : SysS) (xs : List Int) : Bool := sysB s && setB (sizeF s.vars) xs
end Go.M2

namespace Go.M2
open Go.Proofs
variable {M : MH}
def mkL (n : Nat) (p : Nat → Bool) : List Bool := (List.range n).map p
theorem mkL_len {n : Nat} {p : Nat → Bool} : (mkL n p).length = n := by simp [mkL]
theorem mkL_get {n : Nat} {p : Nat → Bool} {i : Nat} (h : i < (mkL n p).length) : (mkL n p)[i] = p i := by simp [mkL]
theorem mkL_ext {n : Nat} {p q : Nat → Bool} (h : ∀ i, i < n → p i = q i) : mkL n p = mkL n q := by
  unfold mkL
  exact List.map_congr_left fun i hi => h i (List.mem_range.1 hi)
theorem mkL_set {n k : Nat} {p q : Nat → Bool} (h : ∀ i, i < n → q i = (p i || decide (i = k))) : (mkL n p).set k true = mkL n q := by
  apply List.ext_getElem
  · simp [mkL]
  · intro i h1 h2
    have hi : i < n := by rw [mkL_len] at h2; exact h2
    rw [List.getElem_set]
    split
    · rename_i e; subst e; rw [mkL_get, h _ hi]; simp
    · rename_i e
      have e' : ¬ i = k := fun h => e h.symm
      rw [mkL_get, mkL_get, h _ hi]; simp [e']
theorem mkL_none {n : Nat} : List.replicate n false = mkL n (fun _ => false) := by
  unfold mkL
  rw [List.map_const', List.length_range]
theorem zeros_vb' (n : Nat) : (zeros [AV.bool false] n).map V.sc = (List.replicate n false).map vb := by
  induction n with
  | zero => rfl
  | succ n ih => simp only [zeros, List.replicate_succ, List.flatten_cons, List.map_append, List.map_cons] at ih ⊢; rw [ih]; rfl
theorem set_vb' {bs : List Bool} {i : Nat} {b : Bool} : (bs.map vb).set i (.sc (.bool b)) = (bs.set i b).map vb := by rw [List.map_set]; rfl
theorem len_vb' {bs : List Bool} : (bs.map vb).length = bs.length := List.length_map ..
def selL (n : Nat) (p : Nat → Bool) : List Int := ((List.range n).filter p).map (fun i : Nat => (i : Int))
theorem selL_succ {n : Nat} {p : Nat → Bool} : selL (n + 1) p = if p n = true then selL n p ++ [(n : Int)] else selL n p := by
  unfold selL
  rw [List.range_succ, List.filter_append]
  cases h : p n <;> simp [h]
theorem selL_len {n : Nat} {p : Nat → Bool} : (selL n p).length ≤ n := by
  unfold selL
  rw [List.length_map]
  exact Nat.le_trans (List.length_filter_le ..) (by simp)
theorem mem_selL {n : Nat} {p : Nat → Bool} {x : Int} : x ∈ selL n p ↔ ∃ i : Nat, i < n ∧ p i = true ∧ (i : Int) = x := by
  unfold selL
  simp only [List.mem_map, List.mem_filter, List.mem_range]
  constructor
  · rintro ⟨i, ⟨h1, h2⟩, h3⟩; exact ⟨i, h1, h2, h3⟩
  · rintro ⟨i, h1, h2, h3⟩; exact ⟨i, ⟨h1, h2⟩, h3⟩
end Go.M2

namespace Go.M2
open Go.Proofs
variable {M : MH}
def behB (tab : List (List Int)) (xs : List Int) (i : Nat) : Bool := xs.any fun x => decide ((i : Int) ∈ tab.getD x.toNat [])
end Go.M2

namespace Go.M2
open Go.Proofs
variable {M : MH}
theorem SetOk.in {n : Int} {xs : List Int} (h : SetOk n xs) : ∀ x ∈ xs, 0 ≤ x ∧ x < n := by
  intro x hx
  obtain ⟨i, hi, rfl⟩ := List.getElem_of_mem hx
  have := (h i hi hi).1
  omega
noncomputable def nextN (s : SysS) (xs : List Int) : List Int := if setV s xs = true then selL (tabF s).length (behB (tabF s) xs) else []
end Go.M2

namespace Go.M2
open Go.Proofs
variable {M : MH}
noncomputable def firstN (s : SysS) : Int := numF s.vars (firstF s)
end Go.M2

namespace Go.M2
theorem SetOk.mono {n m : Int} {xs : List Int} (h : SetOk n xs) (hnm : n ≤ m) : SetOk m xs := fun i hi hik => ⟨by have := (h i hi hik).1; omega, (h i hi hik).2⟩
theorem SetOk.snoc {n x : Int} {xs : List Int} (h : SetOk n xs) (h0 : 0 ≤ n) (hx : n ≤ x) : SetOk (x + 1) (xs ++ [x]) := by
  intro i hi _
  by_cases e : i < xs.length
  · have h1 := h i e e
    have e1 : (xs ++ [x])[i] = xs[i] := List.getElem_append_left e
    rw [e1]
    refine ⟨by omega, fun h2 => ?_⟩
    have e2 : (xs ++ [x])[i - 1] = xs[i - 1] := List.getElem_append_left (by omega)
    rw [e2]; exact h1.2 h2
  · have e3 : i = xs.length := by simp at hi; omega
    subst e3
    have e1 : (xs ++ [x])[xs.length] = x := by simp
    rw [e1]
    refine ⟨by omega, fun h2 => ?_⟩
    have hl : xs.length - 1 < xs.length := by omega
    have e2 : (xs ++ [x])[xs.length - 1] = xs[xs.length - 1] := List.getElem_append_left hl
    rw [e2]
    have := (h _ hl hl).1
    omega
end Go.M2

namespace Go.M2
open Go.Proofs
variable {M : MH}
def In {α : Type} (L : V → List α → Prop) (v : V) (ys : List α) : Prop := L v ys ∨ (v = .sc .emp ∧ ys = [])
theorem In.get {α : Type} {L : V → List α → Prop} {v : V} {ys : List α} (h : In L v ys) (h0 : 0 < ys.length) : L v ys := by
  rcases h with h | ⟨_, rfl⟩
  · exact h
  · simp at h0
theorem In.len {α : Type} {L : V → List α → Prop} {v : V} {ys : List α} (h : In L v ys) (hl : ∀ v ys, L v ys → lenF (er v) = some (.int .i64 (ys.length : Int))) : lenF (er v) = some (.int .i64 (ys.length : Int)) := by
  rcases h with h | ⟨rfl, rfl⟩
  · exact hl _ _ h
  · rfl
def mx : Nat := 9223372036854775807
def LenOk {α : Type} (xs : List α) : Prop := xs.length ≤ 9223372036854775807
def RuleFit (r : RuleS) : Prop := r.when_.length ≤ 1048576 ∧ r.sets.length ≤ 1048576 ∧ r.terms.length ≤ 1048576 ∧ ∀ ts ∈ r.terms, ts.length ≤ 1048576
def SysFit (s : SysS) : Prop := s.vars.length ≤ 1048576 ∧ s.rules.length ≤ 1048576 ∧ ∀ r ∈ s.rules, RuleFit r
end Go.M2

namespace Go.M2
open Go.Proofs
variable {M : MH}
end Go.M2

namespace Go.M2
open Go.Proofs
variable {M : MH}
end Go.M2

namespace Go.M2
open Go.Proofs
variable {M : MH}
def catV {α : Type} (enc : α → List V) (xs : List α) : List V := (xs.map enc).flatten
theorem catV_len {α : Type} {enc : α → List V} {sz : Nat} (he : ∀ x, (enc x).length = sz) : ∀ xs : List α, (catV enc xs).length = xs.length * sz
  | [] => by simp [catV]
  | x :: t => by
    have := catV_len he t
    simp only [catV, List.map_cons, List.flatten_cons, List.length_append, he, List.length_cons, Nat.succ_mul] at this ⊢
    omega
theorem catV_snoc {α : Type} {enc : α → List V} {xs : List α} {x : α} : catV enc (xs ++ [x]) = catV enc xs ++ enc x := by simp [catV]
theorem catV_at {α : Type} {enc : α → List V} {sz : Nat} (he : ∀ x, (enc x).length = sz) {xs : List α} {i : Nat} (hi : i < xs.length) : ((catV enc xs).drop (i * sz)).take sz = enc xs[i] := by
  have e1 : xs = xs.take i ++ xs[i] :: xs.drop (i + 1) := by rw [← List.drop_eq_getElem_cons hi, List.take_append_drop]
  have e2 : catV enc xs = catV enc (xs.take i) ++ (enc xs[i] ++ catV enc (xs.drop (i + 1))) := by
    have e3 : catV enc xs = catV enc (xs.take i ++ xs[i] :: xs.drop (i + 1)) := congrArg (catV enc) e1
    rw [e3]
    simp only [catV, List.map_append, List.map_cons, List.flatten_append, List.flatten_cons]
  have h3 := catV_len he (xs.take i)
  have h4 : (xs.take i).length = i := by simp; omega
  rw [e2, List.drop_left' (by rw [h3, h4]), List.take_left' (he _)]
end Go.M2

namespace Go.M2
open Go.Proofs
variable {M : MH}
abbrev T3 := {l : List V // l.length = 3}
def z3 : T3 := ⟨[nil1, nil1, nil1], rfl⟩
end Go.M2

namespace Go.M2
open Go.Proofs
variable {M : MH}
theorem Mem.base {M0 M1 M : MH} {f : List (Nat × List V)} (h : Mem M1 M f) (hs : Sub M0 M1) : Mem M0 M f := ⟨hs.trans h.sub, fun p hp => hs.none (h.new p hp), h.nd, h.at_⟩
theorem Mem.tail {M0 M : MH} {p : Nat × List V} {f : List (Nat × List V)} (h : Mem M0 M (p :: f)) : Mem M0 M f := Mem.right (f := [p]) h
theorem Mem.hd {M0 M : MH} {b : Nat} {l : List V} {f : List (Nat × List V)} (h : Mem M0 M ((b, l) :: f)) : M b = some l := h.at_ _ (List.mem_cons_self ..)
def One (v : V) : Prop := oneV v = true ∧ cellsV v = some [v]
theorem Ow.flat {sz : Nat} {M : MH} {v : V} {l : List V} (h : Ow sz M v l) : flat v := by
  rcases h with ⟨_, k, rfl⟩ | ⟨b, n, ex, rfl, _⟩ <;> simp [Go.M2.flat]
theorem catV_flat {α : Type} {enc : α → List V} (he : ∀ x, flatL (enc x)) : ∀ xs : List α, flatL (catV enc xs)
  | [] => by simp [catV, flatL]
  | x :: t => flatL_all.2 fun v hv => by
    have ih := catV_flat he t
    simp only [catV, List.map_cons, List.flatten_cons, List.mem_append] at hv
    rcases hv with h1 | h1
    · exact flatL_all.1 (he x) v h1
    · exact flatL_all.1 ih v h1
theorem encT_flat (x : TermS) : flatL (encT x) := by simp [encT, flatL, flat]
end Go.M2

namespace Go.M2
open Go.Proofs
variable {M : MH}
theorem bin_xorN {a b : Int} (h0 : 0 ≤ a) (h1 : a < 4611686018427387904) (h2 : 0 ≤ b) (h3 : b < 4611686018427387904) :
    ∃ c : Int, binF .xor (.int .i64 a) (.int .i64 b) = some (.int .i64 c) ∧ 0 ≤ c ∧ c < 4611686018427387904 := by
  have ea : (BitVec.ofInt 64 a).toNat = a.toNat := by rw [BitVec.toNat_ofInt]; omega
  have eb : (BitVec.ofInt 64 b).toNat = b.toNat := by rw [BitVec.toNat_ofInt]; omega
  have hlt : a.toNat ^^^ b.toNat < 2 ^ 62 := Nat.xor_lt_two_pow (by omega) (by omega)
  have hlt' : a.toNat ^^^ b.toNat < 4611686018427387904 := hlt
  refine ⟨((a.toNat ^^^ b.toNat : Nat) : Int), ?_, by omega, by omega⟩
  have e : (BitVec.ofInt IntKind.i64.bits a ^^^ BitVec.ofInt IntKind.i64.bits b).toNat = a.toNat ^^^ b.toNat := by
    show (BitVec.ofInt 64 a ^^^ BitVec.ofInt 64 b).toNat = _
    rw [BitVec.toNat_xor, ea, eb]
  simp only [binF, isSh, intBin, Bool.false_eq_true, if_false, if_true, e]
  rw [wrap_in (by omega) (by omega)]
theorem kd_cut {P : Program} {Q : PostV} {e : EnvV} {l : List GOp} {s : List (Nat × List Nat)} {k : List Nat} (A : EnvV → MH → Prop) (h : ∀ K : EnvV → MH → Prop, (∀ e' M', A e' M' → K e' M') → wpDV P l s K e M)
    (hQ : ∀ e' M', A e' M' → Q .normal (keepV k e') M') : wpV P (.kd l s k) Q e M := by
  rw [wpV_kd]; exact h _ hQ
def isU (n : Int) (u : V) : Prop := u = .sc (.int .u8 n) ∧ 0 ≤ n ∧ n ≤ 255
abbrev LU : V → List Int → Prop := Ls isU
abbrev XU : V → List Int → Prop := In LU
theorem LU.at {v : V} {ys : List Int} (h : LU v ys) {i : Nat} (hi : i < ys.length) : ∃ n : Int, at1 v i = .sc (.int .u8 n) ∧ 0 ≤ n ∧ n ≤ 255 := by
  obtain ⟨h1, h2, h3⟩ := h.elt hi
  exact ⟨_, h1, h2, h3⟩
def rdC (w : V) (p : Int) : List V := [w, .sc (.int .i64 p)]
structure Rdr (w : V) (code : List Int) : Prop where
  u : XU w code
  l : code.length ≤ 2000
theorem t_pick {rb : Nat} {w : V} {code : List Int} {p n : Int} (hr : Rdr w code) (hm : M rb = some (rdC w p)) (h0 : 0 ≤ p) (h1 : p ≤ 1099511627776) :
    VCall Try.prog n_spec_l40Rd_pick [.sc (.ptr (some (rb, 0))), .sc (.int .i64 n)] M (fun r M' => M' = M.set rb (rdC w (p + 1)) ∧ ∃ k : Int, r = .sc (.int .i64 k) ∧ 0 ≤ k ∧ (1 ≤ n → k < n) ∧ (n < 1 → k = 0)) := by
  refine VCall.plain fun R hR => v_spec_l40Rd_pick rfl ?_
  obtain ⟨hw, hl⟩ := hr
  have hlen := hw.len fun _ _ h => h.len
  simp only [rdC] at hm
  by_cases hn : n < 1
  · have hd : decide (n < 1) = true := by simp [hn]
    refine sS2 @hm @hd ?_
    exact hR _ _ ⟨rfl, _, rfl, by omega, by omega, fun _ => by omega⟩
  have hd : decide (n < 1) = false := by simp [hn]
  by_cases hz : code.length = 0
  · have hz2 : decide ((code.length : Int) = 0) = true := by simp [hz]
    refine sS4 @hm @hd @hlen @hz2 ?_
    exact hR _ _ ⟨rfl, _, rfl, by omega, by omega, fun _ => by omega⟩
  have hz2 : decide ((code.length : Int) = 0) = false := decide_eq_false (by omega)
  have hw' : LU w code := hw.get (by omega)
  have e1 : p + 1 - 1 = p := by omega
  simp (maxSteps := 2000000) (disch := first | omega | assumption | exact idP rfl | exact idP (bL rfl)) only [go_sem, reduceIte, Nat.reduceEqDiff, wpV_tH, hm, hd, hlen, hz2, e1]
  refine cond_dec (fun hk => ?_) (fun hk => ?_)
  · obtain ⟨c, hc, c0, c1⟩ := hw'.at (i := p.toNat) (by omega)
    refine sS2 @hw'.iaddr @hc ?_
    have := Int.emod_nonneg c (b := n) (by omega)
    have := Int.emod_lt_of_pos c (b := n) (by omega)
    exact hR _ _ ⟨rfl, _, rfl, by omega, fun _ => by omega, fun _ => by omega⟩
  simp (maxSteps := 2000000) (disch := first | omega | assumption | exact idP rfl | exact idP (bL rfl)) only [go_sem, reduceIte, Nat.reduceEqDiff, wpV_tH]
  have hN : (0 : Int) < (code.length : Int) := by omega
  have m1 := Int.emod_nonneg p (b := (code.length : Int)) (by omega)
  have m2 := Int.emod_lt_of_pos p hN
  have m3 := Int.emod_nonneg (p * 7 + 3) (b := (code.length : Int)) (by omega)
  have m4 := Int.emod_lt_of_pos (p * 7 + 3) hN
  have m5 : 0 ≤ p / (code.length : Int) := Int.ediv_nonneg h0 (by omega)
  have m6 : p / (code.length : Int) ≤ p := Int.ediv_le_self _ h0
  generalize hq1 : p % (code.length : Int) = q1 at *
  generalize hq2 : (p * 7 + 3) % (code.length : Int) = q2 at *
  generalize hq3 : p / (code.length : Int) = q3 at *
  obtain ⟨c, hc, c0, c1⟩ := hw'.at (i := q1.toNat) (by omega)
  obtain ⟨c', hc', c0', c1'⟩ := hw'.at (i := q2.toNat) (by omega)
  refine kd_cut (fun e' M' => M' = M.set rb [w, .sc (.int .i64 (p + 1))] ∧ e' 1 = .sc (.int .i64 n) ∧ ∃ x : Int, e' 6 = .sc (.int .i64 x) ∧ 0 ≤ x ∧ x < 4611686018427387904) ?_ ?_
  · intro K hK
    refine sS7 @hlen @hw'.iaddr @hc @hc' @hq1 @hq2 @hq3 ?_
    exact hK _ _ ⟨rfl, sT0, _, by refine sS0 ?_; rfl, by omega, by omega⟩
  rintro e' _ ⟨rfl, e1, x, e6, x0, x1⟩
  obtain ⟨y, hy, y0, y1⟩ := bin_xorN (a := x) (b := x / 64) x0 x1 (by omega) (by omega)
  refine sS3 @e1 @e6 @hy ?_
  have := Int.emod_nonneg y (b := n) (by omega)
  have := Int.emod_lt_of_pos y (b := n) (by omega)
  exact hR _ _ ⟨rfl, _, rfl, by omega, fun _ => by omega, fun _ => by omega⟩
end Go.M2

namespace Go.M2
open Go.Proofs
variable {M : MH}
section
variable {M0 M M' : MH} {rb : Nat} {X Y l : List V}
theorem Sub.rd (h : Sub (M0.set rb X) M) : Sub (M0.set rb Y) (M.set rb Y) := fun b l hb => by
  by_cases e : b = rb
  · subst e; rw [set_same] at hb ⊢; exact hb
  · rw [set_ne e] at hb ⊢; exact h b l (by rw [set_ne e]; exact hb)
theorem Gr.rd {sz : Nat} {s : V} (h : Gr sz (M0.set rb X) M s l) : Gr sz (M0.set rb Y) (M.set rb Y) s l := by
  have hne : ∀ b, blkV s = some b → b ≠ rb := fun b hb e => by
    have := h.new b hb
    rw [e, set_same] at this; cases this
  refine ⟨h.sub.rd, fun b hb => ?_, ?_⟩
  · rw [set_ne (hne b hb)]
    have := h.new b hb
    rwa [set_ne (hne b hb)] at this
  · rcases h.own with ⟨e, k, e2⟩ | ⟨b, n, ex, rfl, h1, h2⟩
    · exact .inl ⟨e, k, e2⟩
    · exact .inr ⟨b, n, ex, rfl, by rw [set_ne (hne b rfl)]; exact h1, h2⟩
theorem Mem.rd {fp : List (Nat × List V)} (h : Mem (M0.set rb X) M fp) : Mem (M0.set rb Y) (M.set rb Y) fp := by
  have hne : ∀ p ∈ fp, p.1 ≠ rb := fun p hp e => by
    have := h.new p hp
    rw [e, set_same] at this; cases this
  refine ⟨h.sub.rd, fun p hp => ?_, h.nd, fun p hp => ?_⟩
  · have := h.new p hp
    rw [set_ne (hne p hp)] at this ⊢; exact this
  · rw [set_ne (hne p hp)]; exact h.at_ p hp
end
structure RS (M0 : MH) (rb : Nat) (w : V) (M : MH) (p : Int) : Prop where
  at_ : M rb = some (rdC w p)
  sub : Sub (M0.set rb (rdC w p)) M
section
variable {M0 M M' : MH} {rb b : Nat} {w : V} {p q : Int} {l : List V}
theorem RS.start (h : M rb = some (rdC w p)) : RS M rb w M p := ⟨h, by rw [set_id h]; exact Sub.refl M⟩
theorem RS.set (h : RS M0 rb w M p) (q : Int) : RS M0 rb w (M.set rb (rdC w q)) q := ⟨set_same, h.sub.rd⟩
theorem RS.more (h : RS M0 rb w M p) (hs : Sub M M') : RS M0 rb w M' p := ⟨hs _ _ h.at_, h.sub.trans hs⟩
theorem RS.to (h : RS M0 rb w M p) (hs : Sub (M.set rb (rdC w q)) M') : RS M0 rb w M' q := (h.set q).more hs
theorem RS.ne (h : RS M0 rb w M p) (hb : M b = none) : b ≠ rb := fun e => by rw [e, h.at_] at hb; cases hb
theorem RS.ne' (h : RS M0 rb w M p) (hb : M b = none) : rb ≠ b := Ne.symm (h.ne hb)
theorem RS.gone (h : RS M0 rb w M p) (hb : M b = none) : M0 b = none := by
  have := h.sub.none hb
  rwa [set_ne (h.ne hb)] at this
end
def fpG (v : V) (l : List V) : List (Nat × List V) := match blkV v with
  | some b => [(b, l)]
  | none => []
def OwS (sz : Nat) (v : V) (l : List V) : Prop := (l = [] ∧ ∃ k, v = .sc (.sl none 0 0 true k)) ∨ ∃ b n ex, v = .sc (.sl (some (b, 0)) n n ex sz) ∧ l.length = n * sz
theorem Ow.sh {sz : Nat} {v : V} {l : List V} (h : Ow sz M v l) : OwS sz v l ∧ ∀ q ∈ fpG v l, M q.1 = some q.2 := by
  rcases h with ⟨rfl, k, rfl⟩ | ⟨b, n, ex, rfl, h1, h2⟩
  · exact ⟨.inl ⟨rfl, k, rfl⟩, fun q hq => (by cases hq)⟩
  · exact ⟨.inr ⟨b, n, ex, rfl, h2⟩, fun q hq => by simp [fpG, blkV] at hq; subst hq; exact h1⟩
theorem OwS.ow {sz : Nat} {v : V} {l : List V} (h : OwS sz v l) (hm : ∀ q ∈ fpG v l, M q.1 = some q.2) : Ow sz M v l := by
  rcases h with ⟨rfl, k, rfl⟩ | ⟨b, n, ex, rfl, h2⟩
  · exact .inl ⟨rfl, k, rfl⟩
  · exact .inr ⟨b, n, ex, rfl, hm (b, l) (by simp [fpG, blkV]), h2⟩
theorem OwS.tr {sz : Nat} {v : V} {l l' : List V} {g : List (Nat × List V)} (h : OwS sz v l) (ht : Tr l l' g) : ∃ u, Tr [v] [u] (fpG v l ++ g) ∧ Fr sz u l' := by
  rcases h with ⟨rfl, k, rfl⟩ | ⟨b, n, ex, rfl, h2⟩
  · cases ht
    exact ⟨_, .refl _, .inl ⟨rfl, k, rfl⟩⟩
  · exact ⟨_, by simpa [fpG, blkV] using Tr.sl (o := 0) (n := n) (c := n) (k := sz) (ex := ex) (b := b) ht .nil, .inr ⟨(b, 0), n, n, ex, sz, by simp, by rw [ht.len, h2]⟩⟩
theorem OwS.one {sz : Nat} {v : V} {l : List V} (h : OwS sz v l) : One v := by
  rcases h with ⟨rfl, k, rfl⟩ | ⟨b, n, ex, rfl, h2⟩ <;> exact ⟨rfl, rfl⟩
theorem Mem.app {B M M' : MH} {sz' : Nat} {s s' : V} {l l' : List V} {f : List (Nat × List V)} (h : Mem B M (fpG s l ++ f)) (hg : Gr sz' B M' s' l') (ho : Oth M M' s s') : Mem B M' (fpG s' l' ++ f) := by
  have hf := h.right
  have hsf : ∀ p ∈ f, blkV s ≠ some p.1 := fun p hp e => by
    have hnd := h.nd
    simp only [fpG, e, Nd2, List.cons_append, List.nil_append, List.map_cons, List.nodup_cons, List.mem_map] at hnd
    exact hnd.1 ⟨p, hp, rfl⟩
  have hat : ∀ p ∈ f, M' p.1 = some p.2 := fun p hp => (ho _ _ (hf.at_ p hp) (hsf p hp)).1
  have hne : ∀ p ∈ f, blkV s' ≠ some p.1 := fun p hp => (ho _ _ (hf.at_ p hp) (hsf p hp)).2
  refine ⟨hg.sub, fun p hp => ?_, ?_, fun p hp => ?_⟩
  · rcases List.mem_append.1 hp with h1 | h1
    · exact hg.new _ (by simp only [fpG] at h1; split at h1 <;> simp_all)
    · exact hf.new p h1
  · cases hb : blkV s' with
    | none => simpa [fpG, hb] using hf.nd
    | some b =>
      simp only [fpG, hb, Nd2, List.cons_append, List.nil_append, List.map_cons, List.nodup_cons, List.mem_map]
      exact ⟨fun ⟨p, hp, e⟩ => hne p hp (by rw [hb, e]), hf.nd⟩
  · rcases List.mem_append.1 hp with h1 | h1
    · exact hg.own.sh.2 p h1
    · exact hat p h1
theorem Gr.mem {B M : MH} {sz : Nat} {s : V} {l : List V} (h : Gr sz B M s l) : Mem B M (fpG s l) := by
  refine ⟨h.sub, fun p hp => h.new _ (by simp only [fpG] at hp; split at hp <;> simp_all), ?_, fun p hp => h.own.sh.2 p hp⟩
  unfold fpG
  split <;> simp [Nd2]
theorem Mem.gr {B M : MH} {sz : Nat} {s : V} {l : List V} {f : List (Nat × List V)} (h : Mem B M (fpG s l ++ f)) (ho : OwS sz s l) : Gr sz B M s l :=
  ⟨h.sub, fun b hb => h.new (b, l) (List.mem_append_left _ (by simp [fpG, hb])), ho.ow fun q hq => h.at_ q (List.mem_append_left _ hq)⟩
section
variable {P : Program} {f : FuncId} {args : List V}
theorem VCall.frG {sz : Nat} {q : MH → List V → Prop} (h : VCall P f args M (fun r M' => ∃ B l, Gr sz B M' r l ∧ q B l)) : VCall P f args M (fun r M' => ∃ l, Fr sz r l ∧ q M' l) :=
  VCall.of fun R hR => h.mono fun r M' ⟨B, l, h1, h2⟩ => by
    obtain ⟨M1, v', q1, q2, q3⟩ := h1.fz
    exact hR r v' M' M1 B q1 q2 ⟨l, q3, h2⟩
theorem VCall.frB {q : MH → V → Prop} (h : VCall P f args M (fun r M' => ∃ B r' g, Tr [r] [r'] g ∧ Mem B M' g ∧ q B r')) : VCall P f args M (fun r M' => q M' r) :=
  VCall.of fun R hR => h.mono fun r M' => by
    rintro ⟨B, r', g, h1, h2, h3⟩
    let M1 : MH := fun i => if inF g i then M' i else B i
    have e : delF M1 g = B := by
      funext i
      simp only [delF, M1]
      split
      · rename_i hin
        obtain ⟨l, hl⟩ := inF_iff.1 hin
        exact (h2.new _ hl).symm
      · rfl
    have hz := h1.fz (M := M1) (fun q hq => by simp only [M1]; rw [if_pos (inF_iff.2 ⟨q.2, hq⟩)]; exact h2.at_ q hq) h2.nd
    rw [e] at hz
    refine hR r r' M' M1 B (fun i l hi => ?_) hz h3
    simp only [M1] at hi
    split at hi
    · exact hi
    · exact h2.sub _ _ hi
variable {args' : List V} {R R' : V → MH → Prop} {fp : List (Nat × List V)}
theorem VCall.lendT2 (ht : Tr args args' fp) (hm : ∀ p ∈ fp, M p.1 = some p.2) (hn : Nd2 fp) (h : VCall P f args' (delF M fp) R')
    (hr : ∀ r M', (∀ p ∈ fp, M' p.1 = none) → R' r M' → flat r ∧ (∀ i l', M' i = some l' → ∀ v ∈ l', flat v ∨ ∃ j l0, delF M fp j = some l0 ∧ v ∈ l0) ∧ R r (backF M M' fp)) : VCall P f args M R := by
  intro H F hs hok
  obtain ⟨e, s1, F1, f1, f2, f3, f4⟩ := (ht.fz hm hn).keeps hs hok
  have := h H F1 f2 f3
  rw [← erl_map, e, erl_map] at this
  refine this.mono ?_
  rintro a H' ⟨r, M', F', rfl, k1, k2, k3, k4⟩
  have hF1 : ∀ p ∈ fp, F1.blk p.1 = .cells (erl p.2) true := fun p hp => by
    rcases f4 p.1 p.2 (hm p hp) with h1 | h1
    · simp only [delF, inF_iff.2 ⟨p.2, hp⟩, if_true] at h1; cases h1
    · exact h1
  have hsz : ∀ p ∈ fp, p.1 < F1.size := fun p hp => by rw [f2.size]; exact (hs.own _ _ (hm p hp)).1
  have hF' : ∀ p ∈ fp, F'.blk p.1 = .cells (erl p.2) true := fun p hp => k2.cells (hsz p hp) (hF1 p hp)
  have hnone : ∀ p ∈ fp, M' p.1 = none := fun p hp => by
    cases hb : M' p.1 with
    | none => rfl
    | some l2 => have := (k3.own _ l2 hb).2.2.1; rw [hF' p hp] at this; cases this
  obtain ⟨q1, q2, q3⟩ := hr r M' hnone k4
  let F'' : Heap := ⟨F'.size, fun i => if inF fp i then .dead else F'.blk i⟩
  have hLe : Le F F'' := by
    refine ⟨(f1.trans k2).1, fun i hi => ?_⟩
    by_cases hin : inF fp i = true
    · obtain ⟨l, hl⟩ := inF_iff.1 hin
      exact .inl (hs.own _ _ (hm _ hl)).2.2.1
    · rcases (f1.trans k2).2 i hi with h1 | h1
      · exact .inl h1
      · refine .inr ?_
        simp only [F'', hin, Bool.false_eq_true, if_false]; exact h1
  refine ⟨r, backF M M' fp, F'', rfl, q1.ok, hLe, ⟨k3.size, fun i hi => ?_, fun i l hi => ?_⟩, q3⟩
  · simp only [F'']
    split
    · exact .inl rfl
    · exact k3.le i hi
  · simp only [backF] at hi
    split at hi
    · rename_i hin
      obtain ⟨l0, hl0⟩ := inF_iff.1 hin
      have h1 := hm _ hl0
      simp only at h1
      rw [h1] at hi; cases hi
      have hb : i < H'.size := by
        have h2 := hsz _ hl0
        have h3 := k2.1
        rw [k3.size] at h3
        simp only at h2; omega
      refine ⟨hb, ?_, by simp only [F'', hin, if_true], okL.mono hLe (hs.ok h1)⟩
      have h4 := hF' _ hl0
      simp only at h4
      rcases k3.le i hb with h2 | h2
      · rw [h4] at h2; cases h2
      · rw [← h2]; exact h4
    · rename_i hin
      obtain ⟨p1, p2, p3, p4⟩ := k3.own i l hi
      refine ⟨p1, p2, by simp only [F'', hin, Bool.false_eq_true, if_false]; exact p3, okL_all.2 fun v hv => ?_⟩
      rcases q2 i l hi v hv with h1 | ⟨j, l0, h1, h2⟩
      · exact h1.ok
      · simp only [delF] at h1
        split at h1
        · cases h1
        · exact okV.mono hLe (okL_all.1 (hs.ok h1) v h2)
end
section
variable {P : Program} {f : FuncId} {a1 a2 : List V} {rb : Nat} {w : V} {p : Int}
theorem backF_set {fp : List (Nat × List V)} {Y : List V} (hm : ∀ p ∈ fp, M p.1 = some p.2) (hrb : inF fp rb = false) : backF M ((delF M fp).set rb Y) fp = M.set rb Y := by
  funext i
  simp only [backF]
  split
  · rename_i hin
    have : i ≠ rb := fun e => by rw [e, hrb] at hin; cases hin
    rw [set_ne this]
  · rename_i hin
    simp only [MH.set, delF]
    split
    · rfl
    · simp [hin]
theorem VCall.lendR {sz : Nat} {v : V} {l : List V} {q : V → Int → Prop} (ho : Ow sz M v l) (hne : blkV v ≠ some rb) (hm : M rb = some (rdC w p)) (hq : ∀ r p', q r p' → flat r)
    (h : ∀ u M', Fr sz u l → M' rb = some (rdC w p) → VCall P f (a1 ++ u :: a2) M' (fun r M'' => ∃ p', M'' = M'.set rb (rdC w p') ∧ q r p')) : VCall P f (a1 ++ v :: a2) M (fun r M' => ∃ p', M' = M.set rb (rdC w p') ∧ q r p') := by
  obtain ⟨hs, hat⟩ := ho.sh
  obtain ⟨u, ht, hu⟩ := hs.tr (Tr.refl l)
  rw [List.append_nil] at ht
  have hin : inF (fpG v l) rb = false := by
    cases hh : inF (fpG v l) rb with
    | false => rfl
    | true =>
      obtain ⟨l2, hl2⟩ := inF_iff.1 hh
      unfold fpG at hl2
      split at hl2
      · rename_i b hb; simp at hl2; rw [hl2.1] at hne; exact absurd hb hne
      · cases hl2
  have htr : Tr (a1 ++ v :: a2) (a1 ++ u :: a2) (fpG v l) := by
    have h1 : Tr (v :: a2) (u :: a2) (fpG v l ++ []) := by simpa using ht.append (Tr.refl a2)
    simpa using (Tr.refl a1).append h1
  have hnd : Nd2 (fpG v l) := by unfold fpG; split <;> simp [Nd2]
  have hmd : delF M (fpG v l) rb = some (rdC w p) := by simp only [delF, hin, Bool.false_eq_true, if_false]; exact hm
  refine VCall.lendT2 htr hat hnd (h u _ hu hmd) ?_
  rintro r M' hnone ⟨p', rfl, hqr⟩
  refine ⟨hq _ _ hqr, fun i l' hi x hx => ?_, p', backF_set hat hin, hqr⟩
  by_cases e : i = rb
  · subst e
    rw [set_same] at hi; cases hi
    simp only [rdC, List.mem_cons, List.not_mem_nil, or_false] at hx
    rcases hx with rfl | rfl
    · exact .inr ⟨_, _, hmd, by simp [rdC]⟩
    · exact .inl (by simp [flat])
  · rw [set_ne e] at hi
    exact .inr ⟨i, l', hi, hx⟩
theorem VCall.lendRG {sz sz' : Nat} {v : V} {l : List V} {q : List V → Int → Prop} (ho : Ow sz M v l) (hne : blkV v ≠ some rb) (hm : M rb = some (rdC w p)) (hq : ∀ c p', q c p' → flatL c)
    (h : ∀ u M', Fr sz u l → M' rb = some (rdC w p) → VCall P f (a1 ++ u :: a2) M' (fun r M'' => ∃ p' c, Gr sz' (M'.set rb (rdC w p')) M'' r c ∧ q c p')) :
    VCall P f (a1 ++ v :: a2) M (fun r M' => ∃ p' c, Gr sz' (M.set rb (rdC w p')) M' r c ∧ q c p') := by
  obtain ⟨hs, hat⟩ := ho.sh
  obtain ⟨u, ht, hu⟩ := hs.tr (Tr.refl l)
  rw [List.append_nil] at ht
  have hin : inF (fpG v l) rb = false := by
    cases hh : inF (fpG v l) rb with
    | false => rfl
    | true =>
      obtain ⟨l2, hl2⟩ := inF_iff.1 hh
      unfold fpG at hl2
      split at hl2
      · rename_i b hb; simp at hl2; rw [hl2.1] at hne; exact absurd hb hne
      · cases hl2
  have htr : Tr (a1 ++ v :: a2) (a1 ++ u :: a2) (fpG v l) := by
    have h1 : Tr (v :: a2) (u :: a2) (fpG v l ++ []) := by simpa using ht.append (Tr.refl a2)
    simpa using (Tr.refl a1).append h1
  have hnd : Nd2 (fpG v l) := by unfold fpG; split <;> simp [Nd2]
  have hmd : delF M (fpG v l) rb = some (rdC w p) := by simp only [delF, hin, Bool.false_eq_true, if_false]; exact hm
  refine VCall.lendT2 (R' := fun r M'' => ∃ p' c, ((∃ k, c = [] ∧ r = .sc (.sl none 0 0 true k) ∧ M'' = (delF M (fpG v l)).set rb (rdC w p')) ∨
      ∃ b n ex, ((delF M (fpG v l)).set rb (rdC w p')) b = none ∧ r = .sc (.sl (some (b, 0)) n n ex sz') ∧ c.length = n * sz' ∧ M'' = ((delF M (fpG v l)).set rb (rdC w p')).set b c) ∧ q c p') htr hat hnd
    (VCall.of fun R hR => (h u _ hu hmd).mono fun r M' => ?_) ?_
  · rintro ⟨p', c, hg, hqc⟩
    rcases hg.own with ⟨rfl, k, rfl⟩ | ⟨b, n, ex, rfl, h1, h2⟩
    · exact hR _ _ M' _ _ hg.sub (.refl _ _) ⟨p', [], .inl ⟨k, rfl, rfl, rfl⟩, hqc⟩
    · refine hR _ _ M' (((delF M (fpG v l)).set rb (rdC w p')).set b c) _ (fun i l2 hi => ?_) (.refl _ _) ⟨p', c, .inr ⟨b, n, ex, hg.new b rfl, rfl, h2, rfl⟩, hqc⟩
      by_cases e : i = b
      · subst e; rw [set_same] at hi; cases hi; exact h1
      · rw [set_ne e] at hi; exact hg.sub i l2 hi
  · rintro r M' hnone ⟨p', c, hcase, hqc⟩
    have cells : ∀ i l', ((delF M (fpG v l)).set rb (rdC w p')) i = some l' → ∀ x ∈ l', flat x ∨ ∃ j l0, delF M (fpG v l) j = some l0 ∧ x ∈ l0 := fun i l' hi x hx => by
      by_cases e : i = rb
      · subst e
        rw [set_same] at hi; cases hi
        simp only [rdC, List.mem_cons, List.not_mem_nil, or_false] at hx
        rcases hx with rfl | rfl
        · exact .inr ⟨_, _, hmd, by simp [rdC]⟩
        · exact .inl (by simp [flat])
      · rw [set_ne e] at hi
        exact .inr ⟨i, l', hi, hx⟩
    rcases hcase with ⟨k, rfl, rfl, rfl⟩ | ⟨b, n, ex, hb, rfl, h2, rfl⟩
    · refine ⟨by simp [flat], cells, p', [], ⟨?_, fun b hb => by simp [blkV] at hb, .inl ⟨rfl, k, rfl⟩⟩, hqc⟩
      rw [backF_set hat hin]; exact Sub.refl _
    · have hbf : inF (fpG v l) b = false := by
        cases hh : inF (fpG v l) b with
        | false => rfl
        | true =>
          obtain ⟨l2, hl2⟩ := inF_iff.1 hh
          have := hnone _ hl2
          simp only [set_same] at this; cases this
      have hback : backF M (((delF M (fpG v l)).set rb (rdC w p')).set b c) (fpG v l) = (M.set rb (rdC w p')).set b c := by
        rw [← backF_set (Y := rdC w p') hat hin]
        funext i
        simp only [backF]
        by_cases e : i = b
        · subst e; rw [set_same, set_same, hbf]; rfl
        · rw [set_ne e, set_ne e]; rfl
      have hbM : (M.set rb (rdC w p')) b = none := by
        rw [← backF_set (Y := rdC w p') hat hin]
        simp only [backF, hbf, Bool.false_eq_true, if_false]; exact hb
      refine ⟨by simp [flat], fun i l' hi x hx => ?_, p', c, ?_, hqc⟩
      · by_cases e : i = b
        · subst e
          rw [set_same] at hi; cases hi
          exact .inl (flatL_all.1 (hq _ _ hqc) x hx)
        · rw [set_ne e] at hi; exact cells i l' hi x hx
      · rw [hback]
        exact ⟨(Sub.refl _).set hbM, fun b' hb' => by simp only [blkV, Option.some.injEq] at hb'; subst hb'; exact hbM, .inr ⟨b, n, ex, rfl, set_same, h2⟩⟩
end
theorem t_num {rb : Nat} {w v : V} {code xs : List Int} {p : Int} (hr : Rdr w code) (hm : M rb = some (rdC w p)) (h0 : 0 ≤ p) (h1 : p ≤ 1099511627776) (hv : LI v xs) (hx : 0 < xs.length) (hl : xs.length ≤ 1048576) :
    VCall Try.prog n_spec_l40Rd_num [.sc (.ptr (some (rb, 0))), v] M (fun r M' => M' = M.set rb (rdC w (p + 1)) ∧ ∃ x ∈ xs, r = .sc (.int .i64 x)) := by
  refine VCall.plain fun R hR => v_spec_l40Rd_num rfl ?_
  refine sS1 @hv.len ?_
  refine (t_pick hr hm h0 h1).mono ?_
  rintro _ _ ⟨rfl, k, rfl, k0, k1, _⟩
  have hk := k1 (by omega)
  simp (maxSteps := 2000000) (disch := first | omega | assumption | exact idP rfl | exact idP (bL rfl)) only [go_sem, reduceIte, Nat.reduceEqDiff, wpV_kd, wpV_tH, hv.iaddr, LI.at hv (i := k.toNat) (by omega)]
  exact hR _ _ ⟨rfl, _, List.getElem_mem _, rfl⟩
theorem t_numL {rb b n : Nat} {w : V} {code : List Int} {l : List V} {p : Int} (xs : List Int) (hr : Rdr w code) (hb : M b = none) (hm : M rb = some (rdC w p)) (h0 : 0 ≤ p) (h1 : p ≤ 1099511627776) (e : l = xs.map vi) (hn : n = xs.length) (hx : 0 < xs.length) (hl : xs.length ≤ 1048576) :
    VCall Try.prog n_spec_l40Rd_num [.sc (.ptr (some (rb, 0))), .sc (.sl (some (b, 0)) n n true 1)] (M.set b l) (fun r M' => M' = M.set rb (rdC w (p + 1)) ∧ ∃ x ∈ xs, r = .sc (.int .i64 x)) := by
  subst e hn
  have hz : Fz (M.set b (xs.map vi)) [.sc (.ptr (some (rb, 0))), .sc (.sl (some (b, 0)) xs.length xs.length true 1)] M [.sc (.ptr (some (rb, 0))), .fs (some (b, 0)) xs.length xs.length true 1 ((xs.map vi).drop 0)] := by
    refine .keep _ (.sl set_same (by rw [del_set hb]; exact Fz.refl M _) (.nil M))
  exact VCall.give hz (t_num hr hm h0 h1 (Fr.li (.inr ⟨_, _, _, _, _, rfl, by simp⟩)) hx hl)
end Go.M2

namespace Go.M2
open Go.Proofs
variable {M : MH}
theorem t_l2VarOf {n : Int} : VCall Try.prog n_spec_l2VarOf [.sc (.int .i64 n)] M (fun r M' => M = M' ∧ r = .agg (encT ⟨1, n, 0, 0⟩)) := by
  refine VCall.pure fun R hR => v_spec_l2VarOf rfl ?_
  refine sS0 ?_
  intro b hb
  exact hR _ _ (sB) rfl
theorem t_l2Const {n : Int} : VCall Try.prog n_spec_l2Const [.sc (.int .i64 n)] M (fun r M' => M = M' ∧ r = .agg (encT ⟨0, n, 0, 0⟩)) := by
  refine VCall.pure fun R hR => v_spec_l2Const rfl ?_
  refine sS0 ?_
  intro b hb
  exact hR _ _ (sB) rfl
def DT (p d : Int) (m n : Nat) (c : List V) (p' : Int) : Prop := p ≤ p' ∧ p' ≤ p + d ∧ ∃ ts : List TermS, c = catV encT ts ∧ m ≤ ts.length ∧ ts.length ≤ n
theorem DT.flat {p d p' : Int} {m n : Nat} {c : List V} (h : DT p d m n c p') : flatL c := by
  obtain ⟨_, _, ts, rfl, _⟩ := h
  exact catV_flat encT_flat ts
theorem Fr.lt {u : V} {ts : List TermS} (h : Fr 4 u (catV encT ts)) : LT u ts := h.lc (by omega) (catV_len (sz := 4) (enc := encT) (fun _ => rfl) ts) fun i hi => catV_at (sz := 4) (enc := encT) (fun _ => rfl) hi
theorem VCall.frT4 {P : Program} {f : FuncId} {args : List V} {rb : Nat} {w : V} {p d : Int} {m n : Nat} (h : VCall P f args M (fun r M' => ∃ p' c, Gr 4 (M.set rb (rdC w p')) M' r c ∧ DT p d m n c p')) :
    VCall P f args M (fun r M' => ∃ p', M' = M.set rb (rdC w p') ∧ p ≤ p' ∧ p' ≤ p + d ∧ ∃ ts, LT r ts ∧ m ≤ ts.length ∧ ts.length ≤ n) := by
  refine (VCall.frG (sz := 4) (q := fun B l => ∃ p', B = M.set rb (rdC w p') ∧ DT p d m n l p') (h.mono fun r M' ⟨p', c, h1, h2⟩ => ⟨_, c, h1, p', rfl, h2⟩)).mono ?_
  rintro r M' ⟨l, hf, p', rfl, q1, q2, ts, rfl, q3, q4⟩
  exact ⟨p', rfl, q1, q2, ts, hf.lt, q3, q4⟩
theorem app_term {M0 M : MH} {s : V} {K : V → MH → Prop} {by_ bt c k : Nat} {ex : Bool} {xs : List TermS} {l : List V} (t : TermS) (h : Gr 4 M0 M s (catV encT xs)) (hbt : M bt = none) (e : l = encT t) (hb : xs.length ≤ 1048576) (hby : by_ ≤ 64)
    (hk : ∀ s' M', Gr 4 M0 M' s' (catV encT (xs ++ [t])) → Oth M M' s s' → K s' M') : appV 4 by_ s (.sc (.sl (some (bt, 0)) 1 c ex k)) (M.set bt l) K := by
  subst e
  have hlen : (catV encT xs).length = xs.length * 4 := catV_len (sz := 4) (enc := encT) (fun _ => rfl) xs
  have h1 : ((catV encT xs).length + 1) * by_ ≤ ((catV encT xs).length + 1) * 64 := Nat.mul_le_mul_left _ hby
  refine gr_app1 h (by omega) hbt rfl (by simp [encT, oneV, er, oneA]) (by simp [mostCells]; omega) (by simp [mostCells]; omega) fun s' M' q1 q2 => hk s' M' (by rw [catV_snoc]; exact q1) q2
def VarB (v : VarS) : Prop := -20000 ≤ v.low ∧ v.low ≤ 20000 ∧ -20000 ≤ v.high ∧ v.high ≤ 20000
theorem t_l2Cond {rb : Nat} {w : V} {code : List Int} {p at_ : Int} {v : VarS} (hr : Rdr w code) (hm : M rb = some (rdC w p)) (h0 : 0 ≤ p) (h1 : p ≤ 1000000) (hv : VarB v) :
    VCall Try.prog n_spec_l2Cond [.sc (.ptr (some (rb, 0))), .agg (encVar v), .sc (.int .i64 at_)] M (fun r M' => ∃ p' c, Gr 4 (M.set rb (rdC w p')) M' r c ∧ DT p 3 1 4 c p') := by
  refine VCall.plain fun R hR => v_spec_l2Cond rfl ?_
  obtain ⟨lo, hi, fi⟩ := v
  obtain ⟨v1, v2, v3, v4⟩ := hv
  simp only at v1 v2 v3 v4
  simp only [encVar]
  refine sS0 ?_
  intro b4 hb4
  have hn4 : rb ≠ b4 := fun e => by rw [← e, hm] at hb4; cases hb4
  have hm1 : (M.set b4 [.sc (.int .i64 lo), .sc (.int .i64 hi), .sc (.int .i64 fi)]) rb = some (rdC w p) := by rw [set_ne hn4]; exact hm
  have hs1 : Sub M (M.set b4 [.sc (.int .i64 lo), .sc (.int .i64 hi), .sc (.int .i64 fi)]) := (Sub.refl M).set' hb4
  have q4 : (M.set b4 [.sc (.int .i64 lo), .sc (.int .i64 hi), .sc (.int .i64 fi)]) b4 = some [.sc (.int .i64 lo), .sc (.int .i64 hi), .sc (.int .i64 fi)] := set_same
  have rs1 := (RS.start hm).more hs1
  generalize hM1 : M.set b4 [.sc (.int .i64 lo), .sc (.int .i64 hi), .sc (.int .i64 fi)] = M1 at *
  refine (t_pick hr hm1 h0 (by omega)).mono ?_
  rintro _ _ ⟨rfl, k, rfl, k0, k1, k2⟩
  have kb : k ≤ 40000 := by
    by_cases hc : 1 ≤ hi - lo + 1
    · have := k1 hc; omega
    · have := k2 (by omega); omega
  have q4' : (M1.set rb (rdC w (p + 1))) b4 = some [.sc (.int .i64 lo), .sc (.int .i64 hi), .sc (.int .i64 fi)] := by rw [set_ne (Ne.symm hn4)]; exact q4
  have rs2 := rs1.set (p + 1)
  generalize hM2 : M1.set rb (rdC w (p + 1)) = M2 at *
  refine sS1 @q4' ?_
  intro b5 hb5
  refine (t_numL [6, 5, 5, 6] hr hb5 rs2.at_ (by omega) (by omega) rfl rfl (by simp) (by simp)).mono ?_
  rintro _ _ ⟨rfl, op, hop, rfl⟩
  have rs3 := rs2.set (p + 1 + 1)
  generalize hM3 : M2.set rb (rdC w (p + 1 + 1)) = M3 at *
  (repeat' (first | ((with_reducible first | refine cond_dec (fun h => ?_) (fun h => ?_) | refine guardK_dec (fun h => ?_) (fun h => ?_) | refine guardD3_dec (fun h => ?_) (fun h => ?_)) <;> first | (exfalso; omega) | (simp (maxSteps := 2000000) (disch := first | omega | assumption | exact idP rfl | exact idP (bL rfl)) only [go_sem, reduceIte, Nat.reduceEqDiff, wpV_kd, wpV_tH, h]) | skip) | ((with_reducible first | refine cond_split (fun h => ?_) (fun h => ?_) | refine guardK_split (fun h => ?_) (fun h => ?_) | refine guardD3_split (fun h => ?_) (fun h => ?_)) <;> ((try simp only [Bool.not_eq_true', Bool.not_eq_false'] at h); first | (simp (maxSteps := 2000000) (disch := first | omega | assumption | exact idP rfl | exact idP (bL rfl)) only [go_sem, reduceIte, Nat.reduceEqDiff, wpV_kd, wpV_tH, h]) | skip)) | ((with_reducible refine (t_l2VarOf).mono ?_); rintro _ _ ⟨rfl, rfl⟩) | ((with_reducible refine (t_l2Const).mono ?_); rintro _ _ ⟨rfl, rfl⟩) | (with_reducible intro bk hbk; try have hnk := (fresh_set hbk).1) | (simp (maxSteps := 2000000) (disch := first | omega | assumption | exact idP rfl | exact idP (bL rfl)) only [go_sem, reduceIte, Nat.reduceEqDiff, wpV_kd, wpV_tH])))
  change VCall _ _ _ (M3.set bk (catV encT [⟨1, at_, 0, 0⟩, ⟨0, lo + k, 0, 0⟩, ⟨op, 0, 0, 1⟩])) _
  have hg : Gr 4 (M.set rb (rdC w (p + 1 + 1))) (M3.set bk (catV encT [⟨1, at_, 0, 0⟩, ⟨0, lo + k, 0, 0⟩, ⟨op, 0, 0, 1⟩])) (.sc (.sl (some (bk, 0)) 3 3 true 4)) (catV encT [⟨1, at_, 0, 0⟩, ⟨0, lo + k, 0, 0⟩, ⟨op, 0, 0, 1⟩]) := Gr.new' rs3.sub hbk rfl
  have rs4 := rs3.more ((Sub.refl M3).set' (l := catV encT [⟨1, at_, 0, 0⟩, ⟨0, lo + k, 0, 0⟩, ⟨op, 0, 0, 1⟩]) hbk)
  generalize hM4 : M3.set bk (catV encT [⟨1, at_, 0, 0⟩, ⟨0, lo + k, 0, 0⟩, ⟨op, 0, 0, 1⟩]) = M4 at *
  refine (t_pick hr rs4.at_ (by omega) (by omega)).mono ?_
  rintro _ _ ⟨rfl, k3, rfl, _, _, _⟩
  have hg2 := hg.rd (Y := rdC w (p + 1 + 1 + 1))
  have rs5 := rs4.set (p + 1 + 1 + 1)
  generalize hM5 : M4.set rb (rdC w (p + 1 + 1 + 1)) = M5 at *
  refine sS0 ?_
  refine cond_dec (fun hk3 => ?_) (fun hk3 => ?_)
  · refine sS0 ?_
    intro b7 hb7
    refine app_term ⟨7, 0, 2, 2⟩ hg2 hb7 rfl (by simp) (by omega) ?_
    intro s' M6 hg3 _
    refine sS0 ?_
    exact hR _ _ ⟨_, _, hg3, by omega, by omega, _, rfl, by simp, by simp⟩
  · refine sS0 ?_
    exact hR _ _ ⟨_, _, hg2, by omega, by omega, _, rfl, by simp, by simp⟩
theorem t_l1Moved {t : TermS} {b : Int} : VCall Try.prog n_spec_l1Moved [.agg (encT t), .sc (.int .i64 b)] M (fun r M' => M = M' ∧ ∃ t' : TermS, r = .agg (encT t')) := by
  refine VCall.pure fun R hR => v_spec_l1Moved rfl ?_
  obtain ⟨op, n, a, c⟩ := t
  simp only [encT]
  (repeat' (first | ((with_reducible first | refine cond_dec (fun h => ?_) (fun h => ?_) | refine guardK_dec (fun h => ?_) (fun h => ?_) | refine guardD3_dec (fun h => ?_) (fun h => ?_)) <;> first | (exfalso; omega) | (simp (maxSteps := 2000000) (disch := first | omega | assumption | exact idP rfl | exact idP (bL rfl)) only [go_sem, reduceIte, Nat.reduceEqDiff, wpV_kd, wpV_tH, h]) | skip) | ((with_reducible first | refine cond_split (fun h => ?_) (fun h => ?_) | refine guardK_split (fun h => ?_) (fun h => ?_) | refine guardD3_split (fun h => ?_) (fun h => ?_)) <;> ((try simp only [Bool.not_eq_true', Bool.not_eq_false'] at h); first | (simp (maxSteps := 2000000) (disch := first | omega | assumption | exact idP rfl | exact idP (bL rfl)) only [go_sem, reduceIte, Nat.reduceEqDiff, wpV_kd, wpV_tH, h]) | skip)) | (with_reducible intro bk hbk; try have hnk := (fresh_set hbk).1) | (simp (maxSteps := 2000000) (disch := first | omega | assumption | exact idP rfl | exact idP (bL rfl)) only [go_sem, reduceIte, Nat.reduceEqDiff, wpV_kd, wpV_tH])))
  · exact hR _ _ (sB) ⟨⟨op, 0, _, _⟩, rfl⟩
  · exact hR _ _ (sB) ⟨⟨op, n, a, c⟩, rfl⟩
theorem t_TermsValid {v : V} {ts : List TermS} {vars : Int} (hv : LT v ts) : VCall Try.prog n_spec_TermsValid [v, .sc (.int .i64 vars)] M (fun r M' => M = M' ∧ r = .sc (.bool (kindsF vars ts).isSome)) := by
  refine VCall.pure fun R hR => v_spec_TermsValid rfl ?_
  refine sS0 ?_
  refine (t_KindsOf hv).mono ?_
  rintro r _ ⟨rfl, hr⟩
  cases hk : kindsF vars ts with
  | none =>
    rw [hk] at hr
    simp only [kRes] at hr
    subst hr
    refine sS0 ?_
    exact hR _ _ (sB) (by simp [hk])
  | some ks =>
    rw [hk] at hr
    have hr : LI r ks := hr
    obtain ⟨_, _, q1, q2, _, q3⟩ := kindsF_some hk
    refine sS1 @hr.len ?_
    exact hR _ _ (sB) (by refine eqB ?_; simp only [decide_eq_true_eq, hk, Option.isSome_some, iff_true]; omega)
theorem Gr.lenT {M0 : MH} {s : V} {ts : List TermS} (h : Gr 4 M0 M s (catV encT ts)) : lenF (er s) = some (.int .i64 (ts.length : Int)) := by
  obtain ⟨n, h1, _, h2, _⟩ := h.own.len
  have := catV_len (sz := 4) (enc := encT) (fun _ => rfl) ts
  rw [h1]
  congr 3
  omega
theorem t_Joined {v u : V} {xs ys : List TermS} {op vars : Int} (hv : LT v xs) (hu : LT u ys) : VCall Try.prog n_spec_Joined [.sc (.int .i64 op), v, u, .sc (.int .i64 vars)] M (fun r M' => ∃ ts, Gr 4 M M' r (catV encT ts) ∧ ts.length ≤ 81) := by
  refine VCall.plain fun R hR => v_spec_Joined rfl ?_
  (repeat' (first | ((with_reducible first | refine cond_dec (fun h => ?_) (fun h => ?_) | refine guardK_dec (fun h => ?_) (fun h => ?_) | refine guardD3_dec (fun h => ?_) (fun h => ?_)) <;> first | (exfalso; omega) | (simp (maxSteps := 2000000) (disch := first | omega | assumption | exact idP rfl | exact idP (bL rfl)) only [go_sem, reduceIte, Nat.reduceEqDiff, wpV_kd, wpV_tH, h, hv.len, hu.len]) | skip) | ((with_reducible first | refine cond_split (fun h => ?_) (fun h => ?_) | refine guardK_split (fun h => ?_) (fun h => ?_) | refine guardD3_split (fun h => ?_) (fun h => ?_)) <;> ((try simp only [Bool.not_eq_true', Bool.not_eq_false'] at h); first | (simp (maxSteps := 2000000) (disch := first | omega | assumption | exact idP rfl | exact idP (bL rfl)) only [go_sem, reduceIte, Nat.reduceEqDiff, wpV_kd, wpV_tH, h, hv.len, hu.len]) | skip)) | ((with_reducible refine (t_TermsValid hv).mono ?_); rintro _ _ ⟨rfl, rfl⟩) | ((with_reducible refine (t_TermsValid hu).mono ?_); rintro _ _ ⟨rfl, rfl⟩) | (with_reducible intro bk hbk; try have hnk := (fresh_set hbk).1) | (simp (maxSteps := 2000000) (disch := first | omega | assumption | exact idP rfl | exact idP (bL rfl)) only [go_sem, reduceIte, Nat.reduceEqDiff, wpV_kd, wpV_tH, hv.len, hu.len])))
  · exact hR _ _ ⟨[], .nil (.refl M), by simp⟩
  · exact hR _ _ ⟨[], .nil (.refl M), by simp⟩
  rename_i hx
  have hy := h
  have hxl : xs.length ≤ 40 := by
    cases hk : kindsF vars xs with
    | none => rw [hk] at hx; cases hx
    | some ks => have := kindsF_some hk; omega
  have hyl : ys.length ≤ 40 := by
    cases hk : kindsF vars ys with
    | none => rw [hk] at hy; cases hy
    | some ks => have := kindsF_some hk; omega
  refine loop_k (fun e M' => ∃ i : Nat, i ≤ xs.length ∧ e 0 = .sc (.int .i64 op) ∧ e 1 = v ∧ e 2 = u ∧ e 3 = .sc (.int .i64 vars) ∧ e 10 = .sc (.int .i64 i) ∧ Gr 4 M M' (e 9) (catV encT (xs.take i))) (fun e _ => ctrV xs.length (e 10)) ?_ ?_
  · exact ⟨0, by omega, sT0, sT0, sT0, sT0, by refine sS0 ?_; rfl, by refine sS0 ?_; exact Gr.new' (Sub.refl M) hbk rfl⟩
  · rintro e M1 ⟨i, hi, e0, e1, e2, e3, e10, hg⟩ K hK
    refine sS6 @e0 @e1 @e2 @e3 @e10 @hv.len ?_
    refine cond_dec (fun h => ?_) (fun h => ?_)
    · have hi' : i < xs.length := by omega
      simp (maxSteps := 2000000) (disch := first | omega | assumption | exact idP rfl | exact idP (bL rfl)) only [go_sem, reduceIte, Nat.reduceEqDiff, wpV_kd, wpV_tH, e0, e1, e2, e3, e10, hv.iaddr, LT.at hv hi', encT_take]
      intro bt hbt
      refine app_term xs[i] hg hbt rfl (by simp; omega) (by omega) ?_
      intro s' M' hg' _
      refine sS0 ?_
      exact hK _ _ ⟨i + 1, by omega, sT0, sT0, sT0, sT0, by refine sS0 ?_; rfl, by refine sS0 ?_; rw [take_snoc hi']; exact hg'⟩ (by refine sS2 @ctrV_int @e10 ?_; omega)
    · obtain rfl : i = xs.length := by omega
      rw [List.take_length] at hg
      refine sS0 ?_
      refine loop_k (fun e M' => ∃ (i : Nat) (zs : List TermS), i ≤ ys.length ∧ zs.length = xs.length + i ∧ e 0 = .sc (.int .i64 op) ∧ e 1 = v ∧ e 2 = u ∧ e 3 = .sc (.int .i64 vars) ∧ e 11 = .sc (.int .i64 i) ∧ Gr 4 M M' (e 9) (catV encT zs)) (fun e _ => ctrV ys.length (e 11)) ?_ ?_
      · exact ⟨0, xs, by omega, rfl, sT1 @e0, sT1 @e1, sT1 @e2, sT1 @e3, by refine sS0 ?_; rfl, by refine sS0 ?_; exact hg⟩
      · clear e0 e1 e2 e3 e10 hg
        rintro e M1 ⟨i, zs, hi, hz, e0, e1, e2, e3, e11, hg⟩ K2 hK2
        by_cases hi3 : (i : Int) < (ys.length : Int)
        · have hd : decide ((i : Int) < (ys.length : Int)) = true := by simp; omega
          have hi' : i < ys.length := by omega
          by_cases h7 : op = 7
          · have hd7 : decide (op = 7) = true := by simp [h7]
            (repeat' (first | ((with_reducible first | refine cond_dec (fun h => ?_) (fun h => ?_) | refine guardK_dec (fun h => ?_) (fun h => ?_) | refine guardD3_dec (fun h => ?_) (fun h => ?_)) <;> first | (exfalso; omega) | (simp (maxSteps := 2000000) (disch := first | omega | assumption | exact idP rfl | exact idP (bL rfl)) only [go_sem, reduceIte, Nat.reduceEqDiff, wpV_kd, wpV_tH, h, e0, e1, e2, e3, e11, hu.len, hd, hd7, hv.len, hg.lenT]) | skip) | ((with_reducible first | refine cond_split (fun h => ?_) (fun h => ?_) | refine guardK_split (fun h => ?_) (fun h => ?_) | refine guardD3_split (fun h => ?_) (fun h => ?_)) <;> ((try simp only [Bool.not_eq_true', Bool.not_eq_false'] at h); first | (simp (maxSteps := 2000000) (disch := first | omega | assumption | exact idP rfl | exact idP (bL rfl)) only [go_sem, reduceIte, Nat.reduceEqDiff, wpV_kd, wpV_tH, h, e0, e1, e2, e3, e11, hu.len, hd, hd7, hv.len, hg.lenT]) | skip)) | ((with_reducible refine (t_l1One).mono ?_); rintro _ _ ⟨rfl, rfl⟩) | (with_reducible intro bk hbk; try have hnk := (fresh_set hbk).1) | (simp (maxSteps := 2000000) (disch := first | omega | assumption | exact idP rfl | exact idP (bL rfl)) only [go_sem, reduceIte, Nat.reduceEqDiff, wpV_kd, wpV_tH, e0, e1, e2, e3, e11, hu.len, hd, hd7, hv.len, hg.lenT])))
            refine app_term ⟨op, 0, _, _⟩ hg hbk rfl (by omega) (by omega) ?_
            intro s' M2 hg2 _
            have hz2 : (zs ++ [(⟨op, 0, (xs.length : Int) - 1, (zs.length : Int) - 1⟩ : TermS)]).length ≤ 81 := by simp; omega
            generalize zs ++ [(⟨op, 0, (xs.length : Int) - 1, (zs.length : Int) - 1⟩ : TermS)] = qs at *
            by_cases h2 : op < 2
            · have hd2 : decide (op < 2) = true := by simp [h2]
              refine sS1 @hd2 ?_
              exact hR _ _ ⟨[], .nil hg2.sub, by simp⟩
            · have hd2 : decide (op < 2) = false := by simp [h2]
              refine sS1 @hd2 ?_
              refine (VCall.lend0 hg2.own flat_eq fun u M' hu => t_TermsValid hu.lt).mono ?_
              rintro _ _ ⟨rfl, rfl⟩
              (repeat' (first | ((with_reducible first | refine cond_dec (fun h => ?_) (fun h => ?_) | refine guardK_dec (fun h => ?_) (fun h => ?_) | refine guardD3_dec (fun h => ?_) (fun h => ?_)) <;> first | (exfalso; omega) | (simp (maxSteps := 2000000) (disch := first | omega | assumption | exact idP rfl | exact idP (bL rfl)) only [go_sem, reduceIte, Nat.reduceEqDiff, wpV_kd, wpV_tH, h]) | skip) | ((with_reducible first | refine cond_split (fun h => ?_) (fun h => ?_) | refine guardK_split (fun h => ?_) (fun h => ?_) | refine guardD3_split (fun h => ?_) (fun h => ?_)) <;> ((try simp only [Bool.not_eq_true', Bool.not_eq_false'] at h); first | (simp (maxSteps := 2000000) (disch := first | omega | assumption | exact idP rfl | exact idP (bL rfl)) only [go_sem, reduceIte, Nat.reduceEqDiff, wpV_kd, wpV_tH, h]) | skip)) | (with_reducible intro bk hbk; try have hnk := (fresh_set hbk).1) | (simp (maxSteps := 2000000) (disch := first | omega | assumption | exact idP rfl | exact idP (bL rfl)) only [go_sem, reduceIte, Nat.reduceEqDiff, wpV_kd, wpV_tH])))
              all_goals first | exact hR _ _ ⟨[], .nil hg2.sub, by simp⟩ | exact hR _ _ ⟨qs, hg2, hz2⟩
          · have hd7 : decide (op = 7) = false := by simp [h7]
            (repeat' (first | ((with_reducible first | refine cond_dec (fun h => ?_) (fun h => ?_) | refine guardK_dec (fun h => ?_) (fun h => ?_) | refine guardD3_dec (fun h => ?_) (fun h => ?_)) <;> first | (exfalso; omega) | (simp (maxSteps := 2000000) (disch := first | omega | assumption | exact idP rfl | exact idP (bL rfl)) only [go_sem, reduceIte, Nat.reduceEqDiff, wpV_kd, wpV_tH, h, e0, e1, e2, e3, e11, hu.len, hd, hd7, hu.iaddr, LT.at hu hi', encT_take, hv.len]) | skip) | ((with_reducible first | refine cond_split (fun h => ?_) (fun h => ?_) | refine guardK_split (fun h => ?_) (fun h => ?_) | refine guardD3_split (fun h => ?_) (fun h => ?_)) <;> ((try simp only [Bool.not_eq_true', Bool.not_eq_false'] at h); first | (simp (maxSteps := 2000000) (disch := first | omega | assumption | exact idP rfl | exact idP (bL rfl)) only [go_sem, reduceIte, Nat.reduceEqDiff, wpV_kd, wpV_tH, h, e0, e1, e2, e3, e11, hu.len, hd, hd7, hu.iaddr, LT.at hu hi', encT_take, hv.len]) | skip)) | ((with_reducible refine (t_l1One).mono ?_); rintro _ _ ⟨rfl, rfl⟩) | (with_reducible intro bk hbk; try have hnk := (fresh_set hbk).1) | (simp (maxSteps := 2000000) (disch := first | omega | assumption | exact idP rfl | exact idP (bL rfl)) only [go_sem, reduceIte, Nat.reduceEqDiff, wpV_kd, wpV_tH, e0, e1, e2, e3, e11, hu.len, hd, hd7, hu.iaddr, LT.at hu hi', encT_take, hv.len])))
            refine t_l1Moved.mono ?_
            rintro _ _ ⟨rfl, t', rfl⟩
            refine sS0 ?_
            intro bt hbt
            refine app_term t' hg hbt rfl (by omega) (by omega) ?_
            intro s' M' hg' _
            refine sS0 ?_
            exact hK2 _ _ ⟨i + 1, zs ++ [t'], by omega, by simp; omega, sE0, sE0, sE0, sE0, sE0, by refine sS0 ?_; exact hg'⟩ (by refine sS2 @ctrV_int @e11 ?_; omega)
        · have hd : decide ((i : Int) < (ys.length : Int)) = false := by simp; omega
          (repeat' (first | ((with_reducible first | refine cond_dec (fun h => ?_) (fun h => ?_) | refine guardK_dec (fun h => ?_) (fun h => ?_) | refine guardD3_dec (fun h => ?_) (fun h => ?_)) <;> first | (exfalso; omega) | (simp (maxSteps := 2000000) (disch := first | omega | assumption | exact idP rfl | exact idP (bL rfl)) only [go_sem, reduceIte, Nat.reduceEqDiff, wpV_kd, wpV_tH, h, e0, e1, e2, e3, e11, hu.len, hd, hv.len, hg.lenT]) | skip) | ((with_reducible first | refine cond_split (fun h => ?_) (fun h => ?_) | refine guardK_split (fun h => ?_) (fun h => ?_) | refine guardD3_split (fun h => ?_) (fun h => ?_)) <;> ((try simp only [Bool.not_eq_true', Bool.not_eq_false'] at h); first | (simp (maxSteps := 2000000) (disch := first | omega | assumption | exact idP rfl | exact idP (bL rfl)) only [go_sem, reduceIte, Nat.reduceEqDiff, wpV_kd, wpV_tH, h, e0, e1, e2, e3, e11, hu.len, hd, hv.len, hg.lenT]) | skip)) | (with_reducible intro bk hbk; try have hnk := (fresh_set hbk).1) | (simp (maxSteps := 2000000) (disch := first | omega | assumption | exact idP rfl | exact idP (bL rfl)) only [go_sem, reduceIte, Nat.reduceEqDiff, wpV_kd, wpV_tH, e0, e1, e2, e3, e11, hu.len, hd, hv.len, hg.lenT])))
          refine app_term ⟨op, 0, _, _⟩ hg hbk rfl (by omega) (by omega) ?_
          intro s' M2 hg2 _
          have hz2 : (zs ++ [(⟨op, 0, (xs.length : Int) - 1, (zs.length : Int) - 1⟩ : TermS)]).length ≤ 81 := by simp; omega
          generalize zs ++ [(⟨op, 0, (xs.length : Int) - 1, (zs.length : Int) - 1⟩ : TermS)] = qs at *
          by_cases h2 : op < 2
          · have hd2 : decide (op < 2) = true := by simp [h2]
            refine sS1 @hd2 ?_
            exact hR _ _ ⟨[], .nil hg2.sub, by simp⟩
          · have hd2 : decide (op < 2) = false := by simp [h2]
            refine sS1 @hd2 ?_
            refine (VCall.lend0 hg2.own flat_eq fun u M' hu => t_TermsValid hu.lt).mono ?_
            rintro _ _ ⟨rfl, rfl⟩
            (repeat' (first | ((with_reducible first | refine cond_dec (fun h => ?_) (fun h => ?_) | refine guardK_dec (fun h => ?_) (fun h => ?_) | refine guardD3_dec (fun h => ?_) (fun h => ?_)) <;> first | (exfalso; omega) | (simp (maxSteps := 2000000) (disch := first | omega | assumption | exact idP rfl | exact idP (bL rfl)) only [go_sem, reduceIte, Nat.reduceEqDiff, wpV_kd, wpV_tH, h]) | skip) | ((with_reducible first | refine cond_split (fun h => ?_) (fun h => ?_) | refine guardK_split (fun h => ?_) (fun h => ?_) | refine guardD3_split (fun h => ?_) (fun h => ?_)) <;> ((try simp only [Bool.not_eq_true', Bool.not_eq_false'] at h); first | (simp (maxSteps := 2000000) (disch := first | omega | assumption | exact idP rfl | exact idP (bL rfl)) only [go_sem, reduceIte, Nat.reduceEqDiff, wpV_kd, wpV_tH, h]) | skip)) | (with_reducible intro bk hbk; try have hnk := (fresh_set hbk).1) | (simp (maxSteps := 2000000) (disch := first | omega | assumption | exact idP rfl | exact idP (bL rfl)) only [go_sem, reduceIte, Nat.reduceEqDiff, wpV_kd, wpV_tH])))
            all_goals first | exact hR _ _ ⟨[], .nil hg2.sub, by simp⟩ | exact hR _ _ ⟨qs, hg2, hz2⟩
theorem encVar_take (v : VarS) : (encVar v).take 3 = encVar v := rfl
theorem LVar.at' {v : V} {vs : List VarS} (h : LVar v vs) {i : Nat} (hi : i < vs.length) : atN 3 v i = encVar vs[i] := h.elt hi
theorem t_l2When {rb : Nat} {w v : V} {code : List Int} {p : Int} {vs : List VarS} (hr : Rdr w code) (hm : M rb = some (rdC w p)) (h0 : 0 ≤ p) (h1 : p ≤ 900000) (hv : LVar v vs) (hb : ∀ x ∈ vs, VarB x) (hl : 0 < vs.length) (hl2 : vs.length ≤ 1048576) :
    VCall Try.prog n_spec_l2When [.sc (.ptr (some (rb, 0))), v] M (fun r M' => ∃ p' c, Gr 4 (M.set rb (rdC w p')) M' r c ∧ DT p 10 0 81 c p') := by
  refine VCall.plain fun R hR => v_spec_l2When rfl ?_
  have rs0 := RS.start hm
  refine sS1 @hv.len ?_
  refine (t_pick hr hm h0 (by omega)).mono ?_
  rintro _ _ ⟨rfl, k, rfl, k0, k1, _⟩
  have k1 := k1 (by omega)
  have rs1 := rs0.set (p + 1)
  generalize hM1 : M.set rb (rdC w (p + 1)) = M1 at *
  have hki : k.toNat < vs.length := by omega
  simp (maxSteps := 2000000) (disch := first | omega | assumption | exact idP rfl | exact idP (bL rfl)) only [go_sem, reduceIte, Nat.reduceEqDiff, wpV_kd, wpV_tH, hv.len, hv.iaddr, LVar.at' hv hki, encVar_take]
  refine (t_l2Cond hr rs1.at_ (by omega) (by omega) (hb _ (List.getElem_mem hki))).mono ?_
  rintro ul M2 ⟨p2, c, hg, d1, d2, ts, rfl, hts1, hts2⟩
  have rs2 := rs1.to hg.sub
  refine sS0 ?_
  refine (t_pick hr rs2.at_ (by omega) (by omega)).mono ?_
  rintro _ _ ⟨rfl, k', rfl, _, _, _⟩
  have rs3 := rs2.set (p2 + 1)
  have hg3 : Gr 4 (M.set rb (rdC w (p2 + 1))) (M2.set rb (rdC w (p2 + 1))) ul (catV encT ts) := by
    rw [← hM1, set_set] at hg; exact hg.rd
  generalize hM3 : M2.set rb (rdC w (p2 + 1)) = M3 at *
  refine sS0 ?_
  refine cond_dec (fun hk => ?_) (fun hk => ?_)
  · refine sS1 @hv.len ?_
    refine (t_pick hr rs3.at_ (by omega) (by omega)).mono ?_
    rintro _ _ ⟨rfl, j, rfl, j0, j1, _⟩
    have j1 := j1 (by omega)
    have hji : j.toNat < vs.length := by omega
    have rs4 := rs3.set (p2 + 1 + 1)
    have hg4 := hg3.rd (Y := rdC w (p2 + 1 + 1))
    generalize hM4 : M3.set rb (rdC w (p2 + 1 + 1)) = M4 at *
    simp (maxSteps := 2000000) (disch := first | omega | assumption | exact idP rfl | exact idP (bL rfl)) only [go_sem, reduceIte, Nat.reduceEqDiff, wpV_kd, wpV_tH, hv.len, hv.iaddr, LVar.at' hv hji, encVar_take]
    intro b5 hb5
    refine (t_numL [8, 9, 8] hr hb5 rs4.at_ (by omega) (by omega) rfl rfl (by simp) (by simp)).mono ?_
    rintro _ _ ⟨rfl, op, hop, rfl⟩
    have rs5 := rs4.set (p2 + 1 + 1 + 1)
    have hg5 := hg4.rd (Y := rdC w (p2 + 1 + 1 + 1))
    generalize hM5 : M4.set rb (rdC w (p2 + 1 + 1 + 1)) = M5 at *
    simp (maxSteps := 2000000) (disch := first | omega | assumption | exact idP rfl | exact idP (bL rfl)) only [go_sem, reduceIte, Nat.reduceEqDiff, wpV_kd, wpV_tH, hv.len, hv.iaddr, LVar.at' hv hji, encVar_take]
    refine (VCall.frT4 (t_l2Cond hr rs5.at_ (by omega) (by omega) (hb _ (List.getElem_mem hji)))).mono ?_
    rintro u2 _ ⟨p6, rfl, d3, d4, ts2, hu2, _, _⟩
    have hg6 := hg5.rd (Y := rdC w p6)
    refine sS1 @hv.len ?_
    refine (VCall.give1 hg6 fun u M7 hu hs7 => (t_Joined hu.lt hu2).mono fun r M' ⟨zs, hz, hzl⟩ => (show ∃ zs, Gr 4 (M.set rb (rdC w p6)) M' r (catV encT zs) ∧ zs.length ≤ 81 from ⟨zs, hz.base hs7, hzl⟩)).mono ?_
    rintro r M8 ⟨zs, hz, hzl⟩
    refine sS0 ?_
    exact hR _ _ ⟨_, _, hz, by omega, by omega, _, rfl, by omega, hzl⟩
  · refine sS0 ?_
    exact hR _ _ ⟨_, _, hg3, by omega, by omega, _, rfl, by omega, by omega⟩
end Go.M2

namespace Go.M2
open Go.Proofs
variable {M : MH}
end Go.M2

namespace Go.M2
open Go.Proofs
variable {M : MH}
end Go.M2

namespace Go.M2
open Go.Proofs
theorem least {p : Nat → Prop} (h : ∃ n, p n) : ∃ n, p n ∧ ∀ m, p m → n ≤ m := by
  obtain ⟨n, hn⟩ := h
  induction n using Nat.strongRecOn with
  | _ n ih =>
    by_cases h2 : ∃ m, m < n ∧ p m
    · obtain ⟨m, h3, h4⟩ := h2
      exact ih m h3 h4
    · refine ⟨n, hn, fun m hm => ?_⟩
      rcases Nat.lt_or_ge m n with h3 | h3
      · exact absurd ⟨m, h3, hm⟩ h2
      · exact h3
open Classical in
noncomputable def leastOf (p : Nat → Prop) : Nat := if h : ∃ n, p n then (least h).choose else 0
theorem leastOf_spec {p : Nat → Prop} (h : ∃ n, p n) : p (leastOf p) ∧ ∀ m, p m → leastOf p ≤ m := by
  unfold leastOf
  rw [dif_pos h]
  exact (least h).choose_spec
theorem loop_g {P : Program} {Q : PostV} {e : EnvV} {M : MH} {a : IR} (I : Nat → EnvV → MH → Prop) (n : Nat) (h0 : I n e M)
    (hr : ∀ n e M, I n e M → ∀ K : EnvV → MH → Prop, (∀ m e' M', m < n → I m e' M' → K e' M') → wpV P a (thenQV K Q) e M) : wpV P (.loop a) Q e M := by
  refine loop_k (fun e M => ∃ n, I n e M) (fun e M => leastOf fun n => I n e M) ⟨n, h0⟩ fun e M hI K hK => ?_
  have h1 := leastOf_spec hI
  exact hr _ e M h1.1 K fun m e' M' hm hI' => hK e' M' ⟨m, hI'⟩ (Nat.lt_of_le_of_lt ((leastOf_spec ⟨m, hI'⟩).2 m hI') hm)
def Wn (M0 M : MH) (v : V) (xs : List Int) : Prop := ∃ b o ex l, v = .sc (.sl (some (b, o)) xs.length xs.length ex 1) ∧ M b = some l ∧ o + xs.length ≤ l.length ∧ (l.drop o).take xs.length = xs.map vi ∧ M0 b = none ∧ Sub M0 M
section
variable {M0 M : MH} {v : V} {x : Int} {xs : List Int} {K : V → MH → Prop} {by_ : Nat}
theorem Wn.len (h : Wn M0 M v xs) : lenF (er v) = some (.int .i64 (xs.length : Int)) := by
  obtain ⟨b, o, ex, l, rfl, _⟩ := h; rfl
theorem Wn.sub (h : Wn M0 M v xs) : Sub M0 M := by
  obtain ⟨b, o, ex, l, rfl, _, _, _, _, hs⟩ := h; exact hs
theorem Wn.oth {q : Nat} {l' : List V} (h : Wn M0 M v xs) (hq : blkV v ≠ some q) (h0 : M0 q = none) : Wn M0 (M.set q l') v xs := by
  obtain ⟨b, o, ex, l, rfl, h1, h2, h3, h4, h5⟩ := h
  have hne : b ≠ q := fun e => hq (by simp [blkV, e])
  exact ⟨b, o, ex, l, rfl, by rw [set_ne hne]; exact h1, h2, h3, h4, h5.set h0⟩
end
inductive Rch (tab : List (List Int)) (st : Nat → Prop) : Nat → Prop
  | base {i : Nat} : st i → Rch tab st i
  | step {i : Nat} {x : Int} : Rch tab st i → x ∈ tab.getD i [] → Rch tab st x.toNat
noncomputable def rB (tab : List (List Int)) (st : Nat → Prop) (i : Nat) : Bool := @decide (Rch tab st i) (Classical.propDecidable _)
theorem rB_iff {tab : List (List Int)} {st : Nat → Prop} {i : Nat} : rB tab st i = true ↔ Rch tab st i := by unfold rB; exact @decide_eq_true_iff _ (Classical.propDecidable _)
theorem rB_closed {tab : List (List Int)} {st : Nat → Prop} {m : Nat → Bool} (h0 : ∀ i, st i → m i = true) (h1 : ∀ i, m i = true → Rch tab st i) (h2 : ∀ i, m i = true → ∀ x ∈ tab.getD i [], m x.toNat = true) (i : Nat) : m i = rB tab st i := by
  rw [Bool.eq_iff_iff, rB_iff]
  constructor
  · exact h1 i
  · intro h
    induction h with
    | base h => exact h0 _ h
    | step _ hx ih => exact h2 _ ih _ hx
end Go.M2
