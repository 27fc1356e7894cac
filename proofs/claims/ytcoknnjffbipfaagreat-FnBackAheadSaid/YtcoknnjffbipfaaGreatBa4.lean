/- The functions, turned: printed by program. -/
import Derived.Test.YtcoknnjffbipfaaGreatBa3
import Derived.Test.YtcoknnjffbipfaaGreatProg
import Derived.KernelRfl
set_option linter.unusedVariables false
set_option linter.unusedSimpArgs false
set_option maxRecDepth 10000
set_option maxHeartbeats 4000000
namespace Go.M2
open Go.Proofs
variable {M : MH} {vs : List V} {RV : V → MH → Prop}
theorem mixed : Tryz.prog.follows .mixedOrders = true := by kernel_rfl
def n_spec_l40Open : Nat := 36
def n_spec_l40Rd_pick : Nat := 73
def n_spec_l40Rd_num : Nat := 84
def n_spec_l2VarOf : Nat := 141
def n_spec_l2Const : Nat := 85
def n_spec_l2Cond : Nat := 121
def n_spec_l1In : Nat := 52
def n_spec_l1One : Nat := 139
def n_spec_l1Kind : Nat := 140
def n_spec_KindsOf : Nat := 124
def n_spec_TermsValid : Nat := 142
def n_spec_l1Moved : Nat := 143
def n_spec_Joined : Nat := 122
def n_spec_l2When : Nat := 98
def n_spec_l1Number : Nat := 137
def n_spec_l1Pick : Nat := 138
def n_spec_l1Terms : Nat := 120
def n_spec_l2Value : Nat := 128
def n_spec_l2Rules : Nat := 110
def n_spec_l2System : Nat := 83
def n_spec_l2Any : Nat := 35
def n_spec_l2Var : Nat := 68
def n_spec_l2Is : Nat := 102
def n_spec_l2Rule : Nat := 69
def n_spec_SystemValid : Nat := 27
def n_spec_SizeOf : Nat := 12
def n_spec_l4Some : Nat := 74
def n_spec_l19Set : Nat := 46
def n_spec_DrawBackWithin : Nat := 15
def n_impl_in : Nat := 57
def n_slices_IndexFunc_Simpl_Var_impl_Var : Nat := 105
def n_slices_ContainsFunc_Simpl_Var_impl_Var : Nat := 62
def n_impl_varOk : Nat := 64
def n_impl_SystemValid_1 : Nat := 63
def n_impl_size : Nat := 42
def n_impl_parts : Nat := 145
def n_impl_kindsOf : Nat := 126
def n_impl_kindOf : Nat := 107
def n_impl_ruleOk : Nat := 67
def n_impl_SystemValid_2 : Nat := 66
def n_slices_IndexFunc_Simpl_Rule_impl_Rule : Nat := 106
def n_slices_ContainsFunc_Simpl_Rule_impl_Rule : Nat := 65
def n_impl_SystemValid : Nat := 26
def n_impl_setOk : Nat := 51
def n_impl_SetValid : Nat := 20
def n_impl_stateAt : Nat := 88
def n_impl_held : Nat := 146
def n_impl_bit : Nat := 147
def n_impl_do : Nat := 127
def n_impl_eval : Nat := 108
def n_impl_clone_int : Nat := 37
def n_impl_inRange : Nat := 109
def n_impl_use : Nat := 112
def n_slices_BinarySearchFunc_SSint_Sint_Sint : Nat := 113
def n_cmp_isNaN_int : Nat := 148
def n_cmp_Compare_int : Nat := 131
def n_slices_Compare_Sint_int : Nat := 114
def n_slices_Reverse_SSint_Sint : Nat := 151
def n_slices_rotateLeft_Sint : Nat := 149
def n_slices_rotateRight_Sint : Nat := 133
def n_slices_Insert_SSint_Sint : Nat := 115
def n_impl_clone_Sint : Nat := 116
def n_impl_nextStates : Nat := 87
def n_impl_number : Nat := 80
def n_impl_nexts : Nat := 39
def n_impl_pasts : Nat := 45
def n_impl_marks : Nat := 96
def n_impl_listOf : Nat := 43
def n_impl_over : Nat := 72
def n_impl_within : Nat := 93
def n_impl_withinOf : Nat := 47
def n_impl_BackWithin : Nat := 16
def n_impl_AheadWithin : Nat := 17
def n_spec_SetValid : Nat := 21
def n_spec_l19Steps : Nat := 48
def n_spec_FirstState : Nat := 119
def n_spec_l3Copy : Nat := 104
def n_spec_l4State : Nat := 90
def n_spec_l1Held : Nat := 152
def n_spec_l1Truth : Nat := 153
def n_spec_l1Do : Nat := 150
def n_spec_l1Values : Nat := 144
def n_spec_l2Last : Nat := 125
def n_spec_l2In : Nat := 134
def n_spec_l2Use : Nat := 117
def n_spec_l2Same : Nat := 135
def n_spec_l2Less : Nat := 136
def n_spec_l2Put : Nat := 118
def n_spec_l2Next : Nat := 89
def n_spec_l4Number : Nat := 91
def n_spec_l4Steps : Nat := 41
def n_spec_l4Marks : Nat := 78
def n_spec_l4Ahead : Nat := 94
def n_spec_l4List : Nat := 75
def n_spec_l19Back : Nat := 49
def n_spec_BackWithin : Nat := 18
def n_laws_wcInts : Nat := 9
def n_spec_l2Has : Nat := 95
def n_spec_l5Turned : Nat := 50
def n_spec_AheadWithin : Nat := 19
def n_impl_SizeOf : Nat := 11
def n_laws_wcHas : Nat := 13
def n_impl_setOf : Nat := 53
def n_impl_SetBoth_1 : Nat := 54
def n_impl_SetBoth : Nat := 22
def n_laws_FnBackAhead : Nat := 4
@[go_sem] def l36_0 (_ : Unit) : KL := [kB 2 (.mv (.c (.ptr none))) [0]]
@[go_sem] def l36_1 (_ : Unit) : KL := [kA 3 (.mv (.t 0)),
  kA 4 (.len (.t 3)),
  kB 5 (.bin .gtr (.t 4) (.c (.int .i64 2000))) [0, 5]]
@[go_sem] def l36_2 (_ : Unit) : KL := [kA 6 (.mv (.t 0)),
  kA 7 (.slc 1 (.t 6) none (some (.c (.int .i64 2000))) none),
  kB 0 (.mv (.t 7)) [0]]
@[go_sem] def s36_3 (_ : Unit) : IR := (sQ [(kT l36_1), (.cond (.t 5) (kT l36_2) .skip)])
@[go_sem] def l36_4 (_ : Unit) : KL := [kA 8 (.mv (.t 0)),
  kA 9 (.bld [(.sl none 0 0 true 0), (.int .i64 0)] [(0, 1, (.t 8))]),
  kA 10 (.box (.t 9)),
  kB 2 (.mv (.t 10)) [2]]
@[go_sem] def s36_5 (_ : Unit) : IR := (sQ [(kT l36_0), (tH s36_3), (kT l36_4), .ret])
theorem c36 : compFn Tryz.prog [(0, [], [oS [0]]), (1, [], [oN, oN, oS [0, 5]]), (2, [], [oN, oN, oS [0]]), (3, [], [oN, oN, oN, oS [2]])] Tryz.f36 = some ⟨1, 11, [.t 2], (tH s36_5)⟩ := by kernel_rfl
theorem v_spec_l40Open (hl : vs.length = 1) (h : wpV Tryz.prog (tH s36_5) (postV [.t 2] RV) (envV vs) M) : VCall Tryz.prog n_spec_l40Open vs M RV :=
  vcall_of_wp (fun _ _ _ hl h => acall_of_wp mixed Tryz.func36 c36 (by kernel_rfl) hl h) hl h
@[go_sem] def l73_0 (_ : Unit) : KL := [kB 4 (.mv (cI 0)) [0, 1]]
@[go_sem] def l73_1 (_ : Unit) : KL := [kA 7 (.mv (.t 0)),
  kA 8 (.mv (.t 0)),
  kA 9 (.nilck (.t 8)),
  kA 10 (.faddr (.t 9) 1),
  kB 11 (.load (.t 10) 1 false) [0, 1, 7, 11],
  kA 12 (.bin .add (.t 11) (cI 1)),
  kA 13 (.nilck (.t 7)),
  kA 14 (.faddr (.t 13) 1),
  (⟨none, .store (.t 14) 1 (.t 12), none⟩, (some [0, 1]))]
@[go_sem] def l73_2 (_ : Unit) : KL := [kA 15 (.mv (.t 1)),
  kA 16 (.bin .lss (.t 15) (cI 1)),
  kA 17 (.mv (.t 16)),
  (⟨(some 18), .mv (.t 0), (some (17, false))⟩, none),
  (⟨(some 19), .nilck (.t 18), (some (17, false))⟩, (some [0, 1, 17, 19])),
  (⟨(some 20), .faddr (.t 19) 0, (some (17, false))⟩, none),
  (⟨(some 21), .load (.t 20) 1 false, (some (17, false))⟩, none),
  (⟨(some 22), .len (.t 21), (some (17, false))⟩, none),
  (⟨(some 23), .bin .eql (.t 22) (cI 0), (some (17, false))⟩, none),
  kB 24 (.pick (.t 17) (.c (.bool true)) (.t 23)) [0, 1, 24]]
@[go_sem] def l73_3 (_ : Unit) : KL := [kB 4 (.mv (cI 0)) [4]]
@[go_sem] def s73_4 (_ : Unit) : IR := (sQ [(kT l73_3), .ret])
@[go_sem] def s73_5 (_ : Unit) : IR := (sQ [(kT l73_2), (.cond (.t 24) (tH s73_4) .skip)])
@[go_sem] def l73_6 (_ : Unit) : KL := [kA 25 (.mv (.t 0)),
  kA 26 (.nilck (.t 25)),
  kA 27 (.faddr (.t 26) 1),
  kA 28 (.load (.t 27) 1 false),
  kB 29 (.bin .sub (.t 28) (cI 1)) [0, 1, 29],
  kB 5 (.mv (.t 29)) [0, 1, 5]]
@[go_sem] def l73_7 (_ : Unit) : KL := [kA 30 (.mv (.t 5)),
  kA 31 (.mv (.t 0)),
  kA 32 (.nilck (.t 31)),
  kA 33 (.faddr (.t 32) 0),
  kB 34 (.load (.t 33) 1 false) [0, 1, 5, 30, 34],
  kA 35 (.len (.t 34)),
  kB 36 (.bin .lss (.t 30) (.t 35)) [0, 1, 5, 36]]
@[go_sem] def l73_8 (_ : Unit) : KL := [kA 37 (.mv (.t 0)),
  kA 38 (.nilck (.t 37)),
  kA 39 (.faddr (.t 38) 0),
  kA 40 (.load (.t 39) 1 false),
  kB 41 (.mv (.t 5)) [1, 40, 41],
  kA 42 (.iaddr (.t 40) (.t 41) 1),
  kA 43 (.load (.t 42) 1 false),
  kA 44 (.cvi .i64 (.t 43)),
  kA 45 (.mv (.t 1)),
  kB 46 (.bin .rem (.t 44) (.t 45)) [46],
  kB 4 (.mv (.t 46)) [4]]
@[go_sem] def s73_9 (_ : Unit) : IR := (sQ [(kT l73_8), .ret])
@[go_sem] def s73_10 (_ : Unit) : IR := (sQ [(kT l73_7), (.cond (.t 36) (tH s73_9) .skip)])
@[go_sem] def l73_11 : Nat → GOp
  | 0 => ⟨(some 47), .mv (.t 0), none⟩
  | 1 => ⟨(some 48), .nilck (.t 47), none⟩
  | 2 => ⟨(some 49), .faddr (.t 48) 0, none⟩
  | 3 => ⟨(some 50), .load (.t 49) 1 false, none⟩
  | 4 => ⟨(some 51), .mv (.t 5), none⟩
  | 5 => ⟨(some 52), .mv (.t 0), none⟩
  | 6 => ⟨(some 53), .nilck (.t 52), none⟩
  | 7 => ⟨(some 54), .faddr (.t 53) 0, none⟩
  | 8 => ⟨(some 55), .load (.t 54) 1 false, none⟩
  | 9 => ⟨(some 56), .len (.t 55), none⟩
  | 10 => ⟨(some 57), .bin .rem (.t 51) (.t 56), none⟩
  | 11 => ⟨(some 58), .iaddr (.t 50) (.t 57) 1, none⟩
  | 12 => ⟨(some 59), .load (.t 58) 1 false, none⟩
  | 13 => ⟨(some 60), .cvi .i64 (.t 59), none⟩
  | 14 => ⟨(some 61), .bin .mul (.t 60) (.c (.int .i64 131)), none⟩
  | 15 => ⟨(some 62), .mv (.t 0), none⟩
  | 16 => ⟨(some 63), .nilck (.t 62), none⟩
  | 17 => ⟨(some 64), .faddr (.t 63) 0, none⟩
  | 18 => ⟨(some 65), .load (.t 64) 1 false, none⟩
  | 19 => ⟨(some 66), .mv (.t 5), none⟩
  | 20 => ⟨(some 67), .bin .mul (.t 66) (.c (.int .i64 7)), none⟩
  | 21 => ⟨(some 68), .bin .add (.t 67) (.c (.int .i64 3)), none⟩
  | 22 => ⟨(some 69), .mv (.t 0), none⟩
  | 23 => ⟨(some 70), .nilck (.t 69), none⟩
  | 24 => ⟨(some 71), .faddr (.t 70) 0, none⟩
  | 25 => ⟨(some 72), .load (.t 71) 1 false, none⟩
  | 26 => ⟨(some 73), .len (.t 72), none⟩
  | 27 => ⟨(some 74), .bin .rem (.t 68) (.t 73), none⟩
  | 28 => ⟨(some 75), .iaddr (.t 65) (.t 74) 1, none⟩
  | 29 => ⟨(some 76), .load (.t 75) 1 false, none⟩
  | 30 => ⟨(some 77), .cvi .i64 (.t 76), none⟩
  | 31 => ⟨(some 78), .bin .mul (.t 77) (.c (.int .i64 1117)), none⟩
  | 32 => ⟨(some 79), .bin .add (.t 61) (.t 78), none⟩
  | 33 => ⟨(some 80), .mv (.t 5), none⟩
  | 34 => ⟨(some 81), .bin .mul (.t 80) (.c (.int .i64 29)), none⟩
  | 35 => ⟨(some 82), .bin .add (.t 79) (.t 81), none⟩
  | 36 => ⟨(some 83), .mv (.t 5), none⟩
  | 37 => ⟨(some 84), .mv (.t 0), none⟩
  | 38 => ⟨(some 85), .nilck (.t 84), none⟩
  | 39 => ⟨(some 86), .faddr (.t 85) 0, none⟩
  | 40 => ⟨(some 87), .load (.t 86) 1 false, none⟩
  | 41 => ⟨(some 88), .len (.t 87), none⟩
  | 42 => ⟨(some 89), .bin .quo (.t 83) (.t 88), none⟩
  | 43 => ⟨(some 90), .bin .mul (.t 89) (.c (.int .i64 53)), none⟩
  | 44 => ⟨(some 91), .bin .add (.t 82) (.t 90), none⟩
  | 45 => ⟨(some 6), .mv (.t 91), none⟩
  | _ => ⟨none, .mkmap, none⟩
@[go_sem] def l73_12 (_ : Unit) : KL := [kA 92 (.mv (.t 6)),
  kA 93 (.mv (.t 6)),
  kA 94 (.bin .quo (.t 93) (.c (.int .i64 64))),
  kA 95 (.bin .xor (.t 92) (.t 94)),
  kB 6 (.mv (.t 95)) [1, 6]]
@[go_sem] def l73_13 (_ : Unit) : KL := [kA 96 (.mv (.t 6)),
  kA 97 (.mv (.t 1)),
  kA 98 (.bin .rem (.t 96) (.t 97)),
  kB 4 (.mv (.t 98)) [4]]
@[go_sem] def s73_14 (_ : Unit) : IR := (sQ [(kT l73_0), (kT l73_1), (tH s73_5), (kT l73_6), (tH s73_10), (.kd (oF l73_11 46) [(0, []), (1, []), (2, []), (3, []), (4, []), (5, []), (6, []), (7, []), (8, []), (9, []), (10, []), (11, []), (12, []), (13, []), (14, []), (15, []), (16, []), (17, []), (18, []), (19, []), (20, []), (21, []), (22, []), (23, []), (24, []), (25, []), (26, []), (27, []), (28, []), (29, []), (30, []), (31, []), (32, []), (33, []), (34, []), (35, []), (36, []), (37, []), (38, []), (39, []), (40, []), (41, []), (42, []), (43, []), (44, []), (45, [])] [1, 6]), (kT l73_12), (kT l73_13), .ret])
theorem c73 : compFn Tryz.prog [(0, [], [oS [0, 1]]), (1, [], [oN, oN, oN, oN, oS [0, 1, 7, 11], oN, oN, oN, oS [0, 1]]), (2, [], [oN, oN, oN, oN, oS [0, 1, 17, 19], oN, oN, oN, oN, oS [0, 1, 24]]), (3, [], [oS [4]]), (4, [], [oN, oN, oN, oN, oS [0, 1, 29], oS [0, 1, 5]]), (5, [], [oN, oN, oN, oN, oS [0, 1, 5, 30, 34], oN, oS [0, 1, 5, 36]]), (6, [], [oN, oN, oN, oN, oS [1, 40, 41], oN, oN, oN, oN, oS [46], oS [4]]), (7, [(0, []), (1, []), (2, []), (3, []), (4, []), (5, []), (6, []), (7, []), (8, []), (9, []), (10, []), (11, []), (12, []), (13, []), (14, []), (15, []), (16, []), (17, []), (18, []), (19, []), (20, []), (21, []), (22, []), (23, []), (24, []), (25, []), (26, []), (27, []), (28, []), (29, []), (30, []), (31, []), (32, []), (33, []), (34, []), (35, []), (36, []), (37, []), (38, []), (39, []), (40, []), (41, []), (42, []), (43, []), (44, []), (45, [])], [oS [1, 6]]), (8, [], [oN, oN, oN, oN, oS [1, 6]]), (9, [], [oN, oN, oN, oS [4]])] Tryz.f73 = some ⟨2, 99, [.t 4], (tH s73_14)⟩ := by kernel_rfl
theorem v_spec_l40Rd_pick (hl : vs.length = 2) (h : wpV Tryz.prog (tH s73_14) (postV [.t 4] RV) (envV vs) M) : VCall Tryz.prog n_spec_l40Rd_pick vs M RV :=
  vcall_of_wp (fun _ _ _ hl h => acall_of_wp mixed Tryz.func73 c73 (by kernel_rfl) hl h) hl h
@[go_sem] def l84_0 (_ : Unit) : KL := [kB 4 (.mv (cI 0)) [0, 1]]
@[go_sem] def l84_1 (_ : Unit) : KL := [kA 5 (.mv (.t 1)),
  kA 6 (.mv (.t 0)),
  kA 7 (.mv (.t 1)),
  kA 8 (.len (.t 7)),
  kB 9 (.call (n_spec_l40Rd_pick) [(.t 6), (.t 8)]) [5, 9],
  kA 10 (.iaddr (.t 5) (.t 9) 1),
  kA 11 (.load (.t 10) 1 false),
  kB 4 (.mv (.t 11)) [4]]
@[go_sem] def s84_2 (_ : Unit) : IR := (sQ [(kT l84_0), (kT l84_1), .ret])
theorem c84 : compFn Tryz.prog [(0, [], [oS [0, 1]]), (1, [], [oN, oN, oN, oN, oS [5, 9], oN, oN, oS [4]])] Tryz.f84 = some ⟨2, 12, [.t 4], (tH s84_2)⟩ := by kernel_rfl
theorem v_spec_l40Rd_num (hl : vs.length = 2) (h : wpV Tryz.prog (tH s84_2) (postV [.t 4] RV) (envV vs) M) : VCall Tryz.prog n_spec_l40Rd_num vs M RV :=
  vcall_of_wp (fun _ _ _ hl h => acall_of_wp mixed Tryz.func84 c84 (by kernel_rfl) hl h) hl h
@[go_sem] def l141_0 (_ : Unit) : KL := [kB 2 (.alloc [(.int .i64 0), (.int .i64 0), (.int .i64 0), (.int .i64 0)]) [0, 2]]
@[go_sem] def l141_1 (_ : Unit) : KL := [kA 3 (.mv (.t 0)),
  kA 4 (.bld [(.int .i64 0), (.int .i64 0), (.int .i64 0), (.int .i64 0)] [(0, 1, (cI 1)), (1, 1, (.t 3))]),
  (⟨none, .store (.t 2) 4 (.t 4), none⟩, (some [2]))]
@[go_sem] def s141_2 (_ : Unit) : IR := (sQ [(kT l141_0), (kT l141_1), .ret])
theorem c141 : compFn Tryz.prog [(0, [], [oS [0, 2]]), (1, [], [oN, oN, oS [2]])] Tryz.f141 = some ⟨1, 5, [.c 2 4 true], (tH s141_2)⟩ := by kernel_rfl
theorem v_spec_l2VarOf (hl : vs.length = 1) (h : wpV Tryz.prog (tH s141_2) (postV [.c 2 4 true] RV) (envV vs) M) : VCall Tryz.prog n_spec_l2VarOf vs M RV :=
  vcall_of_wp (fun _ _ _ hl h => acall_of_wp mixed Tryz.func141 c141 (by kernel_rfl) hl h) hl h
@[go_sem] def l85_0 (_ : Unit) : KL := [kB 2 (.alloc [(.int .i64 0), (.int .i64 0), (.int .i64 0), (.int .i64 0)]) [0, 2]]
@[go_sem] def l85_1 (_ : Unit) : KL := [kA 3 (.mv (.t 0)),
  kA 4 (.bld [(.int .i64 0), (.int .i64 0), (.int .i64 0), (.int .i64 0)] [(0, 1, (cI 0)), (1, 1, (.t 3))]),
  (⟨none, .store (.t 2) 4 (.t 4), none⟩, (some [2]))]
@[go_sem] def s85_2 (_ : Unit) : IR := (sQ [(kT l85_0), (kT l85_1), .ret])
theorem c85 : compFn Tryz.prog [(0, [], [oS [0, 2]]), (1, [], [oN, oN, oS [2]])] Tryz.f85 = some ⟨1, 5, [.c 2 4 true], (tH s85_2)⟩ := by kernel_rfl
theorem v_spec_l2Const (hl : vs.length = 1) (h : wpV Tryz.prog (tH s85_2) (postV [.c 2 4 true] RV) (envV vs) M) : VCall Tryz.prog n_spec_l2Const vs M RV :=
  vcall_of_wp (fun _ _ _ hl h => acall_of_wp mixed Tryz.func85 c85 (by kernel_rfl) hl h) hl h
@[go_sem] def l121_0 (_ : Unit) : KL := [kA 4 (.box (.t 1)),
  kB 6 (.mv (.c (.sl none 0 0 true 0))) [0, 2, 4]]
@[go_sem] def l121_1 : Nat → GOp
  | 0 => ⟨(some 10), .faddr (.t 4) 0, none⟩
  | 1 => ⟨(some 11), .load (.t 10) 1 false, none⟩
  | 2 => ⟨(some 12), .mv (.t 0), none⟩
  | 3 => ⟨(some 13), .faddr (.t 4) 1, none⟩
  | 4 => ⟨(some 14), .load (.t 13) 1 false, none⟩
  | 5 => ⟨(some 15), .faddr (.t 4) 0, none⟩
  | 6 => ⟨(some 16), .load (.t 15) 1 false, none⟩
  | 7 => ⟨(some 17), .bin .sub (.t 14) (.t 16), none⟩
  | 8 => ⟨(some 18), .bin .add (.t 17) (cI 1), none⟩
  | 9 => ⟨(some 19), .call (n_spec_l40Rd_pick) [(.t 12), (.t 18)], none⟩
  | 10 => ⟨(some 20), .bin .add (.t 11) (.t 19), none⟩
  | 11 => ⟨(some 7), .mv (.t 20), none⟩
  | _ => ⟨none, .mkmap, none⟩
@[go_sem] def l121_2 (_ : Unit) : KL := [kA 21 (.mv (.t 0)),
  kA 22 (.bslc 1 4 [(.int .i64 0)] [(0, (.c (.int .i64 6))), (1, (.c (.int .i64 5))), (2, (.c (.int .i64 5))), (3, (.c (.int .i64 6)))]),
  kA 23 (.call (n_spec_l40Rd_num) [(.t 21), (.t 22)]),
  kB 8 (.mv (.t 23)) [0, 2, 7, 8]]
@[go_sem] def l121_3 (_ : Unit) : KL := [kA 24 (.mv (.t 2)),
  kA 25 (.call (n_spec_l2VarOf) [(.t 24)]),
  kA 26 (.mv (.t 7)),
  kA 27 (.call (n_spec_l2Const) [(.t 26)]),
  kB 28 (.mv (.t 8)) [0, 25, 27, 28],
  kA 29 (.bld [(.int .i64 0), (.int .i64 0), (.int .i64 0), (.int .i64 0)] [(0, 1, (.t 28)), (2, 1, (cI 0)), (3, 1, (cI 1))]),
  kA 30 (.bslc 4 3 [(.int .i64 0), (.int .i64 0), (.int .i64 0), (.int .i64 0)] [(0, (.t 25)), (1, (.t 27)), (2, (.t 29))]),
  kB 9 (.mv (.t 30)) [0, 9]]
@[go_sem] def l121_4 (_ : Unit) : KL := [kA 31 (.mv (.t 0)),
  kA 32 (.call (n_spec_l40Rd_pick) [(.t 31), (.c (.int .i64 3))]),
  kB 33 (.bin .eql (.t 32) (cI 0)) [9, 33]]
@[go_sem] def l121_5 (_ : Unit) : KL := [kA 34 (.mv (.t 9)),
  kA 35 (.bld [(.int .i64 0), (.int .i64 0), (.int .i64 0), (.int .i64 0)] [(0, 1, (.c (.int .i64 7))), (2, 1, (.c (.int .i64 2))), (3, 1, (.c (.int .i64 2)))]),
  kA 36 (.bslc 4 1 [(.int .i64 0), (.int .i64 0), (.int .i64 0), (.int .i64 0)] [(0, (.t 35))]),
  kA 37 (.app 4 32 (.t 34) (.t 36)),
  kB 9 (.mv (.t 37)) [9]]
@[go_sem] def s121_6 (_ : Unit) : IR := (sQ [(kT l121_4), (.cond (.t 33) (kT l121_5) .skip)])
@[go_sem] def l121_7 (_ : Unit) : KL := [kA 38 (.mv (.t 9)),
  kB 6 (.mv (.t 38)) [6]]
@[go_sem] def s121_8 (_ : Unit) : IR := (sQ [(kT l121_0), (.kd (oF l121_1 12) [(0, []), (1, []), (2, []), (3, []), (4, []), (5, []), (6, []), (7, []), (8, []), (9, [1]), (10, []), (11, [])] [0, 2, 7]), (kT l121_2), (kT l121_3), (tH s121_6), (kT l121_7), .ret])
theorem c121 : compFn Tryz.prog [(0, [], [oN, oS [0, 2, 4]]), (1, [(0, []), (1, []), (2, []), (3, []), (4, []), (5, []), (6, []), (7, []), (8, []), (9, [1]), (10, []), (11, [])], [oS [0, 2, 7]]), (2, [], [oN, oN, oN, oS [0, 2, 7, 8]]), (3, [], [oN, oN, oN, oN, oS [0, 25, 27, 28], oN, oN, oS [0, 9]]), (4, [], [oN, oN, oS [9, 33]]), (5, [], [oN, oN, oN, oN, oS [9]]), (6, [], [oN, oS [6]])] Tryz.f121 = some ⟨3, 39, [.t 6], (tH s121_8)⟩ := by kernel_rfl
theorem v_spec_l2Cond (hl : vs.length = 3) (h : wpV Tryz.prog (tH s121_8) (postV [.t 6] RV) (envV vs) M) : VCall Tryz.prog n_spec_l2Cond vs M RV :=
  vcall_of_wp (fun _ _ _ hl h => acall_of_wp mixed Tryz.func121 c121 (by kernel_rfl) hl h) hl h
@[go_sem] def l52_0 (_ : Unit) : KL := [kB 6 (.mv (.c (.bool false))) [0, 1, 2]]
@[go_sem] def l52_1 (_ : Unit) : KL := [kA 7 (.mv (.t 0)),
  kA 8 (.mv (.t 1)),
  kA 9 (.bin .geq (.t 7) (.t 8)),
  kA 10 (.mv (.t 9)),
  (⟨(some 11), .mv (.t 0), (some (10, true))⟩, (some [2, 10, 11])),
  (⟨(some 12), .mv (.t 2), (some (10, true))⟩, none),
  (⟨(some 13), .bin .leq (.t 11) (.t 12), (some (10, true))⟩, none),
  kA 14 (.pick (.t 10) (.t 13) (.c (.bool false))),
  kB 6 (.mv (.t 14)) [6]]
@[go_sem] def s52_2 (_ : Unit) : IR := (sQ [(kT l52_0), (kT l52_1), .ret])
theorem c52 : compFn Tryz.prog [(0, [], [oS [0, 1, 2]]), (1, [], [oN, oN, oN, oN, oS [2, 10, 11], oN, oN, oN, oS [6]])] Tryz.f52 = some ⟨3, 15, [.t 6], (tH s52_2)⟩ := by kernel_rfl
theorem v_spec_l1In (hl : vs.length = 3) (h : wpV Tryz.prog (tH s52_2) (postV [.t 6] RV) (envV vs) M) : VCall Tryz.prog n_spec_l1In vs M RV :=
  vcall_of_wp (fun _ _ _ hl h => acall_of_wp mixed Tryz.func52 c52 (by kernel_rfl) hl h) hl h
@[go_sem] def l139_0 (_ : Unit) : KL := [kB 2 (.mv (.c (.bool false))) [0]]
@[go_sem] def l139_1 (_ : Unit) : KL := [kA 3 (.mv (.t 0)),
  kA 4 (.bin .eql (.t 3) (.c (.int .i64 7))),
  kB 2 (.mv (.t 4)) [2]]
@[go_sem] def s139_2 (_ : Unit) : IR := (sQ [(kT l139_0), (kT l139_1), .ret])
theorem c139 : compFn Tryz.prog [(0, [], [oS [0]]), (1, [], [oN, oN, oS [2]])] Tryz.f139 = some ⟨1, 5, [.t 2], (tH s139_2)⟩ := by kernel_rfl
theorem v_spec_l1One (hl : vs.length = 1) (h : wpV Tryz.prog (tH s139_2) (postV [.t 2] RV) (envV vs) M) : VCall Tryz.prog n_spec_l1One vs M RV :=
  vcall_of_wp (fun _ _ _ hl h => acall_of_wp mixed Tryz.func139 c139 (by kernel_rfl) hl h) hl h
@[go_sem] def l140_0 (_ : Unit) : KL := [kA 3 (.box (.t 0)),
  kB 6 (.mv (cI 0)) [1, 2, 3]]
@[go_sem] def l140_1 (_ : Unit) : KL := [kA 8 (.faddr (.t 3) 0),
  kA 9 (.load (.t 8) 1 false),
  kA 10 (.bin .eql (.t 9) (cI 0)),
  kA 11 (.mv (.t 10)),
  (⟨(some 12), .faddr (.t 3) 1, (some (11, true))⟩, (some [1, 2, 3, 11, 12])),
  (⟨(some 13), .load (.t 12) 1 false, (some (11, true))⟩, none),
  (⟨(some 14), .call (n_spec_l1In) [(.t 13), (.c (.int .i64 (-9999))), (.c (.int .i64 9999))], (some (11, true))⟩, none),
  kA 15 (.pick (.t 11) (.t 14) (.c (.bool false))),
  kA 16 (.mv (.t 15)),
  (⟨(some 17), .faddr (.t 3) 2, (some (16, true))⟩, (some [1, 2, 3, 16, 17])),
  (⟨(some 18), .load (.t 17) 1 false, (some (16, true))⟩, none),
  (⟨(some 19), .bin .eql (.t 18) (cI 0), (some (16, true))⟩, none),
  kA 20 (.pick (.t 16) (.t 19) (.c (.bool false))),
  kA 21 (.mv (.t 20)),
  (⟨(some 22), .faddr (.t 3) 3, (some (21, true))⟩, (some [1, 2, 3, 21, 22])),
  (⟨(some 23), .load (.t 22) 1 false, (some (21, true))⟩, none),
  (⟨(some 24), .bin .eql (.t 23) (cI 0), (some (21, true))⟩, none),
  kB 25 (.pick (.t 21) (.t 24) (.c (.bool false))) [1, 2, 3, 25]]
@[go_sem] def l140_2 (_ : Unit) : KL := [kB 6 (.mv (cI 1)) [6]]
@[go_sem] def s140_3 (_ : Unit) : IR := (sQ [(kT l140_2), .ret])
@[go_sem] def s140_4 (_ : Unit) : IR := (sQ [(kT l140_1), (.cond (.t 25) (tH s140_3) .skip)])
@[go_sem] def l140_5 (_ : Unit) : KL := [kA 26 (.faddr (.t 3) 0),
  kA 27 (.load (.t 26) 1 false),
  kA 28 (.bin .eql (.t 27) (cI 1)),
  kA 29 (.mv (.t 28)),
  (⟨(some 30), .faddr (.t 3) 1, (some (29, true))⟩, (some [1, 2, 3, 29, 30])),
  (⟨(some 31), .load (.t 30) 1 false, (some (29, true))⟩, none),
  (⟨(some 32), .mv (.t 2), (some (29, true))⟩, none),
  (⟨(some 33), .bin .sub (.t 32) (cI 1), (some (29, true))⟩, none),
  (⟨(some 34), .call (n_spec_l1In) [(.t 31), (cI 0), (.t 33)], (some (29, true))⟩, none),
  kB 35 (.pick (.t 29) (.t 34) (.c (.bool false))) [1, 3, 35],
  kA 36 (.mv (.t 35)),
  (⟨(some 37), .faddr (.t 3) 2, (some (36, true))⟩, none),
  (⟨(some 38), .load (.t 37) 1 false, (some (36, true))⟩, none),
  (⟨(some 39), .bin .eql (.t 38) (cI 0), (some (36, true))⟩, none),
  kB 40 (.pick (.t 36) (.t 39) (.c (.bool false))) [1, 3, 40],
  kA 41 (.mv (.t 40)),
  (⟨(some 42), .faddr (.t 3) 3, (some (41, true))⟩, none),
  (⟨(some 43), .load (.t 42) 1 false, (some (41, true))⟩, none),
  (⟨(some 44), .bin .eql (.t 43) (cI 0), (some (41, true))⟩, none),
  kB 45 (.pick (.t 41) (.t 44) (.c (.bool false))) [1, 3, 45]]
@[go_sem] def l140_6 (_ : Unit) : KL := [kB 6 (.mv (cI 1)) [6]]
@[go_sem] def s140_7 (_ : Unit) : IR := (sQ [(kT l140_6), .ret])
@[go_sem] def s140_8 (_ : Unit) : IR := (sQ [(kT l140_5), (.cond (.t 45) (tH s140_7) .skip)])
@[go_sem] def l140_9 (_ : Unit) : KL := [kA 46 (.faddr (.t 3) 0),
  kA 47 (.load (.t 46) 1 false),
  kA 48 (.call (n_spec_l1In) [(.t 47), (.c (.int .i64 2)), (.c (.int .i64 9))]),
  kA 49 (.un .not (.t 48)),
  kB 50 (.mv (.t 49)) [1, 3, 50],
  (⟨(some 51), .faddr (.t 3) 1, (some (50, false))⟩, none),
  (⟨(some 52), .load (.t 51) 1 false, (some (50, false))⟩, none),
  (⟨(some 53), .bin .neq (.t 52) (cI 0), (some (50, false))⟩, none),
  kA 54 (.pick (.t 50) (.c (.bool true)) (.t 53)),
  kB 55 (.mv (.t 54)) [1, 3, 55],
  (⟨(some 56), .faddr (.t 3) 2, (some (55, false))⟩, none),
  (⟨(some 57), .load (.t 56) 1 false, (some (55, false))⟩, none),
  (⟨(some 58), .mv (.t 1), (some (55, false))⟩, none),
  (⟨(some 59), .len (.t 58), (some (55, false))⟩, none),
  (⟨(some 60), .bin .sub (.t 59) (cI 1), (some (55, false))⟩, (some [1, 3, 55, 57, 60])),
  (⟨(some 61), .call (n_spec_l1In) [(.t 57), (cI 0), (.t 60)], (some (55, false))⟩, none),
  (⟨(some 62), .un .not (.t 61), (some (55, false))⟩, none),
  kA 63 (.pick (.t 55) (.c (.bool true)) (.t 62)),
  kA 64 (.mv (.t 63)),
  (⟨(some 65), .faddr (.t 3) 3, (some (64, false))⟩, (some [1, 3, 64, 65])),
  (⟨(some 66), .load (.t 65) 1 false, (some (64, false))⟩, none),
  (⟨(some 67), .mv (.t 1), (some (64, false))⟩, none),
  (⟨(some 68), .len (.t 67), (some (64, false))⟩, none),
  (⟨(some 69), .bin .sub (.t 68) (cI 1), (some (64, false))⟩, none),
  (⟨(some 70), .call (n_spec_l1In) [(.t 66), (cI 0), (.t 69)], (some (64, false))⟩, (some [1, 3, 64, 70])),
  (⟨(some 71), .un .not (.t 70), (some (64, false))⟩, none),
  kB 72 (.pick (.t 64) (.c (.bool true)) (.t 71)) [1, 3, 72]]
@[go_sem] def l140_10 (_ : Unit) : KL := [kB 6 (.mv (cI 0)) [6]]
@[go_sem] def s140_11 (_ : Unit) : IR := (sQ [(kT l140_10), .ret])
@[go_sem] def s140_12 (_ : Unit) : IR := (sQ [(kT l140_9), (.cond (.t 72) (tH s140_11) .skip)])
@[go_sem] def l140_13 (_ : Unit) : KL := [kB 7 (.mv (cI 1)) [1, 3, 7]]
@[go_sem] def l140_14 (_ : Unit) : KL := [kA 73 (.faddr (.t 3) 0),
  kA 74 (.load (.t 73) 1 false),
  kB 75 (.bin .geq (.t 74) (.c (.int .i64 7))) [1, 3, 7, 75]]
@[go_sem] def l140_15 (_ : Unit) : KL := [kB 7 (.mv (.c (.int .i64 2))) [1, 3, 7]]
@[go_sem] def s140_16 (_ : Unit) : IR := (sQ [(kT l140_14), (.cond (.t 75) (kT l140_15) .skip)])
@[go_sem] def l140_17 (_ : Unit) : KL := [kA 76 (.mv (.t 1)),
  kA 77 (.faddr (.t 3) 2),
  kA 78 (.load (.t 77) 1 false),
  kA 79 (.iaddr (.t 76) (.t 78) 1),
  kB 80 (.load (.t 79) 1 false) [1, 3, 7, 80],
  kA 81 (.mv (.t 7)),
  kA 82 (.bin .neq (.t 80) (.t 81)),
  kA 83 (.mv (.t 82)),
  (⟨(some 84), .mv (.t 1), (some (83, false))⟩, none),
  (⟨(some 85), .faddr (.t 3) 3, (some (83, false))⟩, (some [3, 7, 83, 84, 85])),
  (⟨(some 86), .load (.t 85) 1 false, (some (83, false))⟩, none),
  (⟨(some 87), .iaddr (.t 84) (.t 86) 1, (some (83, false))⟩, none),
  (⟨(some 88), .load (.t 87) 1 false, (some (83, false))⟩, none),
  (⟨(some 89), .mv (.t 7), (some (83, false))⟩, none),
  (⟨(some 90), .bin .neq (.t 88) (.t 89), (some (83, false))⟩, (some [3, 83, 90])),
  kA 91 (.pick (.t 83) (.c (.bool true)) (.t 90)),
  kA 92 (.mv (.t 91)),
  (⟨(some 93), .faddr (.t 3) 0, (some (92, false))⟩, none),
  (⟨(some 94), .load (.t 93) 1 false, (some (92, false))⟩, none),
  (⟨(some 95), .call (n_spec_l1One) [(.t 94)], (some (92, false))⟩, (some [3, 92, 95])),
  (⟨(some 96), .mv (.t 95), (some (92, false))⟩, none),
  (⟨(some 97), .faddr (.t 3) 3, (some (96, true))⟩, none),
  (⟨(some 98), .load (.t 97) 1 false, (some (96, true))⟩, none),
  (⟨(some 99), .faddr (.t 3) 2, (some (96, true))⟩, none),
  (⟨(some 100), .load (.t 99) 1 false, (some (96, true))⟩, (some [3, 92, 96, 98, 100])),
  (⟨(some 101), .bin .neq (.t 98) (.t 100), (some (96, true))⟩, none),
  (⟨(some 102), .pick (.t 96) (.t 101) (.c (.bool false)), (some (92, false))⟩, none),
  kB 103 (.pick (.t 92) (.c (.bool true)) (.t 102)) [3, 103]]
@[go_sem] def l140_18 (_ : Unit) : KL := [kB 6 (.mv (cI 0)) [6]]
@[go_sem] def s140_19 (_ : Unit) : IR := (sQ [(kT l140_18), .ret])
@[go_sem] def s140_20 (_ : Unit) : IR := (sQ [(kT l140_17), (.cond (.t 103) (tH s140_19) .skip)])
@[go_sem] def l140_21 (_ : Unit) : KL := [kA 104 (.faddr (.t 3) 0),
  kA 105 (.load (.t 104) 1 false),
  kB 106 (.bin .geq (.t 105) (.c (.int .i64 5))) [106]]
@[go_sem] def l140_22 (_ : Unit) : KL := [kB 6 (.mv (.c (.int .i64 2))) [6]]
@[go_sem] def s140_23 (_ : Unit) : IR := (sQ [(kT l140_22), .ret])
@[go_sem] def s140_24 (_ : Unit) : IR := (sQ [(kT l140_21), (.cond (.t 106) (tH s140_23) .skip)])
@[go_sem] def l140_25 (_ : Unit) : KL := [kB 6 (.mv (cI 1)) [6]]
@[go_sem] def s140_26 (_ : Unit) : IR := (sQ [(kT l140_0), (tH s140_4), (tH s140_8), (tH s140_12), (kT l140_13), (tH s140_16), (tH s140_20), (tH s140_24), (kT l140_25), .ret])
theorem c140 : compFn Tryz.prog [(0, [], [oN, oS [1, 2, 3]]), (1, [], [oN, oN, oN, oN, oS [1, 2, 3, 11, 12], oN, oN, oN, oN, oS [1, 2, 3, 16, 17], oN, oN, oN, oN, oS [1, 2, 3, 21, 22], oN, oN, oS [1, 2, 3, 25]]), (2, [], [oS [6]]), (3, [], [oN, oN, oN, oN, oS [1, 2, 3, 29, 30], oN, oN, oN, oN, oS [1, 3, 35], oN, oN, oN, oN, oS [1, 3, 40], oN, oN, oN, oN, oS [1, 3, 45]]), (4, [], [oS [6]]), (5, [], [oN, oN, oN, oN, oS [1, 3, 50], oN, oN, oN, oN, oS [1, 3, 55], oN, oN, oN, oN, oS [1, 3, 55, 57, 60], oN, oN, oN, oN, oS [1, 3, 64, 65], oN, oN, oN, oN, oS [1, 3, 64, 70], oN, oS [1, 3, 72]]), (6, [], [oS [6]]), (7, [], [oS [1, 3, 7]]), (8, [], [oN, oN, oS [1, 3, 7, 75]]), (9, [], [oS [1, 3, 7]]), (10, [], [oN, oN, oN, oN, oS [1, 3, 7, 80], oN, oN, oN, oN, oS [3, 7, 83, 84, 85], oN, oN, oN, oN, oS [3, 83, 90], oN, oN, oN, oN, oS [3, 92, 95], oN, oN, oN, oN, oS [3, 92, 96, 98, 100], oN, oN, oS [3, 103]]), (11, [], [oS [6]]), (12, [], [oN, oN, oS [106]]), (13, [], [oS [6]]), (14, [], [oS [6]])] Tryz.f140 = some ⟨3, 107, [.t 6], (tH s140_26)⟩ := by kernel_rfl
theorem v_spec_l1Kind (hl : vs.length = 3) (h : wpV Tryz.prog (tH s140_26) (postV [.t 6] RV) (envV vs) M) : VCall Tryz.prog n_spec_l1Kind vs M RV :=
  vcall_of_wp (fun _ _ _ hl h => acall_of_wp mixed Tryz.func140 c140 (by kernel_rfl) hl h) hl h
@[go_sem] def l124_0 (_ : Unit) : KL := [kB 4 (.mv (.c (.sl none 0 0 true 0))) [0, 1]]
@[go_sem] def l124_1 (_ : Unit) : KL := [kA 8 (.mv (.t 1)),
  kA 9 (.call (n_spec_l1In) [(.t 8), (cI 0), (.c (.int .i64 5))]),
  kA 10 (.un .not (.t 9)),
  kA 11 (.mv (.t 10)),
  (⟨(some 12), .mv (.t 0), (some (11, false))⟩, (some [0, 1, 11, 12])),
  (⟨(some 13), .len (.t 12), (some (11, false))⟩, none),
  (⟨(some 14), .call (n_spec_l1In) [(.t 13), (cI 1), (.c (.int .i64 40))], (some (11, false))⟩, none),
  (⟨(some 15), .un .not (.t 14), (some (11, false))⟩, none),
  kB 16 (.pick (.t 11) (.c (.bool true)) (.t 15)) [0, 1, 16]]
@[go_sem] def l124_2 (_ : Unit) : KL := [kB 4 (.mv (.c (.sl none 0 0 true 0))) [4]]
@[go_sem] def s124_3 (_ : Unit) : IR := (sQ [(kT l124_2), .ret])
@[go_sem] def s124_4 (_ : Unit) : IR := (sQ [(kT l124_1), (.cond (.t 16) (tH s124_3) .skip)])
@[go_sem] def l124_5 (_ : Unit) : KL := [kA 17 (.bslc 1 0 [(.int .i64 0)] []),
  kB 5 (.mv (.t 17)) [0, 1, 5]]
@[go_sem] def l124_6 (_ : Unit) : KL := [kB 6 (.mv (cI 0)) [0, 1, 5, 6]]
@[go_sem] def l124_7 (_ : Unit) : KL := [kA 18 (.mv (.t 6)),
  kA 19 (.mv (.t 0)),
  kA 20 (.len (.t 19)),
  kB 21 (.bin .lss (.t 18) (.t 20)) [0, 1, 5, 6, 21]]
@[go_sem] def s124_8 (_ : Unit) : IR := (sQ [(kT l124_7), (.cond (.t 21) .skip (.exit 0))])
@[go_sem] def l124_9 (_ : Unit) : KL := [kA 24 (.mv (.t 0)),
  kA 25 (.mv (.t 6)),
  kA 26 (.iaddr (.t 24) (.t 25) 4),
  kA 27 (.load (.t 26) 4 true),
  kB 28 (.mv (.t 5)) [0, 1, 5, 6, 27, 28],
  kA 29 (.mv (.t 1)),
  kA 30 (.call (n_spec_l1Kind) [(.t 27), (.t 28), (.t 29)]),
  kB 7 (.mv (.t 30)) [0, 1, 5, 6, 7]]
@[go_sem] def l124_10 (_ : Unit) : KL := [kA 31 (.mv (.t 7)),
  kB 32 (.bin .eql (.t 31) (cI 0)) [0, 1, 5, 6, 7, 32]]
@[go_sem] def l124_11 (_ : Unit) : KL := [kB 4 (.mv (.c (.sl none 0 0 true 0))) [4]]
@[go_sem] def s124_12 (_ : Unit) : IR := (sQ [(kT l124_11), .ret])
@[go_sem] def s124_13 (_ : Unit) : IR := (sQ [(kT l124_10), (.cond (.t 32) (tH s124_12) .skip)])
@[go_sem] def l124_14 (_ : Unit) : KL := [kA 33 (.mv (.t 5)),
  kA 34 (.mv (.t 7)),
  kA 35 (.bslc 1 1 [(.int .i64 0)] [(0, (.t 34))]),
  kA 36 (.app 1 8 (.t 33) (.t 35)),
  kB 5 (.mv (.t 36)) [0, 1, 5, 6]]
@[go_sem] def s124_15 (_ : Unit) : IR := (sQ [(kT l124_9), (tH s124_13), (kT l124_14)])
@[go_sem] def s124_16 (_ : Unit) : IR := (.block 1 (tH s124_15))
@[go_sem] def l124_17 (_ : Unit) : KL := [kA 22 (.mv (.t 6)),
  kA 23 (.bin .add (.t 22) (cI 1)),
  kB 6 (.mv (.t 23)) [0, 1, 5, 6]]
@[go_sem] def s124_18 (_ : Unit) : IR := (sQ [(tH s124_8), (tH s124_16), (kT l124_17)])
@[go_sem] def s124_19 (_ : Unit) : IR := (.loop (tH s124_18))
@[go_sem] def s124_20 (_ : Unit) : IR := (.block 0 (tH s124_19))
@[go_sem] def s124_21 (_ : Unit) : IR := (sQ [(kT l124_6), (tH s124_20)])
@[go_sem] def l124_22 (_ : Unit) : KL := [kA 37 (.mv (.t 5)),
  kB 4 (.mv (.t 37)) [4]]
@[go_sem] def s124_23 (_ : Unit) : IR := (sQ [(kT l124_0), (tH s124_4), (kT l124_5), (tH s124_21), (kT l124_22), .ret])
theorem c124 : compFn Tryz.prog [(0, [], [oS [0, 1]]), (1, [], [oN, oN, oN, oN, oS [0, 1, 11, 12], oN, oN, oN, oS [0, 1, 16]]), (2, [], [oS [4]]), (3, [], [oN, oS [0, 1, 5]]), (4, [], [oS [0, 1, 5, 6]]), (5, [], [oN, oN, oN, oS [0, 1, 5, 6, 21]]), (7, [], [oN, oN, oN, oN, oS [0, 1, 5, 6, 27, 28], oN, oN, oS [0, 1, 5, 6, 7]]), (8, [], [oN, oS [0, 1, 5, 6, 7, 32]]), (9, [], [oS [4]]), (10, [], [oN, oN, oN, oN, oS [0, 1, 5, 6]]), (6, [], [oN, oN, oS [0, 1, 5, 6]]), (11, [], [oN, oS [4]])] Tryz.f124 = some ⟨2, 38, [.t 4], (tH s124_23)⟩ := by kernel_rfl
theorem v_spec_KindsOf (hl : vs.length = 2) (h : wpV Tryz.prog (tH s124_23) (postV [.t 4] RV) (envV vs) M) : VCall Tryz.prog n_spec_KindsOf vs M RV :=
  vcall_of_wp (fun _ _ _ hl h => acall_of_wp mixed Tryz.func124 c124 (by kernel_rfl) hl h) hl h
@[go_sem] def l142_0 (_ : Unit) : KL := [kB 4 (.mv (.c (.bool false))) [0, 1]]
@[go_sem] def l142_1 (_ : Unit) : KL := [kA 5 (.mv (.t 0)),
  kA 6 (.mv (.t 1)),
  kA 7 (.call (n_spec_KindsOf) [(.t 5), (.t 6)]),
  kA 8 (.len (.t 7)),
  kB 9 (.bin .gtr (.t 8) (cI 0)) [9],
  kB 4 (.mv (.t 9)) [4]]
@[go_sem] def s142_2 (_ : Unit) : IR := (sQ [(kT l142_0), (kT l142_1), .ret])
theorem c142 : compFn Tryz.prog [(0, [], [oS [0, 1]]), (1, [], [oN, oN, oN, oN, oS [9], oS [4]])] Tryz.f142 = some ⟨2, 10, [.t 4], (tH s142_2)⟩ := by kernel_rfl
theorem v_spec_TermsValid (hl : vs.length = 2) (h : wpV Tryz.prog (tH s142_2) (postV [.t 4] RV) (envV vs) M) : VCall Tryz.prog n_spec_TermsValid vs M RV :=
  vcall_of_wp (fun _ _ _ hl h => acall_of_wp mixed Tryz.func142 c142 (by kernel_rfl) hl h) hl h
@[go_sem] def l143_0 (_ : Unit) : KL := [kA 2 (.box (.t 0)),
  kB 4 (.alloc [(.int .i64 0), (.int .i64 0), (.int .i64 0), (.int .i64 0)]) [1, 2, 4]]
@[go_sem] def l143_1 (_ : Unit) : KL := [kA 5 (.faddr (.t 2) 0),
  kA 6 (.load (.t 5) 1 false),
  kB 7 (.bin .geq (.t 6) (.c (.int .i64 2))) [1, 2, 4, 7]]
@[go_sem] def l143_2 (_ : Unit) : KL := [kA 8 (.faddr (.t 2) 0),
  kA 9 (.load (.t 8) 1 false),
  kA 10 (.faddr (.t 2) 2),
  kA 11 (.load (.t 10) 1 false),
  kB 12 (.mv (.t 1)) [1, 2, 4, 9, 11, 12],
  kA 13 (.bin .add (.t 11) (.t 12)),
  kA 14 (.faddr (.t 2) 3),
  kA 15 (.load (.t 14) 1 false),
  kA 16 (.mv (.t 1)),
  kB 17 (.bin .add (.t 15) (.t 16)) [4, 9, 13, 17],
  kA 18 (.bld [(.int .i64 0), (.int .i64 0), (.int .i64 0), (.int .i64 0)] [(0, 1, (.t 9)), (2, 1, (.t 13)), (3, 1, (.t 17))]),
  (⟨none, .store (.t 4) 4 (.t 18), none⟩, (some [4]))]
@[go_sem] def s143_3 (_ : Unit) : IR := (sQ [(kT l143_2), .ret])
@[go_sem] def s143_4 (_ : Unit) : IR := (sQ [(kT l143_1), (.cond (.t 7) (tH s143_3) .skip)])
@[go_sem] def l143_5 (_ : Unit) : KL := [kA 19 (.load (.t 2) 4 true),
  (⟨none, .store (.t 4) 4 (.t 19), none⟩, (some [4]))]
@[go_sem] def s143_6 (_ : Unit) : IR := (sQ [(kT l143_0), (tH s143_4), (kT l143_5), .ret])
theorem c143 : compFn Tryz.prog [(0, [], [oN, oS [1, 2, 4]]), (1, [], [oN, oN, oS [1, 2, 4, 7]]), (2, [], [oN, oN, oN, oN, oS [1, 2, 4, 9, 11, 12], oN, oN, oN, oN, oS [4, 9, 13, 17], oN, oS [4]]), (3, [], [oN, oS [4]])] Tryz.f143 = some ⟨2, 20, [.c 4 4 true], (tH s143_6)⟩ := by kernel_rfl
theorem v_spec_l1Moved (hl : vs.length = 2) (h : wpV Tryz.prog (tH s143_6) (postV [.c 4 4 true] RV) (envV vs) M) : VCall Tryz.prog n_spec_l1Moved vs M RV :=
  vcall_of_wp (fun _ _ _ hl h => acall_of_wp mixed Tryz.func143 c143 (by kernel_rfl) hl h) hl h
@[go_sem] def l122_0 (_ : Unit) : KL := [kB 8 (.mv (.c (.sl none 0 0 true 0))) [0, 1, 2, 3]]
@[go_sem] def l122_1 (_ : Unit) : KL := [kA 12 (.mv (.t 1)),
  kA 13 (.mv (.t 3)),
  kA 14 (.call (n_spec_TermsValid) [(.t 12), (.t 13)]),
  kA 15 (.un .not (.t 14)),
  kB 16 (.mv (.t 15)) [0, 1, 2, 3, 16],
  (⟨(some 17), .mv (.t 2), (some (16, false))⟩, none),
  (⟨(some 18), .mv (.t 3), (some (16, false))⟩, none),
  (⟨(some 19), .call (n_spec_TermsValid) [(.t 17), (.t 18)], (some (16, false))⟩, none),
  (⟨(some 20), .un .not (.t 19), (some (16, false))⟩, none),
  kB 21 (.pick (.t 16) (.c (.bool true)) (.t 20)) [0, 1, 2, 3, 21]]
@[go_sem] def l122_2 (_ : Unit) : KL := [kB 8 (.mv (.c (.sl none 0 0 true 0))) [8]]
@[go_sem] def s122_3 (_ : Unit) : IR := (sQ [(kT l122_2), .ret])
@[go_sem] def s122_4 (_ : Unit) : IR := (sQ [(kT l122_1), (.cond (.t 21) (tH s122_3) .skip)])
@[go_sem] def l122_5 (_ : Unit) : KL := [kA 22 (.bslc 4 0 [(.int .i64 0), (.int .i64 0), (.int .i64 0), (.int .i64 0)] []),
  kB 9 (.mv (.t 22)) [0, 1, 2, 3, 9]]
@[go_sem] def l122_6 (_ : Unit) : KL := [kB 10 (.mv (cI 0)) [0, 1, 2, 3, 9, 10]]
@[go_sem] def l122_7 (_ : Unit) : KL := [kA 23 (.mv (.t 10)),
  kA 24 (.mv (.t 1)),
  kA 25 (.len (.t 24)),
  kB 26 (.bin .lss (.t 23) (.t 25)) [0, 1, 2, 3, 9, 10, 26]]
@[go_sem] def s122_8 (_ : Unit) : IR := (sQ [(kT l122_7), (.cond (.t 26) .skip (.exit 0))])
@[go_sem] def l122_9 (_ : Unit) : KL := [kA 29 (.mv (.t 9)),
  kA 30 (.mv (.t 1)),
  kA 31 (.mv (.t 10)),
  kA 32 (.iaddr (.t 30) (.t 31) 4),
  kB 33 (.load (.t 32) 4 true) [0, 1, 2, 3, 10, 29, 33],
  kA 34 (.bslc 4 1 [(.int .i64 0), (.int .i64 0), (.int .i64 0), (.int .i64 0)] [(0, (.t 33))]),
  kA 35 (.app 4 32 (.t 29) (.t 34)),
  kB 9 (.mv (.t 35)) [0, 1, 2, 3, 9, 10]]
@[go_sem] def s122_10 (_ : Unit) : IR := (.block 1 (kT l122_9))
@[go_sem] def l122_11 (_ : Unit) : KL := [kA 27 (.mv (.t 10)),
  kA 28 (.bin .add (.t 27) (cI 1)),
  kB 10 (.mv (.t 28)) [0, 1, 2, 3, 9, 10]]
@[go_sem] def s122_12 (_ : Unit) : IR := (sQ [(tH s122_8), (tH s122_10), (kT l122_11)])
@[go_sem] def s122_13 (_ : Unit) : IR := (.loop (tH s122_12))
@[go_sem] def s122_14 (_ : Unit) : IR := (.block 0 (tH s122_13))
@[go_sem] def s122_15 (_ : Unit) : IR := (sQ [(kT l122_6), (tH s122_14)])
@[go_sem] def l122_16 (_ : Unit) : KL := [kB 11 (.mv (cI 0)) [0, 1, 2, 3, 9, 11]]
@[go_sem] def l122_17 (_ : Unit) : KL := [kA 36 (.mv (.t 11)),
  kA 37 (.mv (.t 2)),
  kA 38 (.len (.t 37)),
  kA 39 (.bin .lss (.t 36) (.t 38)),
  kB 40 (.mv (.t 39)) [0, 1, 2, 3, 9, 11, 40],
  (⟨(some 41), .mv (.t 0), (some (40, true))⟩, none),
  (⟨(some 42), .call (n_spec_l1One) [(.t 41)], (some (40, true))⟩, none),
  (⟨(some 43), .un .not (.t 42), (some (40, true))⟩, none),
  kB 44 (.pick (.t 40) (.t 43) (.c (.bool false))) [0, 1, 2, 3, 9, 11, 44]]
@[go_sem] def s122_18 (_ : Unit) : IR := (sQ [(kT l122_17), (.cond (.t 44) .skip (.exit 2))])
@[go_sem] def l122_19 (_ : Unit) : KL := [kA 47 (.mv (.t 9)),
  kA 48 (.mv (.t 2)),
  kA 49 (.mv (.t 11)),
  kA 50 (.iaddr (.t 48) (.t 49) 4),
  kB 51 (.load (.t 50) 4 true) [0, 1, 2, 3, 11, 47, 51],
  kA 52 (.mv (.t 1)),
  kA 53 (.len (.t 52)),
  kA 54 (.call (n_spec_l1Moved) [(.t 51), (.t 53)]),
  kA 55 (.bslc 4 1 [(.int .i64 0), (.int .i64 0), (.int .i64 0), (.int .i64 0)] [(0, (.t 54))]),
  kB 56 (.app 4 32 (.t 47) (.t 55)) [0, 1, 2, 3, 11, 56],
  kB 9 (.mv (.t 56)) [0, 1, 2, 3, 9, 11]]
@[go_sem] def s122_20 (_ : Unit) : IR := (.block 3 (kT l122_19))
@[go_sem] def l122_21 (_ : Unit) : KL := [kA 45 (.mv (.t 11)),
  kA 46 (.bin .add (.t 45) (cI 1)),
  kB 11 (.mv (.t 46)) [0, 1, 2, 3, 9, 11]]
@[go_sem] def s122_22 (_ : Unit) : IR := (sQ [(tH s122_18), (tH s122_20), (kT l122_21)])
@[go_sem] def s122_23 (_ : Unit) : IR := (.loop (tH s122_22))
@[go_sem] def s122_24 (_ : Unit) : IR := (.block 2 (tH s122_23))
@[go_sem] def s122_25 (_ : Unit) : IR := (sQ [(kT l122_16), (tH s122_24)])
@[go_sem] def l122_26 (_ : Unit) : KL := [kA 57 (.mv (.t 9)),
  kA 58 (.mv (.t 0)),
  kA 59 (.mv (.t 1)),
  kA 60 (.len (.t 59)),
  kB 61 (.bin .sub (.t 60) (cI 1)) [0, 3, 9, 57, 58, 61],
  kA 62 (.mv (.t 9)),
  kA 63 (.len (.t 62)),
  kA 64 (.bin .sub (.t 63) (cI 1)),
  kA 65 (.bld [(.int .i64 0), (.int .i64 0), (.int .i64 0), (.int .i64 0)] [(0, 1, (.t 58)), (2, 1, (.t 61)), (3, 1, (.t 64))]),
  kB 66 (.bslc 4 1 [(.int .i64 0), (.int .i64 0), (.int .i64 0), (.int .i64 0)] [(0, (.t 65))]) [0, 3, 57, 66],
  kA 67 (.app 4 32 (.t 57) (.t 66)),
  kB 9 (.mv (.t 67)) [0, 3, 9]]
@[go_sem] def l122_27 (_ : Unit) : KL := [kA 68 (.mv (.t 0)),
  kA 69 (.bin .lss (.t 68) (.c (.int .i64 2))),
  kA 70 (.mv (.t 69)),
  (⟨(some 71), .mv (.t 9), (some (70, false))⟩, none),
  (⟨(some 72), .mv (.t 3), (some (70, false))⟩, (some [9, 70, 71, 72])),
  (⟨(some 73), .call (n_spec_TermsValid) [(.t 71), (.t 72)], (some (70, false))⟩, none),
  (⟨(some 74), .un .not (.t 73), (some (70, false))⟩, none),
  kB 75 (.pick (.t 70) (.c (.bool true)) (.t 74)) [9, 75]]
@[go_sem] def l122_28 (_ : Unit) : KL := [kB 8 (.mv (.c (.sl none 0 0 true 0))) [8]]
@[go_sem] def s122_29 (_ : Unit) : IR := (sQ [(kT l122_28), .ret])
@[go_sem] def s122_30 (_ : Unit) : IR := (sQ [(kT l122_27), (.cond (.t 75) (tH s122_29) .skip)])
@[go_sem] def l122_31 (_ : Unit) : KL := [kA 76 (.mv (.t 9)),
  kB 8 (.mv (.t 76)) [8]]
@[go_sem] def s122_32 (_ : Unit) : IR := (sQ [(kT l122_0), (tH s122_4), (kT l122_5), (tH s122_15), (tH s122_25), (kT l122_26), (tH s122_30), (kT l122_31), .ret])
theorem c122 : compFn Tryz.prog [(0, [], [oS [0, 1, 2, 3]]), (1, [], [oN, oN, oN, oN, oS [0, 1, 2, 3, 16], oN, oN, oN, oN, oS [0, 1, 2, 3, 21]]), (2, [], [oS [8]]), (3, [], [oN, oS [0, 1, 2, 3, 9]]), (4, [], [oS [0, 1, 2, 3, 9, 10]]), (5, [], [oN, oN, oN, oS [0, 1, 2, 3, 9, 10, 26]]), (7, [], [oN, oN, oN, oN, oS [0, 1, 2, 3, 10, 29, 33], oN, oN, oS [0, 1, 2, 3, 9, 10]]), (6, [], [oN, oN, oS [0, 1, 2, 3, 9, 10]]), (8, [], [oS [0, 1, 2, 3, 9, 11]]), (9, [], [oN, oN, oN, oN, oS [0, 1, 2, 3, 9, 11, 40], oN, oN, oN, oS [0, 1, 2, 3, 9, 11, 44]]), (11, [], [oN, oN, oN, oN, oS [0, 1, 2, 3, 11, 47, 51], oN, oN, oN, oN, oS [0, 1, 2, 3, 11, 56], oS [0, 1, 2, 3, 9, 11]]), (10, [], [oN, oN, oS [0, 1, 2, 3, 9, 11]]), (12, [], [oN, oN, oN, oN, oS [0, 3, 9, 57, 58, 61], oN, oN, oN, oN, oS [0, 3, 57, 66], oN, oS [0, 3, 9]]), (13, [], [oN, oN, oN, oN, oS [9, 70, 71, 72], oN, oN, oS [9, 75]]), (14, [], [oS [8]]), (15, [], [oN, oS [8]])] Tryz.f122 = some ⟨4, 77, [.t 8], (tH s122_32)⟩ := by kernel_rfl
theorem v_spec_Joined (hl : vs.length = 4) (h : wpV Tryz.prog (tH s122_32) (postV [.t 8] RV) (envV vs) M) : VCall Tryz.prog n_spec_Joined vs M RV :=
  vcall_of_wp (fun _ _ _ hl h => acall_of_wp mixed Tryz.func122 c122 (by kernel_rfl) hl h) hl h
@[go_sem] def l98_0 (_ : Unit) : KL := [kB 4 (.mv (.c (.sl none 0 0 true 0))) [0, 1]]
@[go_sem] def l98_1 (_ : Unit) : KL := [kA 8 (.mv (.t 0)),
  kA 9 (.mv (.t 1)),
  kA 10 (.len (.t 9)),
  kA 11 (.call (n_spec_l40Rd_pick) [(.t 8), (.t 10)]),
  kB 5 (.mv (.t 11)) [0, 1, 5]]
@[go_sem] def l98_2 (_ : Unit) : KL := [kA 12 (.mv (.t 0)),
  kA 13 (.mv (.t 1)),
  kA 14 (.mv (.t 5)),
  kA 15 (.iaddr (.t 13) (.t 14) 3),
  kB 16 (.load (.t 15) 3 true) [0, 1, 5, 12, 16],
  kA 17 (.mv (.t 5)),
  kA 18 (.call (n_spec_l2Cond) [(.t 12), (.t 16), (.t 17)]),
  kB 6 (.mv (.t 18)) [0, 1, 6]]
@[go_sem] def l98_3 (_ : Unit) : KL := [kA 19 (.mv (.t 0)),
  kA 20 (.call (n_spec_l40Rd_pick) [(.t 19), (.c (.int .i64 2))]),
  kB 21 (.bin .eql (.t 20) (cI 0)) [0, 1, 6, 21]]
@[go_sem] def l98_4 (_ : Unit) : KL := [kA 22 (.mv (.t 0)),
  kA 23 (.mv (.t 1)),
  kA 24 (.len (.t 23)),
  kA 25 (.call (n_spec_l40Rd_pick) [(.t 22), (.t 24)]),
  kB 7 (.mv (.t 25)) [0, 1, 6, 7]]
@[go_sem] def l98_5 : Nat → GOp
  | 0 => ⟨(some 26), .mv (.t 0), none⟩
  | 1 => ⟨(some 27), .bslc 1 3 [(.int .i64 0)] [(0, (.c (.int .i64 8))), (1, (.c (.int .i64 9))), (2, (.c (.int .i64 8)))], none⟩
  | 2 => ⟨(some 28), .call (n_spec_l40Rd_num) [(.t 26), (.t 27)], none⟩
  | 3 => ⟨(some 29), .mv (.t 6), none⟩
  | 4 => ⟨(some 30), .mv (.t 0), none⟩
  | 5 => ⟨(some 31), .mv (.t 1), none⟩
  | 6 => ⟨(some 32), .mv (.t 7), none⟩
  | 7 => ⟨(some 33), .iaddr (.t 31) (.t 32) 3, none⟩
  | 8 => ⟨(some 34), .load (.t 33) 3 true, none⟩
  | 9 => ⟨(some 35), .mv (.t 7), none⟩
  | 10 => ⟨(some 36), .call (n_spec_l2Cond) [(.t 30), (.t 34), (.t 35)], none⟩
  | 11 => ⟨(some 37), .mv (.t 1), none⟩
  | 12 => ⟨(some 38), .len (.t 37), none⟩
  | 13 => ⟨(some 39), .call (n_spec_Joined) [(.t 28), (.t 29), (.t 36), (.t 38)], none⟩
  | 14 => ⟨(some 6), .mv (.t 39), none⟩
  | _ => ⟨none, .mkmap, none⟩
@[go_sem] def s98_6 (_ : Unit) : IR := (sQ [(kT l98_4), (.kd (oF l98_5 15) [(0, []), (3, []), (4, []), (5, []), (6, []), (7, []), (8, []), (9, []), (11, []), (12, []), (1, []), (2, [8]), (10, []), (13, []), (14, [])] [6])])
@[go_sem] def s98_7 (_ : Unit) : IR := (sQ [(kT l98_3), (.cond (.t 21) (tH s98_6) .skip)])
@[go_sem] def l98_8 (_ : Unit) : KL := [kA 40 (.mv (.t 6)),
  kB 4 (.mv (.t 40)) [4]]
@[go_sem] def s98_9 (_ : Unit) : IR := (sQ [(kT l98_0), (kT l98_1), (kT l98_2), (tH s98_7), (kT l98_8), .ret])
theorem c98 : compFn Tryz.prog [(0, [], [oS [0, 1]]), (1, [], [oN, oN, oN, oN, oS [0, 1, 5]]), (2, [], [oN, oN, oN, oN, oS [0, 1, 5, 12, 16], oN, oN, oS [0, 1, 6]]), (3, [], [oN, oN, oS [0, 1, 6, 21]]), (4, [], [oN, oN, oN, oN, oS [0, 1, 6, 7]]), (5, [(0, []), (3, []), (4, []), (5, []), (6, []), (7, []), (8, []), (9, []), (11, []), (12, []), (1, []), (2, [8]), (10, []), (13, []), (14, [])], [oS [6]]), (6, [], [oN, oS [4]])] Tryz.f98 = some ⟨2, 41, [.t 4], (tH s98_9)⟩ := by kernel_rfl
theorem v_spec_l2When (hl : vs.length = 2) (h : wpV Tryz.prog (tH s98_9) (postV [.t 4] RV) (envV vs) M) : VCall Tryz.prog n_spec_l2When vs M RV :=
  vcall_of_wp (fun _ _ _ hl h => acall_of_wp mixed Tryz.func98 c98 (by kernel_rfl) hl h) hl h
@[go_sem] def l137_0 (_ : Unit) : KL := [kB 2 (.mv (cI 0)) [0]]
@[go_sem] def l137_1 (_ : Unit) : KL := [kA 3 (.mv (.t 0)),
  kA 4 (.mv (.t 0)),
  kA 5 (.call (n_spec_l40Rd_pick) [(.t 4), (.c (.int .i64 4))]),
  kA 6 (.mv (.t 0)),
  kB 7 (.call (n_spec_l40Rd_pick) [(.t 6), (.c (.int .i64 4))]) [0, 3, 5, 7],
  kA 8 (.mv (.t 0)),
  kA 9 (.call (n_spec_l40Rd_pick) [(.t 8), (.c (.int .i64 7))]),
  kA 10 (.bin .sub (.t 9) (.c (.int .i64 3))),
  kA 11 (.mv (.t 0)),
  kB 12 (.call (n_spec_l40Rd_pick) [(.t 11), (.c (.int .i64 200))]) [0, 3, 5, 7, 10, 12],
  kA 13 (.bin .sub (.t 12) (.c (.int .i64 100))),
  kA 14 (.bslc 1 4 [(.int .i64 0)] [(0, (.c (.int .i64 9999))), (1, (.c (.int .i64 (-9999)))), (2, (.c (.int .i64 5000))), (3, (.c (.int .i64 100)))]),
  kA 15 (.mv (.t 0)),
  kA 16 (.call (n_spec_l40Rd_pick) [(.t 15), (.c (.int .i64 4))]),
  kB 17 (.iaddr (.t 14) (.t 16) 1) [3, 5, 7, 10, 13, 17],
  kA 18 (.load (.t 17) 1 false),
  kA 19 (.bslc 1 7 [(.int .i64 0)] [(0, (.t 5)), (1, (.t 7)), (2, (.t 10)), (3, (cI 1)), (4, (cI 0)), (5, (.t 13)), (6, (.t 18))]),
  kA 20 (.call (n_spec_l40Rd_num) [(.t 3), (.t 19)]),
  kB 2 (.mv (.t 20)) [2]]
@[go_sem] def s137_2 (_ : Unit) : IR := (sQ [(kT l137_0), (kT l137_1), .ret])
theorem c137 : compFn Tryz.prog [(0, [], [oS [0]]), (1, [], [oN, oN, oN, oN, oS [0, 3, 5, 7], oN, oN, oN, oN, oS [0, 3, 5, 7, 10, 12], oN, oN, oN, oN, oS [3, 5, 7, 10, 13, 17], oN, oN, oN, oS [2]])] Tryz.f137 = some ⟨1, 21, [.t 2], (tH s137_2)⟩ := by kernel_rfl
theorem v_spec_l1Number (hl : vs.length = 1) (h : wpV Tryz.prog (tH s137_2) (postV [.t 2] RV) (envV vs) M) : VCall Tryz.prog n_spec_l1Number vs M RV :=
  vcall_of_wp (fun _ _ _ hl h => acall_of_wp mixed Tryz.func137 c137 (by kernel_rfl) hl h) hl h
@[go_sem] def l138_0 (_ : Unit) : KL := [kB 6 (.mv (cI 0)) [0, 1, 2]]
@[go_sem] def l138_1 (_ : Unit) : KL := [kA 10 (.mv (.t 0)),
  kA 11 (.mv (.t 1)),
  kA 12 (.len (.t 11)),
  kA 13 (.call (n_spec_l40Rd_pick) [(.t 10), (.t 12)]),
  kB 7 (.mv (.t 13)) [1, 2, 7]]
@[go_sem] def l138_2 (_ : Unit) : KL := [kB 8 (.mv (cI 0)) [1, 2, 7, 8]]
@[go_sem] def l138_3 (_ : Unit) : KL := [kA 14 (.mv (.t 8)),
  kA 15 (.mv (.t 1)),
  kA 16 (.len (.t 15)),
  kB 17 (.bin .lss (.t 14) (.t 16)) [1, 2, 7, 8, 17]]
@[go_sem] def s138_4 (_ : Unit) : IR := (sQ [(kT l138_3), (.cond (.t 17) .skip (.exit 0))])
@[go_sem] def l138_5 (_ : Unit) : KL := [kA 20 (.mv (.t 7)),
  kA 21 (.mv (.t 8)),
  kA 22 (.bin .add (.t 20) (.t 21)),
  kA 23 (.mv (.t 1)),
  kB 24 (.len (.t 23)) [1, 2, 7, 8, 22, 24],
  kA 25 (.bin .rem (.t 22) (.t 24)),
  kB 9 (.mv (.t 25)) [1, 2, 7, 8, 9]]
@[go_sem] def l138_6 (_ : Unit) : KL := [kA 26 (.mv (.t 1)),
  kA 27 (.mv (.t 9)),
  kA 28 (.iaddr (.t 26) (.t 27) 1),
  kA 29 (.load (.t 28) 1 false),
  kB 30 (.mv (.t 2)) [1, 2, 7, 8, 9, 29, 30],
  kB 31 (.bin .eql (.t 29) (.t 30)) [1, 2, 7, 8, 9, 31]]
@[go_sem] def l138_7 (_ : Unit) : KL := [kA 32 (.mv (.t 9)),
  kB 6 (.mv (.t 32)) [6]]
@[go_sem] def s138_8 (_ : Unit) : IR := (sQ [(kT l138_7), .ret])
@[go_sem] def s138_9 (_ : Unit) : IR := (sQ [(kT l138_5), (kT l138_6), (.cond (.t 31) (tH s138_8) .skip)])
@[go_sem] def s138_10 (_ : Unit) : IR := (.block 1 (tH s138_9))
@[go_sem] def l138_11 (_ : Unit) : KL := [kA 18 (.mv (.t 8)),
  kA 19 (.bin .add (.t 18) (cI 1)),
  kB 8 (.mv (.t 19)) [1, 2, 7, 8]]
@[go_sem] def s138_12 (_ : Unit) : IR := (sQ [(tH s138_4), (tH s138_10), (kT l138_11)])
@[go_sem] def s138_13 (_ : Unit) : IR := (.loop (tH s138_12))
@[go_sem] def s138_14 (_ : Unit) : IR := (.block 0 (tH s138_13))
@[go_sem] def s138_15 (_ : Unit) : IR := (sQ [(kT l138_2), (tH s138_14)])
@[go_sem] def l138_16 (_ : Unit) : KL := [kB 6 (.mv (.c (.int .i64 (-1)))) [6]]
@[go_sem] def s138_17 (_ : Unit) : IR := (sQ [(kT l138_0), (kT l138_1), (tH s138_15), (kT l138_16), .ret])
theorem c138 : compFn Tryz.prog [(0, [], [oS [0, 1, 2]]), (1, [], [oN, oN, oN, oN, oS [1, 2, 7]]), (2, [], [oS [1, 2, 7, 8]]), (3, [], [oN, oN, oN, oS [1, 2, 7, 8, 17]]), (5, [], [oN, oN, oN, oN, oS [1, 2, 7, 8, 22, 24], oN, oS [1, 2, 7, 8, 9]]), (6, [], [oN, oN, oN, oN, oS [1, 2, 7, 8, 9, 29, 30], oS [1, 2, 7, 8, 9, 31]]), (7, [], [oN, oS [6]]), (4, [], [oN, oN, oS [1, 2, 7, 8]]), (8, [], [oS [6]])] Tryz.f138 = some ⟨3, 33, [.t 6], (tH s138_17)⟩ := by kernel_rfl
theorem v_spec_l1Pick (hl : vs.length = 3) (h : wpV Tryz.prog (tH s138_17) (postV [.t 6] RV) (envV vs) M) : VCall Tryz.prog n_spec_l1Pick vs M RV :=
  vcall_of_wp (fun _ _ _ hl h => acall_of_wp mixed Tryz.func138 c138 (by kernel_rfl) hl h) hl h
@[go_sem] def l120_0 (_ : Unit) : KL := [kB 8 (.mv (.c (.sl none 0 0 true 0))) [0, 1, 2, 3]]
@[go_sem] def l120_1 (_ : Unit) : KL := [kA 18 (.bslc 4 0 [(.int .i64 0), (.int .i64 0), (.int .i64 0), (.int .i64 0)] []),
  kB 9 (.mv (.t 18)) [0, 1, 2, 3, 9]]
@[go_sem] def l120_2 (_ : Unit) : KL := [kA 19 (.bslc 1 0 [(.int .i64 0)] []),
  kB 10 (.mv (.t 19)) [0, 1, 2, 3, 9, 10]]
@[go_sem] def l120_3 (_ : Unit) : KL := [kA 20 (.mv (.t 0)),
  kA 21 (.mv (.t 3)),
  kA 22 (.call (n_spec_l40Rd_pick) [(.t 20), (.t 21)]),
  kA 23 (.bin .add (.c (.int .i64 2)) (.t 22)),
  kB 11 (.mv (.t 23)) [0, 1, 2, 9, 10, 11]]
@[go_sem] def l120_4 (_ : Unit) : KL := [kA 24 (.mv (.t 11)),
  kB 25 (.bin .gtr (.t 24) (cI 0)) [0, 1, 2, 9, 10, 11, 25]]
@[go_sem] def s120_5 (_ : Unit) : IR := (sQ [(kT l120_4), (.cond (.t 25) .skip (.exit 0))])
@[go_sem] def l120_6 (_ : Unit) : KL := [kA 28 (.mv (.t 0)),
  kA 29 (.bslc 1 13 [(.int .i64 0)] [(0, (cI 0)), (1, (cI 1)), (2, (cI 1)), (3, (.c (.int .i64 2))), (4, (.c (.int .i64 3))), (5, (.c (.int .i64 4))), (6, (.c (.int .i64 5))), (7, (.c (.int .i64 6))), (8, (.c (.int .i64 5))), (9, (.c (.int .i64 6))), (10, (.c (.int .i64 7))), (11, (.c (.int .i64 8))), (12, (.c (.int .i64 9)))]),
  kA 30 (.call (n_spec_l40Rd_num) [(.t 28), (.t 29)]),
  kB 12 (.mv (.t 30)) [0, 1, 2, 9, 10, 11, 12]]
@[go_sem] def l120_7 (_ : Unit) : KL := [kA 31 (.mv (.t 12)),
  kA 32 (.bld [(.int .i64 0), (.int .i64 0), (.int .i64 0), (.int .i64 0)] [(0, 1, (.t 31))]),
  kA 13 (.alloc [(.int .i64 0), (.int .i64 0), (.int .i64 0), (.int .i64 0)]),
  (⟨none, .store (.t 13) 4 (.t 32), none⟩, (some [0, 1, 2, 9, 10, 11, 12, 13]))]
@[go_sem] def l120_8 (_ : Unit) : KL := [kA 33 (.mv (.t 9)),
  kA 34 (.len (.t 33)),
  kA 35 (.bin .eql (.t 34) (cI 0)),
  kA 36 (.mv (.t 35)),
  (⟨(some 37), .mv (.t 12), (some (36, false))⟩, (some [0, 1, 2, 9, 10, 11, 12, 13, 36, 37])),
  (⟨(some 38), .bin .lss (.t 37) (.c (.int .i64 2)), (some (36, false))⟩, none),
  kB 39 (.pick (.t 36) (.c (.bool true)) (.t 38)) [0, 1, 2, 9, 10, 11, 12, 13, 39]]
@[go_sem] def l120_9 (_ : Unit) : KL := [kA 40 (.mv (.t 0)),
  kA 41 (.call (n_spec_l1Number) [(.t 40)]),
  kA 42 (.bld [(.int .i64 0), (.int .i64 0), (.int .i64 0), (.int .i64 0)] [(0, 1, (cI 0)), (1, 1, (.t 41))]),
  (⟨none, .store (.t 13) 4 (.t 42), none⟩, (some [0, 1, 2, 9, 10, 11, 12, 13]))]
@[go_sem] def l120_10 (_ : Unit) : KL := [kA 43 (.mv (.t 1)),
  kA 44 (.bin .gtr (.t 43) (cI 0)),
  kA 45 (.mv (.t 44)),
  (⟨(some 46), .mv (.t 12), (some (45, true))⟩, none),
  (⟨(some 47), .bin .neq (.t 46) (cI 0), (some (45, true))⟩, (some [0, 1, 2, 9, 10, 11, 13, 45, 47])),
  kB 48 (.pick (.t 45) (.t 47) (.c (.bool false))) [0, 1, 2, 9, 10, 11, 13, 48]]
@[go_sem] def l120_11 (_ : Unit) : KL := [kA 49 (.mv (.t 0)),
  kA 50 (.mv (.t 1)),
  kA 51 (.call (n_spec_l40Rd_pick) [(.t 49), (.t 50)]),
  kA 52 (.bld [(.int .i64 0), (.int .i64 0), (.int .i64 0), (.int .i64 0)] [(0, 1, (cI 1)), (1, 1, (.t 51))]),
  (⟨none, .store (.t 13) 4 (.t 52), none⟩, (some [0, 1, 2, 9, 10, 11, 13]))]
@[go_sem] def s120_12 (_ : Unit) : IR := (sQ [(kT l120_9), (kT l120_10), (.cond (.t 48) (kT l120_11) .skip)])
@[go_sem] def l120_13 (_ : Unit) : KL := [kB 14 (.mv (cI 1)) [0, 1, 2, 9, 10, 11, 12, 13, 14]]
@[go_sem] def l120_14 (_ : Unit) : KL := [kA 53 (.mv (.t 12)),
  kB 54 (.bin .geq (.t 53) (.c (.int .i64 7))) [0, 1, 2, 9, 10, 11, 12, 13, 14, 54]]
@[go_sem] def l120_15 (_ : Unit) : KL := [kB 14 (.mv (.c (.int .i64 2))) [0, 1, 2, 9, 10, 11, 12, 13, 14]]
@[go_sem] def s120_16 (_ : Unit) : IR := (sQ [(kT l120_14), (.cond (.t 54) (kT l120_15) .skip)])
@[go_sem] def l120_17 (_ : Unit) : KL := [kA 55 (.mv (.t 0)),
  kA 56 (.mv (.t 10)),
  kA 57 (.mv (.t 14)),
  kA 58 (.call (n_spec_l1Pick) [(.t 55), (.t 56), (.t 57)]),
  kB 59 (.faddr (.t 13) 2) [0, 1, 2, 9, 10, 11, 12, 13, 14, 58, 59],
  (⟨none, .store (.t 59) 1 (.t 58), none⟩, (some [0, 1, 2, 9, 10, 11, 12, 13, 14]))]
@[go_sem] def l120_18 (_ : Unit) : KL := [kA 60 (.mv (.t 0)),
  kA 61 (.mv (.t 10)),
  kA 62 (.mv (.t 14)),
  kA 63 (.call (n_spec_l1Pick) [(.t 60), (.t 61), (.t 62)]),
  kB 64 (.faddr (.t 13) 3) [0, 1, 2, 9, 10, 11, 12, 13, 63, 64],
  (⟨none, .store (.t 64) 1 (.t 63), none⟩, (some [0, 1, 2, 9, 10, 11, 12, 13]))]
@[go_sem] def l120_19 (_ : Unit) : KL := [kA 65 (.mv (.t 12)),
  kB 66 (.call (n_spec_l1One) [(.t 65)]) [0, 1, 2, 9, 10, 11, 13, 66]]
@[go_sem] def l120_20 (_ : Unit) : KL := [kA 67 (.faddr (.t 13) 2),
  kA 68 (.load (.t 67) 1 false),
  kA 69 (.faddr (.t 13) 3),
  (⟨none, .store (.t 69) 1 (.t 68), none⟩, (some [0, 1, 2, 9, 10, 11, 13]))]
@[go_sem] def s120_21 (_ : Unit) : IR := (sQ [(kT l120_13), (tH s120_16), (kT l120_17), (kT l120_18), (kT l120_19), (.cond (.t 66) (kT l120_20) .skip)])
@[go_sem] def s120_22 (_ : Unit) : IR := (sQ [(kT l120_8), (.cond (.t 39) (tH s120_12) (tH s120_21))])
@[go_sem] def l120_23 (_ : Unit) : KL := [kA 70 (.load (.t 13) 4 true),
  kA 71 (.mv (.t 10)),
  kA 72 (.mv (.t 1)),
  kA 73 (.call (n_spec_l1Kind) [(.t 70), (.t 71), (.t 72)]),
  kB 15 (.mv (.t 73)) [0, 1, 2, 9, 10, 11, 13, 15]]
@[go_sem] def l120_24 (_ : Unit) : KL := [kA 74 (.mv (.t 15)),
  kB 75 (.bin .neq (.t 74) (cI 0)) [0, 1, 2, 9, 10, 11, 13, 15, 75]]
@[go_sem] def l120_25 (_ : Unit) : KL := [kA 76 (.mv (.t 9)),
  kA 77 (.load (.t 13) 4 true),
  kA 78 (.bslc 4 1 [(.int .i64 0), (.int .i64 0), (.int .i64 0), (.int .i64 0)] [(0, (.t 77))]),
  kA 79 (.app 4 32 (.t 76) (.t 78)),
  kB 9 (.mv (.t 79)) [0, 1, 2, 9, 10, 11, 15]]
@[go_sem] def l120_26 (_ : Unit) : KL := [kA 80 (.mv (.t 10)),
  kA 81 (.mv (.t 15)),
  kA 82 (.bslc 1 1 [(.int .i64 0)] [(0, (.t 81))]),
  kA 83 (.app 1 8 (.t 80) (.t 82)),
  kB 10 (.mv (.t 83)) [0, 1, 2, 9, 10, 11]]
@[go_sem] def s120_27 (_ : Unit) : IR := (sQ [(kT l120_25), (kT l120_26)])
@[go_sem] def s120_28 (_ : Unit) : IR := (sQ [(kT l120_6), (kT l120_7), (tH s120_22), (kT l120_23), (kT l120_24), (.cond (.t 75) (tH s120_27) .skip)])
@[go_sem] def s120_29 (_ : Unit) : IR := (.block 1 (tH s120_28))
@[go_sem] def l120_30 (_ : Unit) : KL := [kA 26 (.mv (.t 11)),
  kA 27 (.bin .sub (.t 26) (cI 1)),
  kB 11 (.mv (.t 27)) [0, 1, 2, 9, 10, 11]]
@[go_sem] def s120_31 (_ : Unit) : IR := (sQ [(tH s120_5), (tH s120_29), (kT l120_30)])
@[go_sem] def s120_32 (_ : Unit) : IR := (.loop (tH s120_31))
@[go_sem] def s120_33 (_ : Unit) : IR := (.block 0 (tH s120_32))
@[go_sem] def s120_34 (_ : Unit) : IR := (sQ [(kT l120_3), (tH s120_33)])
@[go_sem] def l120_35 (_ : Unit) : KL := [kA 84 (.mv (.t 9)),
  kA 85 (.len (.t 84)),
  kB 86 (.bin .eql (.t 85) (cI 0)) [0, 2, 9, 10, 86]]
@[go_sem] def l120_36 (_ : Unit) : KL := [kA 87 (.mv (.t 9)),
  kA 88 (.bld [(.int .i64 0), (.int .i64 0), (.int .i64 0), (.int .i64 0)] [(0, 1, (cI 0)), (1, 1, (cI 1))]),
  kA 89 (.bslc 4 1 [(.int .i64 0), (.int .i64 0), (.int .i64 0), (.int .i64 0)] [(0, (.t 88))]),
  kA 90 (.app 4 32 (.t 87) (.t 89)),
  kB 9 (.mv (.t 90)) [0, 2, 9, 10]]
@[go_sem] def l120_37 (_ : Unit) : KL := [kA 91 (.mv (.t 10)),
  kA 92 (.bslc 1 1 [(.int .i64 0)] [(0, (cI 1))]),
  kA 93 (.app 1 8 (.t 91) (.t 92)),
  kB 10 (.mv (.t 93)) [0, 2, 9, 10]]
@[go_sem] def s120_38 (_ : Unit) : IR := (sQ [(kT l120_36), (kT l120_37)])
@[go_sem] def s120_39 (_ : Unit) : IR := (sQ [(kT l120_35), (.cond (.t 86) (tH s120_38) .skip)])
@[go_sem] def l120_40 (_ : Unit) : KL := [kA 94 (.mv (.t 9)),
  kA 95 (.len (.t 94)),
  kA 96 (.bin .sub (.t 95) (cI 1)),
  kB 16 (.mv (.t 96)) [0, 2, 9, 10, 16]]
@[go_sem] def l120_41 (_ : Unit) : KL := [kA 97 (.mv (.t 2)),
  kA 98 (.bin .eql (.t 97) (.c (.int .i64 2))),
  kA 99 (.mv (.t 98)),
  (⟨(some 100), .mv (.t 10), (some (99, true))⟩, none),
  (⟨(some 101), .mv (.t 16), (some (99, true))⟩, (some [0, 2, 9, 10, 16, 99, 100, 101])),
  (⟨(some 102), .iaddr (.t 100) (.t 101) 1, (some (99, true))⟩, none),
  (⟨(some 103), .load (.t 102) 1 false, (some (99, true))⟩, none),
  (⟨(some 104), .mv (.t 2), (some (99, true))⟩, none),
  (⟨(some 105), .bin .neq (.t 103) (.t 104), (some (99, true))⟩, none),
  kB 106 (.pick (.t 99) (.t 105) (.c (.bool false))) [0, 2, 9, 10, 16, 106]]
@[go_sem] def l120_42 (_ : Unit) : KL := [kA 107 (.mv (.t 9)),
  kA 108 (.mv (.t 0)),
  kA 109 (.bslc 1 2 [(.int .i64 0)] [(0, (.c (.int .i64 5))), (1, (.c (.int .i64 6)))]),
  kA 110 (.call (n_spec_l40Rd_num) [(.t 108), (.t 109)]),
  kB 111 (.mv (.t 16)) [0, 10, 107, 110, 111],
  kA 112 (.mv (.t 0)),
  kA 113 (.mv (.t 10)),
  kA 114 (.call (n_spec_l1Pick) [(.t 112), (.t 113), (cI 1)]),
  kA 115 (.bld [(.int .i64 0), (.int .i64 0), (.int .i64 0), (.int .i64 0)] [(0, 1, (.t 110)), (2, 1, (.t 111)), (3, 1, (.t 114))]),
  kB 116 (.bslc 4 1 [(.int .i64 0), (.int .i64 0), (.int .i64 0), (.int .i64 0)] [(0, (.t 115))]) [107, 116],
  kA 117 (.app 4 32 (.t 107) (.t 116)),
  kB 9 (.mv (.t 117)) [9]]
@[go_sem] def l120_43 (_ : Unit) : KL := [kA 118 (.mv (.t 2)),
  kA 119 (.bin .eql (.t 118) (cI 1)),
  kA 120 (.mv (.t 119)),
  (⟨(some 121), .mv (.t 10), (some (120, true))⟩, none),
  (⟨(some 122), .mv (.t 16), (some (120, true))⟩, (some [0, 2, 9, 10, 120, 121, 122])),
  (⟨(some 123), .iaddr (.t 121) (.t 122) 1, (some (120, true))⟩, none),
  (⟨(some 124), .load (.t 123) 1 false, (some (120, true))⟩, none),
  (⟨(some 125), .mv (.t 2), (some (120, true))⟩, none),
  (⟨(some 126), .bin .neq (.t 124) (.t 125), (some (120, true))⟩, none),
  kB 127 (.pick (.t 120) (.t 126) (.c (.bool false))) [0, 9, 10, 127]]
@[go_sem] def l120_44 (_ : Unit) : KL := [kA 128 (.mv (.t 0)),
  kA 129 (.mv (.t 10)),
  kA 130 (.call (n_spec_l1Pick) [(.t 128), (.t 129), (cI 1)]),
  kB 17 (.mv (.t 130)) [0, 9, 10, 17]]
@[go_sem] def l120_45 (_ : Unit) : KL := [kA 131 (.mv (.t 9)),
  kA 132 (.mv (.t 0)),
  kA 133 (.bslc 1 2 [(.int .i64 0)] [(0, (.c (.int .i64 2))), (1, (.c (.int .i64 3)))]),
  kA 134 (.call (n_spec_l40Rd_num) [(.t 132), (.t 133)]),
  kB 135 (.mv (.t 17)) [0, 10, 131, 134, 135],
  kA 136 (.mv (.t 0)),
  kA 137 (.mv (.t 10)),
  kA 138 (.call (n_spec_l1Pick) [(.t 136), (.t 137), (cI 1)]),
  kA 139 (.bld [(.int .i64 0), (.int .i64 0), (.int .i64 0), (.int .i64 0)] [(0, 1, (.t 134)), (2, 1, (.t 135)), (3, 1, (.t 138))]),
  kB 140 (.bslc 4 1 [(.int .i64 0), (.int .i64 0), (.int .i64 0), (.int .i64 0)] [(0, (.t 139))]) [131, 140],
  kA 141 (.app 4 32 (.t 131) (.t 140)),
  kB 9 (.mv (.t 141)) [9]]
@[go_sem] def s120_46 (_ : Unit) : IR := (sQ [(kT l120_44), (kT l120_45)])
@[go_sem] def s120_47 (_ : Unit) : IR := (sQ [(kT l120_43), (.cond (.t 127) (tH s120_46) .skip)])
@[go_sem] def s120_48 (_ : Unit) : IR := (sQ [(kT l120_41), (.cond (.t 106) (kT l120_42) (tH s120_47))])
@[go_sem] def l120_49 (_ : Unit) : KL := [kA 142 (.mv (.t 9)),
  kB 8 (.mv (.t 142)) [8]]
@[go_sem] def s120_50 (_ : Unit) : IR := (sQ [(kT l120_0), (kT l120_1), (kT l120_2), (tH s120_34), (tH s120_39), (kT l120_40), (tH s120_48), (kT l120_49), .ret])
theorem c120 : compFn Tryz.prog [(0, [], [oS [0, 1, 2, 3]]), (1, [], [oN, oS [0, 1, 2, 3, 9]]), (2, [], [oN, oS [0, 1, 2, 3, 9, 10]]), (3, [], [oN, oN, oN, oN, oS [0, 1, 2, 9, 10, 11]]), (4, [], [oN, oS [0, 1, 2, 9, 10, 11, 25]]), (6, [], [oN, oN, oN, oS [0, 1, 2, 9, 10, 11, 12]]), (7, [], [oN, oN, oN, oS [0, 1, 2, 9, 10, 11, 12, 13]]), (8, [], [oN, oN, oN, oN, oS [0, 1, 2, 9, 10, 11, 12, 13, 36, 37], oN, oS [0, 1, 2, 9, 10, 11, 12, 13, 39]]), (9, [], [oN, oN, oN, oS [0, 1, 2, 9, 10, 11, 12, 13]]), (10, [], [oN, oN, oN, oN, oS [0, 1, 2, 9, 10, 11, 13, 45, 47], oS [0, 1, 2, 9, 10, 11, 13, 48]]), (11, [], [oN, oN, oN, oN, oS [0, 1, 2, 9, 10, 11, 13]]), (12, [], [oS [0, 1, 2, 9, 10, 11, 12, 13, 14]]), (13, [], [oN, oS [0, 1, 2, 9, 10, 11, 12, 13, 14, 54]]), (14, [], [oS [0, 1, 2, 9, 10, 11, 12, 13, 14]]), (15, [], [oN, oN, oN, oN, oS [0, 1, 2, 9, 10, 11, 12, 13, 14, 58, 59], oS [0, 1, 2, 9, 10, 11, 12, 13, 14]]), (16, [], [oN, oN, oN, oN, oS [0, 1, 2, 9, 10, 11, 12, 13, 63, 64], oS [0, 1, 2, 9, 10, 11, 12, 13]]), (17, [], [oN, oS [0, 1, 2, 9, 10, 11, 13, 66]]), (18, [], [oN, oN, oN, oS [0, 1, 2, 9, 10, 11, 13]]), (19, [], [oN, oN, oN, oN, oS [0, 1, 2, 9, 10, 11, 13, 15]]), (20, [], [oN, oS [0, 1, 2, 9, 10, 11, 13, 15, 75]]), (21, [], [oN, oN, oN, oN, oS [0, 1, 2, 9, 10, 11, 15]]), (22, [], [oN, oN, oN, oN, oS [0, 1, 2, 9, 10, 11]]), (5, [], [oN, oN, oS [0, 1, 2, 9, 10, 11]]), (23, [], [oN, oN, oS [0, 2, 9, 10, 86]]), (24, [], [oN, oN, oN, oN, oS [0, 2, 9, 10]]), (25, [], [oN, oN, oN, oS [0, 2, 9, 10]]), (26, [], [oN, oN, oN, oS [0, 2, 9, 10, 16]]), (27, [], [oN, oN, oN, oN, oS [0, 2, 9, 10, 16, 99, 100, 101], oN, oN, oN, oN, oS [0, 2, 9, 10, 16, 106]]), (28, [], [oN, oN, oN, oN, oS [0, 10, 107, 110, 111], oN, oN, oN, oN, oS [107, 116], oN, oS [9]]), (29, [], [oN, oN, oN, oN, oS [0, 2, 9, 10, 120, 121, 122], oN, oN, oN, oN, oS [0, 9, 10, 127]]), (30, [], [oN, oN, oN, oS [0, 9, 10, 17]]), (31, [], [oN, oN, oN, oN, oS [0, 10, 131, 134, 135], oN, oN, oN, oN, oS [131, 140], oN, oS [9]]), (32, [], [oN, oS [8]])] Tryz.f120 = some ⟨4, 143, [.t 8], (tH s120_50)⟩ := by kernel_rfl
theorem v_spec_l1Terms (hl : vs.length = 4) (h : wpV Tryz.prog (tH s120_50) (postV [.t 8] RV) (envV vs) M) : VCall Tryz.prog n_spec_l1Terms vs M RV :=
  vcall_of_wp (fun _ _ _ hl h => acall_of_wp mixed Tryz.func120 c120 (by kernel_rfl) hl h) hl h
@[go_sem] def l128_0 (_ : Unit) : KL := [kB 6 (.mv (.c (.sl none 0 0 true 0))) [0, 1, 2]]
@[go_sem] def l128_1 (_ : Unit) : KL := [kA 8 (.mv (.t 0)),
  kA 9 (.call (n_spec_l40Rd_pick) [(.t 8), (.c (.int .i64 6))]),
  kB 7 (.mv (.t 9)) [0, 1, 2, 7]]
@[go_sem] def l128_2 (_ : Unit) : KL := [kA 10 (.mv (.t 7)),
  kB 11 (.bin .lss (.t 10) (.c (.int .i64 3))) [0, 1, 2, 7, 11]]
@[go_sem] def l128_3 (_ : Unit) : KL := [kA 12 (.mv (.t 2)),
  kA 13 (.call (n_spec_l2VarOf) [(.t 12)]),
  kA 14 (.call (n_spec_l2Const) [(cI 1)]),
  kA 15 (.mv (.t 0)),
  kB 16 (.bslc 1 2 [(.int .i64 0)] [(0, (.c (.int .i64 2))), (1, (.c (.int .i64 3)))]) [13, 14, 15, 16],
  kA 17 (.call (n_spec_l40Rd_num) [(.t 15), (.t 16)]),
  kA 18 (.bld [(.int .i64 0), (.int .i64 0), (.int .i64 0), (.int .i64 0)] [(0, 1, (.t 17)), (2, 1, (cI 0)), (3, 1, (cI 1))]),
  kA 19 (.bslc 4 3 [(.int .i64 0), (.int .i64 0), (.int .i64 0), (.int .i64 0)] [(0, (.t 13)), (1, (.t 14)), (2, (.t 18))]),
  kB 6 (.mv (.t 19)) [6]]
@[go_sem] def s128_4 (_ : Unit) : IR := (sQ [(kT l128_3), .ret])
@[go_sem] def s128_5 (_ : Unit) : IR := (sQ [(kT l128_2), (.cond (.t 11) (tH s128_4) .skip)])
@[go_sem] def l128_6 (_ : Unit) : KL := [kA 20 (.mv (.t 7)),
  kB 21 (.bin .eql (.t 20) (.c (.int .i64 3))) [0, 1, 2, 7, 21]]
@[go_sem] def l128_7 : Nat → GOp
  | 0 => ⟨(some 22), .mv (.t 1), none⟩
  | 1 => ⟨(some 23), .mv (.t 2), none⟩
  | 2 => ⟨(some 24), .iaddr (.t 22) (.t 23) 3, none⟩
  | 3 => ⟨(some 25), .faddr (.t 24) 0, none⟩
  | 4 => ⟨(some 26), .load (.t 25) 1 false, none⟩
  | 5 => ⟨(some 27), .mv (.t 0), none⟩
  | 6 => ⟨(some 28), .mv (.t 1), none⟩
  | 7 => ⟨(some 29), .mv (.t 2), none⟩
  | 8 => ⟨(some 30), .iaddr (.t 28) (.t 29) 3, none⟩
  | 9 => ⟨(some 31), .faddr (.t 30) 1, none⟩
  | 10 => ⟨(some 32), .load (.t 31) 1 false, none⟩
  | 11 => ⟨(some 33), .mv (.t 1), none⟩
  | 12 => ⟨(some 34), .mv (.t 2), none⟩
  | 13 => ⟨(some 35), .iaddr (.t 33) (.t 34) 3, none⟩
  | 14 => ⟨(some 36), .faddr (.t 35) 0, none⟩
  | 15 => ⟨(some 37), .load (.t 36) 1 false, none⟩
  | 16 => ⟨(some 38), .bin .sub (.t 32) (.t 37), none⟩
  | 17 => ⟨(some 39), .bin .add (.t 38) (cI 1), none⟩
  | 18 => ⟨(some 40), .call (n_spec_l40Rd_pick) [(.t 27), (.t 39)], none⟩
  | 19 => ⟨(some 41), .bin .add (.t 26) (.t 40), none⟩
  | 20 => ⟨(some 42), .call (n_spec_l2Const) [(.t 41)], none⟩
  | 21 => ⟨(some 43), .bslc 4 1 [(.int .i64 0), (.int .i64 0), (.int .i64 0), (.int .i64 0)] [(0, (.t 42))], none⟩
  | 22 => ⟨(some 6), .mv (.t 43), none⟩
  | _ => ⟨none, .mkmap, none⟩
@[go_sem] def s128_8 (_ : Unit) : IR := (sQ [(.kd (oF l128_7 23) [(0, []), (1, []), (2, []), (3, []), (4, []), (5, []), (6, []), (7, []), (8, []), (9, []), (10, []), (11, []), (12, []), (13, []), (14, []), (15, []), (16, []), (17, []), (18, [4]), (19, []), (20, []), (21, []), (22, [])] [6]), .ret])
@[go_sem] def s128_9 (_ : Unit) : IR := (sQ [(kT l128_6), (.cond (.t 21) (tH s128_8) .skip)])
@[go_sem] def l128_10 (_ : Unit) : KL := [kA 44 (.mv (.t 7)),
  kB 45 (.bin .eql (.t 44) (.c (.int .i64 4))) [0, 1, 45]]
@[go_sem] def l128_11 (_ : Unit) : KL := [kA 46 (.mv (.t 0)),
  kA 47 (.mv (.t 1)),
  kA 48 (.len (.t 47)),
  kA 49 (.call (n_spec_l40Rd_pick) [(.t 46), (.t 48)]),
  kB 50 (.call (n_spec_l2VarOf) [(.t 49)]) [50],
  kA 51 (.bslc 4 1 [(.int .i64 0), (.int .i64 0), (.int .i64 0), (.int .i64 0)] [(0, (.t 50))]),
  kB 6 (.mv (.t 51)) [6]]
@[go_sem] def s128_12 (_ : Unit) : IR := (sQ [(kT l128_11), .ret])
@[go_sem] def s128_13 (_ : Unit) : IR := (sQ [(kT l128_10), (.cond (.t 45) (tH s128_12) .skip)])
@[go_sem] def l128_14 (_ : Unit) : KL := [kA 52 (.mv (.t 0)),
  kA 53 (.mv (.t 1)),
  kA 54 (.len (.t 53)),
  kA 55 (.call (n_spec_l1Terms) [(.t 52), (.t 54), (cI 1), (.c (.int .i64 5))]),
  kB 6 (.mv (.t 55)) [6]]
@[go_sem] def s128_15 (_ : Unit) : IR := (sQ [(kT l128_0), (kT l128_1), (tH s128_5), (tH s128_9), (tH s128_13), (kT l128_14), .ret])
theorem c128 : compFn Tryz.prog [(0, [], [oS [0, 1, 2]]), (1, [], [oN, oN, oS [0, 1, 2, 7]]), (2, [], [oN, oS [0, 1, 2, 7, 11]]), (3, [], [oN, oN, oN, oN, oS [13, 14, 15, 16], oN, oN, oN, oS [6]]), (4, [], [oN, oS [0, 1, 2, 7, 21]]), (5, [(0, []), (1, []), (2, []), (3, []), (4, []), (5, []), (6, []), (7, []), (8, []), (9, []), (10, []), (11, []), (12, []), (13, []), (14, []), (15, []), (16, []), (17, []), (18, [4]), (19, []), (20, []), (21, []), (22, [])], [oS [6]]), (6, [], [oN, oS [0, 1, 45]]), (7, [], [oN, oN, oN, oN, oS [50], oN, oS [6]]), (8, [], [oN, oN, oN, oN, oS [6]])] Tryz.f128 = some ⟨3, 56, [.t 6], (tH s128_15)⟩ := by kernel_rfl
theorem v_spec_l2Value (hl : vs.length = 3) (h : wpV Tryz.prog (tH s128_15) (postV [.t 6] RV) (envV vs) M) : VCall Tryz.prog n_spec_l2Value vs M RV :=
  vcall_of_wp (fun _ _ _ hl h => acall_of_wp mixed Tryz.func128 c128 (by kernel_rfl) hl h) hl h
@[go_sem] def l110_0 (_ : Unit) : KL := [kB 6 (.mv (.c (.sl none 0 0 true 0))) [0, 1, 2]]
@[go_sem] def l110_1 (_ : Unit) : KL := [kA 11 (.bslc 3 0 [(.sl none 0 0 true 0), (.sl none 0 0 true 0), (.sl none 0 0 true 0)] []),
  kB 7 (.mv (.t 11)) [0, 1, 2, 7]]
@[go_sem] def l110_2 (_ : Unit) : KL := [kB 8 (.mv (cI 0)) [0, 1, 2, 7, 8]]
@[go_sem] def l110_3 (_ : Unit) : KL := [kA 12 (.mv (.t 8)),
  kA 13 (.mv (.t 2)),
  kB 14 (.bin .lss (.t 12) (.t 13)) [0, 1, 2, 7, 8, 14]]
@[go_sem] def s110_4 (_ : Unit) : IR := (sQ [(kT l110_3), (.cond (.t 14) .skip (.exit 0))])
@[go_sem] def l110_5 (_ : Unit) : KL := [kA 17 (.mv (.t 0)),
  kA 18 (.mv (.t 1)),
  kA 19 (.call (n_spec_l2When) [(.t 17), (.t 18)]),
  kA 20 (.bld [(.sl none 0 0 true 0), (.sl none 0 0 true 0), (.sl none 0 0 true 0)] [(0, 1, (.t 19))]),
  kB 9 (.alloc [(.sl none 0 0 true 0), (.sl none 0 0 true 0), (.sl none 0 0 true 0)]) [0, 1, 2, 7, 8, 9, 20],
  (⟨none, .store (.t 9) 3 (.t 20), none⟩, (some [0, 1, 2, 7, 8, 9]))]
@[go_sem] def l110_6 (_ : Unit) : KL := [kB 10 (.mv (cI 0)) [0, 1, 2, 7, 8, 9, 10]]
@[go_sem] def l110_7 (_ : Unit) : KL := [kA 21 (.mv (.t 10)),
  kA 22 (.mv (.t 1)),
  kA 23 (.len (.t 22)),
  kB 24 (.bin .lss (.t 21) (.t 23)) [0, 1, 2, 7, 8, 9, 10, 24]]
@[go_sem] def s110_8 (_ : Unit) : IR := (sQ [(kT l110_7), (.cond (.t 24) .skip (.exit 2))])
@[go_sem] def l110_9 (_ : Unit) : KL := [kA 27 (.mv (.t 0)),
  kA 28 (.mv (.t 1)),
  kA 29 (.len (.t 28)),
  kA 30 (.bin .add (.t 29) (cI 1)),
  kB 31 (.call (n_spec_l40Rd_pick) [(.t 27), (.t 30)]) [0, 1, 2, 7, 8, 9, 10, 31],
  kA 32 (.bin .lss (.t 31) (cI 1)),
  kA 33 (.mv (.t 32)),
  (⟨(some 34), .mv (.t 10), (some (33, false))⟩, none),
  (⟨(some 35), .mv (.t 1), (some (33, false))⟩, none),
  (⟨(some 36), .len (.t 35), (some (33, false))⟩, (some [0, 1, 2, 7, 8, 9, 10, 33, 34, 36])),
  (⟨(some 37), .bin .sub (.t 36) (cI 1), (some (33, false))⟩, none),
  (⟨(some 38), .bin .eql (.t 34) (.t 37), (some (33, false))⟩, none),
  (⟨(some 39), .mv (.t 38), (some (33, false))⟩, none),
  (⟨(some 40), .faddr (.t 9) 1, (some (39, true))⟩, none),
  (⟨(some 41), .load (.t 40) 1 false, (some (39, true))⟩, (some [0, 1, 2, 7, 8, 9, 10, 33, 39, 41])),
  (⟨(some 42), .len (.t 41), (some (39, true))⟩, none),
  (⟨(some 43), .bin .eql (.t 42) (cI 0), (some (39, true))⟩, none),
  (⟨(some 44), .pick (.t 39) (.t 43) (.c (.bool false)), (some (33, false))⟩, none),
  (⟨(some 45), .mv (.t 44), (some (33, false))⟩, none),
  (⟨(some 46), .mv (.t 0), (some (45, true))⟩, (some [0, 1, 2, 7, 8, 9, 10, 33, 45, 46])),
  (⟨(some 47), .call (n_spec_l40Rd_pick) [(.t 46), (.c (.int .i64 9))], (some (45, true))⟩, none),
  (⟨(some 48), .bin .gtr (.t 47) (cI 0), (some (45, true))⟩, none),
  (⟨(some 49), .pick (.t 45) (.t 48) (.c (.bool false)), (some (33, false))⟩, none),
  kB 50 (.pick (.t 33) (.c (.bool true)) (.t 49)) [0, 1, 2, 7, 8, 9, 10, 50]]
@[go_sem] def l110_10 (_ : Unit) : KL := [kA 51 (.faddr (.t 9) 1),
  kA 52 (.load (.t 51) 1 false),
  kA 53 (.mv (.t 10)),
  kA 54 (.bslc 1 1 [(.int .i64 0)] [(0, (.t 53))]),
  kB 55 (.app 1 8 (.t 52) (.t 54)) [0, 1, 2, 7, 8, 9, 10, 55],
  kA 56 (.faddr (.t 9) 1),
  (⟨none, .store (.t 56) 1 (.t 55), none⟩, (some [0, 1, 2, 7, 8, 9, 10]))]
@[go_sem] def l110_11 : Nat → GOp
  | 0 => ⟨(some 57), .faddr (.t 9) 2, none⟩
  | 1 => ⟨(some 58), .load (.t 57) 1 false, none⟩
  | 2 => ⟨(some 59), .mv (.t 0), none⟩
  | 3 => ⟨(some 60), .mv (.t 1), none⟩
  | 4 => ⟨(some 61), .mv (.t 10), none⟩
  | 5 => ⟨(some 62), .call (n_spec_l2Value) [(.t 59), (.t 60), (.t 61)], none⟩
  | 6 => ⟨(some 63), .bslc 1 1 [(.sl none 0 0 true 0)] [(0, (.t 62))], none⟩
  | 7 => ⟨(some 64), .app 1 24 (.t 58) (.t 63), none⟩
  | 8 => ⟨(some 65), .faddr (.t 9) 2, none⟩
  | 9 => ⟨none, .store (.t 65) 1 (.t 64), none⟩
  | _ => ⟨none, .mkmap, none⟩
@[go_sem] def s110_12 (_ : Unit) : IR := (sQ [(kT l110_10), (.kd (oF l110_11 10) [(0, []), (1, []), (2, []), (3, []), (4, []), (5, [1]), (6, []), (7, []), (8, []), (9, [])] [0, 1, 2, 7, 8, 9, 10])])
@[go_sem] def s110_13 (_ : Unit) : IR := (sQ [(kT l110_9), (.cond (.t 50) (tH s110_12) .skip)])
@[go_sem] def s110_14 (_ : Unit) : IR := (.block 3 (tH s110_13))
@[go_sem] def l110_15 (_ : Unit) : KL := [kA 25 (.mv (.t 10)),
  kA 26 (.bin .add (.t 25) (cI 1)),
  kB 10 (.mv (.t 26)) [0, 1, 2, 7, 8, 9, 10]]
@[go_sem] def s110_16 (_ : Unit) : IR := (sQ [(tH s110_8), (tH s110_14), (kT l110_15)])
@[go_sem] def s110_17 (_ : Unit) : IR := (.loop (tH s110_16))
@[go_sem] def s110_18 (_ : Unit) : IR := (.block 2 (tH s110_17))
@[go_sem] def s110_19 (_ : Unit) : IR := (sQ [(kT l110_6), (tH s110_18)])
@[go_sem] def l110_20 (_ : Unit) : KL := [kA 66 (.mv (.t 7)),
  kA 67 (.load (.t 9) 3 true),
  kA 68 (.bslc 3 1 [(.sl none 0 0 true 0), (.sl none 0 0 true 0), (.sl none 0 0 true 0)] [(0, (.t 67))]),
  kA 69 (.app 3 72 (.t 66) (.t 68)),
  kB 7 (.mv (.t 69)) [0, 1, 2, 7, 8]]
@[go_sem] def s110_21 (_ : Unit) : IR := (sQ [(kT l110_5), (tH s110_19), (kT l110_20)])
@[go_sem] def s110_22 (_ : Unit) : IR := (.block 1 (tH s110_21))
@[go_sem] def l110_23 (_ : Unit) : KL := [kA 15 (.mv (.t 8)),
  kA 16 (.bin .add (.t 15) (cI 1)),
  kB 8 (.mv (.t 16)) [0, 1, 2, 7, 8]]
@[go_sem] def s110_24 (_ : Unit) : IR := (sQ [(tH s110_4), (tH s110_22), (kT l110_23)])
@[go_sem] def s110_25 (_ : Unit) : IR := (.loop (tH s110_24))
@[go_sem] def s110_26 (_ : Unit) : IR := (.block 0 (tH s110_25))
@[go_sem] def s110_27 (_ : Unit) : IR := (sQ [(kT l110_2), (tH s110_26)])
@[go_sem] def l110_28 (_ : Unit) : KL := [kA 70 (.mv (.t 7)),
  kB 6 (.mv (.t 70)) [6]]
@[go_sem] def s110_29 (_ : Unit) : IR := (sQ [(kT l110_0), (kT l110_1), (tH s110_27), (kT l110_28), .ret])
theorem c110 : compFn Tryz.prog [(0, [], [oS [0, 1, 2]]), (1, [], [oN, oS [0, 1, 2, 7]]), (2, [], [oS [0, 1, 2, 7, 8]]), (3, [], [oN, oN, oS [0, 1, 2, 7, 8, 14]]), (5, [], [oN, oN, oN, oN, oS [0, 1, 2, 7, 8, 9, 20], oS [0, 1, 2, 7, 8, 9]]), (6, [], [oS [0, 1, 2, 7, 8, 9, 10]]), (7, [], [oN, oN, oN, oS [0, 1, 2, 7, 8, 9, 10, 24]]), (9, [], [oN, oN, oN, oN, oS [0, 1, 2, 7, 8, 9, 10, 31], oN, oN, oN, oN, oS [0, 1, 2, 7, 8, 9, 10, 33, 34, 36], oN, oN, oN, oN, oS [0, 1, 2, 7, 8, 9, 10, 33, 39, 41], oN, oN, oN, oN, oS [0, 1, 2, 7, 8, 9, 10, 33, 45, 46], oN, oN, oN, oS [0, 1, 2, 7, 8, 9, 10, 50]]), (10, [], [oN, oN, oN, oN, oS [0, 1, 2, 7, 8, 9, 10, 55], oN, oS [0, 1, 2, 7, 8, 9, 10]]), (11, [(0, []), (1, []), (2, []), (3, []), (4, []), (5, [1]), (6, []), (7, []), (8, []), (9, [])], [oS [0, 1, 2, 7, 8, 9, 10]]), (8, [], [oN, oN, oS [0, 1, 2, 7, 8, 9, 10]]), (12, [], [oN, oN, oN, oN, oS [0, 1, 2, 7, 8]]), (4, [], [oN, oN, oS [0, 1, 2, 7, 8]]), (13, [], [oN, oS [6]])] Tryz.f110 = some ⟨3, 71, [.t 6], (tH s110_29)⟩ := by kernel_rfl
theorem v_spec_l2Rules (hl : vs.length = 3) (h : wpV Tryz.prog (tH s110_29) (postV [.t 6] RV) (envV vs) M) : VCall Tryz.prog n_spec_l2Rules vs M RV :=
  vcall_of_wp (fun _ _ _ hl h => acall_of_wp mixed Tryz.func110 c110 (by kernel_rfl) hl h) hl h
@[go_sem] def l83_0 (_ : Unit) : KL := [kB 4 (.alloc [(.sl none 0 0 true 0), (.sl none 0 0 true 0)]) [0, 1, 4]]
@[go_sem] def l83_1 (_ : Unit) : KL := [kA 10 (.bld [(.sl none 0 0 true 0), (.sl none 0 0 true 0)] []),
  kA 5 (.alloc [(.sl none 0 0 true 0), (.sl none 0 0 true 0)]),
  (⟨none, .store (.t 5) 2 (.t 10), none⟩, (some [0, 1, 4, 5]))]
@[go_sem] def l83_2 (_ : Unit) : KL := [kB 6 (.mv (cI 1)) [0, 1, 4, 5, 6]]
@[go_sem] def l83_3 (_ : Unit) : KL := [kA 11 (.mv (.t 0)),
  kA 12 (.call (n_spec_l40Rd_pick) [(.t 11), (.c (.int .i64 3))]),
  kA 13 (.bin .add (cI 1) (.t 12)),
  kB 7 (.mv (.t 13)) [0, 1, 4, 5, 6, 7]]
@[go_sem] def l83_4 (_ : Unit) : KL := [kA 14 (.mv (.t 7)),
  kB 15 (.bin .gtr (.t 14) (cI 0)) [0, 1, 4, 5, 6, 7, 15]]
@[go_sem] def s83_5 (_ : Unit) : IR := (sQ [(kT l83_4), (.cond (.t 15) .skip (.exit 0))])
@[go_sem] def l83_6 (_ : Unit) : KL := [kA 18 (.mv (.t 0)),
  kA 19 (.bslc 1 5 [(.int .i64 0)] [(0, (.c (.int .i64 2))), (1, (.c (.int .i64 3))), (2, (.c (.int .i64 2))), (3, (.c (.int .i64 4))), (4, (.c (.int .i64 5)))]),
  kA 20 (.call (n_spec_l40Rd_num) [(.t 18), (.t 19)]),
  kB 8 (.mv (.t 20)) [0, 1, 4, 5, 6, 7, 8]]
@[go_sem] def l83_7 (_ : Unit) : KL := [kA 21 (.mv (.t 6)),
  kA 22 (.mv (.t 8)),
  kA 23 (.bin .mul (.t 21) (.t 22)),
  kA 24 (.mv (.t 1)),
  kB 25 (.bin .leq (.t 23) (.t 24)) [0, 1, 4, 5, 6, 7, 8, 25]]
@[go_sem] def l83_8 (_ : Unit) : KL := [kA 26 (.mv (.t 0)),
  kA 27 (.bslc 1 5 [(.int .i64 0)] [(0, (cI 0)), (1, (cI 0)), (2, (cI 0)), (3, (.c (.int .i64 (-1)))), (4, (.c (.int .i64 2)))]),
  kA 28 (.call (n_spec_l40Rd_num) [(.t 26), (.t 27)]),
  kB 9 (.mv (.t 28)) [0, 1, 4, 5, 6, 7, 8, 9]]
@[go_sem] def l83_9 : Nat → GOp
  | 0 => ⟨(some 29), .faddr (.t 5) 0, none⟩
  | 1 => ⟨(some 30), .load (.t 29) 1 false, none⟩
  | 2 => ⟨(some 31), .mv (.t 9), none⟩
  | 3 => ⟨(some 32), .mv (.t 9), none⟩
  | 4 => ⟨(some 33), .mv (.t 8), none⟩
  | 5 => ⟨(some 34), .bin .add (.t 32) (.t 33), none⟩
  | 6 => ⟨(some 35), .bin .sub (.t 34) (cI 1), none⟩
  | 7 => ⟨(some 36), .mv (.t 9), none⟩
  | 8 => ⟨(some 37), .mv (.t 0), none⟩
  | 9 => ⟨(some 38), .mv (.t 8), none⟩
  | 10 => ⟨(some 39), .call (n_spec_l40Rd_pick) [(.t 37), (.t 38)], none⟩
  | 11 => ⟨(some 40), .bin .add (.t 36) (.t 39), none⟩
  | 12 => ⟨(some 41), .bld [(.int .i64 0), (.int .i64 0), (.int .i64 0)] [(0, 1, (.t 31)), (1, 1, (.t 35)), (2, 1, (.t 40))], none⟩
  | 13 => ⟨(some 42), .bslc 3 1 [(.int .i64 0), (.int .i64 0), (.int .i64 0)] [(0, (.t 41))], none⟩
  | 14 => ⟨(some 43), .app 3 24 (.t 30) (.t 42), none⟩
  | 15 => ⟨(some 44), .faddr (.t 5) 0, none⟩
  | 16 => ⟨none, .store (.t 44) 1 (.t 43), none⟩
  | _ => ⟨none, .mkmap, none⟩
@[go_sem] def l83_10 (_ : Unit) : KL := [kA 45 (.mv (.t 6)),
  kA 46 (.mv (.t 8)),
  kA 47 (.bin .mul (.t 45) (.t 46)),
  kB 6 (.mv (.t 47)) [0, 1, 4, 5, 6, 7]]
@[go_sem] def s83_11 (_ : Unit) : IR := (sQ [(kT l83_8), (.kd (oF l83_9 17) [(0, []), (1, []), (2, []), (3, []), (4, []), (5, []), (6, []), (7, []), (8, []), (9, []), (10, [1]), (11, []), (12, []), (13, []), (14, []), (15, []), (16, [])] [0, 1, 4, 5, 6, 7, 8]), (kT l83_10)])
@[go_sem] def s83_12 (_ : Unit) : IR := (sQ [(kT l83_6), (kT l83_7), (.cond (.t 25) (tH s83_11) .skip)])
@[go_sem] def s83_13 (_ : Unit) : IR := (.block 1 (tH s83_12))
@[go_sem] def l83_14 (_ : Unit) : KL := [kA 16 (.mv (.t 7)),
  kA 17 (.bin .sub (.t 16) (cI 1)),
  kB 7 (.mv (.t 17)) [0, 1, 4, 5, 6, 7]]
@[go_sem] def s83_15 (_ : Unit) : IR := (sQ [(tH s83_5), (tH s83_13), (kT l83_14)])
@[go_sem] def s83_16 (_ : Unit) : IR := (.loop (tH s83_15))
@[go_sem] def s83_17 (_ : Unit) : IR := (.block 0 (tH s83_16))
@[go_sem] def s83_18 (_ : Unit) : IR := (sQ [(kT l83_3), (tH s83_17)])
@[go_sem] def l83_19 (_ : Unit) : KL := [kA 48 (.faddr (.t 5) 0),
  kA 49 (.load (.t 48) 1 false),
  kA 50 (.len (.t 49)),
  kB 51 (.bin .eql (.t 50) (cI 0)) [0, 4, 5, 51]]
@[go_sem] def l83_20 (_ : Unit) : KL := [kA 52 (.faddr (.t 5) 0),
  kA 53 (.load (.t 52) 1 false),
  kA 54 (.bld [(.int .i64 0), (.int .i64 0), (.int .i64 0)] [(1, 1, (cI 1))]),
  kA 55 (.bslc 3 1 [(.int .i64 0), (.int .i64 0), (.int .i64 0)] [(0, (.t 54))]),
  kB 56 (.app 3 24 (.t 53) (.t 55)) [0, 4, 5, 56],
  kA 57 (.faddr (.t 5) 0),
  (⟨none, .store (.t 57) 1 (.t 56), none⟩, (some [0, 4, 5]))]
@[go_sem] def s83_21 (_ : Unit) : IR := (sQ [(kT l83_19), (.cond (.t 51) (kT l83_20) .skip)])
@[go_sem] def l83_22 : Nat → GOp
  | 0 => ⟨(some 58), .mv (.t 0), none⟩
  | 1 => ⟨(some 59), .faddr (.t 5) 0, none⟩
  | 2 => ⟨(some 60), .load (.t 59) 1 false, none⟩
  | 3 => ⟨(some 61), .mv (.t 0), none⟩
  | 4 => ⟨(some 62), .bslc 1 7 [(.int .i64 0)] [(0, (cI 1)), (1, (.c (.int .i64 2))), (2, (.c (.int .i64 3))), (3, (.c (.int .i64 4))), (4, (.c (.int .i64 2))), (5, (.c (.int .i64 3))), (6, (cI 0))], none⟩
  | 5 => ⟨(some 63), .call (n_spec_l40Rd_num) [(.t 61), (.t 62)], none⟩
  | 6 => ⟨(some 64), .call (n_spec_l2Rules) [(.t 58), (.t 60), (.t 63)], none⟩
  | 7 => ⟨(some 65), .faddr (.t 5) 1, none⟩
  | 8 => ⟨none, .store (.t 65) 1 (.t 64), none⟩
  | _ => ⟨none, .mkmap, none⟩
@[go_sem] def l83_23 (_ : Unit) : KL := [kA 66 (.load (.t 5) 2 true),
  (⟨none, .store (.t 4) 2 (.t 66), none⟩, (some [4]))]
@[go_sem] def s83_24 (_ : Unit) : IR := (sQ [(kT l83_0), (kT l83_1), (kT l83_2), (tH s83_18), (tH s83_21), (.kd (oF l83_22 9) [(0, []), (1, []), (2, []), (3, []), (4, []), (5, [2]), (6, []), (7, []), (8, [])] [4, 5]), (kT l83_23), .ret])
theorem c83 : compFn Tryz.prog [(0, [], [oS [0, 1, 4]]), (1, [], [oN, oN, oS [0, 1, 4, 5]]), (2, [], [oS [0, 1, 4, 5, 6]]), (3, [], [oN, oN, oN, oS [0, 1, 4, 5, 6, 7]]), (4, [], [oN, oS [0, 1, 4, 5, 6, 7, 15]]), (6, [], [oN, oN, oN, oS [0, 1, 4, 5, 6, 7, 8]]), (7, [], [oN, oN, oN, oN, oS [0, 1, 4, 5, 6, 7, 8, 25]]), (8, [], [oN, oN, oN, oS [0, 1, 4, 5, 6, 7, 8, 9]]), (9, [(0, []), (1, []), (2, []), (3, []), (4, []), (5, []), (6, []), (7, []), (8, []), (9, []), (10, [1]), (11, []), (12, []), (13, []), (14, []), (15, []), (16, [])], [oS [0, 1, 4, 5, 6, 7, 8]]), (10, [], [oN, oN, oN, oS [0, 1, 4, 5, 6, 7]]), (5, [], [oN, oN, oS [0, 1, 4, 5, 6, 7]]), (11, [], [oN, oN, oN, oS [0, 4, 5, 51]]), (12, [], [oN, oN, oN, oN, oS [0, 4, 5, 56], oN, oS [0, 4, 5]]), (13, [(0, []), (1, []), (2, []), (3, []), (4, []), (5, [2]), (6, []), (7, []), (8, [])], [oS [4, 5]]), (14, [], [oN, oS [4]])] Tryz.f83 = some ⟨2, 67, [.c 4 2 true], (tH s83_24)⟩ := by kernel_rfl
theorem v_spec_l2System (hl : vs.length = 2) (h : wpV Tryz.prog (tH s83_24) (postV [.c 4 2 true] RV) (envV vs) M) : VCall Tryz.prog n_spec_l2System vs M RV :=
  vcall_of_wp (fun _ _ _ hl h => acall_of_wp mixed Tryz.func83 c83 (by kernel_rfl) hl h) hl h
@[go_sem] def l35_0 (_ : Unit) : KL := [kB 4 (.alloc [(.sl none 0 0 true 0), (.sl none 0 0 true 0)]) [0, 1, 4]]
@[go_sem] def l35_1 (_ : Unit) : KL := [kA 7 (.mv (.t 0)),
  kA 8 (.mv (.t 1)),
  kA 9 (.call (n_spec_l2System) [(.t 7), (.t 8)]),
  kA 5 (.alloc [(.sl none 0 0 true 0), (.sl none 0 0 true 0)]),
  (⟨none, .store (.t 5) 2 (.t 9), none⟩, (some [0, 4, 5]))]
@[go_sem] def l35_2 (_ : Unit) : KL := [kA 10 (.mv (.t 0)),
  kA 11 (.call (n_spec_l40Rd_pick) [(.t 10), (.c (.int .i64 14))]),
  kB 12 (.bin .eql (.t 11) (cI 0)) [0, 4, 5, 12]]
@[go_sem] def l35_3 (_ : Unit) : KL := [kA 13 (.mv (.t 0)),
  kA 14 (.call (n_spec_l40Rd_pick) [(.t 13), (.c (.int .i64 6))]),
  kB 6 (.mv (.t 14)) [0, 4, 5, 6]]
@[go_sem] def l35_4 (_ : Unit) : KL := [kA 15 (.mv (.t 6)),
  kB 16 (.bin .eql (.t 15) (cI 0)) [0, 4, 5, 6, 16]]
@[go_sem] def l35_5 : Nat → GOp
  | 0 => ⟨(some 17), .faddr (.t 5) 0, none⟩
  | 1 => ⟨(some 18), .load (.t 17) 1 false, none⟩
  | 2 => ⟨(some 19), .faddr (.t 5) 0, none⟩
  | 3 => ⟨(some 20), .load (.t 19) 1 false, none⟩
  | 4 => ⟨(some 21), .iaddr (.t 20) (cI 0) 3, none⟩
  | 5 => ⟨(some 22), .faddr (.t 21) 1, none⟩
  | 6 => ⟨(some 23), .load (.t 22) 1 false, none⟩
  | 7 => ⟨(some 24), .bin .add (.t 23) (cI 1), none⟩
  | 8 => ⟨(some 25), .iaddr (.t 18) (cI 0) 3, none⟩
  | 9 => ⟨(some 26), .faddr (.t 25) 2, none⟩
  | 10 => ⟨none, .store (.t 26) 1 (.t 24), none⟩
  | _ => ⟨none, .mkmap, none⟩
@[go_sem] def l35_6 (_ : Unit) : KL := [kA 27 (.mv (.t 6)),
  kB 28 (.bin .eql (.t 27) (cI 1)) [0, 4, 5, 6, 28]]
@[go_sem] def l35_7 : Nat → GOp
  | 0 => ⟨(some 29), .faddr (.t 5) 0, none⟩
  | 1 => ⟨(some 30), .load (.t 29) 1 false, none⟩
  | 2 => ⟨(some 31), .faddr (.t 5) 0, none⟩
  | 3 => ⟨(some 32), .load (.t 31) 1 false, none⟩
  | 4 => ⟨(some 33), .iaddr (.t 32) (cI 0) 3, none⟩
  | 5 => ⟨(some 34), .faddr (.t 33) 0, none⟩
  | 6 => ⟨(some 35), .load (.t 34) 1 false, none⟩
  | 7 => ⟨(some 36), .mv (.t 0), none⟩
  | 8 => ⟨(some 37), .bslc 1 3 [(.int .i64 0)] [(0, (.c (.int .i64 (-1)))), (1, (.c (.int .i64 20))), (2, (.c (.int .i64 19)))], none⟩
  | 9 => ⟨(some 38), .call (n_spec_l40Rd_num) [(.t 36), (.t 37)], none⟩
  | 10 => ⟨(some 39), .bin .add (.t 35) (.t 38), none⟩
  | 11 => ⟨(some 40), .iaddr (.t 30) (cI 0) 3, none⟩
  | 12 => ⟨(some 41), .faddr (.t 40) 1, none⟩
  | 13 => ⟨none, .store (.t 41) 1 (.t 39), none⟩
  | _ => ⟨none, .mkmap, none⟩
@[go_sem] def l35_8 (_ : Unit) : KL := [kA 42 (.mv (.t 6)),
  kA 43 (.bin .eql (.t 42) (.c (.int .i64 2))),
  kA 44 (.mv (.t 43)),
  (⟨(some 45), .faddr (.t 5) 1, (some (44, true))⟩, none),
  (⟨(some 46), .load (.t 45) 1 false, (some (44, true))⟩, (some [4, 5, 6, 44, 46])),
  (⟨(some 47), .len (.t 46), (some (44, true))⟩, none),
  (⟨(some 48), .bin .gtr (.t 47) (cI 0), (some (44, true))⟩, none),
  kB 49 (.pick (.t 44) (.t 48) (.c (.bool false))) [4, 5, 6, 49]]
@[go_sem] def l35_9 : Nat → GOp
  | 0 => ⟨(some 50), .faddr (.t 5) 1, none⟩
  | 1 => ⟨(some 51), .load (.t 50) 1 false, none⟩
  | 2 => ⟨(some 52), .call (n_spec_l2Const) [(cI 1)], none⟩
  | 3 => ⟨(some 53), .bslc 4 1 [(.int .i64 0), (.int .i64 0), (.int .i64 0), (.int .i64 0)] [(0, (.t 52))], none⟩
  | 4 => ⟨(some 54), .iaddr (.t 51) (cI 0) 3, none⟩
  | 5 => ⟨(some 55), .faddr (.t 54) 0, none⟩
  | 6 => ⟨none, .store (.t 55) 1 (.t 53), none⟩
  | _ => ⟨none, .mkmap, none⟩
@[go_sem] def l35_10 (_ : Unit) : KL := [kA 56 (.mv (.t 6)),
  kA 57 (.bin .eql (.t 56) (.c (.int .i64 3))),
  kA 58 (.mv (.t 57)),
  (⟨(some 59), .faddr (.t 5) 1, (some (58, true))⟩, none),
  (⟨(some 60), .load (.t 59) 1 false, (some (58, true))⟩, (some [4, 5, 6, 58, 60])),
  (⟨(some 61), .len (.t 60), (some (58, true))⟩, none),
  (⟨(some 62), .bin .gtr (.t 61) (cI 0), (some (58, true))⟩, none),
  kB 63 (.pick (.t 58) (.t 62) (.c (.bool false))) [4, 5, 6, 63]]
@[go_sem] def l35_11 : Nat → GOp
  | 0 => ⟨(some 64), .faddr (.t 5) 1, none⟩
  | 1 => ⟨(some 65), .load (.t 64) 1 false, none⟩
  | 2 => ⟨(some 66), .faddr (.t 5) 1, none⟩
  | 3 => ⟨(some 67), .load (.t 66) 1 false, none⟩
  | 4 => ⟨(some 68), .iaddr (.t 67) (cI 0) 3, none⟩
  | 5 => ⟨(some 69), .faddr (.t 68) 1, none⟩
  | 6 => ⟨(some 70), .load (.t 69) 1 false, none⟩
  | 7 => ⟨(some 71), .faddr (.t 5) 0, none⟩
  | 8 => ⟨(some 72), .load (.t 71) 1 false, none⟩
  | 9 => ⟨(some 73), .len (.t 72), none⟩
  | 10 => ⟨(some 74), .bslc 1 1 [(.int .i64 0)] [(0, (.t 73))], none⟩
  | 11 => ⟨(some 75), .app 1 8 (.t 70) (.t 74), none⟩
  | 12 => ⟨(some 76), .iaddr (.t 65) (cI 0) 3, none⟩
  | 13 => ⟨(some 77), .faddr (.t 76) 1, none⟩
  | 14 => ⟨none, .store (.t 77) 1 (.t 75), none⟩
  | _ => ⟨none, .mkmap, none⟩
@[go_sem] def l35_12 (_ : Unit) : KL := [kA 78 (.mv (.t 6)),
  kB 79 (.bin .eql (.t 78) (.c (.int .i64 4))) [4, 5, 79]]
@[go_sem] def l35_13 (_ : Unit) : KL := [kA 80 (.faddr (.t 5) 0),
  (⟨none, .store (.t 80) 1 (.c (.sl none 0 0 true 0)), none⟩, (some [4, 5]))]
@[go_sem] def l35_14 (_ : Unit) : KL := [kA 81 (.faddr (.t 5) 1),
  kA 82 (.load (.t 81) 1 false),
  kA 83 (.len (.t 82)),
  kB 84 (.bin .gtr (.t 83) (cI 0)) [4, 5, 84]]
@[go_sem] def l35_15 : Nat → GOp
  | 0 => ⟨(some 85), .faddr (.t 5) 1, none⟩
  | 1 => ⟨(some 86), .load (.t 85) 1 false, none⟩
  | 2 => ⟨(some 87), .faddr (.t 5) 1, none⟩
  | 3 => ⟨(some 88), .load (.t 87) 1 false, none⟩
  | 4 => ⟨(some 89), .iaddr (.t 88) (cI 0) 3, none⟩
  | 5 => ⟨(some 90), .faddr (.t 89) 2, none⟩
  | 6 => ⟨(some 91), .load (.t 90) 1 false, none⟩
  | 7 => ⟨(some 92), .call (n_spec_l2Const) [(cI 0)], none⟩
  | 8 => ⟨(some 93), .bslc 4 1 [(.int .i64 0), (.int .i64 0), (.int .i64 0), (.int .i64 0)] [(0, (.t 92))], none⟩
  | 9 => ⟨(some 94), .bslo 1 1 [(.sl none 0 0 true 0)] [(0, (.t 93))], none⟩
  | 10 => ⟨(some 95), .app 1 24 (.t 91) (.t 94), none⟩
  | 11 => ⟨(some 96), .iaddr (.t 86) (cI 0) 3, none⟩
  | 12 => ⟨(some 97), .faddr (.t 96) 2, none⟩
  | 13 => ⟨none, .store (.t 97) 1 (.t 95), none⟩
  | _ => ⟨none, .mkmap, none⟩
@[go_sem] def s35_16 (_ : Unit) : IR := (sQ [(kT l35_14), (.cond (.t 84) (.kd (oF l35_15 14) [(0, []), (1, []), (2, []), (3, []), (4, []), (5, []), (6, []), (7, [1, 3, 6]), (8, []), (9, [1, 3, 6]), (10, [1]), (11, []), (12, []), (13, [])] [4, 5]) .skip)])
@[go_sem] def s35_17 (_ : Unit) : IR := (sQ [(kT l35_12), (.cond (.t 79) (kT l35_13) (tH s35_16))])
@[go_sem] def s35_18 (_ : Unit) : IR := (sQ [(kT l35_10), (.cond (.t 63) (.kd (oF l35_11 15) [(0, []), (1, []), (2, []), (3, []), (4, []), (5, []), (6, []), (7, []), (8, []), (9, []), (10, []), (11, [1]), (12, []), (13, []), (14, [])] [4, 5]) (tH s35_17))])
@[go_sem] def s35_19 (_ : Unit) : IR := (sQ [(kT l35_8), (.cond (.t 49) (.kd (oF l35_9 7) [(0, []), (1, []), (2, [1]), (3, []), (4, []), (5, []), (6, [])] [4, 5]) (tH s35_18))])
@[go_sem] def s35_20 (_ : Unit) : IR := (sQ [(kT l35_6), (.cond (.t 28) (.kd (oF l35_7 14) [(0, []), (1, []), (2, []), (3, []), (4, []), (5, []), (6, []), (7, []), (8, []), (9, [1, 3, 6]), (10, []), (11, []), (12, []), (13, [])] [4, 5]) (tH s35_19))])
@[go_sem] def s35_21 (_ : Unit) : IR := (sQ [(kT l35_3), (kT l35_4), (.cond (.t 16) (.kd (oF l35_5 11) [(0, []), (1, []), (2, []), (3, []), (4, []), (5, []), (6, []), (7, []), (8, []), (9, []), (10, [])] [4, 5]) (tH s35_20))])
@[go_sem] def s35_22 (_ : Unit) : IR := (sQ [(kT l35_2), (.cond (.t 12) (tH s35_21) .skip)])
@[go_sem] def l35_23 (_ : Unit) : KL := [kA 98 (.load (.t 5) 2 true),
  (⟨none, .store (.t 4) 2 (.t 98), none⟩, (some [4]))]
@[go_sem] def s35_24 (_ : Unit) : IR := (sQ [(kT l35_0), (kT l35_1), (tH s35_22), (kT l35_23), .ret])
theorem c35 : compFn Tryz.prog [(0, [], [oS [0, 1, 4]]), (1, [], [oN, oN, oN, oN, oS [0, 4, 5]]), (2, [], [oN, oN, oS [0, 4, 5, 12]]), (3, [], [oN, oN, oS [0, 4, 5, 6]]), (4, [], [oN, oS [0, 4, 5, 6, 16]]), (5, [(0, []), (1, []), (2, []), (3, []), (4, []), (5, []), (6, []), (7, []), (8, []), (9, []), (10, [])], [oS [4, 5]]), (6, [], [oN, oS [0, 4, 5, 6, 28]]), (7, [(0, []), (1, []), (2, []), (3, []), (4, []), (5, []), (6, []), (7, []), (8, []), (9, [1, 3, 6]), (10, []), (11, []), (12, []), (13, [])], [oS [4, 5]]), (8, [], [oN, oN, oN, oN, oS [4, 5, 6, 44, 46], oN, oN, oS [4, 5, 6, 49]]), (9, [(0, []), (1, []), (2, [1]), (3, []), (4, []), (5, []), (6, [])], [oS [4, 5]]), (10, [], [oN, oN, oN, oN, oS [4, 5, 6, 58, 60], oN, oN, oS [4, 5, 6, 63]]), (11, [(0, []), (1, []), (2, []), (3, []), (4, []), (5, []), (6, []), (7, []), (8, []), (9, []), (10, []), (11, [1]), (12, []), (13, []), (14, [])], [oS [4, 5]]), (12, [], [oN, oS [4, 5, 79]]), (13, [], [oN, oS [4, 5]]), (14, [], [oN, oN, oN, oS [4, 5, 84]]), (15, [(0, []), (1, []), (2, []), (3, []), (4, []), (5, []), (6, []), (7, [1, 3, 6]), (8, []), (9, [1, 3, 6]), (10, [1]), (11, []), (12, []), (13, [])], [oS [4, 5]]), (16, [], [oN, oS [4]])] Tryz.f35 = some ⟨2, 99, [.c 4 2 true], (tH s35_24)⟩ := by kernel_rfl
theorem v_spec_l2Any (hl : vs.length = 2) (h : wpV Tryz.prog (tH s35_24) (postV [.c 4 2 true] RV) (envV vs) M) : VCall Tryz.prog n_spec_l2Any vs M RV :=
  vcall_of_wp (fun _ _ _ hl h => acall_of_wp mixed Tryz.func35 c35 (by kernel_rfl) hl h) hl h
@[go_sem] def l68_0 (_ : Unit) : KL := [kA 1 (.box (.t 0)),
  kB 2 (.mv (.c (.bool false))) [1]]
@[go_sem] def l68_1 (_ : Unit) : KL := [kA 3 (.faddr (.t 1) 0),
  kA 4 (.load (.t 3) 1 false),
  kA 5 (.call (n_spec_l1In) [(.t 4), (.c (.int .i64 (-9999))), (.c (.int .i64 9999))]),
  kA 6 (.mv (.t 5)),
  (⟨(some 7), .faddr (.t 1) 1, (some (6, true))⟩, (some [1, 6, 7])),
  (⟨(some 8), .load (.t 7) 1 false, (some (6, true))⟩, none),
  (⟨(some 9), .faddr (.t 1) 0, (some (6, true))⟩, none),
  (⟨(some 10), .load (.t 9) 1 false, (some (6, true))⟩, none),
  (⟨(some 11), .call (n_spec_l1In) [(.t 8), (.t 10), (.c (.int .i64 9999))], (some (6, true))⟩, none),
  kB 12 (.pick (.t 6) (.t 11) (.c (.bool false))) [1, 12],
  kA 13 (.mv (.t 12)),
  (⟨(some 14), .faddr (.t 1) 1, (some (13, true))⟩, none),
  (⟨(some 15), .load (.t 14) 1 false, (some (13, true))⟩, none),
  (⟨(some 16), .faddr (.t 1) 0, (some (13, true))⟩, none),
  (⟨(some 17), .load (.t 16) 1 false, (some (13, true))⟩, (some [1, 13, 15, 17])),
  (⟨(some 18), .bin .sub (.t 15) (.t 17), (some (13, true))⟩, none),
  (⟨(some 19), .bin .lss (.t 18) (.c (.int .i64 20)), (some (13, true))⟩, none),
  kA 20 (.pick (.t 13) (.t 19) (.c (.bool false))),
  kA 21 (.mv (.t 20)),
  (⟨(some 22), .faddr (.t 1) 2, (some (21, true))⟩, (some [1, 21, 22])),
  (⟨(some 23), .load (.t 22) 1 false, (some (21, true))⟩, none),
  (⟨(some 24), .faddr (.t 1) 0, (some (21, true))⟩, none),
  (⟨(some 25), .load (.t 24) 1 false, (some (21, true))⟩, none),
  (⟨(some 26), .faddr (.t 1) 1, (some (21, true))⟩, none),
  (⟨(some 27), .load (.t 26) 1 false, (some (21, true))⟩, (some [21, 23, 25, 27])),
  (⟨(some 28), .call (n_spec_l1In) [(.t 23), (.t 25), (.t 27)], (some (21, true))⟩, none),
  kA 29 (.pick (.t 21) (.t 28) (.c (.bool false))),
  kB 2 (.mv (.t 29)) [2]]
@[go_sem] def s68_2 (_ : Unit) : IR := (sQ [(kT l68_0), (kT l68_1), .ret])
theorem c68 : compFn Tryz.prog [(0, [], [oN, oS [1]]), (1, [], [oN, oN, oN, oN, oS [1, 6, 7], oN, oN, oN, oN, oS [1, 12], oN, oN, oN, oN, oS [1, 13, 15, 17], oN, oN, oN, oN, oS [1, 21, 22], oN, oN, oN, oN, oS [21, 23, 25, 27], oN, oN, oS [2]])] Tryz.f68 = some ⟨1, 30, [.t 2], (tH s68_2)⟩ := by kernel_rfl
theorem v_spec_l2Var (hl : vs.length = 1) (h : wpV Tryz.prog (tH s68_2) (postV [.t 2] RV) (envV vs) M) : VCall Tryz.prog n_spec_l2Var vs M RV :=
  vcall_of_wp (fun _ _ _ hl h => acall_of_wp mixed Tryz.func68 c68 (by kernel_rfl) hl h) hl h
@[go_sem] def l102_0 (_ : Unit) : KL := [kB 6 (.mv (.c (.bool false))) [0, 1, 2]]
@[go_sem] def l102_1 (_ : Unit) : KL := [kA 8 (.mv (.t 0)),
  kA 9 (.mv (.t 1)),
  kA 10 (.call (n_spec_KindsOf) [(.t 8), (.t 9)]),
  kB 7 (.mv (.t 10)) [2, 7]]
@[go_sem] def l102_2 (_ : Unit) : KL := [kA 11 (.mv (.t 7)),
  kA 12 (.len (.t 11)),
  kA 13 (.bin .gtr (.t 12) (cI 0)),
  kA 14 (.mv (.t 13)),
  (⟨(some 15), .mv (.t 7), (some (14, true))⟩, (some [2, 7, 14, 15])),
  (⟨(some 16), .mv (.t 7), (some (14, true))⟩, none),
  (⟨(some 17), .len (.t 16), (some (14, true))⟩, none),
  (⟨(some 18), .bin .sub (.t 17) (cI 1), (some (14, true))⟩, none),
  (⟨(some 19), .iaddr (.t 15) (.t 18) 1, (some (14, true))⟩, none),
  (⟨(some 20), .load (.t 19) 1 false, (some (14, true))⟩, (some [2, 14, 20])),
  (⟨(some 21), .mv (.t 2), (some (14, true))⟩, none),
  (⟨(some 22), .bin .eql (.t 20) (.t 21), (some (14, true))⟩, none),
  kA 23 (.pick (.t 14) (.t 22) (.c (.bool false))),
  kB 6 (.mv (.t 23)) [6]]
@[go_sem] def s102_3 (_ : Unit) : IR := (sQ [(kT l102_0), (kT l102_1), (kT l102_2), .ret])
theorem c102 : compFn Tryz.prog [(0, [], [oS [0, 1, 2]]), (1, [], [oN, oN, oN, oS [2, 7]]), (2, [], [oN, oN, oN, oN, oS [2, 7, 14, 15], oN, oN, oN, oN, oS [2, 14, 20], oN, oN, oN, oS [6]])] Tryz.f102 = some ⟨3, 24, [.t 6], (tH s102_3)⟩ := by kernel_rfl
theorem v_spec_l2Is (hl : vs.length = 3) (h : wpV Tryz.prog (tH s102_3) (postV [.t 6] RV) (envV vs) M) : VCall Tryz.prog n_spec_l2Is vs M RV :=
  vcall_of_wp (fun _ _ _ hl h => acall_of_wp mixed Tryz.func102 c102 (by kernel_rfl) hl h) hl h
@[go_sem] def l69_0 (_ : Unit) : KL := [kA 2 (.box (.t 0)),
  kB 4 (.mv (.c (.bool false))) [1, 2]]
@[go_sem] def l69_1 (_ : Unit) : KL := [kA 6 (.faddr (.t 2) 0),
  kA 7 (.load (.t 6) 1 false),
  kA 8 (.mv (.t 1)),
  kA 9 (.call (n_spec_l2Is) [(.t 7), (.t 8), (.c (.int .i64 2))]),
  kB 10 (.un .not (.t 9)) [1, 2, 10],
  kA 11 (.mv (.t 10)),
  (⟨(some 12), .faddr (.t 2) 1, (some (11, false))⟩, none),
  (⟨(some 13), .load (.t 12) 1 false, (some (11, false))⟩, none),
  (⟨(some 14), .len (.t 13), (some (11, false))⟩, none),
  (⟨(some 15), .faddr (.t 2) 2, (some (11, false))⟩, (some [1, 2, 11, 14, 15])),
  (⟨(some 16), .load (.t 15) 1 false, (some (11, false))⟩, none),
  (⟨(some 17), .len (.t 16), (some (11, false))⟩, none),
  (⟨(some 18), .bin .neq (.t 14) (.t 17), (some (11, false))⟩, none),
  kA 19 (.pick (.t 11) (.c (.bool true)) (.t 18)),
  kB 20 (.mv (.t 19)) [1, 2, 20],
  (⟨(some 21), .faddr (.t 2) 1, (some (20, false))⟩, none),
  (⟨(some 22), .load (.t 21) 1 false, (some (20, false))⟩, none),
  (⟨(some 23), .len (.t 22), (some (20, false))⟩, none),
  (⟨(some 24), .mv (.t 1), (some (20, false))⟩, none),
  (⟨(some 25), .bin .gtr (.t 23) (.t 24), (some (20, false))⟩, (some [1, 2, 20, 25])),
  kB 26 (.pick (.t 20) (.c (.bool true)) (.t 25)) [1, 2, 26]]
@[go_sem] def l69_2 (_ : Unit) : KL := [kB 4 (.mv (.c (.bool false))) [4]]
@[go_sem] def s69_3 (_ : Unit) : IR := (sQ [(kT l69_2), .ret])
@[go_sem] def s69_4 (_ : Unit) : IR := (sQ [(kT l69_1), (.cond (.t 26) (tH s69_3) .skip)])
@[go_sem] def l69_5 (_ : Unit) : KL := [kB 5 (.mv (cI 0)) [1, 2, 5]]
@[go_sem] def l69_6 (_ : Unit) : KL := [kA 27 (.mv (.t 5)),
  kA 28 (.faddr (.t 2) 1),
  kA 29 (.load (.t 28) 1 false),
  kA 30 (.len (.t 29)),
  kB 31 (.bin .lss (.t 27) (.t 30)) [1, 2, 5, 31]]
@[go_sem] def s69_7 (_ : Unit) : IR := (sQ [(kT l69_6), (.cond (.t 31) .skip (.exit 0))])
@[go_sem] def l69_8 : Nat → GOp
  | 0 => ⟨(some 34), .faddr (.t 2) 1, none⟩
  | 1 => ⟨(some 35), .load (.t 34) 1 false, none⟩
  | 2 => ⟨(some 36), .mv (.t 5), none⟩
  | 3 => ⟨(some 37), .iaddr (.t 35) (.t 36) 1, none⟩
  | 4 => ⟨(some 38), .load (.t 37) 1 false, none⟩
  | 5 => ⟨(some 39), .mv (.t 1), none⟩
  | 6 => ⟨(some 40), .bin .sub (.t 39) (cI 1), none⟩
  | 7 => ⟨(some 41), .call (n_spec_l1In) [(.t 38), (cI 0), (.t 40)], none⟩
  | 8 => ⟨(some 42), .un .not (.t 41), none⟩
  | 9 => ⟨(some 43), .mv (.t 42), none⟩
  | 10 => ⟨(some 44), .mv (.t 5), (some (43, false))⟩
  | 11 => ⟨(some 45), .bin .gtr (.t 44) (cI 0), (some (43, false))⟩
  | 12 => ⟨(some 46), .mv (.t 45), (some (43, false))⟩
  | 13 => ⟨(some 47), .faddr (.t 2) 1, (some (46, true))⟩
  | 14 => ⟨(some 48), .load (.t 47) 1 false, (some (46, true))⟩
  | 15 => ⟨(some 49), .mv (.t 5), (some (46, true))⟩
  | 16 => ⟨(some 50), .iaddr (.t 48) (.t 49) 1, (some (46, true))⟩
  | 17 => ⟨(some 51), .load (.t 50) 1 false, (some (46, true))⟩
  | 18 => ⟨(some 52), .faddr (.t 2) 1, (some (46, true))⟩
  | 19 => ⟨(some 53), .load (.t 52) 1 false, (some (46, true))⟩
  | 20 => ⟨(some 54), .mv (.t 5), (some (46, true))⟩
  | 21 => ⟨(some 55), .bin .sub (.t 54) (cI 1), (some (46, true))⟩
  | 22 => ⟨(some 56), .iaddr (.t 53) (.t 55) 1, (some (46, true))⟩
  | 23 => ⟨(some 57), .load (.t 56) 1 false, (some (46, true))⟩
  | 24 => ⟨(some 58), .bin .leq (.t 51) (.t 57), (some (46, true))⟩
  | 25 => ⟨(some 59), .pick (.t 46) (.t 58) (.c (.bool false)), (some (43, false))⟩
  | 26 => ⟨(some 60), .pick (.t 43) (.c (.bool true)) (.t 59), none⟩
  | 27 => ⟨(some 61), .mv (.t 60), none⟩
  | 28 => ⟨(some 62), .faddr (.t 2) 2, (some (61, false))⟩
  | 29 => ⟨(some 63), .load (.t 62) 1 false, (some (61, false))⟩
  | 30 => ⟨(some 64), .mv (.t 5), (some (61, false))⟩
  | 31 => ⟨(some 65), .iaddr (.t 63) (.t 64) 1, (some (61, false))⟩
  | 32 => ⟨(some 66), .load (.t 65) 1 false, (some (61, false))⟩
  | 33 => ⟨(some 67), .mv (.t 1), (some (61, false))⟩
  | 34 => ⟨(some 68), .call (n_spec_l2Is) [(.t 66), (.t 67), (cI 1)], (some (61, false))⟩
  | 35 => ⟨(some 69), .un .not (.t 68), (some (61, false))⟩
  | 36 => ⟨(some 70), .pick (.t 61) (.c (.bool true)) (.t 69), none⟩
  | _ => ⟨none, .mkmap, none⟩
@[go_sem] def l69_9 (_ : Unit) : KL := [kB 4 (.mv (.c (.bool false))) [4]]
@[go_sem] def s69_10 (_ : Unit) : IR := (sQ [(kT l69_9), .ret])
@[go_sem] def s69_11 (_ : Unit) : IR := (sQ [(.kd (oF l69_8 37) [(0, []), (1, []), (2, []), (3, []), (4, []), (5, []), (6, []), (7, []), (8, []), (9, []), (10, []), (11, []), (12, []), (13, []), (14, []), (15, []), (16, []), (17, []), (18, []), (19, []), (20, []), (21, []), (22, []), (23, []), (24, []), (25, []), (26, []), (27, []), (28, []), (29, []), (30, []), (31, []), (32, []), (33, []), (34, []), (35, []), (36, [])] [1, 2, 5, 70]), (.cond (.t 70) (tH s69_10) .skip)])
@[go_sem] def s69_12 (_ : Unit) : IR := (.block 1 (tH s69_11))
@[go_sem] def l69_13 (_ : Unit) : KL := [kA 32 (.mv (.t 5)),
  kA 33 (.bin .add (.t 32) (cI 1)),
  kB 5 (.mv (.t 33)) [1, 2, 5]]
@[go_sem] def s69_14 (_ : Unit) : IR := (sQ [(tH s69_7), (tH s69_12), (kT l69_13)])
@[go_sem] def s69_15 (_ : Unit) : IR := (.loop (tH s69_14))
@[go_sem] def s69_16 (_ : Unit) : IR := (.block 0 (tH s69_15))
@[go_sem] def s69_17 (_ : Unit) : IR := (sQ [(kT l69_5), (tH s69_16)])
@[go_sem] def l69_18 (_ : Unit) : KL := [kB 4 (.mv (.c (.bool true))) [4]]
@[go_sem] def s69_19 (_ : Unit) : IR := (sQ [(kT l69_0), (tH s69_4), (tH s69_17), (kT l69_18), .ret])
theorem c69 : compFn Tryz.prog [(0, [], [oN, oS [1, 2]]), (1, [], [oN, oN, oN, oN, oS [1, 2, 10], oN, oN, oN, oN, oS [1, 2, 11, 14, 15], oN, oN, oN, oN, oS [1, 2, 20], oN, oN, oN, oN, oS [1, 2, 20, 25], oS [1, 2, 26]]), (2, [], [oS [4]]), (3, [], [oS [1, 2, 5]]), (4, [], [oN, oN, oN, oN, oS [1, 2, 5, 31]]), (6, [(0, []), (1, []), (2, []), (3, []), (4, []), (5, []), (6, []), (7, []), (8, []), (9, []), (10, []), (11, []), (12, []), (13, []), (14, []), (15, []), (16, []), (17, []), (18, []), (19, []), (20, []), (21, []), (22, []), (23, []), (24, []), (25, []), (26, []), (27, []), (28, []), (29, []), (30, []), (31, []), (32, []), (33, []), (34, []), (35, []), (36, [])], [oS [1, 2, 5, 70]]), (7, [], [oS [4]]), (5, [], [oN, oN, oS [1, 2, 5]]), (8, [], [oS [4]])] Tryz.f69 = some ⟨2, 71, [.t 4], (tH s69_19)⟩ := by kernel_rfl
theorem v_spec_l2Rule (hl : vs.length = 2) (h : wpV Tryz.prog (tH s69_19) (postV [.t 4] RV) (envV vs) M) : VCall Tryz.prog n_spec_l2Rule vs M RV :=
  vcall_of_wp (fun _ _ _ hl h => acall_of_wp mixed Tryz.func69 c69 (by kernel_rfl) hl h) hl h
@[go_sem] def l27_0 (_ : Unit) : KL := [kA 1 (.box (.t 0)),
  kB 2 (.mv (.c (.bool false))) [1]]
@[go_sem] def l27_1 (_ : Unit) : KL := [kA 6 (.faddr (.t 1) 0),
  kA 7 (.load (.t 6) 1 false),
  kA 8 (.len (.t 7)),
  kA 9 (.call (n_spec_l1In) [(.t 8), (cI 1), (.c (.int .i64 5))]),
  kB 10 (.un .not (.t 9)) [1, 10],
  kA 11 (.mv (.t 10)),
  (⟨(some 12), .faddr (.t 1) 1, (some (11, false))⟩, none),
  (⟨(some 13), .load (.t 12) 1 false, (some (11, false))⟩, none),
  (⟨(some 14), .len (.t 13), (some (11, false))⟩, none),
  (⟨(some 15), .bin .gtr (.t 14) (.c (.int .i64 8)), (some (11, false))⟩, (some [1, 11, 15])),
  kB 16 (.pick (.t 11) (.c (.bool true)) (.t 15)) [1, 16]]
@[go_sem] def l27_2 (_ : Unit) : KL := [kB 2 (.mv (.c (.bool false))) [2]]
@[go_sem] def s27_3 (_ : Unit) : IR := (sQ [(kT l27_2), .ret])
@[go_sem] def s27_4 (_ : Unit) : IR := (sQ [(kT l27_1), (.cond (.t 16) (tH s27_3) .skip)])
@[go_sem] def l27_5 (_ : Unit) : KL := [kB 3 (.mv (cI 1)) [1, 3]]
@[go_sem] def l27_6 (_ : Unit) : KL := [kB 4 (.mv (cI 0)) [1, 3, 4]]
@[go_sem] def l27_7 (_ : Unit) : KL := [kA 17 (.mv (.t 4)),
  kA 18 (.faddr (.t 1) 0),
  kA 19 (.load (.t 18) 1 false),
  kA 20 (.len (.t 19)),
  kB 21 (.bin .lss (.t 17) (.t 20)) [1, 3, 4, 21]]
@[go_sem] def s27_8 (_ : Unit) : IR := (sQ [(kT l27_7), (.cond (.t 21) .skip (.exit 0))])
@[go_sem] def l27_9 (_ : Unit) : KL := [kA 24 (.faddr (.t 1) 0),
  kA 25 (.load (.t 24) 1 false),
  kA 26 (.mv (.t 4)),
  kA 27 (.iaddr (.t 25) (.t 26) 3),
  kB 28 (.load (.t 27) 3 true) [1, 3, 4, 28],
  kA 29 (.call (n_spec_l2Var) [(.t 28)]),
  kB 30 (.un .not (.t 29)) [1, 3, 4, 30]]
@[go_sem] def l27_10 (_ : Unit) : KL := [kB 2 (.mv (.c (.bool false))) [2]]
@[go_sem] def s27_11 (_ : Unit) : IR := (sQ [(kT l27_10), .ret])
@[go_sem] def s27_12 (_ : Unit) : IR := (sQ [(kT l27_9), (.cond (.t 30) (tH s27_11) .skip)])
@[go_sem] def l27_13 : Nat → GOp
  | 0 => ⟨(some 31), .mv (.t 3), none⟩
  | 1 => ⟨(some 32), .faddr (.t 1) 0, none⟩
  | 2 => ⟨(some 33), .load (.t 32) 1 false, none⟩
  | 3 => ⟨(some 34), .mv (.t 4), none⟩
  | 4 => ⟨(some 35), .iaddr (.t 33) (.t 34) 3, none⟩
  | 5 => ⟨(some 36), .faddr (.t 35) 1, none⟩
  | 6 => ⟨(some 37), .load (.t 36) 1 false, none⟩
  | 7 => ⟨(some 38), .faddr (.t 1) 0, none⟩
  | 8 => ⟨(some 39), .load (.t 38) 1 false, none⟩
  | 9 => ⟨(some 40), .mv (.t 4), none⟩
  | 10 => ⟨(some 41), .iaddr (.t 39) (.t 40) 3, none⟩
  | 11 => ⟨(some 42), .faddr (.t 41) 0, none⟩
  | 12 => ⟨(some 43), .load (.t 42) 1 false, none⟩
  | 13 => ⟨(some 44), .bin .sub (.t 37) (.t 43), none⟩
  | 14 => ⟨(some 45), .bin .add (.t 44) (cI 1), none⟩
  | 15 => ⟨(some 46), .bin .mul (.t 31) (.t 45), none⟩
  | 16 => ⟨(some 3), .mv (.t 46), none⟩
  | _ => ⟨none, .mkmap, none⟩
@[go_sem] def s27_14 (_ : Unit) : IR := (sQ [(tH s27_12), (.kd (oF l27_13 17) [(0, []), (1, []), (2, []), (3, []), (4, []), (5, []), (6, []), (7, []), (8, []), (9, []), (10, []), (11, []), (12, []), (13, []), (14, []), (15, []), (16, [])] [1, 3, 4])])
@[go_sem] def s27_15 (_ : Unit) : IR := (.block 1 (tH s27_14))
@[go_sem] def l27_16 (_ : Unit) : KL := [kA 22 (.mv (.t 4)),
  kA 23 (.bin .add (.t 22) (cI 1)),
  kB 4 (.mv (.t 23)) [1, 3, 4]]
@[go_sem] def s27_17 (_ : Unit) : IR := (sQ [(tH s27_8), (tH s27_15), (kT l27_16)])
@[go_sem] def s27_18 (_ : Unit) : IR := (.loop (tH s27_17))
@[go_sem] def s27_19 (_ : Unit) : IR := (.block 0 (tH s27_18))
@[go_sem] def s27_20 (_ : Unit) : IR := (sQ [(kT l27_6), (tH s27_19)])
@[go_sem] def l27_21 (_ : Unit) : KL := [kB 5 (.mv (cI 0)) [1, 3, 5]]
@[go_sem] def l27_22 (_ : Unit) : KL := [kA 47 (.mv (.t 5)),
  kA 48 (.faddr (.t 1) 1),
  kA 49 (.load (.t 48) 1 false),
  kA 50 (.len (.t 49)),
  kB 51 (.bin .lss (.t 47) (.t 50)) [1, 3, 5, 51]]
@[go_sem] def s27_23 (_ : Unit) : IR := (sQ [(kT l27_22), (.cond (.t 51) .skip (.exit 2))])
@[go_sem] def l27_24 : Nat → GOp
  | 0 => ⟨(some 54), .faddr (.t 1) 1, none⟩
  | 1 => ⟨(some 55), .load (.t 54) 1 false, none⟩
  | 2 => ⟨(some 56), .mv (.t 5), none⟩
  | 3 => ⟨(some 57), .iaddr (.t 55) (.t 56) 3, none⟩
  | 4 => ⟨(some 58), .load (.t 57) 3 true, none⟩
  | 5 => ⟨(some 59), .faddr (.t 1) 0, none⟩
  | 6 => ⟨(some 60), .load (.t 59) 1 false, none⟩
  | 7 => ⟨(some 61), .len (.t 60), none⟩
  | 8 => ⟨(some 62), .call (n_spec_l2Rule) [(.t 58), (.t 61)], none⟩
  | 9 => ⟨(some 63), .un .not (.t 62), none⟩
  | _ => ⟨none, .mkmap, none⟩
@[go_sem] def l27_25 (_ : Unit) : KL := [kB 2 (.mv (.c (.bool false))) [2]]
@[go_sem] def s27_26 (_ : Unit) : IR := (sQ [(kT l27_25), .ret])
@[go_sem] def s27_27 (_ : Unit) : IR := (sQ [(.kd (oF l27_24 10) [(0, []), (1, []), (2, []), (3, []), (4, []), (5, []), (6, []), (7, []), (8, []), (9, [])] [1, 3, 5, 63]), (.cond (.t 63) (tH s27_26) .skip)])
@[go_sem] def s27_28 (_ : Unit) : IR := (.block 3 (tH s27_27))
@[go_sem] def l27_29 (_ : Unit) : KL := [kA 52 (.mv (.t 5)),
  kA 53 (.bin .add (.t 52) (cI 1)),
  kB 5 (.mv (.t 53)) [1, 3, 5]]
@[go_sem] def s27_30 (_ : Unit) : IR := (sQ [(tH s27_23), (tH s27_28), (kT l27_29)])
@[go_sem] def s27_31 (_ : Unit) : IR := (.loop (tH s27_30))
@[go_sem] def s27_32 (_ : Unit) : IR := (.block 2 (tH s27_31))
@[go_sem] def s27_33 (_ : Unit) : IR := (sQ [(kT l27_21), (tH s27_32)])
@[go_sem] def l27_34 (_ : Unit) : KL := [kA 64 (.mv (.t 3)),
  kA 65 (.bin .leq (.t 64) (.c (.int .i64 400))),
  kB 2 (.mv (.t 65)) [2]]
@[go_sem] def s27_35 (_ : Unit) : IR := (sQ [(kT l27_0), (tH s27_4), (kT l27_5), (tH s27_20), (tH s27_33), (kT l27_34), .ret])
theorem c27 : compFn Tryz.prog [(0, [], [oN, oS [1]]), (1, [], [oN, oN, oN, oN, oS [1, 10], oN, oN, oN, oN, oS [1, 11, 15], oS [1, 16]]), (2, [], [oS [2]]), (3, [], [oS [1, 3]]), (4, [], [oS [1, 3, 4]]), (5, [], [oN, oN, oN, oN, oS [1, 3, 4, 21]]), (7, [], [oN, oN, oN, oN, oS [1, 3, 4, 28], oN, oS [1, 3, 4, 30]]), (8, [], [oS [2]]), (9, [(0, []), (1, []), (2, []), (3, []), (4, []), (5, []), (6, []), (7, []), (8, []), (9, []), (10, []), (11, []), (12, []), (13, []), (14, []), (15, []), (16, [])], [oS [1, 3, 4]]), (6, [], [oN, oN, oS [1, 3, 4]]), (10, [], [oS [1, 3, 5]]), (11, [], [oN, oN, oN, oN, oS [1, 3, 5, 51]]), (13, [(0, []), (1, []), (2, []), (3, []), (4, []), (5, []), (6, []), (7, []), (8, []), (9, [])], [oS [1, 3, 5, 63]]), (14, [], [oS [2]]), (12, [], [oN, oN, oS [1, 3, 5]]), (15, [], [oN, oN, oS [2]])] Tryz.f27 = some ⟨1, 66, [.t 2], (tH s27_35)⟩ := by kernel_rfl
theorem v_spec_SystemValid (hl : vs.length = 1) (h : wpV Tryz.prog (tH s27_35) (postV [.t 2] RV) (envV vs) M) : VCall Tryz.prog n_spec_SystemValid vs M RV :=
  vcall_of_wp (fun _ _ _ hl h => acall_of_wp mixed Tryz.func27 c27 (by kernel_rfl) hl h) hl h
@[go_sem] def l12_0 (_ : Unit) : KL := [kA 1 (.box (.t 0)),
  kB 2 (.mv (cI 0)) [1]]
@[go_sem] def l12_1 (_ : Unit) : KL := [kA 5 (.load (.t 1) 2 true),
  kA 6 (.call (n_spec_SystemValid) [(.t 5)]),
  kB 7 (.un .not (.t 6)) [1, 7]]
@[go_sem] def l12_2 (_ : Unit) : KL := [kB 2 (.mv (cI 0)) [2]]
@[go_sem] def s12_3 (_ : Unit) : IR := (sQ [(kT l12_2), .ret])
@[go_sem] def s12_4 (_ : Unit) : IR := (sQ [(kT l12_1), (.cond (.t 7) (tH s12_3) .skip)])
@[go_sem] def l12_5 (_ : Unit) : KL := [kB 3 (.mv (cI 1)) [1, 3]]
@[go_sem] def l12_6 (_ : Unit) : KL := [kB 4 (.mv (cI 0)) [1, 3, 4]]
@[go_sem] def l12_7 (_ : Unit) : KL := [kA 8 (.mv (.t 4)),
  kA 9 (.faddr (.t 1) 0),
  kA 10 (.load (.t 9) 1 false),
  kA 11 (.len (.t 10)),
  kB 12 (.bin .lss (.t 8) (.t 11)) [1, 3, 4, 12]]
@[go_sem] def s12_8 (_ : Unit) : IR := (sQ [(kT l12_7), (.cond (.t 12) .skip (.exit 0))])
@[go_sem] def l12_9 : Nat → GOp
  | 0 => ⟨(some 15), .mv (.t 3), none⟩
  | 1 => ⟨(some 16), .faddr (.t 1) 0, none⟩
  | 2 => ⟨(some 17), .load (.t 16) 1 false, none⟩
  | 3 => ⟨(some 18), .mv (.t 4), none⟩
  | 4 => ⟨(some 19), .iaddr (.t 17) (.t 18) 3, none⟩
  | 5 => ⟨(some 20), .faddr (.t 19) 1, none⟩
  | 6 => ⟨(some 21), .load (.t 20) 1 false, none⟩
  | 7 => ⟨(some 22), .faddr (.t 1) 0, none⟩
  | 8 => ⟨(some 23), .load (.t 22) 1 false, none⟩
  | 9 => ⟨(some 24), .mv (.t 4), none⟩
  | 10 => ⟨(some 25), .iaddr (.t 23) (.t 24) 3, none⟩
  | 11 => ⟨(some 26), .faddr (.t 25) 0, none⟩
  | 12 => ⟨(some 27), .load (.t 26) 1 false, none⟩
  | 13 => ⟨(some 28), .bin .sub (.t 21) (.t 27), none⟩
  | 14 => ⟨(some 29), .bin .add (.t 28) (cI 1), none⟩
  | 15 => ⟨(some 30), .bin .mul (.t 15) (.t 29), none⟩
  | 16 => ⟨(some 3), .mv (.t 30), none⟩
  | _ => ⟨none, .mkmap, none⟩
@[go_sem] def s12_10 (_ : Unit) : IR := (.block 1 (.kd (oF l12_9 17) [(0, []), (1, []), (2, []), (3, []), (4, []), (5, []), (6, []), (7, []), (8, []), (9, []), (10, []), (11, []), (12, []), (13, []), (14, []), (15, []), (16, [])] [1, 3, 4]))
@[go_sem] def l12_11 (_ : Unit) : KL := [kA 13 (.mv (.t 4)),
  kA 14 (.bin .add (.t 13) (cI 1)),
  kB 4 (.mv (.t 14)) [1, 3, 4]]
@[go_sem] def s12_12 (_ : Unit) : IR := (sQ [(tH s12_8), (tH s12_10), (kT l12_11)])
@[go_sem] def s12_13 (_ : Unit) : IR := (.loop (tH s12_12))
@[go_sem] def s12_14 (_ : Unit) : IR := (.block 0 (tH s12_13))
@[go_sem] def s12_15 (_ : Unit) : IR := (sQ [(kT l12_6), (tH s12_14)])
@[go_sem] def l12_16 (_ : Unit) : KL := [kA 31 (.mv (.t 3)),
  kB 2 (.mv (.t 31)) [2]]
@[go_sem] def s12_17 (_ : Unit) : IR := (sQ [(kT l12_0), (tH s12_4), (kT l12_5), (tH s12_15), (kT l12_16), .ret])
theorem c12 : compFn Tryz.prog [(0, [], [oN, oS [1]]), (1, [], [oN, oN, oS [1, 7]]), (2, [], [oS [2]]), (3, [], [oS [1, 3]]), (4, [], [oS [1, 3, 4]]), (5, [], [oN, oN, oN, oN, oS [1, 3, 4, 12]]), (7, [(0, []), (1, []), (2, []), (3, []), (4, []), (5, []), (6, []), (7, []), (8, []), (9, []), (10, []), (11, []), (12, []), (13, []), (14, []), (15, []), (16, [])], [oS [1, 3, 4]]), (6, [], [oN, oN, oS [1, 3, 4]]), (8, [], [oN, oS [2]])] Tryz.f12 = some ⟨1, 32, [.t 2], (tH s12_17)⟩ := by kernel_rfl
theorem v_spec_SizeOf (hl : vs.length = 1) (h : wpV Tryz.prog (tH s12_17) (postV [.t 2] RV) (envV vs) M) : VCall Tryz.prog n_spec_SizeOf vs M RV :=
  vcall_of_wp (fun _ _ _ hl h => acall_of_wp mixed Tryz.func12 c12 (by kernel_rfl) hl h) hl h
@[go_sem] def l74_0 (_ : Unit) : KL := [kA 3 (.box (.t 1)),
  kB 4 (.mv (.c (.sl none 0 0 true 0))) [0, 3]]
@[go_sem] def l74_1 (_ : Unit) : KL := [kA 9 (.bslc 1 0 [(.int .i64 0)] []),
  kB 5 (.mv (.t 9)) [0, 3, 5]]
@[go_sem] def l74_2 (_ : Unit) : KL := [kA 10 (.load (.t 3) 2 true),
  kA 11 (.call (n_spec_SizeOf) [(.t 10)]),
  kB 6 (.mv (.t 11)) [0, 5, 6]]
@[go_sem] def l74_3 (_ : Unit) : KL := [kA 12 (.mv (.t 0)),
  kA 13 (.bslc 1 5 [(.int .i64 0)] [(0, (.c (.int .i64 2))), (1, (.c (.int .i64 3))), (2, (cI 1)), (3, (.c (.int .i64 5))), (4, (.c (.int .i64 9)))]),
  kA 14 (.call (n_spec_l40Rd_num) [(.t 12), (.t 13)]),
  kB 7 (.mv (.t 14)) [0, 5, 6, 7]]
@[go_sem] def l74_4 (_ : Unit) : KL := [kB 8 (.mv (cI 0)) [0, 5, 6, 7, 8]]
@[go_sem] def l74_5 (_ : Unit) : KL := [kA 15 (.mv (.t 8)),
  kA 16 (.mv (.t 6)),
  kB 17 (.bin .lss (.t 15) (.t 16)) [0, 5, 6, 7, 8, 17]]
@[go_sem] def s74_6 (_ : Unit) : IR := (sQ [(kT l74_5), (.cond (.t 17) .skip (.exit 0))])
@[go_sem] def l74_7 (_ : Unit) : KL := [kA 20 (.mv (.t 0)),
  kA 21 (.mv (.t 7)),
  kA 22 (.call (n_spec_l40Rd_pick) [(.t 20), (.t 21)]),
  kB 23 (.bin .eql (.t 22) (cI 0)) [0, 5, 6, 7, 8, 23]]
@[go_sem] def l74_8 (_ : Unit) : KL := [kA 24 (.mv (.t 5)),
  kA 25 (.mv (.t 8)),
  kA 26 (.bslc 1 1 [(.int .i64 0)] [(0, (.t 25))]),
  kA 27 (.app 1 8 (.t 24) (.t 26)),
  kB 5 (.mv (.t 27)) [0, 5, 6, 7, 8]]
@[go_sem] def s74_9 (_ : Unit) : IR := (sQ [(kT l74_7), (.cond (.t 23) (kT l74_8) .skip)])
@[go_sem] def s74_10 (_ : Unit) : IR := (.block 1 (tH s74_9))
@[go_sem] def l74_11 (_ : Unit) : KL := [kA 18 (.mv (.t 8)),
  kA 19 (.bin .add (.t 18) (cI 1)),
  kB 8 (.mv (.t 19)) [0, 5, 6, 7, 8]]
@[go_sem] def s74_12 (_ : Unit) : IR := (sQ [(tH s74_6), (tH s74_10), (kT l74_11)])
@[go_sem] def s74_13 (_ : Unit) : IR := (.loop (tH s74_12))
@[go_sem] def s74_14 (_ : Unit) : IR := (.block 0 (tH s74_13))
@[go_sem] def s74_15 (_ : Unit) : IR := (sQ [(kT l74_4), (tH s74_14)])
@[go_sem] def l74_16 (_ : Unit) : KL := [kA 28 (.mv (.t 0)),
  kA 29 (.call (n_spec_l40Rd_pick) [(.t 28), (.c (.int .i64 15))]),
  kB 30 (.bin .eql (.t 29) (cI 0)) [0, 5, 6, 30]]
@[go_sem] def l74_17 (_ : Unit) : KL := [kA 31 (.mv (.t 5)),
  kA 32 (.mv (.t 0)),
  kA 33 (.mv (.t 6)),
  kA 34 (.bslc 1 3 [(.int .i64 0)] [(0, (.t 33)), (1, (cI 0)), (2, (.c (.int .i64 (-1))))]),
  kB 35 (.call (n_spec_l40Rd_num) [(.t 32), (.t 34)]) [31, 35],
  kA 36 (.bslc 1 1 [(.int .i64 0)] [(0, (.t 35))]),
  kA 37 (.app 1 8 (.t 31) (.t 36)),
  kB 5 (.mv (.t 37)) [5]]
@[go_sem] def s74_18 (_ : Unit) : IR := (sQ [(kT l74_16), (.cond (.t 30) (kT l74_17) .skip)])
@[go_sem] def l74_19 (_ : Unit) : KL := [kA 38 (.mv (.t 5)),
  kB 4 (.mv (.t 38)) [4]]
@[go_sem] def s74_20 (_ : Unit) : IR := (sQ [(kT l74_0), (kT l74_1), (kT l74_2), (kT l74_3), (tH s74_15), (tH s74_18), (kT l74_19), .ret])
theorem c74 : compFn Tryz.prog [(0, [], [oN, oS [0, 3]]), (1, [], [oN, oS [0, 3, 5]]), (2, [], [oN, oN, oS [0, 5, 6]]), (3, [], [oN, oN, oN, oS [0, 5, 6, 7]]), (4, [], [oS [0, 5, 6, 7, 8]]), (5, [], [oN, oN, oS [0, 5, 6, 7, 8, 17]]), (7, [], [oN, oN, oN, oS [0, 5, 6, 7, 8, 23]]), (8, [], [oN, oN, oN, oN, oS [0, 5, 6, 7, 8]]), (6, [], [oN, oN, oS [0, 5, 6, 7, 8]]), (9, [], [oN, oN, oS [0, 5, 6, 30]]), (10, [], [oN, oN, oN, oN, oS [31, 35], oN, oN, oS [5]]), (11, [], [oN, oS [4]])] Tryz.f74 = some ⟨2, 39, [.t 4], (tH s74_20)⟩ := by kernel_rfl
theorem v_spec_l4Some (hl : vs.length = 2) (h : wpV Tryz.prog (tH s74_20) (postV [.t 4] RV) (envV vs) M) : VCall Tryz.prog n_spec_l4Some vs M RV :=
  vcall_of_wp (fun _ _ _ hl h => acall_of_wp mixed Tryz.func74 c74 (by kernel_rfl) hl h) hl h
@[go_sem] def l46_0 (_ : Unit) : KL := [kA 2 (.alloc [(.sl none 0 0 true 0), (.sl none 0 0 true 0)]),
  kA 3 (.mv (.c (.sl none 0 0 true 0))),
  kB 4 (.mv (cI 0)) [0, 2]]
@[go_sem] def l46_1 (_ : Unit) : KL := [kA 7 (.mv (.t 0)),
  kA 8 (.call (n_spec_l40Open) [(.t 7)]),
  kB 5 (.mv (.t 8)) [2, 5]]
@[go_sem] def l46_2 (_ : Unit) : KL := [kA 9 (.mv (.t 5)),
  kA 10 (.call (n_spec_l2Any) [(.t 9), (.c (.int .i64 24))]),
  kA 6 (.alloc [(.sl none 0 0 true 0), (.sl none 0 0 true 0)]),
  (⟨none, .store (.t 6) 2 (.t 10), none⟩, (some [2, 5, 6]))]
@[go_sem] def l46_3 : Nat → GOp
  | 0 => ⟨(some 11), .load (.t 6) 2 true, none⟩
  | 1 => ⟨(some 12), .mv (.t 5), none⟩
  | 2 => ⟨(some 13), .load (.t 6) 2 true, none⟩
  | 3 => ⟨(some 14), .call (n_spec_l4Some) [(.t 12), (.t 13)], none⟩
  | 4 => ⟨(some 15), .mv (.t 5), none⟩
  | 5 => ⟨(some 16), .bslc 1 9 [(.int .i64 0)] [(0, (cI 0)), (1, (cI 1)), (2, (.c (.int .i64 2))), (3, (.c (.int .i64 3))), (4, (cI 1)), (5, (.c (.int .i64 2))), (6, (.c (.int .i64 400))), (7, (.c (.int .i64 401))), (8, (.c (.int .i64 (-1))))], none⟩
  | 6 => ⟨(some 17), .call (n_spec_l40Rd_num) [(.t 15), (.t 16)], none⟩
  | 7 => ⟨none, .store (.t 2) 2 (.t 11), none⟩
  | 8 => ⟨(some 3), .mv (.t 14), none⟩
  | 9 => ⟨(some 4), .mv (.t 17), none⟩
  | _ => ⟨none, .mkmap, none⟩
@[go_sem] def s46_4 (_ : Unit) : IR := (sQ [(kT l46_0), (kT l46_1), (kT l46_2), (.kd (oF l46_3 10) [(0, []), (1, []), (2, []), (4, []), (3, [0, 5]), (5, []), (6, [0]), (7, []), (8, []), (9, [])] [2, 3, 4]), .ret])
theorem c46 : compFn Tryz.prog [(0, [], [oN, oN, oS [0, 2]]), (1, [], [oN, oN, oS [2, 5]]), (2, [], [oN, oN, oN, oS [2, 5, 6]]), (3, [(0, []), (1, []), (2, []), (4, []), (3, [0, 5]), (5, []), (6, [0]), (7, []), (8, []), (9, [])], [oS [2, 3, 4]])] Tryz.f46 = some ⟨1, 18, [.c 2 2 true, .t 3, .t 4], (tH s46_4)⟩ := by kernel_rfl
theorem v_spec_l19Set (hl : vs.length = 1) (h : wpV Tryz.prog (tH s46_4) (postV [.c 2 2 true, .t 3, .t 4] RV) (envV vs) M) : VCall Tryz.prog n_spec_l19Set vs M RV :=
  vcall_of_wp (fun _ _ _ hl h => acall_of_wp mixed Tryz.func46 c46 (by kernel_rfl) hl h) hl h
@[go_sem] def l15_0 (_ : Unit) : KL := [kA 2 (.alloc [(.sl none 0 0 true 0), (.sl none 0 0 true 0)]),
  kA 3 (.mv (.c (.sl none 0 0 true 0))),
  kB 4 (.mv (cI 0)) [0, 2]]
@[go_sem] def l15_1 (_ : Unit) : KL := [kA 5 (.mv (.t 0)),
  kA 6 (.call (n_spec_l19Set) [(.t 5)]),
  kA 7 (.ext (.t 6) 0),
  kA 8 (.ext (.t 6) 1),
  kB 9 (.ext (.t 6) 2) [2, 7, 8, 9],
  (⟨none, .store (.t 2) 2 (.t 7), none⟩, none),
  kA 3 (.mv (.t 8)),
  kB 4 (.mv (.t 9)) [2, 3, 4]]
@[go_sem] def s15_2 (_ : Unit) : IR := (sQ [(kT l15_0), (kT l15_1), .ret])
theorem c15 : compFn Tryz.prog [(0, [], [oN, oN, oS [0, 2]]), (1, [], [oN, oN, oN, oN, oS [2, 7, 8, 9], oN, oN, oS [2, 3, 4]])] Tryz.f15 = some ⟨1, 10, [.c 2 2 true, .t 3, .t 4], (tH s15_2)⟩ := by kernel_rfl
theorem v_spec_DrawBackWithin (hl : vs.length = 1) (h : wpV Tryz.prog (tH s15_2) (postV [.c 2 2 true, .t 3, .t 4] RV) (envV vs) M) : VCall Tryz.prog n_spec_DrawBackWithin vs M RV :=
  vcall_of_wp (fun _ _ _ hl h => acall_of_wp mixed Tryz.func15 c15 (by kernel_rfl) hl h) hl h
@[go_sem] def l57_0 (_ : Unit) : KL := [kB 6 (.mv (.c (.bool false))) [0, 1, 2]]
@[go_sem] def l57_1 (_ : Unit) : KL := [kA 7 (.mv (.t 0)),
  kA 8 (.mv (.t 1)),
  kA 9 (.bin .geq (.t 7) (.t 8)),
  kA 10 (.mv (.t 9)),
  (⟨(some 11), .mv (.t 0), (some (10, true))⟩, (some [2, 10, 11])),
  (⟨(some 12), .mv (.t 2), (some (10, true))⟩, none),
  (⟨(some 13), .bin .leq (.t 11) (.t 12), (some (10, true))⟩, none),
  kA 14 (.pick (.t 10) (.t 13) (.c (.bool false))),
  kB 6 (.mv (.t 14)) [6]]
@[go_sem] def s57_2 (_ : Unit) : IR := (sQ [(kT l57_0), (kT l57_1), .ret])
theorem c57 : compFn Tryz.prog [(0, [], [oS [0, 1, 2]]), (1, [], [oN, oN, oN, oN, oS [2, 10, 11], oN, oN, oN, oS [6]])] Tryz.f57 = some ⟨3, 15, [.t 6], (tH s57_2)⟩ := by kernel_rfl
theorem v_impl_in (hl : vs.length = 3) (h : wpV Tryz.prog (tH s57_2) (postV [.t 6] RV) (envV vs) M) : VCall Tryz.prog n_impl_in vs M RV :=
  vcall_of_wp (fun _ _ _ hl h => acall_of_wp mixed Tryz.func57 c57 (by kernel_rfl) hl h) hl h
@[go_sem] def l105_0 (_ : Unit) : KL := [kB 4 (.mv (cI 0)) [0, 1]]
@[go_sem] def l105_1 (_ : Unit) : KL := [kA 6 (.mv (.t 0)),
  kA 7 (.len (.t 6)),
  kB 8 (.mv (cI 0)) [0, 1, 7, 8]]
@[go_sem] def l105_2 (_ : Unit) : KL := [kB 9 (.bin .lss (.t 8) (.t 7)) [0, 1, 7, 8, 9]]
@[go_sem] def l105_3 (_ : Unit) : KL := [kA 10 (.mv (.t 8)),
  kB 5 (.mv (.t 10)) [0, 1, 5, 7, 8]]
@[go_sem] def l105_4 (_ : Unit) : KL := [kA 11 (.mv (.t 1)),
  kA 12 (.mv (.t 0)),
  kA 13 (.mv (.t 5)),
  kA 14 (.iaddr (.t 12) (.t 13) 3),
  kB 15 (.load (.t 14) 3 true) [0, 1, 5, 7, 8, 11, 15],
  kB 16 (.callv (.t 11) [(.t 15)]) [0, 1, 5, 7, 8, 16]]
@[go_sem] def l105_5 (_ : Unit) : KL := [kA 17 (.mv (.t 5)),
  kB 4 (.mv (.t 17)) [4]]
@[go_sem] def s105_6 (_ : Unit) : IR := (sQ [(kT l105_5), .ret])
@[go_sem] def s105_7 (_ : Unit) : IR := (sQ [(kT l105_3), (kT l105_4), (.cond (.t 16) (tH s105_6) .skip)])
@[go_sem] def s105_8 (_ : Unit) : IR := (.block 1 (tH s105_7))
@[go_sem] def l105_9 (_ : Unit) : KL := [kA 18 (.bin .add (.t 8) (cI 1)),
  kB 8 (.mv (.t 18)) [0, 1, 7, 8]]
@[go_sem] def s105_10 (_ : Unit) : IR := (sQ [(kT l105_2), (.cond (.t 9) .skip (.exit 0)), (tH s105_8), (kT l105_9)])
@[go_sem] def s105_11 (_ : Unit) : IR := (.loop (tH s105_10))
@[go_sem] def s105_12 (_ : Unit) : IR := (.block 0 (tH s105_11))
@[go_sem] def s105_13 (_ : Unit) : IR := (sQ [(kT l105_1), (tH s105_12)])
@[go_sem] def l105_14 (_ : Unit) : KL := [kB 4 (.mv (.c (.int .i64 (-1)))) [4]]
@[go_sem] def s105_15 (_ : Unit) : IR := (sQ [(kT l105_0), (tH s105_13), (kT l105_14), .ret])
theorem c105 : compFn Tryz.prog [(0, [], [oS [0, 1]]), (1, [], [oN, oN, oS [0, 1, 7, 8]]), (2, [], [oS [0, 1, 7, 8, 9]]), (3, [], [oN, oS [0, 1, 5, 7, 8]]), (4, [], [oN, oN, oN, oN, oS [0, 1, 5, 7, 8, 11, 15], oS [0, 1, 5, 7, 8, 16]]), (5, [], [oN, oS [4]]), (6, [], [oN, oS [0, 1, 7, 8]]), (7, [], [oS [4]])] Tryz.f105 = some ⟨2, 19, [.t 4], (tH s105_15)⟩ := by kernel_rfl
theorem v_slices_IndexFunc_Simpl_Var_impl_Var (hl : vs.length = 2) (h : wpV Tryz.prog (tH s105_15) (postV [.t 4] RV) (envV vs) M) : VCall Tryz.prog n_slices_IndexFunc_Simpl_Var_impl_Var vs M RV :=
  vcall_of_wp (fun _ _ _ hl h => acall_of_wp mixed Tryz.func105 c105 (by kernel_rfl) hl h) hl h
@[go_sem] def l62_0 (_ : Unit) : KL := [kB 4 (.mv (.c (.bool false))) [0, 1]]
@[go_sem] def l62_1 (_ : Unit) : KL := [kA 5 (.mv (.t 0)),
  kA 6 (.mv (.t 1)),
  kA 7 (.call (n_slices_IndexFunc_Simpl_Var_impl_Var) [(.t 5), (.t 6)]),
  kA 8 (.bin .geq (.t 7) (cI 0)),
  kB 4 (.mv (.t 8)) [4]]
@[go_sem] def s62_2 (_ : Unit) : IR := (sQ [(kT l62_0), (kT l62_1), .ret])
theorem c62 : compFn Tryz.prog [(0, [], [oS [0, 1]]), (1, [], [oN, oN, oN, oN, oS [4]])] Tryz.f62 = some ⟨2, 9, [.t 4], (tH s62_2)⟩ := by kernel_rfl
theorem v_slices_ContainsFunc_Simpl_Var_impl_Var (hl : vs.length = 2) (h : wpV Tryz.prog (tH s62_2) (postV [.t 4] RV) (envV vs) M) : VCall Tryz.prog n_slices_ContainsFunc_Simpl_Var_impl_Var vs M RV :=
  vcall_of_wp (fun _ _ _ hl h => acall_of_wp mixed Tryz.func62 c62 (by kernel_rfl) hl h) hl h
@[go_sem] def l64_0 (_ : Unit) : KL := [kA 1 (.box (.t 0)),
  kB 2 (.mv (.c (.bool false))) [1]]
@[go_sem] def l64_1 (_ : Unit) : KL := [kA 3 (.faddr (.t 1) 0),
  kA 4 (.load (.t 3) 1 false),
  kA 5 (.call (n_impl_in) [(.t 4), (.c (.int .i64 (-9999))), (.c (.int .i64 9999))]),
  kA 6 (.mv (.t 5)),
  (⟨(some 7), .faddr (.t 1) 1, (some (6, true))⟩, (some [1, 6, 7])),
  (⟨(some 8), .load (.t 7) 1 false, (some (6, true))⟩, none),
  (⟨(some 9), .faddr (.t 1) 0, (some (6, true))⟩, none),
  (⟨(some 10), .load (.t 9) 1 false, (some (6, true))⟩, none),
  (⟨(some 11), .call (n_impl_in) [(.t 8), (.t 10), (.c (.int .i64 9999))], (some (6, true))⟩, none),
  kB 12 (.pick (.t 6) (.t 11) (.c (.bool false))) [1, 12],
  kA 13 (.mv (.t 12)),
  (⟨(some 14), .faddr (.t 1) 1, (some (13, true))⟩, none),
  (⟨(some 15), .load (.t 14) 1 false, (some (13, true))⟩, none),
  (⟨(some 16), .faddr (.t 1) 0, (some (13, true))⟩, none),
  (⟨(some 17), .load (.t 16) 1 false, (some (13, true))⟩, (some [1, 13, 15, 17])),
  (⟨(some 18), .bin .sub (.t 15) (.t 17), (some (13, true))⟩, none),
  (⟨(some 19), .bin .lss (.t 18) (.c (.int .i64 20)), (some (13, true))⟩, none),
  kA 20 (.pick (.t 13) (.t 19) (.c (.bool false))),
  kA 21 (.mv (.t 20)),
  (⟨(some 22), .faddr (.t 1) 2, (some (21, true))⟩, (some [1, 21, 22])),
  (⟨(some 23), .load (.t 22) 1 false, (some (21, true))⟩, none),
  (⟨(some 24), .faddr (.t 1) 0, (some (21, true))⟩, none),
  (⟨(some 25), .load (.t 24) 1 false, (some (21, true))⟩, none),
  (⟨(some 26), .faddr (.t 1) 1, (some (21, true))⟩, none),
  (⟨(some 27), .load (.t 26) 1 false, (some (21, true))⟩, (some [21, 23, 25, 27])),
  (⟨(some 28), .call (n_impl_in) [(.t 23), (.t 25), (.t 27)], (some (21, true))⟩, none),
  kA 29 (.pick (.t 21) (.t 28) (.c (.bool false))),
  kB 2 (.mv (.t 29)) [2]]
@[go_sem] def s64_2 (_ : Unit) : IR := (sQ [(kT l64_0), (kT l64_1), .ret])
theorem c64 : compFn Tryz.prog [(0, [], [oN, oS [1]]), (1, [], [oN, oN, oN, oN, oS [1, 6, 7], oN, oN, oN, oN, oS [1, 12], oN, oN, oN, oN, oS [1, 13, 15, 17], oN, oN, oN, oN, oS [1, 21, 22], oN, oN, oN, oN, oS [21, 23, 25, 27], oN, oN, oS [2]])] Tryz.f64 = some ⟨1, 30, [.t 2], (tH s64_2)⟩ := by kernel_rfl
theorem v_impl_varOk (hl : vs.length = 1) (h : wpV Tryz.prog (tH s64_2) (postV [.t 2] RV) (envV vs) M) : VCall Tryz.prog n_impl_varOk vs M RV :=
  vcall_of_wp (fun _ _ _ hl h => acall_of_wp mixed Tryz.func64 c64 (by kernel_rfl) hl h) hl h
@[go_sem] def l63_0 (_ : Unit) : KL := [kA 1 (.box (.t 0)),
  kB 2 (.mv (.c (.bool false))) [1]]
@[go_sem] def l63_1 (_ : Unit) : KL := [kA 3 (.load (.t 1) 3 true),
  kA 4 (.call (n_impl_varOk) [(.t 3)]),
  kA 5 (.un .not (.t 4)),
  kB 2 (.mv (.t 5)) [2]]
@[go_sem] def s63_2 (_ : Unit) : IR := (sQ [(kT l63_0), (kT l63_1), .ret])
theorem c63 : compFn Tryz.prog [(0, [], [oN, oS [1]]), (1, [], [oN, oN, oN, oS [2]])] Tryz.f63 = some ⟨1, 6, [.t 2], (tH s63_2)⟩ := by kernel_rfl
theorem v_impl_SystemValid_1 (hl : vs.length = 1) (h : wpV Tryz.prog (tH s63_2) (postV [.t 2] RV) (envV vs) M) : VCall Tryz.prog n_impl_SystemValid_1 vs M RV :=
  vcall_of_wp (fun _ _ _ hl h => acall_of_wp mixed Tryz.func63 c63 (by kernel_rfl) hl h) hl h
@[go_sem] def l42_0 (_ : Unit) : KL := [kB 2 (.mv (cI 0)) [0]]
@[go_sem] def l42_1 (_ : Unit) : KL := [kB 3 (.mv (cI 1)) [0, 3]]
@[go_sem] def l42_2 (_ : Unit) : KL := [kA 6 (.mv (.t 0)),
  kA 7 (.len (.t 6)),
  kB 8 (.mv (cI 0)) [3, 6, 7, 8]]
@[go_sem] def l42_3 (_ : Unit) : KL := [kB 9 (.bin .lss (.t 8) (.t 7)) [3, 6, 7, 8, 9]]
@[go_sem] def l42_4 (_ : Unit) : KL := [kA 10 (.iaddr (.t 6) (.t 8) 3),
  kA 11 (.load (.t 10) 3 true),
  kA 5 (.alloc [(.int .i64 0), (.int .i64 0), (.int .i64 0)]),
  (⟨none, .store (.t 5) 3 (.t 11), none⟩, (some [3, 5, 6, 7, 8]))]
@[go_sem] def l42_5 (_ : Unit) : KL := [kA 12 (.mv (.t 3)),
  kA 13 (.faddr (.t 5) 1),
  kA 14 (.load (.t 13) 1 false),
  kA 15 (.faddr (.t 5) 0),
  kB 16 (.load (.t 15) 1 false) [6, 7, 8, 12, 14, 16],
  kA 17 (.bin .sub (.t 14) (.t 16)),
  kA 18 (.bin .add (.t 17) (cI 1)),
  kA 19 (.bin .mul (.t 12) (.t 18)),
  kB 3 (.mv (.t 19)) [3, 6, 7, 8]]
@[go_sem] def s42_6 (_ : Unit) : IR := (sQ [(kT l42_4), (kT l42_5)])
@[go_sem] def s42_7 (_ : Unit) : IR := (.block 1 (tH s42_6))
@[go_sem] def l42_8 (_ : Unit) : KL := [kA 20 (.bin .add (.t 8) (cI 1)),
  kB 8 (.mv (.t 20)) [3, 6, 7, 8]]
@[go_sem] def s42_9 (_ : Unit) : IR := (sQ [(kT l42_3), (.cond (.t 9) .skip (.exit 0)), (tH s42_7), (kT l42_8)])
@[go_sem] def s42_10 (_ : Unit) : IR := (.loop (tH s42_9))
@[go_sem] def s42_11 (_ : Unit) : IR := (.block 0 (tH s42_10))
@[go_sem] def s42_12 (_ : Unit) : IR := (sQ [(kT l42_2), (tH s42_11)])
@[go_sem] def l42_13 (_ : Unit) : KL := [kA 21 (.mv (.t 3)),
  kB 2 (.mv (.t 21)) [2]]
@[go_sem] def s42_14 (_ : Unit) : IR := (sQ [(kT l42_0), (kT l42_1), (tH s42_12), (kT l42_13), .ret])
theorem c42 : compFn Tryz.prog [(0, [], [oS [0]]), (1, [], [oS [0, 3]]), (2, [], [oN, oN, oS [3, 6, 7, 8]]), (3, [], [oS [3, 6, 7, 8, 9]]), (4, [], [oN, oN, oN, oS [3, 5, 6, 7, 8]]), (5, [], [oN, oN, oN, oN, oS [6, 7, 8, 12, 14, 16], oN, oN, oN, oS [3, 6, 7, 8]]), (6, [], [oN, oS [3, 6, 7, 8]]), (7, [], [oN, oS [2]])] Tryz.f42 = some ⟨1, 22, [.t 2], (tH s42_14)⟩ := by kernel_rfl
theorem v_impl_size (hl : vs.length = 1) (h : wpV Tryz.prog (tH s42_14) (postV [.t 2] RV) (envV vs) M) : VCall Tryz.prog n_impl_size vs M RV :=
  vcall_of_wp (fun _ _ _ hl h => acall_of_wp mixed Tryz.func42 c42 (by kernel_rfl) hl h) hl h
@[go_sem] def l145_0 (_ : Unit) : KL := [kA 2 (.mv (cI 0)),
  kA 3 (.mv (cI 0)),
  kB 4 (.mv (cI 0)) [0]]
@[go_sem] def l145_1 (_ : Unit) : KL := [kB 5 (.mv (.t 0)) [5]]
@[go_sem] def l145_2 (_ : Unit) : KL := [kA 7 (.bin .eql (.t 5) (.c (.int .i64 2))),
  kB 6 (.mv (.t 7)) [5, 6]]
@[go_sem] def l145_3 (_ : Unit) : KL := [kA 8 (.bin .eql (.t 5) (.c (.int .i64 3))),
  kB 6 (.mv (.t 8)) [5, 6]]
@[go_sem] def l145_4 (_ : Unit) : KL := [kA 9 (.bin .eql (.t 5) (.c (.int .i64 4))),
  kB 6 (.mv (.t 9)) [5, 6]]
@[go_sem] def s145_5 (_ : Unit) : IR := (sQ [(kT l145_3), (.cond (.t 6) .skip (kT l145_4))])
@[go_sem] def s145_6 (_ : Unit) : IR := (sQ [(kT l145_2), (.cond (.t 6) .skip (tH s145_5))])
@[go_sem] def l145_7 (_ : Unit) : KL := [kA 2 (.mv (.c (.int .i64 2))),
  kA 3 (.mv (cI 1)),
  kB 4 (.mv (cI 1)) [2, 3, 4]]
@[go_sem] def s145_8 (_ : Unit) : IR := (sQ [(kT l145_7), .ret])
@[go_sem] def l145_9 (_ : Unit) : KL := [kA 11 (.bin .eql (.t 5) (.c (.int .i64 5))),
  kB 10 (.mv (.t 11)) [5, 10]]
@[go_sem] def l145_10 (_ : Unit) : KL := [kA 12 (.bin .eql (.t 5) (.c (.int .i64 6))),
  kB 10 (.mv (.t 12)) [5, 10]]
@[go_sem] def s145_11 (_ : Unit) : IR := (sQ [(kT l145_9), (.cond (.t 10) .skip (kT l145_10))])
@[go_sem] def l145_12 (_ : Unit) : KL := [kA 2 (.mv (.c (.int .i64 2))),
  kA 3 (.mv (cI 1)),
  kB 4 (.mv (.c (.int .i64 2))) [2, 3, 4]]
@[go_sem] def s145_13 (_ : Unit) : IR := (sQ [(kT l145_12), .ret])
@[go_sem] def l145_14 (_ : Unit) : KL := [kA 14 (.bin .eql (.t 5) (.c (.int .i64 7))),
  kB 13 (.mv (.t 14)) [5, 13]]
@[go_sem] def l145_15 (_ : Unit) : KL := [kA 2 (.mv (cI 1)),
  kA 3 (.mv (.c (.int .i64 2))),
  kB 4 (.mv (.c (.int .i64 2))) [2, 3, 4]]
@[go_sem] def s145_16 (_ : Unit) : IR := (sQ [(kT l145_15), .ret])
@[go_sem] def l145_17 (_ : Unit) : KL := [kA 16 (.bin .eql (.t 5) (.c (.int .i64 8))),
  kB 15 (.mv (.t 16)) [5, 15]]
@[go_sem] def l145_18 (_ : Unit) : KL := [kA 17 (.bin .eql (.t 5) (.c (.int .i64 9))),
  kB 15 (.mv (.t 17)) [15]]
@[go_sem] def s145_19 (_ : Unit) : IR := (sQ [(kT l145_17), (.cond (.t 15) .skip (kT l145_18))])
@[go_sem] def l145_20 (_ : Unit) : KL := [kA 2 (.mv (.c (.int .i64 2))),
  kA 3 (.mv (.c (.int .i64 2))),
  kB 4 (.mv (.c (.int .i64 2))) [2, 3, 4]]
@[go_sem] def s145_21 (_ : Unit) : IR := (sQ [(kT l145_20), .ret])
@[go_sem] def s145_22 (_ : Unit) : IR := (sQ [(tH s145_19), (.cond (.t 15) (tH s145_21) .skip)])
@[go_sem] def s145_23 (_ : Unit) : IR := (sQ [(kT l145_14), (.cond (.t 13) (tH s145_16) (tH s145_22))])
@[go_sem] def s145_24 (_ : Unit) : IR := (sQ [(tH s145_11), (.cond (.t 10) (tH s145_13) (tH s145_23))])
@[go_sem] def s145_25 (_ : Unit) : IR := (sQ [(tH s145_6), (.cond (.t 6) (tH s145_8) (tH s145_24))])
@[go_sem] def s145_26 (_ : Unit) : IR := (.block 0 (tH s145_25))
@[go_sem] def s145_27 (_ : Unit) : IR := (sQ [(kT l145_1), (tH s145_26)])
@[go_sem] def l145_28 (_ : Unit) : KL := [kA 2 (.mv (cI 0)),
  kA 3 (.mv (cI 0)),
  kB 4 (.mv (cI 1)) [2, 3, 4]]
@[go_sem] def s145_29 (_ : Unit) : IR := (sQ [(kT l145_0), (tH s145_27), (kT l145_28), .ret])
theorem c145 : compFn Tryz.prog [(0, [], [oN, oN, oS [0]]), (1, [], [oS [5]]), (2, [], [oN, oS [5, 6]]), (3, [], [oN, oS [5, 6]]), (4, [], [oN, oS [5, 6]]), (5, [], [oN, oN, oS [2, 3, 4]]), (6, [], [oN, oS [5, 10]]), (7, [], [oN, oS [5, 10]]), (8, [], [oN, oN, oS [2, 3, 4]]), (9, [], [oN, oS [5, 13]]), (10, [], [oN, oN, oS [2, 3, 4]]), (11, [], [oN, oS [5, 15]]), (12, [], [oN, oS [15]]), (13, [], [oN, oN, oS [2, 3, 4]]), (14, [], [oN, oN, oS [2, 3, 4]])] Tryz.f145 = some ⟨1, 18, [.t 2, .t 3, .t 4], (tH s145_29)⟩ := by kernel_rfl
theorem v_impl_parts (hl : vs.length = 1) (h : wpV Tryz.prog (tH s145_29) (postV [.t 2, .t 3, .t 4] RV) (envV vs) M) : VCall Tryz.prog n_impl_parts vs M RV :=
  vcall_of_wp (fun _ _ _ hl h => acall_of_wp mixed Tryz.func145 c145 (by kernel_rfl) hl h) hl h
@[go_sem] def l126_0 (_ : Unit) : KL := [kB 4 (.mv (.c (.sl none 0 0 true 0))) [0, 1]]
@[go_sem] def l126_1 (_ : Unit) : KL := [kA 12 (.mv (.t 1)),
  kA 13 (.call (n_impl_in) [(.t 12), (cI 0), (.c (.int .i64 5))]),
  kA 14 (.un .not (.t 13)),
  kA 15 (.mv (.t 14)),
  (⟨(some 16), .mv (.t 0), (some (15, false))⟩, (some [0, 1, 15, 16])),
  (⟨(some 17), .len (.t 16), (some (15, false))⟩, none),
  (⟨(some 18), .call (n_impl_in) [(.t 17), (cI 1), (.c (.int .i64 40))], (some (15, false))⟩, none),
  (⟨(some 19), .un .not (.t 18), (some (15, false))⟩, none),
  kB 20 (.pick (.t 15) (.c (.bool true)) (.t 19)) [0, 1, 20]]
@[go_sem] def l126_2 (_ : Unit) : KL := [kB 4 (.mv (.c (.sl none 0 0 true 0))) [4]]
@[go_sem] def s126_3 (_ : Unit) : IR := (sQ [(kT l126_2), .ret])
@[go_sem] def s126_4 (_ : Unit) : IR := (sQ [(kT l126_1), (.cond (.t 20) (tH s126_3) .skip)])
@[go_sem] def l126_5 (_ : Unit) : KL := [kA 21 (.mv (.t 0)),
  kA 22 (.len (.t 21)),
  kA 23 (.mkc [(.int .i64 0)] 8 (cI 0) (.t 22)),
  kB 5 (.mv (.t 23)) [0, 1, 5]]
@[go_sem] def l126_6 (_ : Unit) : KL := [kA 24 (.mv (.t 0)),
  kA 25 (.len (.t 24)),
  kB 26 (.mv (cI 0)) [1, 5, 24, 25, 26]]
@[go_sem] def l126_7 (_ : Unit) : KL := [kB 27 (.bin .lss (.t 26) (.t 25)) [1, 5, 24, 25, 26, 27]]
@[go_sem] def l126_8 (_ : Unit) : KL := [kA 28 (.mv (.t 26)),
  kA 29 (.iaddr (.t 24) (.t 26) 4),
  kA 30 (.load (.t 29) 4 true),
  kA 7 (.alloc [(.int .i64 0), (.int .i64 0), (.int .i64 0), (.int .i64 0)]),
  kB 6 (.mv (.t 28)) [1, 5, 6, 7, 24, 25, 26, 30],
  (⟨none, .store (.t 7) 4 (.t 30), none⟩, (some [1, 5, 6, 7, 24, 25, 26]))]
@[go_sem] def l126_9 (_ : Unit) : KL := [kA 32 (.faddr (.t 7) 0),
  kA 33 (.load (.t 32) 1 false),
  kA 34 (.call (n_impl_parts) [(.t 33)]),
  kA 31 (.mv (.t 34)),
  kB 35 (.ext (.t 31) 0) [1, 5, 6, 7, 24, 25, 26, 31, 35],
  kA 36 (.ext (.t 31) 1),
  kA 37 (.ext (.t 31) 2),
  kA 8 (.mv (.t 35)),
  kA 9 (.mv (.t 36)),
  kB 10 (.mv (.t 37)) [1, 5, 6, 7, 8, 9, 10, 24, 25, 26]]
@[go_sem] def l126_10 (_ : Unit) : KL := [kA 38 (.faddr (.t 7) 0),
  kA 39 (.load (.t 38) 1 false),
  kA 40 (.call (n_impl_in) [(.t 39), (cI 0), (.c (.int .i64 9))]),
  kB 11 (.mv (.t 40)) [1, 5, 6, 7, 8, 9, 10, 11, 24, 25, 26]]
@[go_sem] def l126_11 (_ : Unit) : KL := [kA 42 (.faddr (.t 7) 0),
  kA 43 (.load (.t 42) 1 false),
  kA 44 (.bin .eql (.t 43) (cI 0)),
  kB 41 (.mv (.t 44)) [1, 5, 6, 7, 8, 9, 10, 11, 24, 25, 26, 41]]
@[go_sem] def l126_12 (_ : Unit) : KL := [kA 45 (.faddr (.t 7) 1),
  kA 46 (.load (.t 45) 1 false),
  kA 47 (.call (n_impl_in) [(.t 46), (.c (.int .i64 (-9999))), (.c (.int .i64 9999))]),
  kA 48 (.mv (.t 47)),
  (⟨(some 49), .faddr (.t 7) 2, (some (48, true))⟩, (some [1, 5, 7, 10, 24, 25, 26, 48, 49])),
  (⟨(some 50), .load (.t 49) 1 false, (some (48, true))⟩, none),
  (⟨(some 51), .bin .eql (.t 50) (cI 0), (some (48, true))⟩, none),
  kA 52 (.pick (.t 48) (.t 51) (.c (.bool false))),
  kA 53 (.mv (.t 52)),
  (⟨(some 54), .faddr (.t 7) 3, (some (53, true))⟩, (some [1, 5, 10, 24, 25, 26, 53, 54])),
  (⟨(some 55), .load (.t 54) 1 false, (some (53, true))⟩, none),
  (⟨(some 56), .bin .eql (.t 55) (cI 0), (some (53, true))⟩, none),
  kA 57 (.pick (.t 53) (.t 56) (.c (.bool false))),
  kB 11 (.mv (.t 57)) [1, 5, 10, 11, 24, 25, 26]]
@[go_sem] def l126_13 (_ : Unit) : KL := [kA 59 (.faddr (.t 7) 0),
  kA 60 (.load (.t 59) 1 false),
  kA 61 (.bin .eql (.t 60) (cI 1)),
  kB 58 (.mv (.t 61)) [1, 5, 6, 7, 8, 9, 10, 11, 24, 25, 26, 58]]
@[go_sem] def l126_14 (_ : Unit) : KL := [kA 62 (.faddr (.t 7) 1),
  kA 63 (.load (.t 62) 1 false),
  kA 64 (.mv (.t 1)),
  kA 65 (.bin .sub (.t 64) (cI 1)),
  kB 66 (.call (n_impl_in) [(.t 63), (cI 0), (.t 65)]) [1, 5, 7, 10, 24, 25, 26, 66],
  kA 67 (.mv (.t 66)),
  (⟨(some 68), .faddr (.t 7) 2, (some (67, true))⟩, none),
  (⟨(some 69), .load (.t 68) 1 false, (some (67, true))⟩, none),
  (⟨(some 70), .bin .eql (.t 69) (cI 0), (some (67, true))⟩, none),
  kB 71 (.pick (.t 67) (.t 70) (.c (.bool false))) [1, 5, 7, 10, 24, 25, 26, 71],
  kA 72 (.mv (.t 71)),
  (⟨(some 73), .faddr (.t 7) 3, (some (72, true))⟩, none),
  (⟨(some 74), .load (.t 73) 1 false, (some (72, true))⟩, none),
  (⟨(some 75), .bin .eql (.t 74) (cI 0), (some (72, true))⟩, none),
  kB 76 (.pick (.t 72) (.t 75) (.c (.bool false))) [1, 5, 10, 24, 25, 26, 76],
  kB 11 (.mv (.t 76)) [1, 5, 10, 11, 24, 25, 26]]
@[go_sem] def l126_15 (_ : Unit) : KL := [kA 78 (.mv (.t 11)),
  kB 77 (.mv (.t 78)) [1, 5, 6, 7, 8, 9, 10, 11, 24, 25, 26, 77]]
@[go_sem] def l126_16 (_ : Unit) : KL := [kA 79 (.faddr (.t 7) 1),
  kA 80 (.load (.t 79) 1 false),
  kA 81 (.bin .eql (.t 80) (cI 0)),
  kA 82 (.mv (.t 81)),
  (⟨(some 83), .faddr (.t 7) 2, (some (82, true))⟩, (some [1, 5, 6, 7, 8, 9, 10, 24, 25, 26, 82, 83])),
  (⟨(some 84), .load (.t 83) 1 false, (some (82, true))⟩, none),
  (⟨(some 85), .mv (.t 6), (some (82, true))⟩, none),
  (⟨(some 86), .bin .sub (.t 85) (cI 1), (some (82, true))⟩, none),
  (⟨(some 87), .call (n_impl_in) [(.t 84), (cI 0), (.t 86)], (some (82, true))⟩, none),
  kB 88 (.pick (.t 82) (.t 87) (.c (.bool false))) [1, 5, 6, 7, 8, 9, 10, 24, 25, 26, 88],
  kA 89 (.mv (.t 88)),
  (⟨(some 90), .faddr (.t 7) 3, (some (89, true))⟩, none),
  (⟨(some 91), .load (.t 90) 1 false, (some (89, true))⟩, none),
  (⟨(some 92), .mv (.t 6), (some (89, true))⟩, none),
  (⟨(some 93), .bin .sub (.t 92) (cI 1), (some (89, true))⟩, (some [1, 5, 7, 8, 9, 10, 24, 25, 26, 89, 91, 93])),
  (⟨(some 94), .call (n_impl_in) [(.t 91), (cI 0), (.t 93)], (some (89, true))⟩, none),
  kA 95 (.pick (.t 89) (.t 94) (.c (.bool false))),
  kA 96 (.mv (.t 95)),
  (⟨(some 97), .mv (.t 5), (some (96, true))⟩, none),
  (⟨(some 98), .faddr (.t 7) 2, (some (96, true))⟩, (some [1, 5, 7, 8, 9, 10, 24, 25, 26, 96, 97, 98])),
  (⟨(some 99), .load (.t 98) 1 false, (some (96, true))⟩, none),
  (⟨(some 100), .iaddr (.t 97) (.t 99) 1, (some (96, true))⟩, none),
  (⟨(some 101), .load (.t 100) 1 false, (some (96, true))⟩, none),
  (⟨(some 102), .mv (.t 9), (some (96, true))⟩, none),
  (⟨(some 103), .bin .eql (.t 101) (.t 102), (some (96, true))⟩, (some [1, 5, 7, 8, 9, 10, 24, 25, 26, 96, 103])),
  kA 104 (.pick (.t 96) (.t 103) (.c (.bool false))),
  kA 105 (.mv (.t 104)),
  (⟨(some 106), .mv (.t 5), (some (105, true))⟩, none),
  (⟨(some 107), .faddr (.t 7) 3, (some (105, true))⟩, none),
  (⟨(some 108), .load (.t 107) 1 false, (some (105, true))⟩, (some [1, 5, 7, 8, 9, 10, 24, 25, 26, 105, 106, 108])),
  (⟨(some 109), .iaddr (.t 106) (.t 108) 1, (some (105, true))⟩, none),
  (⟨(some 110), .load (.t 109) 1 false, (some (105, true))⟩, none),
  (⟨(some 111), .mv (.t 9), (some (105, true))⟩, none),
  (⟨(some 112), .bin .eql (.t 110) (.t 111), (some (105, true))⟩, none),
  kB 113 (.pick (.t 105) (.t 112) (.c (.bool false))) [1, 5, 7, 8, 10, 24, 25, 26, 113],
  kA 114 (.mv (.t 113)),
  (⟨(some 115), .mv (.t 8), (some (114, true))⟩, none),
  (⟨(some 116), .bin .eql (.t 115) (.c (.int .i64 2)), (some (114, true))⟩, none),
  (⟨(some 117), .mv (.t 116), (some (114, true))⟩, none),
  (⟨(some 118), .faddr (.t 7) 2, (some (117, false))⟩, (some [1, 5, 7, 10, 24, 25, 26, 114, 117, 118])),
  (⟨(some 119), .load (.t 118) 1 false, (some (117, false))⟩, none),
  (⟨(some 120), .faddr (.t 7) 3, (some (117, false))⟩, none),
  (⟨(some 121), .load (.t 120) 1 false, (some (117, false))⟩, none),
  (⟨(some 122), .bin .eql (.t 119) (.t 121), (some (117, false))⟩, none),
  (⟨(some 123), .pick (.t 117) (.c (.bool true)) (.t 122), (some (114, true))⟩, (some [1, 5, 10, 24, 25, 26, 114, 123])),
  kA 124 (.pick (.t 114) (.t 123) (.c (.bool false))),
  kB 11 (.mv (.t 124)) [1, 5, 10, 11, 24, 25, 26]]
@[go_sem] def s126_17 (_ : Unit) : IR := (sQ [(kT l126_15), (.cond (.t 77) (kT l126_16) .skip)])
@[go_sem] def s126_18 (_ : Unit) : IR := (sQ [(kT l126_13), (.cond (.t 58) (kT l126_14) (tH s126_17))])
@[go_sem] def s126_19 (_ : Unit) : IR := (sQ [(kT l126_11), (.cond (.t 41) (kT l126_12) (tH s126_18))])
@[go_sem] def s126_20 (_ : Unit) : IR := (.block 2 (tH s126_19))
@[go_sem] def l126_21 (_ : Unit) : KL := [kA 125 (.mv (.t 11)),
  kB 126 (.un .not (.t 125)) [1, 5, 10, 24, 25, 26, 126]]
@[go_sem] def l126_22 (_ : Unit) : KL := [kB 4 (.mv (.c (.sl none 0 0 true 0))) [4]]
@[go_sem] def s126_23 (_ : Unit) : IR := (sQ [(kT l126_22), .ret])
@[go_sem] def s126_24 (_ : Unit) : IR := (sQ [(kT l126_21), (.cond (.t 126) (tH s126_23) .skip)])
@[go_sem] def l126_25 (_ : Unit) : KL := [kA 127 (.mv (.t 5)),
  kA 128 (.mv (.t 10)),
  kA 129 (.bslc 1 1 [(.int .i64 0)] [(0, (.t 128))]),
  kA 130 (.app 1 8 (.t 127) (.t 129)),
  kB 5 (.mv (.t 130)) [1, 5, 24, 25, 26]]
@[go_sem] def s126_26 (_ : Unit) : IR := (sQ [(kT l126_8), (kT l126_9), (kT l126_10), (tH s126_20), (tH s126_24), (kT l126_25)])
@[go_sem] def s126_27 (_ : Unit) : IR := (.block 1 (tH s126_26))
@[go_sem] def l126_28 (_ : Unit) : KL := [kA 131 (.bin .add (.t 26) (cI 1)),
  kB 26 (.mv (.t 131)) [1, 5, 24, 25, 26]]
@[go_sem] def s126_29 (_ : Unit) : IR := (sQ [(kT l126_7), (.cond (.t 27) .skip (.exit 0)), (tH s126_27), (kT l126_28)])
@[go_sem] def s126_30 (_ : Unit) : IR := (.loop (tH s126_29))
@[go_sem] def s126_31 (_ : Unit) : IR := (.block 0 (tH s126_30))
@[go_sem] def s126_32 (_ : Unit) : IR := (sQ [(kT l126_6), (tH s126_31)])
@[go_sem] def l126_33 (_ : Unit) : KL := [kA 132 (.mv (.t 5)),
  kB 4 (.mv (.t 132)) [4]]
@[go_sem] def s126_34 (_ : Unit) : IR := (sQ [(kT l126_0), (tH s126_4), (kT l126_5), (tH s126_32), (kT l126_33), .ret])
theorem c126 : compFn Tryz.prog [(0, [], [oS [0, 1]]), (1, [], [oN, oN, oN, oN, oS [0, 1, 15, 16], oN, oN, oN, oS [0, 1, 20]]), (2, [], [oS [4]]), (3, [], [oN, oN, oN, oS [0, 1, 5]]), (4, [], [oN, oN, oS [1, 5, 24, 25, 26]]), (5, [], [oS [1, 5, 24, 25, 26, 27]]), (6, [], [oN, oN, oN, oN, oS [1, 5, 6, 7, 24, 25, 26, 30], oS [1, 5, 6, 7, 24, 25, 26]]), (7, [], [oN, oN, oN, oN, oS [1, 5, 6, 7, 24, 25, 26, 31, 35], oN, oN, oN, oN, oS [1, 5, 6, 7, 8, 9, 10, 24, 25, 26]]), (8, [], [oN, oN, oN, oS [1, 5, 6, 7, 8, 9, 10, 11, 24, 25, 26]]), (9, [], [oN, oN, oN, oS [1, 5, 6, 7, 8, 9, 10, 11, 24, 25, 26, 41]]), (10, [], [oN, oN, oN, oN, oS [1, 5, 7, 10, 24, 25, 26, 48, 49], oN, oN, oN, oN, oS [1, 5, 10, 24, 25, 26, 53, 54], oN, oN, oN, oS [1, 5, 10, 11, 24, 25, 26]]), (11, [], [oN, oN, oN, oS [1, 5, 6, 7, 8, 9, 10, 11, 24, 25, 26, 58]]), (12, [], [oN, oN, oN, oN, oS [1, 5, 7, 10, 24, 25, 26, 66], oN, oN, oN, oN, oS [1, 5, 7, 10, 24, 25, 26, 71], oN, oN, oN, oN, oS [1, 5, 10, 24, 25, 26, 76], oS [1, 5, 10, 11, 24, 25, 26]]), (13, [], [oN, oS [1, 5, 6, 7, 8, 9, 10, 11, 24, 25, 26, 77]]), (14, [], [oN, oN, oN, oN, oS [1, 5, 6, 7, 8, 9, 10, 24, 25, 26, 82, 83], oN, oN, oN, oN, oS [1, 5, 6, 7, 8, 9, 10, 24, 25, 26, 88], oN, oN, oN, oN, oS [1, 5, 7, 8, 9, 10, 24, 25, 26, 89, 91, 93], oN, oN, oN, oN, oS [1, 5, 7, 8, 9, 10, 24, 25, 26, 96, 97, 98], oN, oN, oN, oN, oS [1, 5, 7, 8, 9, 10, 24, 25, 26, 96, 103], oN, oN, oN, oN, oS [1, 5, 7, 8, 9, 10, 24, 25, 26, 105, 106, 108], oN, oN, oN, oN, oS [1, 5, 7, 8, 10, 24, 25, 26, 113], oN, oN, oN, oN, oS [1, 5, 7, 10, 24, 25, 26, 114, 117, 118], oN, oN, oN, oN, oS [1, 5, 10, 24, 25, 26, 114, 123], oN, oS [1, 5, 10, 11, 24, 25, 26]]), (15, [], [oN, oS [1, 5, 10, 24, 25, 26, 126]]), (16, [], [oS [4]]), (17, [], [oN, oN, oN, oN, oS [1, 5, 24, 25, 26]]), (18, [], [oN, oS [1, 5, 24, 25, 26]]), (19, [], [oN, oS [4]])] Tryz.f126 = some ⟨2, 133, [.t 4], (tH s126_34)⟩ := by kernel_rfl
theorem v_impl_kindsOf (hl : vs.length = 2) (h : wpV Tryz.prog (tH s126_34) (postV [.t 4] RV) (envV vs) M) : VCall Tryz.prog n_impl_kindsOf vs M RV :=
  vcall_of_wp (fun _ _ _ hl h => acall_of_wp mixed Tryz.func126 c126 (by kernel_rfl) hl h) hl h
@[go_sem] def l107_0 (_ : Unit) : KL := [kB 4 (.mv (cI 0)) [0, 1]]
@[go_sem] def l107_1 (_ : Unit) : KL := [kA 6 (.mv (.t 0)),
  kA 7 (.mv (.t 1)),
  kA 8 (.call (n_impl_kindsOf) [(.t 6), (.t 7)]),
  kB 5 (.mv (.t 8)) [5]]
@[go_sem] def l107_2 (_ : Unit) : KL := [kA 9 (.mv (.t 5)),
  kB 10 (.eqn false .sl (.t 9)) [5, 10]]
@[go_sem] def l107_3 (_ : Unit) : KL := [kB 4 (.mv (cI 0)) [4]]
@[go_sem] def s107_4 (_ : Unit) : IR := (sQ [(kT l107_3), .ret])
@[go_sem] def s107_5 (_ : Unit) : IR := (sQ [(kT l107_2), (.cond (.t 10) (tH s107_4) .skip)])
@[go_sem] def l107_6 (_ : Unit) : KL := [kA 11 (.mv (.t 5)),
  kA 12 (.mv (.t 5)),
  kA 13 (.len (.t 12)),
  kA 14 (.bin .sub (.t 13) (cI 1)),
  kB 15 (.iaddr (.t 11) (.t 14) 1) [15],
  kA 16 (.load (.t 15) 1 false),
  kB 4 (.mv (.t 16)) [4]]
@[go_sem] def s107_7 (_ : Unit) : IR := (sQ [(kT l107_0), (kT l107_1), (tH s107_5), (kT l107_6), .ret])
theorem c107 : compFn Tryz.prog [(0, [], [oS [0, 1]]), (1, [], [oN, oN, oN, oS [5]]), (2, [], [oN, oS [5, 10]]), (3, [], [oS [4]]), (4, [], [oN, oN, oN, oN, oS [15], oN, oS [4]])] Tryz.f107 = some ⟨2, 17, [.t 4], (tH s107_7)⟩ := by kernel_rfl
theorem v_impl_kindOf (hl : vs.length = 2) (h : wpV Tryz.prog (tH s107_7) (postV [.t 4] RV) (envV vs) M) : VCall Tryz.prog n_impl_kindOf vs M RV :=
  vcall_of_wp (fun _ _ _ hl h => acall_of_wp mixed Tryz.func107 c107 (by kernel_rfl) hl h) hl h
@[go_sem] def l67_0 (_ : Unit) : KL := [kA 2 (.box (.t 0)),
  kB 4 (.mv (.c (.bool false))) [1, 2]]
@[go_sem] def l67_1 (_ : Unit) : KL := [kA 7 (.faddr (.t 2) 0),
  kA 8 (.load (.t 7) 1 false),
  kA 9 (.mv (.t 1)),
  kA 10 (.call (n_impl_kindOf) [(.t 8), (.t 9)]),
  kB 11 (.bin .neq (.t 10) (.c (.int .i64 2))) [1, 2, 11],
  kA 12 (.mv (.t 11)),
  (⟨(some 13), .faddr (.t 2) 1, (some (12, false))⟩, none),
  (⟨(some 14), .load (.t 13) 1 false, (some (12, false))⟩, none),
  (⟨(some 15), .len (.t 14), (some (12, false))⟩, none),
  (⟨(some 16), .faddr (.t 2) 2, (some (12, false))⟩, (some [1, 2, 12, 15, 16])),
  (⟨(some 17), .load (.t 16) 1 false, (some (12, false))⟩, none),
  (⟨(some 18), .len (.t 17), (some (12, false))⟩, none),
  (⟨(some 19), .bin .neq (.t 15) (.t 18), (some (12, false))⟩, none),
  kB 20 (.pick (.t 12) (.c (.bool true)) (.t 19)) [1, 2, 20]]
@[go_sem] def l67_2 (_ : Unit) : KL := [kB 4 (.mv (.c (.bool false))) [4]]
@[go_sem] def s67_3 (_ : Unit) : IR := (sQ [(kT l67_2), .ret])
@[go_sem] def s67_4 (_ : Unit) : IR := (sQ [(kT l67_1), (.cond (.t 20) (tH s67_3) .skip)])
@[go_sem] def l67_5 (_ : Unit) : KL := [kA 21 (.faddr (.t 2) 1),
  kA 22 (.load (.t 21) 1 false),
  kA 23 (.len (.t 22)),
  kB 24 (.mv (cI 0)) [1, 2, 22, 23, 24]]
@[go_sem] def l67_6 (_ : Unit) : KL := [kB 25 (.bin .lss (.t 24) (.t 23)) [1, 2, 22, 23, 24, 25]]
@[go_sem] def l67_7 (_ : Unit) : KL := [kA 26 (.mv (.t 24)),
  kA 27 (.iaddr (.t 22) (.t 24) 1),
  kA 28 (.load (.t 27) 1 false),
  kA 5 (.mv (.t 26)),
  kB 6 (.mv (.t 28)) [1, 2, 5, 6, 22, 23, 24]]
@[go_sem] def l67_8 (_ : Unit) : KL := [kA 29 (.mv (.t 6)),
  kA 30 (.mv (.t 1)),
  kA 31 (.bin .sub (.t 30) (cI 1)),
  kA 32 (.call (n_impl_in) [(.t 29), (cI 0), (.t 31)]),
  kB 33 (.un .not (.t 32)) [1, 2, 5, 6, 22, 23, 24, 33],
  kA 34 (.mv (.t 33)),
  (⟨(some 35), .mv (.t 5), (some (34, false))⟩, none),
  (⟨(some 36), .bin .gtr (.t 35) (cI 0), (some (34, false))⟩, none),
  (⟨(some 37), .mv (.t 36), (some (34, false))⟩, none),
  (⟨(some 38), .faddr (.t 2) 1, (some (37, true))⟩, (some [1, 2, 5, 6, 22, 23, 24, 34, 37, 38])),
  (⟨(some 39), .load (.t 38) 1 false, (some (37, true))⟩, none),
  (⟨(some 40), .mv (.t 5), (some (37, true))⟩, none),
  (⟨(some 41), .bin .sub (.t 40) (cI 1), (some (37, true))⟩, none),
  (⟨(some 42), .iaddr (.t 39) (.t 41) 1, (some (37, true))⟩, none),
  (⟨(some 43), .load (.t 42) 1 false, (some (37, true))⟩, (some [1, 2, 5, 6, 22, 23, 24, 34, 37, 43])),
  (⟨(some 44), .mv (.t 6), (some (37, true))⟩, none),
  (⟨(some 45), .bin .geq (.t 43) (.t 44), (some (37, true))⟩, none),
  (⟨(some 46), .pick (.t 37) (.t 45) (.c (.bool false)), (some (34, false))⟩, none),
  kA 47 (.pick (.t 34) (.c (.bool true)) (.t 46)),
  kB 48 (.mv (.t 47)) [1, 2, 5, 22, 23, 24, 48],
  (⟨(some 49), .faddr (.t 2) 2, (some (48, false))⟩, none),
  (⟨(some 50), .load (.t 49) 1 false, (some (48, false))⟩, none),
  (⟨(some 51), .mv (.t 5), (some (48, false))⟩, none),
  (⟨(some 52), .iaddr (.t 50) (.t 51) 1, (some (48, false))⟩, none),
  (⟨(some 53), .load (.t 52) 1 false, (some (48, false))⟩, (some [1, 2, 22, 23, 24, 48, 53])),
  (⟨(some 54), .mv (.t 1), (some (48, false))⟩, none),
  (⟨(some 55), .call (n_impl_kindOf) [(.t 53), (.t 54)], (some (48, false))⟩, none),
  (⟨(some 56), .bin .neq (.t 55) (cI 1), (some (48, false))⟩, none),
  kB 57 (.pick (.t 48) (.c (.bool true)) (.t 56)) [1, 2, 22, 23, 24, 57]]
@[go_sem] def l67_9 (_ : Unit) : KL := [kB 4 (.mv (.c (.bool false))) [4]]
@[go_sem] def s67_10 (_ : Unit) : IR := (sQ [(kT l67_9), .ret])
@[go_sem] def s67_11 (_ : Unit) : IR := (sQ [(kT l67_7), (kT l67_8), (.cond (.t 57) (tH s67_10) .skip)])
@[go_sem] def s67_12 (_ : Unit) : IR := (.block 1 (tH s67_11))
@[go_sem] def l67_13 (_ : Unit) : KL := [kA 58 (.bin .add (.t 24) (cI 1)),
  kB 24 (.mv (.t 58)) [1, 2, 22, 23, 24]]
@[go_sem] def s67_14 (_ : Unit) : IR := (sQ [(kT l67_6), (.cond (.t 25) .skip (.exit 0)), (tH s67_12), (kT l67_13)])
@[go_sem] def s67_15 (_ : Unit) : IR := (.loop (tH s67_14))
@[go_sem] def s67_16 (_ : Unit) : IR := (.block 0 (tH s67_15))
@[go_sem] def s67_17 (_ : Unit) : IR := (sQ [(kT l67_5), (tH s67_16)])
@[go_sem] def l67_18 (_ : Unit) : KL := [kB 4 (.mv (.c (.bool true))) [4]]
@[go_sem] def s67_19 (_ : Unit) : IR := (sQ [(kT l67_0), (tH s67_4), (tH s67_17), (kT l67_18), .ret])
theorem c67 : compFn Tryz.prog [(0, [], [oN, oS [1, 2]]), (1, [], [oN, oN, oN, oN, oS [1, 2, 11], oN, oN, oN, oN, oS [1, 2, 12, 15, 16], oN, oN, oN, oS [1, 2, 20]]), (2, [], [oS [4]]), (3, [], [oN, oN, oN, oS [1, 2, 22, 23, 24]]), (4, [], [oS [1, 2, 22, 23, 24, 25]]), (5, [], [oN, oN, oN, oN, oS [1, 2, 5, 6, 22, 23, 24]]), (6, [], [oN, oN, oN, oN, oS [1, 2, 5, 6, 22, 23, 24, 33], oN, oN, oN, oN, oS [1, 2, 5, 6, 22, 23, 24, 34, 37, 38], oN, oN, oN, oN, oS [1, 2, 5, 6, 22, 23, 24, 34, 37, 43], oN, oN, oN, oN, oS [1, 2, 5, 22, 23, 24, 48], oN, oN, oN, oN, oS [1, 2, 22, 23, 24, 48, 53], oN, oN, oN, oS [1, 2, 22, 23, 24, 57]]), (7, [], [oS [4]]), (8, [], [oN, oS [1, 2, 22, 23, 24]]), (9, [], [oS [4]])] Tryz.f67 = some ⟨2, 59, [.t 4], (tH s67_19)⟩ := by kernel_rfl
theorem v_impl_ruleOk (hl : vs.length = 2) (h : wpV Tryz.prog (tH s67_19) (postV [.t 4] RV) (envV vs) M) : VCall Tryz.prog n_impl_ruleOk vs M RV :=
  vcall_of_wp (fun _ _ _ hl h => acall_of_wp mixed Tryz.func67 c67 (by kernel_rfl) hl h) hl h
@[go_sem] def l66_0 (_ : Unit) : KL := [kA 2 (.box (.t 0)),
  kB 3 (.mv (.c (.bool false))) [1, 2]]
@[go_sem] def l66_1 (_ : Unit) : KL := [kA 4 (.load (.t 2) 3 true),
  kA 5 (.faddr (.t 1) 0),
  kA 6 (.load (.t 5) 1 false),
  kA 7 (.len (.t 6)),
  kB 8 (.call (n_impl_ruleOk) [(.t 4), (.t 7)]) [8],
  kA 9 (.un .not (.t 8)),
  kB 3 (.mv (.t 9)) [3]]
@[go_sem] def s66_2 (_ : Unit) : IR := (sQ [(kT l66_0), (kT l66_1), .ret])
theorem c66 : compFn Tryz.prog [(0, [], [oN, oS [1, 2]]), (1, [], [oN, oN, oN, oN, oS [8], oN, oS [3]])] Tryz.f66 = some ⟨2, 10, [.t 3], (tH s66_2)⟩ := by kernel_rfl
theorem v_impl_SystemValid_2 (hl : vs.length = 2) (h : wpV Tryz.prog (tH s66_2) (postV [.t 3] RV) (envV vs) M) : VCall Tryz.prog n_impl_SystemValid_2 vs M RV :=
  vcall_of_wp (fun _ _ _ hl h => acall_of_wp mixed Tryz.func66 c66 (by kernel_rfl) hl h) hl h
@[go_sem] def l106_0 (_ : Unit) : KL := [kB 4 (.mv (cI 0)) [0, 1]]
@[go_sem] def l106_1 (_ : Unit) : KL := [kA 6 (.mv (.t 0)),
  kA 7 (.len (.t 6)),
  kB 8 (.mv (cI 0)) [0, 1, 7, 8]]
@[go_sem] def l106_2 (_ : Unit) : KL := [kB 9 (.bin .lss (.t 8) (.t 7)) [0, 1, 7, 8, 9]]
@[go_sem] def l106_3 (_ : Unit) : KL := [kA 10 (.mv (.t 8)),
  kB 5 (.mv (.t 10)) [0, 1, 5, 7, 8]]
@[go_sem] def l106_4 (_ : Unit) : KL := [kA 11 (.mv (.t 1)),
  kA 12 (.mv (.t 0)),
  kA 13 (.mv (.t 5)),
  kA 14 (.iaddr (.t 12) (.t 13) 3),
  kB 15 (.load (.t 14) 3 true) [0, 1, 5, 7, 8, 11, 15],
  kB 16 (.callv (.t 11) [(.t 15)]) [0, 1, 5, 7, 8, 16]]
@[go_sem] def l106_5 (_ : Unit) : KL := [kA 17 (.mv (.t 5)),
  kB 4 (.mv (.t 17)) [4]]
@[go_sem] def s106_6 (_ : Unit) : IR := (sQ [(kT l106_5), .ret])
@[go_sem] def s106_7 (_ : Unit) : IR := (sQ [(kT l106_3), (kT l106_4), (.cond (.t 16) (tH s106_6) .skip)])
@[go_sem] def s106_8 (_ : Unit) : IR := (.block 1 (tH s106_7))
@[go_sem] def l106_9 (_ : Unit) : KL := [kA 18 (.bin .add (.t 8) (cI 1)),
  kB 8 (.mv (.t 18)) [0, 1, 7, 8]]
@[go_sem] def s106_10 (_ : Unit) : IR := (sQ [(kT l106_2), (.cond (.t 9) .skip (.exit 0)), (tH s106_8), (kT l106_9)])
@[go_sem] def s106_11 (_ : Unit) : IR := (.loop (tH s106_10))
@[go_sem] def s106_12 (_ : Unit) : IR := (.block 0 (tH s106_11))
@[go_sem] def s106_13 (_ : Unit) : IR := (sQ [(kT l106_1), (tH s106_12)])
@[go_sem] def l106_14 (_ : Unit) : KL := [kB 4 (.mv (.c (.int .i64 (-1)))) [4]]
@[go_sem] def s106_15 (_ : Unit) : IR := (sQ [(kT l106_0), (tH s106_13), (kT l106_14), .ret])
theorem c106 : compFn Tryz.prog [(0, [], [oS [0, 1]]), (1, [], [oN, oN, oS [0, 1, 7, 8]]), (2, [], [oS [0, 1, 7, 8, 9]]), (3, [], [oN, oS [0, 1, 5, 7, 8]]), (4, [], [oN, oN, oN, oN, oS [0, 1, 5, 7, 8, 11, 15], oS [0, 1, 5, 7, 8, 16]]), (5, [], [oN, oS [4]]), (6, [], [oN, oS [0, 1, 7, 8]]), (7, [], [oS [4]])] Tryz.f106 = some ⟨2, 19, [.t 4], (tH s106_15)⟩ := by kernel_rfl
theorem v_slices_IndexFunc_Simpl_Rule_impl_Rule (hl : vs.length = 2) (h : wpV Tryz.prog (tH s106_15) (postV [.t 4] RV) (envV vs) M) : VCall Tryz.prog n_slices_IndexFunc_Simpl_Rule_impl_Rule vs M RV :=
  vcall_of_wp (fun _ _ _ hl h => acall_of_wp mixed Tryz.func106 c106 (by kernel_rfl) hl h) hl h
@[go_sem] def l65_0 (_ : Unit) : KL := [kB 4 (.mv (.c (.bool false))) [0, 1]]
@[go_sem] def l65_1 (_ : Unit) : KL := [kA 5 (.mv (.t 0)),
  kA 6 (.mv (.t 1)),
  kA 7 (.call (n_slices_IndexFunc_Simpl_Rule_impl_Rule) [(.t 5), (.t 6)]),
  kA 8 (.bin .geq (.t 7) (cI 0)),
  kB 4 (.mv (.t 8)) [4]]
@[go_sem] def s65_2 (_ : Unit) : IR := (sQ [(kT l65_0), (kT l65_1), .ret])
theorem c65 : compFn Tryz.prog [(0, [], [oS [0, 1]]), (1, [], [oN, oN, oN, oN, oS [4]])] Tryz.f65 = some ⟨2, 9, [.t 4], (tH s65_2)⟩ := by kernel_rfl
theorem v_slices_ContainsFunc_Simpl_Rule_impl_Rule (hl : vs.length = 2) (h : wpV Tryz.prog (tH s65_2) (postV [.t 4] RV) (envV vs) M) : VCall Tryz.prog n_slices_ContainsFunc_Simpl_Rule_impl_Rule vs M RV :=
  vcall_of_wp (fun _ _ _ hl h => acall_of_wp mixed Tryz.func65 c65 (by kernel_rfl) hl h) hl h
@[go_sem] def l26_0 (_ : Unit) : KL := [kA 1 (.box (.t 0)),
  kB 2 (.mv (.c (.bool false))) [1]]
@[go_sem] def l26_1 (_ : Unit) : KL := [kA 3 (.faddr (.t 1) 0),
  kA 4 (.load (.t 3) 1 false),
  kA 5 (.len (.t 4)),
  kA 6 (.call (n_impl_in) [(.t 5), (cI 1), (.c (.int .i64 5))]),
  kB 7 (.un .not (.t 6)) [1, 7],
  kA 8 (.mv (.t 7)),
  (⟨(some 9), .faddr (.t 1) 1, (some (8, false))⟩, none),
  (⟨(some 10), .load (.t 9) 1 false, (some (8, false))⟩, none),
  (⟨(some 11), .len (.t 10), (some (8, false))⟩, none),
  (⟨(some 12), .bin .gtr (.t 11) (.c (.int .i64 8)), (some (8, false))⟩, (some [1, 8, 12])),
  kA 13 (.pick (.t 8) (.c (.bool true)) (.t 12)),
  kA 14 (.mv (.t 13)),
  (⟨(some 15), .faddr (.t 1) 0, (some (14, false))⟩, none),
  (⟨(some 16), .load (.t 15) 1 false, (some (14, false))⟩, none),
  (⟨(some 17), .call (n_slices_ContainsFunc_Simpl_Var_impl_Var) [(.t 16), (.c (.fn (n_impl_SystemValid_1) []))], (some (14, false))⟩, (some [1, 14, 17])),
  kA 18 (.pick (.t 14) (.c (.bool true)) (.t 17)),
  kA 19 (.mv (.t 18)),
  (⟨(some 20), .faddr (.t 1) 0, (some (19, false))⟩, none),
  (⟨(some 21), .load (.t 20) 1 false, (some (19, false))⟩, none),
  (⟨(some 22), .call (n_impl_size) [(.t 21)], (some (19, false))⟩, (some [1, 19, 22])),
  (⟨(some 23), .bin .gtr (.t 22) (.c (.int .i64 400)), (some (19, false))⟩, none),
  kB 24 (.pick (.t 19) (.c (.bool true)) (.t 23)) [1, 24]]
@[go_sem] def l26_2 (_ : Unit) : KL := [kB 2 (.mv (.c (.bool false))) [2]]
@[go_sem] def s26_3 (_ : Unit) : IR := (sQ [(kT l26_2), .ret])
@[go_sem] def s26_4 (_ : Unit) : IR := (sQ [(kT l26_1), (.cond (.t 24) (tH s26_3) .skip)])
@[go_sem] def l26_5 (_ : Unit) : KL := [kA 25 (.faddr (.t 1) 1),
  kA 26 (.load (.t 25) 1 false),
  kA 27 (.mkfn (n_impl_SystemValid_2) [(.t 1)]),
  kA 28 (.call (n_slices_ContainsFunc_Simpl_Rule_impl_Rule) [(.t 26), (.t 27)]),
  kB 29 (.un .not (.t 28)) [29],
  kB 2 (.mv (.t 29)) [2]]
@[go_sem] def s26_6 (_ : Unit) : IR := (sQ [(kT l26_0), (tH s26_4), (kT l26_5), .ret])
theorem c26 : compFn Tryz.prog [(0, [], [oN, oS [1]]), (1, [], [oN, oN, oN, oN, oS [1, 7], oN, oN, oN, oN, oS [1, 8, 12], oN, oN, oN, oN, oS [1, 14, 17], oN, oN, oN, oN, oS [1, 19, 22], oN, oS [1, 24]]), (2, [], [oS [2]]), (3, [], [oN, oN, oN, oN, oS [29], oS [2]])] Tryz.f26 = some ⟨1, 30, [.t 2], (tH s26_6)⟩ := by kernel_rfl
theorem v_impl_SystemValid (hl : vs.length = 1) (h : wpV Tryz.prog (tH s26_6) (postV [.t 2] RV) (envV vs) M) : VCall Tryz.prog n_impl_SystemValid vs M RV :=
  vcall_of_wp (fun _ _ _ hl h => acall_of_wp mixed Tryz.func26 c26 (by kernel_rfl) hl h) hl h
@[go_sem] def l51_0 (_ : Unit) : KL := [kB 4 (.mv (.c (.bool false))) [0, 1]]
@[go_sem] def l51_1 (_ : Unit) : KL := [kA 7 (.mv (.t 0)),
  kA 8 (.len (.t 7)),
  kB 9 (.mv (cI 0)) [0, 1, 7, 8, 9]]
@[go_sem] def l51_2 (_ : Unit) : KL := [kB 10 (.bin .lss (.t 9) (.t 8)) [0, 1, 7, 8, 9, 10]]
@[go_sem] def l51_3 (_ : Unit) : KL := [kA 11 (.mv (.t 9)),
  kA 12 (.iaddr (.t 7) (.t 9) 1),
  kA 13 (.load (.t 12) 1 false),
  kA 5 (.mv (.t 11)),
  kB 6 (.mv (.t 13)) [0, 1, 5, 6, 7, 8, 9]]
@[go_sem] def l51_4 (_ : Unit) : KL := [kA 14 (.mv (.t 6)),
  kA 15 (.mv (.t 1)),
  kA 16 (.bin .sub (.t 15) (cI 1)),
  kA 17 (.call (n_impl_in) [(.t 14), (cI 0), (.t 16)]),
  kB 18 (.un .not (.t 17)) [0, 1, 5, 6, 7, 8, 9, 18],
  kA 19 (.mv (.t 18)),
  (⟨(some 20), .mv (.t 5), (some (19, false))⟩, none),
  (⟨(some 21), .bin .gtr (.t 20) (cI 0), (some (19, false))⟩, none),
  (⟨(some 22), .mv (.t 21), (some (19, false))⟩, none),
  (⟨(some 23), .mv (.t 0), (some (22, true))⟩, (some [0, 1, 5, 6, 7, 8, 9, 19, 22, 23])),
  (⟨(some 24), .mv (.t 5), (some (22, true))⟩, none),
  (⟨(some 25), .bin .sub (.t 24) (cI 1), (some (22, true))⟩, none),
  (⟨(some 26), .iaddr (.t 23) (.t 25) 1, (some (22, true))⟩, none),
  (⟨(some 27), .load (.t 26) 1 false, (some (22, true))⟩, none),
  (⟨(some 28), .mv (.t 6), (some (22, true))⟩, (some [0, 1, 7, 8, 9, 19, 22, 27, 28])),
  (⟨(some 29), .bin .geq (.t 27) (.t 28), (some (22, true))⟩, none),
  (⟨(some 30), .pick (.t 22) (.t 29) (.c (.bool false)), (some (19, false))⟩, none),
  kB 31 (.pick (.t 19) (.c (.bool true)) (.t 30)) [0, 1, 7, 8, 9, 31]]
@[go_sem] def l51_5 (_ : Unit) : KL := [kB 4 (.mv (.c (.bool false))) [4]]
@[go_sem] def s51_6 (_ : Unit) : IR := (sQ [(kT l51_5), .ret])
@[go_sem] def s51_7 (_ : Unit) : IR := (sQ [(kT l51_3), (kT l51_4), (.cond (.t 31) (tH s51_6) .skip)])
@[go_sem] def s51_8 (_ : Unit) : IR := (.block 1 (tH s51_7))
@[go_sem] def l51_9 (_ : Unit) : KL := [kA 32 (.bin .add (.t 9) (cI 1)),
  kB 9 (.mv (.t 32)) [0, 1, 7, 8, 9]]
@[go_sem] def s51_10 (_ : Unit) : IR := (sQ [(kT l51_2), (.cond (.t 10) .skip (.exit 0)), (tH s51_8), (kT l51_9)])
@[go_sem] def s51_11 (_ : Unit) : IR := (.loop (tH s51_10))
@[go_sem] def s51_12 (_ : Unit) : IR := (.block 0 (tH s51_11))
@[go_sem] def s51_13 (_ : Unit) : IR := (sQ [(kT l51_1), (tH s51_12)])
@[go_sem] def l51_14 (_ : Unit) : KL := [kB 4 (.mv (.c (.bool true))) [4]]
@[go_sem] def s51_15 (_ : Unit) : IR := (sQ [(kT l51_0), (tH s51_13), (kT l51_14), .ret])
theorem c51 : compFn Tryz.prog [(0, [], [oS [0, 1]]), (1, [], [oN, oN, oS [0, 1, 7, 8, 9]]), (2, [], [oS [0, 1, 7, 8, 9, 10]]), (3, [], [oN, oN, oN, oN, oS [0, 1, 5, 6, 7, 8, 9]]), (4, [], [oN, oN, oN, oN, oS [0, 1, 5, 6, 7, 8, 9, 18], oN, oN, oN, oN, oS [0, 1, 5, 6, 7, 8, 9, 19, 22, 23], oN, oN, oN, oN, oS [0, 1, 7, 8, 9, 19, 22, 27, 28], oN, oN, oS [0, 1, 7, 8, 9, 31]]), (5, [], [oS [4]]), (6, [], [oN, oS [0, 1, 7, 8, 9]]), (7, [], [oS [4]])] Tryz.f51 = some ⟨2, 33, [.t 4], (tH s51_15)⟩ := by kernel_rfl
theorem v_impl_setOk (hl : vs.length = 2) (h : wpV Tryz.prog (tH s51_15) (postV [.t 4] RV) (envV vs) M) : VCall Tryz.prog n_impl_setOk vs M RV :=
  vcall_of_wp (fun _ _ _ hl h => acall_of_wp mixed Tryz.func51 c51 (by kernel_rfl) hl h) hl h
@[go_sem] def l20_0 (_ : Unit) : KL := [kA 2 (.box (.t 0)),
  kB 4 (.mv (.c (.bool false))) [1, 2]]
@[go_sem] def l20_1 (_ : Unit) : KL := [kA 5 (.load (.t 2) 2 true),
  kA 6 (.call (n_impl_SystemValid) [(.t 5)]),
  kA 7 (.mv (.t 6)),
  (⟨(some 8), .mv (.t 1), (some (7, true))⟩, none),
  (⟨(some 9), .faddr (.t 2) 0, (some (7, true))⟩, (some [7, 8, 9])),
  (⟨(some 10), .load (.t 9) 1 false, (some (7, true))⟩, none),
  (⟨(some 11), .call (n_impl_size) [(.t 10)], (some (7, true))⟩, none),
  (⟨(some 12), .call (n_impl_setOk) [(.t 8), (.t 11)], (some (7, true))⟩, none),
  kA 13 (.pick (.t 7) (.t 12) (.c (.bool false))),
  kB 4 (.mv (.t 13)) [4]]
@[go_sem] def s20_2 (_ : Unit) : IR := (sQ [(kT l20_0), (kT l20_1), .ret])
theorem c20 : compFn Tryz.prog [(0, [], [oN, oS [1, 2]]), (1, [], [oN, oN, oN, oN, oS [7, 8, 9], oN, oN, oN, oN, oS [4]])] Tryz.f20 = some ⟨2, 14, [.t 4], (tH s20_2)⟩ := by kernel_rfl
theorem v_impl_SetValid (hl : vs.length = 2) (h : wpV Tryz.prog (tH s20_2) (postV [.t 4] RV) (envV vs) M) : VCall Tryz.prog n_impl_SetValid vs M RV :=
  vcall_of_wp (fun _ _ _ hl h => acall_of_wp mixed Tryz.func20 c20 (by kernel_rfl) hl h) hl h
@[go_sem] def l88_0 (_ : Unit) : KL := [kA 2 (.box (.t 0)),
  kB 4 (.mv (.c (.sl none 0 0 true 0))) [1, 2]]
@[go_sem] def l88_1 (_ : Unit) : KL := [kA 9 (.faddr (.t 2) 0),
  kA 10 (.load (.t 9) 1 false),
  kA 11 (.len (.t 10)),
  kA 12 (.mks [(.int .i64 0)] 8 (.t 11)),
  kB 5 (.mv (.t 12)) [1, 2, 5]]
@[go_sem] def l88_2 (_ : Unit) : KL := [kA 13 (.mv (.t 5)),
  kA 14 (.len (.t 13)),
  kA 15 (.bin .sub (.t 14) (cI 1)),
  kB 6 (.mv (.t 15)) [1, 2, 5, 6]]
@[go_sem] def l88_3 (_ : Unit) : KL := [kA 16 (.mv (.t 6)),
  kB 17 (.bin .geq (.t 16) (cI 0)) [1, 2, 5, 6, 17]]
@[go_sem] def s88_4 (_ : Unit) : IR := (sQ [(kT l88_3), (.cond (.t 17) .skip (.exit 0))])
@[go_sem] def l88_5 (_ : Unit) : KL := [kA 20 (.faddr (.t 2) 0),
  kA 21 (.load (.t 20) 1 false),
  kA 22 (.mv (.t 6)),
  kA 23 (.iaddr (.t 21) (.t 22) 3),
  kB 24 (.load (.t 23) 3 true) [1, 2, 5, 6, 24],
  kA 7 (.alloc [(.int .i64 0), (.int .i64 0), (.int .i64 0)]),
  (⟨none, .store (.t 7) 3 (.t 24), none⟩, (some [1, 2, 5, 6, 7]))]
@[go_sem] def l88_6 (_ : Unit) : KL := [kA 25 (.faddr (.t 7) 1),
  kA 26 (.load (.t 25) 1 false),
  kA 27 (.faddr (.t 7) 0),
  kA 28 (.load (.t 27) 1 false),
  kB 29 (.bin .sub (.t 26) (.t 28)) [1, 2, 5, 6, 7, 29],
  kA 30 (.bin .add (.t 29) (cI 1)),
  kB 8 (.mv (.t 30)) [1, 2, 5, 6, 7, 8]]
@[go_sem] def l88_7 : Nat → GOp
  | 0 => ⟨(some 31), .mv (.t 5), none⟩
  | 1 => ⟨(some 32), .mv (.t 6), none⟩
  | 2 => ⟨(some 33), .faddr (.t 7) 0, none⟩
  | 3 => ⟨(some 34), .load (.t 33) 1 false, none⟩
  | 4 => ⟨(some 35), .mv (.t 1), none⟩
  | 5 => ⟨(some 36), .mv (.t 8), none⟩
  | 6 => ⟨(some 37), .bin .rem (.t 35) (.t 36), none⟩
  | 7 => ⟨(some 38), .bin .add (.t 34) (.t 37), none⟩
  | 8 => ⟨(some 39), .iaddr (.t 31) (.t 32) 1, none⟩
  | 9 => ⟨none, .store (.t 39) 1 (.t 38), none⟩
  | _ => ⟨none, .mkmap, none⟩
@[go_sem] def l88_8 (_ : Unit) : KL := [kA 40 (.mv (.t 1)),
  kA 41 (.mv (.t 8)),
  kA 42 (.bin .quo (.t 40) (.t 41)),
  kB 1 (.mv (.t 42)) [1, 2, 5, 6]]
@[go_sem] def s88_9 (_ : Unit) : IR := (sQ [(kT l88_5), (kT l88_6), (.kd (oF l88_7 10) [(0, []), (1, []), (2, []), (3, []), (4, []), (5, []), (6, []), (7, []), (8, []), (9, [])] [1, 2, 5, 6, 8]), (kT l88_8)])
@[go_sem] def s88_10 (_ : Unit) : IR := (.block 1 (tH s88_9))
@[go_sem] def l88_11 (_ : Unit) : KL := [kA 18 (.mv (.t 6)),
  kA 19 (.bin .sub (.t 18) (cI 1)),
  kB 6 (.mv (.t 19)) [1, 2, 5, 6]]
@[go_sem] def s88_12 (_ : Unit) : IR := (sQ [(tH s88_4), (tH s88_10), (kT l88_11)])
@[go_sem] def s88_13 (_ : Unit) : IR := (.loop (tH s88_12))
@[go_sem] def s88_14 (_ : Unit) : IR := (.block 0 (tH s88_13))
@[go_sem] def s88_15 (_ : Unit) : IR := (sQ [(kT l88_2), (tH s88_14)])
@[go_sem] def l88_16 (_ : Unit) : KL := [kA 43 (.mv (.t 5)),
  kB 4 (.mv (.t 43)) [4]]
@[go_sem] def s88_17 (_ : Unit) : IR := (sQ [(kT l88_0), (kT l88_1), (tH s88_15), (kT l88_16), .ret])
theorem c88 : compFn Tryz.prog [(0, [], [oN, oS [1, 2]]), (1, [], [oN, oN, oN, oN, oS [1, 2, 5]]), (2, [], [oN, oN, oN, oS [1, 2, 5, 6]]), (3, [], [oN, oS [1, 2, 5, 6, 17]]), (5, [], [oN, oN, oN, oN, oS [1, 2, 5, 6, 24], oN, oS [1, 2, 5, 6, 7]]), (6, [], [oN, oN, oN, oN, oS [1, 2, 5, 6, 7, 29], oN, oS [1, 2, 5, 6, 7, 8]]), (7, [(0, []), (1, []), (2, []), (3, []), (4, []), (5, []), (6, []), (7, []), (8, []), (9, [])], [oS [1, 2, 5, 6, 8]]), (8, [], [oN, oN, oN, oS [1, 2, 5, 6]]), (4, [], [oN, oN, oS [1, 2, 5, 6]]), (9, [], [oN, oS [4]])] Tryz.f88 = some ⟨2, 44, [.t 4], (tH s88_17)⟩ := by kernel_rfl
theorem v_impl_stateAt (hl : vs.length = 2) (h : wpV Tryz.prog (tH s88_17) (postV [.t 4] RV) (envV vs) M) : VCall Tryz.prog n_impl_stateAt vs M RV :=
  vcall_of_wp (fun _ _ _ hl h => acall_of_wp mixed Tryz.func88 c88 (by kernel_rfl) hl h) hl h
@[go_sem] def l146_0 (_ : Unit) : KL := [kB 2 (.mv (cI 0)) [0]]
@[go_sem] def l146_1 (_ : Unit) : KL := [kA 3 (.mv (.t 0)),
  kA 4 (.mnx false (.c (.int .i64 9999)) (.t 3)),
  kA 5 (.mnx true (.c (.int .i64 (-9999))) (.t 4)),
  kB 2 (.mv (.t 5)) [2]]
@[go_sem] def s146_2 (_ : Unit) : IR := (sQ [(kT l146_0), (kT l146_1), .ret])
theorem c146 : compFn Tryz.prog [(0, [], [oS [0]]), (1, [], [oN, oN, oN, oS [2]])] Tryz.f146 = some ⟨1, 6, [.t 2], (tH s146_2)⟩ := by kernel_rfl
theorem v_impl_held (hl : vs.length = 1) (h : wpV Tryz.prog (tH s146_2) (postV [.t 2] RV) (envV vs) M) : VCall Tryz.prog n_impl_held vs M RV :=
  vcall_of_wp (fun _ _ _ hl h => acall_of_wp mixed Tryz.func146 c146 (by kernel_rfl) hl h) hl h
@[go_sem] def l147_0 (_ : Unit) : KL := [kB 2 (.mv (cI 0)) [0]]
@[go_sem] def l147_1 (_ : Unit) : KL := [kB 3 (.mv (.t 0)) [3]]
@[go_sem] def l147_2 (_ : Unit) : KL := [kB 2 (.mv (cI 1)) [2]]
@[go_sem] def s147_3 (_ : Unit) : IR := (sQ [(kT l147_2), .ret])
@[go_sem] def s147_4 (_ : Unit) : IR := (sQ [(kT l147_1), (.cond (.t 3) (tH s147_3) .skip)])
@[go_sem] def l147_5 (_ : Unit) : KL := [kB 2 (.mv (cI 0)) [2]]
@[go_sem] def s147_6 (_ : Unit) : IR := (sQ [(kT l147_0), (tH s147_4), (kT l147_5), .ret])
theorem c147 : compFn Tryz.prog [(0, [], [oS [0]]), (1, [], [oS [3]]), (2, [], [oS [2]]), (3, [], [oS [2]])] Tryz.f147 = some ⟨1, 4, [.t 2], (tH s147_6)⟩ := by kernel_rfl
theorem v_impl_bit (hl : vs.length = 1) (h : wpV Tryz.prog (tH s147_6) (postV [.t 2] RV) (envV vs) M) : VCall Tryz.prog n_impl_bit vs M RV :=
  vcall_of_wp (fun _ _ _ hl h => acall_of_wp mixed Tryz.func147 c147 (by kernel_rfl) hl h) hl h
@[go_sem] def l127_0 (_ : Unit) : KL := [kB 6 (.mv (cI 0)) [0, 1, 2]]
@[go_sem] def l127_1 (_ : Unit) : KL := [kB 7 (.mv (.t 0)) [1, 2, 7]]
@[go_sem] def l127_2 (_ : Unit) : KL := [kA 9 (.bin .eql (.t 7) (.c (.int .i64 2))),
  kB 8 (.mv (.t 9)) [1, 2, 7, 8]]
@[go_sem] def l127_3 (_ : Unit) : KL := [kA 10 (.mv (.t 1)),
  kA 11 (.mv (.t 2)),
  kA 12 (.bin .add (.t 10) (.t 11)),
  kA 13 (.call (n_impl_held) [(.t 12)]),
  kB 6 (.mv (.t 13)) [6]]
@[go_sem] def s127_4 (_ : Unit) : IR := (sQ [(kT l127_3), .ret])
@[go_sem] def l127_5 (_ : Unit) : KL := [kA 15 (.bin .eql (.t 7) (.c (.int .i64 3))),
  kB 14 (.mv (.t 15)) [1, 2, 7, 14]]
@[go_sem] def l127_6 (_ : Unit) : KL := [kA 16 (.mv (.t 1)),
  kA 17 (.mv (.t 2)),
  kA 18 (.bin .sub (.t 16) (.t 17)),
  kA 19 (.call (n_impl_held) [(.t 18)]),
  kB 6 (.mv (.t 19)) [6]]
@[go_sem] def s127_7 (_ : Unit) : IR := (sQ [(kT l127_6), .ret])
@[go_sem] def l127_8 (_ : Unit) : KL := [kA 21 (.bin .eql (.t 7) (.c (.int .i64 4))),
  kB 20 (.mv (.t 21)) [1, 2, 7, 20]]
@[go_sem] def l127_9 (_ : Unit) : KL := [kA 22 (.mv (.t 1)),
  kA 23 (.mv (.t 2)),
  kA 24 (.bin .mul (.t 22) (.t 23)),
  kA 25 (.call (n_impl_held) [(.t 24)]),
  kB 6 (.mv (.t 25)) [6]]
@[go_sem] def s127_10 (_ : Unit) : IR := (sQ [(kT l127_9), .ret])
@[go_sem] def l127_11 (_ : Unit) : KL := [kA 27 (.bin .eql (.t 7) (.c (.int .i64 5))),
  kB 26 (.mv (.t 27)) [1, 2, 7, 26]]
@[go_sem] def l127_12 (_ : Unit) : KL := [kA 28 (.mv (.t 1)),
  kA 29 (.mv (.t 2)),
  kA 30 (.bin .lss (.t 28) (.t 29)),
  kA 31 (.call (n_impl_bit) [(.t 30)]),
  kB 6 (.mv (.t 31)) [6]]
@[go_sem] def s127_13 (_ : Unit) : IR := (sQ [(kT l127_12), .ret])
@[go_sem] def l127_14 (_ : Unit) : KL := [kA 33 (.bin .eql (.t 7) (.c (.int .i64 6))),
  kB 32 (.mv (.t 33)) [1, 2, 7, 32]]
@[go_sem] def l127_15 (_ : Unit) : KL := [kA 34 (.mv (.t 1)),
  kA 35 (.mv (.t 2)),
  kA 36 (.bin .eql (.t 34) (.t 35)),
  kA 37 (.call (n_impl_bit) [(.t 36)]),
  kB 6 (.mv (.t 37)) [6]]
@[go_sem] def s127_16 (_ : Unit) : IR := (sQ [(kT l127_15), .ret])
@[go_sem] def l127_17 (_ : Unit) : KL := [kA 39 (.bin .eql (.t 7) (.c (.int .i64 7))),
  kB 38 (.mv (.t 39)) [1, 2, 7, 38]]
@[go_sem] def l127_18 (_ : Unit) : KL := [kA 40 (.mv (.t 1)),
  kA 41 (.bin .sub (cI 1) (.t 40)),
  kB 6 (.mv (.t 41)) [6]]
@[go_sem] def s127_19 (_ : Unit) : IR := (sQ [(kT l127_18), .ret])
@[go_sem] def l127_20 (_ : Unit) : KL := [kA 43 (.bin .eql (.t 7) (.c (.int .i64 8))),
  kB 42 (.mv (.t 43)) [1, 2, 42]]
@[go_sem] def l127_21 (_ : Unit) : KL := [kA 44 (.mv (.t 1)),
  kA 45 (.mv (.t 2)),
  kA 46 (.mnx false (.t 44) (.t 45)),
  kB 6 (.mv (.t 46)) [6]]
@[go_sem] def s127_22 (_ : Unit) : IR := (sQ [(kT l127_21), .ret])
@[go_sem] def s127_23 (_ : Unit) : IR := (sQ [(kT l127_20), (.cond (.t 42) (tH s127_22) .skip)])
@[go_sem] def s127_24 (_ : Unit) : IR := (sQ [(kT l127_17), (.cond (.t 38) (tH s127_19) (tH s127_23))])
@[go_sem] def s127_25 (_ : Unit) : IR := (sQ [(kT l127_14), (.cond (.t 32) (tH s127_16) (tH s127_24))])
@[go_sem] def s127_26 (_ : Unit) : IR := (sQ [(kT l127_11), (.cond (.t 26) (tH s127_13) (tH s127_25))])
@[go_sem] def s127_27 (_ : Unit) : IR := (sQ [(kT l127_8), (.cond (.t 20) (tH s127_10) (tH s127_26))])
@[go_sem] def s127_28 (_ : Unit) : IR := (sQ [(kT l127_5), (.cond (.t 14) (tH s127_7) (tH s127_27))])
@[go_sem] def s127_29 (_ : Unit) : IR := (sQ [(kT l127_2), (.cond (.t 8) (tH s127_4) (tH s127_28))])
@[go_sem] def s127_30 (_ : Unit) : IR := (.block 0 (tH s127_29))
@[go_sem] def s127_31 (_ : Unit) : IR := (sQ [(kT l127_1), (tH s127_30)])
@[go_sem] def l127_32 (_ : Unit) : KL := [kA 47 (.mv (.t 1)),
  kA 48 (.mv (.t 2)),
  kA 49 (.mnx true (.t 47) (.t 48)),
  kB 6 (.mv (.t 49)) [6]]
@[go_sem] def s127_33 (_ : Unit) : IR := (sQ [(kT l127_0), (tH s127_31), (kT l127_32), .ret])
theorem c127 : compFn Tryz.prog [(0, [], [oS [0, 1, 2]]), (1, [], [oS [1, 2, 7]]), (2, [], [oN, oS [1, 2, 7, 8]]), (3, [], [oN, oN, oN, oN, oS [6]]), (4, [], [oN, oS [1, 2, 7, 14]]), (5, [], [oN, oN, oN, oN, oS [6]]), (6, [], [oN, oS [1, 2, 7, 20]]), (7, [], [oN, oN, oN, oN, oS [6]]), (8, [], [oN, oS [1, 2, 7, 26]]), (9, [], [oN, oN, oN, oN, oS [6]]), (10, [], [oN, oS [1, 2, 7, 32]]), (11, [], [oN, oN, oN, oN, oS [6]]), (12, [], [oN, oS [1, 2, 7, 38]]), (13, [], [oN, oN, oS [6]]), (14, [], [oN, oS [1, 2, 42]]), (15, [], [oN, oN, oN, oS [6]]), (16, [], [oN, oN, oN, oS [6]])] Tryz.f127 = some ⟨3, 50, [.t 6], (tH s127_33)⟩ := by kernel_rfl
theorem v_impl_do (hl : vs.length = 3) (h : wpV Tryz.prog (tH s127_33) (postV [.t 6] RV) (envV vs) M) : VCall Tryz.prog n_impl_do vs M RV :=
  vcall_of_wp (fun _ _ _ hl h => acall_of_wp mixed Tryz.func127 c127 (by kernel_rfl) hl h) hl h
@[go_sem] def l108_0 (_ : Unit) : KL := [kB 4 (.mv (cI 0)) [0, 1]]
@[go_sem] def l108_1 (_ : Unit) : KL := [kA 8 (.mv (.t 0)),
  kA 9 (.len (.t 8)),
  kA 10 (.mks [(.int .i64 0)] 8 (.t 9)),
  kB 5 (.mv (.t 10)) [0, 1, 5]]
@[go_sem] def l108_2 (_ : Unit) : KL := [kA 11 (.mv (.t 0)),
  kA 12 (.len (.t 11)),
  kB 13 (.mv (cI 0)) [1, 5, 11, 12, 13]]
@[go_sem] def l108_3 (_ : Unit) : KL := [kB 14 (.bin .lss (.t 13) (.t 12)) [1, 5, 11, 12, 13, 14]]
@[go_sem] def l108_4 (_ : Unit) : KL := [kA 15 (.mv (.t 13)),
  kA 16 (.iaddr (.t 11) (.t 13) 4),
  kA 17 (.load (.t 16) 4 true),
  kA 7 (.alloc [(.int .i64 0), (.int .i64 0), (.int .i64 0), (.int .i64 0)]),
  kB 6 (.mv (.t 15)) [1, 5, 6, 7, 11, 12, 13, 17],
  (⟨none, .store (.t 7) 4 (.t 17), none⟩, (some [1, 5, 6, 7, 11, 12, 13]))]
@[go_sem] def l108_5 (_ : Unit) : KL := [kA 18 (.faddr (.t 7) 0),
  kB 19 (.load (.t 18) 1 false) [1, 5, 6, 7, 11, 12, 13, 19]]
@[go_sem] def l108_6 (_ : Unit) : KL := [kA 37 (.bin .eql (.t 19) (cI 0)),
  kB 36 (.mv (.t 37)) [1, 5, 6, 7, 11, 12, 13, 19, 36]]
@[go_sem] def l108_7 (_ : Unit) : KL := [kA 38 (.mv (.t 5)),
  kA 39 (.mv (.t 6)),
  kA 40 (.faddr (.t 7) 1),
  kA 41 (.load (.t 40) 1 false),
  kB 42 (.iaddr (.t 38) (.t 39) 1) [1, 5, 11, 12, 13, 41, 42],
  (⟨none, .store (.t 42) 1 (.t 41), none⟩, (some [1, 5, 11, 12, 13]))]
@[go_sem] def l108_8 (_ : Unit) : KL := [kA 44 (.bin .eql (.t 19) (cI 1)),
  kB 43 (.mv (.t 44)) [1, 5, 6, 7, 11, 12, 13, 43]]
@[go_sem] def l108_9 (_ : Unit) : KL := [kA 45 (.mv (.t 5)),
  kA 46 (.mv (.t 6)),
  kA 47 (.mv (.t 1)),
  kA 48 (.faddr (.t 7) 1),
  kB 49 (.load (.t 48) 1 false) [1, 5, 11, 12, 13, 45, 46, 47, 49],
  kA 50 (.iaddr (.t 47) (.t 49) 1),
  kA 51 (.load (.t 50) 1 false),
  kA 52 (.iaddr (.t 45) (.t 46) 1),
  (⟨none, .store (.t 52) 1 (.t 51), none⟩, (some [1, 5, 11, 12, 13]))]
@[go_sem] def l108_10 : Nat → GOp
  | 0 => ⟨(some 20), .mv (.t 5), none⟩
  | 1 => ⟨(some 21), .mv (.t 6), none⟩
  | 2 => ⟨(some 22), .faddr (.t 7) 0, none⟩
  | 3 => ⟨(some 23), .load (.t 22) 1 false, none⟩
  | 4 => ⟨(some 24), .mv (.t 5), none⟩
  | 5 => ⟨(some 25), .faddr (.t 7) 2, none⟩
  | 6 => ⟨(some 26), .load (.t 25) 1 false, none⟩
  | 7 => ⟨(some 27), .iaddr (.t 24) (.t 26) 1, none⟩
  | 8 => ⟨(some 28), .load (.t 27) 1 false, none⟩
  | 9 => ⟨(some 29), .mv (.t 5), none⟩
  | 10 => ⟨(some 30), .faddr (.t 7) 3, none⟩
  | 11 => ⟨(some 31), .load (.t 30) 1 false, none⟩
  | 12 => ⟨(some 32), .iaddr (.t 29) (.t 31) 1, none⟩
  | 13 => ⟨(some 33), .load (.t 32) 1 false, none⟩
  | 14 => ⟨(some 34), .call (n_impl_do) [(.t 23), (.t 28), (.t 33)], none⟩
  | 15 => ⟨(some 35), .iaddr (.t 20) (.t 21) 1, none⟩
  | 16 => ⟨none, .store (.t 35) 1 (.t 34), none⟩
  | _ => ⟨none, .mkmap, none⟩
@[go_sem] def s108_11 (_ : Unit) : IR := (sQ [(kT l108_8), (.cond (.t 43) (kT l108_9) (.kd (oF l108_10 17) [(0, []), (1, []), (2, []), (3, []), (4, []), (5, []), (6, []), (7, []), (8, []), (9, []), (10, []), (11, []), (12, []), (13, []), (14, []), (15, []), (16, [])] [1, 5, 11, 12, 13]))])
@[go_sem] def s108_12 (_ : Unit) : IR := (sQ [(kT l108_6), (.cond (.t 36) (kT l108_7) (tH s108_11))])
@[go_sem] def s108_13 (_ : Unit) : IR := (.block 2 (tH s108_12))
@[go_sem] def s108_14 (_ : Unit) : IR := (sQ [(kT l108_4), (kT l108_5), (tH s108_13)])
@[go_sem] def s108_15 (_ : Unit) : IR := (.block 1 (tH s108_14))
@[go_sem] def l108_16 (_ : Unit) : KL := [kA 53 (.bin .add (.t 13) (cI 1)),
  kB 13 (.mv (.t 53)) [1, 5, 11, 12, 13]]
@[go_sem] def s108_17 (_ : Unit) : IR := (sQ [(kT l108_3), (.cond (.t 14) .skip (.exit 0)), (tH s108_15), (kT l108_16)])
@[go_sem] def s108_18 (_ : Unit) : IR := (.loop (tH s108_17))
@[go_sem] def s108_19 (_ : Unit) : IR := (.block 0 (tH s108_18))
@[go_sem] def s108_20 (_ : Unit) : IR := (sQ [(kT l108_2), (tH s108_19)])
@[go_sem] def l108_21 (_ : Unit) : KL := [kA 54 (.mv (.t 5)),
  kA 55 (.mv (.t 5)),
  kA 56 (.len (.t 55)),
  kA 57 (.bin .sub (.t 56) (cI 1)),
  kB 58 (.iaddr (.t 54) (.t 57) 1) [58],
  kA 59 (.load (.t 58) 1 false),
  kB 4 (.mv (.t 59)) [4]]
@[go_sem] def s108_22 (_ : Unit) : IR := (sQ [(kT l108_0), (kT l108_1), (tH s108_20), (kT l108_21), .ret])
theorem c108 : compFn Tryz.prog [(0, [], [oS [0, 1]]), (1, [], [oN, oN, oN, oS [0, 1, 5]]), (2, [], [oN, oN, oS [1, 5, 11, 12, 13]]), (3, [], [oS [1, 5, 11, 12, 13, 14]]), (4, [], [oN, oN, oN, oN, oS [1, 5, 6, 7, 11, 12, 13, 17], oS [1, 5, 6, 7, 11, 12, 13]]), (5, [], [oN, oS [1, 5, 6, 7, 11, 12, 13, 19]]), (7, [], [oN, oS [1, 5, 6, 7, 11, 12, 13, 19, 36]]), (8, [], [oN, oN, oN, oN, oS [1, 5, 11, 12, 13, 41, 42], oS [1, 5, 11, 12, 13]]), (9, [], [oN, oS [1, 5, 6, 7, 11, 12, 13, 43]]), (10, [], [oN, oN, oN, oN, oS [1, 5, 11, 12, 13, 45, 46, 47, 49], oN, oN, oN, oS [1, 5, 11, 12, 13]]), (6, [(0, []), (1, []), (2, []), (3, []), (4, []), (5, []), (6, []), (7, []), (8, []), (9, []), (10, []), (11, []), (12, []), (13, []), (14, []), (15, []), (16, [])], [oS [1, 5, 11, 12, 13]]), (11, [], [oN, oS [1, 5, 11, 12, 13]]), (12, [], [oN, oN, oN, oN, oS [58], oN, oS [4]])] Tryz.f108 = some ⟨2, 60, [.t 4], (tH s108_22)⟩ := by kernel_rfl
theorem v_impl_eval (hl : vs.length = 2) (h : wpV Tryz.prog (tH s108_22) (postV [.t 4] RV) (envV vs) M) : VCall Tryz.prog n_impl_eval vs M RV :=
  vcall_of_wp (fun _ _ _ hl h => acall_of_wp mixed Tryz.func108 c108 (by kernel_rfl) hl h) hl h
@[go_sem] def l37_0 (_ : Unit) : KL := [kB 2 (.mv (.c (.sl none 0 0 true 0))) [0]]
@[go_sem] def l37_1 (_ : Unit) : KL := [kA 4 (.mv (.t 0)),
  kA 5 (.len (.t 4)),
  kB 6 (.bin .eql (.t 5) (cI 0)) [0, 6]]
@[go_sem] def l37_2 (_ : Unit) : KL := [kB 2 (.mv (.c (.sl none 0 0 true 0))) [2]]
@[go_sem] def s37_3 (_ : Unit) : IR := (sQ [(kT l37_2), .ret])
@[go_sem] def s37_4 (_ : Unit) : IR := (sQ [(kT l37_1), (.cond (.t 6) (tH s37_3) .skip)])
@[go_sem] def l37_5 (_ : Unit) : KL := [kA 7 (.mv (.t 0)),
  kA 8 (.len (.t 7)),
  kA 9 (.mks [(.int .i64 0)] 8 (.t 8)),
  kB 3 (.mv (.t 9)) [0, 3]]
@[go_sem] def l37_6 (_ : Unit) : KL := [kA 10 (.mv (.t 3)),
  kA 11 (.mv (.t 0)),
  kB 12 (.copy 1 (.t 10) (.t 11)) [3]]
@[go_sem] def l37_7 (_ : Unit) : KL := [kA 13 (.mv (.t 3)),
  kB 2 (.mv (.t 13)) [2]]
@[go_sem] def s37_8 (_ : Unit) : IR := (sQ [(kT l37_0), (tH s37_4), (kT l37_5), (kT l37_6), (kT l37_7), .ret])
theorem c37 : compFn Tryz.prog [(0, [], [oS [0]]), (1, [], [oN, oN, oS [0, 6]]), (2, [], [oS [2]]), (3, [], [oN, oN, oN, oS [0, 3]]), (4, [], [oN, oN, oS [3]]), (5, [], [oN, oS [2]])] Tryz.f37 = some ⟨1, 14, [.t 2], (tH s37_8)⟩ := by kernel_rfl
theorem v_impl_clone_int (hl : vs.length = 1) (h : wpV Tryz.prog (tH s37_8) (postV [.t 2] RV) (envV vs) M) : VCall Tryz.prog n_impl_clone_int vs M RV :=
  vcall_of_wp (fun _ _ _ hl h => acall_of_wp mixed Tryz.func37 c37 (by kernel_rfl) hl h) hl h
@[go_sem] def l109_0 (_ : Unit) : KL := [kA 2 (.box (.t 0)),
  kB 4 (.mv (.c (.bool false))) [1, 2]]
@[go_sem] def l109_1 (_ : Unit) : KL := [kA 7 (.mv (.t 1)),
  kA 8 (.len (.t 7)),
  kA 9 (.faddr (.t 2) 0),
  kA 10 (.load (.t 9) 1 false),
  kB 11 (.len (.t 10)) [1, 2, 8, 11],
  kB 12 (.bin .neq (.t 8) (.t 11)) [1, 2, 12]]
@[go_sem] def l109_2 (_ : Unit) : KL := [kB 4 (.mv (.c (.bool false))) [4]]
@[go_sem] def s109_3 (_ : Unit) : IR := (sQ [(kT l109_2), .ret])
@[go_sem] def s109_4 (_ : Unit) : IR := (sQ [(kT l109_1), (.cond (.t 12) (tH s109_3) .skip)])
@[go_sem] def l109_5 (_ : Unit) : KL := [kA 13 (.faddr (.t 2) 0),
  kA 14 (.load (.t 13) 1 false),
  kA 15 (.len (.t 14)),
  kB 16 (.mv (cI 0)) [1, 14, 15, 16]]
@[go_sem] def l109_6 (_ : Unit) : KL := [kB 17 (.bin .lss (.t 16) (.t 15)) [1, 14, 15, 16, 17]]
@[go_sem] def l109_7 (_ : Unit) : KL := [kA 18 (.mv (.t 16)),
  kA 19 (.iaddr (.t 14) (.t 16) 3),
  kA 20 (.load (.t 19) 3 true),
  kA 6 (.alloc [(.int .i64 0), (.int .i64 0), (.int .i64 0)]),
  kB 5 (.mv (.t 18)) [1, 5, 6, 14, 15, 16, 20],
  (⟨none, .store (.t 6) 3 (.t 20), none⟩, (some [1, 5, 6, 14, 15, 16]))]
@[go_sem] def l109_8 : Nat → GOp
  | 0 => ⟨(some 21), .mv (.t 1), none⟩
  | 1 => ⟨(some 22), .mv (.t 5), none⟩
  | 2 => ⟨(some 23), .iaddr (.t 21) (.t 22) 1, none⟩
  | 3 => ⟨(some 24), .load (.t 23) 1 false, none⟩
  | 4 => ⟨(some 25), .faddr (.t 6) 0, none⟩
  | 5 => ⟨(some 26), .load (.t 25) 1 false, none⟩
  | 6 => ⟨(some 27), .faddr (.t 6) 1, none⟩
  | 7 => ⟨(some 28), .load (.t 27) 1 false, none⟩
  | 8 => ⟨(some 29), .call (n_impl_in) [(.t 24), (.t 26), (.t 28)], none⟩
  | 9 => ⟨(some 30), .un .not (.t 29), none⟩
  | _ => ⟨none, .mkmap, none⟩
@[go_sem] def l109_9 (_ : Unit) : KL := [kB 4 (.mv (.c (.bool false))) [4]]
@[go_sem] def s109_10 (_ : Unit) : IR := (sQ [(kT l109_9), .ret])
@[go_sem] def s109_11 (_ : Unit) : IR := (sQ [(kT l109_7), (.kd (oF l109_8 10) [(0, []), (1, []), (2, []), (3, []), (4, []), (5, []), (6, []), (7, []), (8, []), (9, [])] [1, 14, 15, 16, 30]), (.cond (.t 30) (tH s109_10) .skip)])
@[go_sem] def s109_12 (_ : Unit) : IR := (.block 1 (tH s109_11))
@[go_sem] def l109_13 (_ : Unit) : KL := [kA 31 (.bin .add (.t 16) (cI 1)),
  kB 16 (.mv (.t 31)) [1, 14, 15, 16]]
@[go_sem] def s109_14 (_ : Unit) : IR := (sQ [(kT l109_6), (.cond (.t 17) .skip (.exit 0)), (tH s109_12), (kT l109_13)])
@[go_sem] def s109_15 (_ : Unit) : IR := (.loop (tH s109_14))
@[go_sem] def s109_16 (_ : Unit) : IR := (.block 0 (tH s109_15))
@[go_sem] def s109_17 (_ : Unit) : IR := (sQ [(kT l109_5), (tH s109_16)])
@[go_sem] def l109_18 (_ : Unit) : KL := [kB 4 (.mv (.c (.bool true))) [4]]
@[go_sem] def s109_19 (_ : Unit) : IR := (sQ [(kT l109_0), (tH s109_4), (tH s109_17), (kT l109_18), .ret])
theorem c109 : compFn Tryz.prog [(0, [], [oN, oS [1, 2]]), (1, [], [oN, oN, oN, oN, oS [1, 2, 8, 11], oS [1, 2, 12]]), (2, [], [oS [4]]), (3, [], [oN, oN, oN, oS [1, 14, 15, 16]]), (4, [], [oS [1, 14, 15, 16, 17]]), (5, [], [oN, oN, oN, oN, oS [1, 5, 6, 14, 15, 16, 20], oS [1, 5, 6, 14, 15, 16]]), (6, [(0, []), (1, []), (2, []), (3, []), (4, []), (5, []), (6, []), (7, []), (8, []), (9, [])], [oS [1, 14, 15, 16, 30]]), (7, [], [oS [4]]), (8, [], [oN, oS [1, 14, 15, 16]]), (9, [], [oS [4]])] Tryz.f109 = some ⟨2, 32, [.t 4], (tH s109_19)⟩ := by kernel_rfl
theorem v_impl_inRange (hl : vs.length = 2) (h : wpV Tryz.prog (tH s109_19) (postV [.t 4] RV) (envV vs) M) : VCall Tryz.prog n_impl_inRange vs M RV :=
  vcall_of_wp (fun _ _ _ hl h => acall_of_wp mixed Tryz.func109 c109 (by kernel_rfl) hl h) hl h
@[go_sem] def l112_0 (_ : Unit) : KL := [kA 3 (.box (.t 0)),
  kA 6 (.mv (.c (.sl none 0 0 true 0))),
  kB 7 (.mv (.c (.bool false))) [1, 2, 3]]
@[go_sem] def l112_1 (_ : Unit) : KL := [kA 12 (.faddr (.t 3) 1),
  kA 13 (.load (.t 12) 1 false),
  kA 14 (.mv (.t 2)),
  kA 15 (.iaddr (.t 13) (.t 14) 3),
  kB 16 (.load (.t 15) 3 true) [1, 3, 16],
  kA 8 (.alloc [(.sl none 0 0 true 0), (.sl none 0 0 true 0), (.sl none 0 0 true 0)]),
  (⟨none, .store (.t 8) 3 (.t 16), none⟩, (some [1, 3, 8]))]
@[go_sem] def l112_2 (_ : Unit) : KL := [kA 17 (.faddr (.t 8) 0),
  kA 18 (.load (.t 17) 1 false),
  kA 19 (.mv (.t 1)),
  kA 20 (.call (n_impl_eval) [(.t 18), (.t 19)]),
  kB 21 (.bin .eql (.t 20) (cI 0)) [1, 3, 8, 21]]
@[go_sem] def l112_3 (_ : Unit) : KL := [kA 6 (.mv (.c (.sl none 0 0 true 0))),
  kB 7 (.mv (.c (.bool false))) [6, 7]]
@[go_sem] def s112_4 (_ : Unit) : IR := (sQ [(kT l112_3), .ret])
@[go_sem] def s112_5 (_ : Unit) : IR := (sQ [(kT l112_2), (.cond (.t 21) (tH s112_4) .skip)])
@[go_sem] def l112_6 (_ : Unit) : KL := [kA 22 (.mv (.t 1)),
  kA 23 (.call (n_impl_clone_int) [(.t 22)]),
  kB 9 (.mv (.t 23)) [1, 3, 8, 9]]
@[go_sem] def l112_7 (_ : Unit) : KL := [kA 24 (.faddr (.t 8) 1),
  kA 25 (.load (.t 24) 1 false),
  kA 26 (.len (.t 25)),
  kB 27 (.mv (cI 0)) [1, 3, 8, 9, 25, 26, 27]]
@[go_sem] def l112_8 (_ : Unit) : KL := [kB 28 (.bin .lss (.t 27) (.t 26)) [1, 3, 8, 9, 25, 26, 27, 28]]
@[go_sem] def l112_9 (_ : Unit) : KL := [kA 29 (.mv (.t 27)),
  kA 30 (.iaddr (.t 25) (.t 27) 1),
  kA 31 (.load (.t 30) 1 false),
  kA 10 (.mv (.t 29)),
  kB 11 (.mv (.t 31)) [1, 3, 8, 9, 10, 11, 25, 26, 27]]
@[go_sem] def l112_10 (_ : Unit) : KL := [kA 32 (.mv (.t 9)),
  kA 33 (.mv (.t 11)),
  kA 34 (.faddr (.t 8) 2),
  kA 35 (.load (.t 34) 1 false),
  kB 36 (.mv (.t 10)) [1, 3, 8, 9, 25, 26, 27, 32, 33, 35, 36],
  kA 37 (.iaddr (.t 35) (.t 36) 1),
  kA 38 (.load (.t 37) 1 false),
  kA 39 (.mv (.t 1)),
  kA 40 (.call (n_impl_eval) [(.t 38), (.t 39)]),
  kB 41 (.iaddr (.t 32) (.t 33) 1) [1, 3, 8, 9, 25, 26, 27, 40, 41],
  (⟨none, .store (.t 41) 1 (.t 40), none⟩, (some [1, 3, 8, 9, 25, 26, 27]))]
@[go_sem] def s112_11 (_ : Unit) : IR := (sQ [(kT l112_9), (kT l112_10)])
@[go_sem] def s112_12 (_ : Unit) : IR := (.block 1 (tH s112_11))
@[go_sem] def l112_13 (_ : Unit) : KL := [kA 42 (.bin .add (.t 27) (cI 1)),
  kB 27 (.mv (.t 42)) [1, 3, 8, 9, 25, 26, 27]]
@[go_sem] def s112_14 (_ : Unit) : IR := (sQ [(kT l112_8), (.cond (.t 28) .skip (.exit 0)), (tH s112_12), (kT l112_13)])
@[go_sem] def s112_15 (_ : Unit) : IR := (.loop (tH s112_14))
@[go_sem] def s112_16 (_ : Unit) : IR := (.block 0 (tH s112_15))
@[go_sem] def s112_17 (_ : Unit) : IR := (sQ [(kT l112_7), (tH s112_16)])
@[go_sem] def l112_18 (_ : Unit) : KL := [kA 43 (.load (.t 3) 2 true),
  kA 44 (.mv (.t 9)),
  kA 45 (.call (n_impl_inRange) [(.t 43), (.t 44)]),
  kB 46 (.un .not (.t 45)) [9, 46]]
@[go_sem] def l112_19 (_ : Unit) : KL := [kA 6 (.mv (.c (.sl none 0 0 true 0))),
  kB 7 (.mv (.c (.bool false))) [6, 7]]
@[go_sem] def s112_20 (_ : Unit) : IR := (sQ [(kT l112_19), .ret])
@[go_sem] def s112_21 (_ : Unit) : IR := (sQ [(kT l112_18), (.cond (.t 46) (tH s112_20) .skip)])
@[go_sem] def l112_22 (_ : Unit) : KL := [kA 47 (.mv (.t 9)),
  kA 6 (.mv (.t 47)),
  kB 7 (.mv (.c (.bool true))) [6, 7]]
@[go_sem] def s112_23 (_ : Unit) : IR := (sQ [(kT l112_0), (kT l112_1), (tH s112_5), (kT l112_6), (tH s112_17), (tH s112_21), (kT l112_22), .ret])
theorem c112 : compFn Tryz.prog [(0, [], [oN, oN, oS [1, 2, 3]]), (1, [], [oN, oN, oN, oN, oS [1, 3, 16], oN, oS [1, 3, 8]]), (2, [], [oN, oN, oN, oN, oS [1, 3, 8, 21]]), (3, [], [oN, oS [6, 7]]), (4, [], [oN, oN, oS [1, 3, 8, 9]]), (5, [], [oN, oN, oN, oS [1, 3, 8, 9, 25, 26, 27]]), (6, [], [oS [1, 3, 8, 9, 25, 26, 27, 28]]), (7, [], [oN, oN, oN, oN, oS [1, 3, 8, 9, 10, 11, 25, 26, 27]]), (8, [], [oN, oN, oN, oN, oS [1, 3, 8, 9, 25, 26, 27, 32, 33, 35, 36], oN, oN, oN, oN, oS [1, 3, 8, 9, 25, 26, 27, 40, 41], oS [1, 3, 8, 9, 25, 26, 27]]), (9, [], [oN, oS [1, 3, 8, 9, 25, 26, 27]]), (10, [], [oN, oN, oN, oS [9, 46]]), (11, [], [oN, oS [6, 7]]), (12, [], [oN, oN, oS [6, 7]])] Tryz.f112 = some ⟨3, 48, [.t 6, .t 7], (tH s112_23)⟩ := by kernel_rfl
theorem v_impl_use (hl : vs.length = 3) (h : wpV Tryz.prog (tH s112_23) (postV [.t 6, .t 7] RV) (envV vs) M) : VCall Tryz.prog n_impl_use vs M RV :=
  vcall_of_wp (fun _ _ _ hl h => acall_of_wp mixed Tryz.func112 c112 (by kernel_rfl) hl h) hl h
@[go_sem] def l113_0 (_ : Unit) : KL := [kA 6 (.mv (cI 0)),
  kB 7 (.mv (.c (.bool false))) [0, 1, 2]]
@[go_sem] def l113_1 (_ : Unit) : KL := [kA 12 (.mv (.t 0)),
  kA 13 (.len (.t 12)),
  kB 8 (.mv (.t 13)) [0, 1, 2, 8]]
@[go_sem] def l113_2 (_ : Unit) : KL := [kA 14 (.mv (.t 8)),
  kA 9 (.mv (cI 0)),
  kB 10 (.mv (.t 14)) [0, 1, 2, 8, 9, 10]]
@[go_sem] def l113_3 (_ : Unit) : KL := [kA 15 (.mv (.t 9)),
  kA 16 (.mv (.t 10)),
  kB 17 (.bin .lss (.t 15) (.t 16)) [0, 1, 2, 8, 9, 10, 17]]
@[go_sem] def s113_4 (_ : Unit) : IR := (sQ [(kT l113_3), (.cond (.t 17) .skip (.exit 0))])
@[go_sem] def l113_5 (_ : Unit) : KL := [kA 18 (.mv (.t 9)),
  kA 19 (.mv (.t 10)),
  kA 20 (.bin .add (.t 18) (.t 19)),
  kA 21 (.cvi .u64 (.t 20)),
  kB 22 (.bin .shr (.t 21) (.c (.int .u64 1))) [0, 1, 2, 8, 9, 10, 22],
  kA 23 (.cvi .i64 (.t 22)),
  kB 11 (.mv (.t 23)) [0, 1, 2, 8, 9, 10, 11]]
@[go_sem] def l113_6 (_ : Unit) : KL := [kA 24 (.mv (.t 2)),
  kA 25 (.mv (.t 0)),
  kA 26 (.mv (.t 11)),
  kA 27 (.iaddr (.t 25) (.t 26) 1),
  kB 28 (.load (.t 27) 1 false) [0, 1, 2, 8, 9, 10, 11, 24, 28],
  kA 29 (.mv (.t 1)),
  kA 30 (.callv (.t 24) [(.t 28), (.t 29)]),
  kB 31 (.bin .lss (.t 30) (cI 0)) [0, 1, 2, 8, 9, 10, 11, 31]]
@[go_sem] def l113_7 (_ : Unit) : KL := [kA 32 (.mv (.t 11)),
  kA 33 (.bin .add (.t 32) (cI 1)),
  kB 9 (.mv (.t 33)) [0, 1, 2, 8, 9, 10]]
@[go_sem] def l113_8 (_ : Unit) : KL := [kA 34 (.mv (.t 11)),
  kB 10 (.mv (.t 34)) [0, 1, 2, 8, 9, 10]]
@[go_sem] def s113_9 (_ : Unit) : IR := (sQ [(kT l113_5), (kT l113_6), (.cond (.t 31) (kT l113_7) (kT l113_8))])
@[go_sem] def s113_10 (_ : Unit) : IR := (.block 1 (tH s113_9))
@[go_sem] def s113_11 (_ : Unit) : IR := (sQ [(tH s113_4), (tH s113_10)])
@[go_sem] def s113_12 (_ : Unit) : IR := (.loop (tH s113_11))
@[go_sem] def s113_13 (_ : Unit) : IR := (.block 0 (tH s113_12))
@[go_sem] def l113_14 (_ : Unit) : KL := [kA 35 (.mv (.t 9)),
  kA 36 (.mv (.t 9)),
  kA 37 (.mv (.t 8)),
  kA 38 (.bin .lss (.t 36) (.t 37)),
  kB 39 (.mv (.t 38)) [0, 1, 2, 9, 35, 39],
  (⟨(some 40), .mv (.t 2), (some (39, true))⟩, none),
  (⟨(some 41), .mv (.t 0), (some (39, true))⟩, none),
  (⟨(some 42), .mv (.t 9), (some (39, true))⟩, none),
  (⟨(some 43), .iaddr (.t 41) (.t 42) 1, (some (39, true))⟩, none),
  (⟨(some 44), .load (.t 43) 1 false, (some (39, true))⟩, (some [1, 35, 39, 40, 44])),
  (⟨(some 45), .mv (.t 1), (some (39, true))⟩, none),
  (⟨(some 46), .callv (.t 40) [(.t 44), (.t 45)], (some (39, true))⟩, none),
  (⟨(some 47), .bin .eql (.t 46) (cI 0), (some (39, true))⟩, none),
  kA 48 (.pick (.t 39) (.t 47) (.c (.bool false))),
  kB 6 (.mv (.t 35)) [6, 48],
  kB 7 (.mv (.t 48)) [6, 7]]
@[go_sem] def s113_15 (_ : Unit) : IR := (sQ [(kT l113_0), (kT l113_1), (kT l113_2), (tH s113_13), (kT l113_14), .ret])
theorem c113 : compFn Tryz.prog [(0, [], [oN, oS [0, 1, 2]]), (1, [], [oN, oN, oS [0, 1, 2, 8]]), (2, [], [oN, oN, oS [0, 1, 2, 8, 9, 10]]), (3, [], [oN, oN, oS [0, 1, 2, 8, 9, 10, 17]]), (4, [], [oN, oN, oN, oN, oS [0, 1, 2, 8, 9, 10, 22], oN, oS [0, 1, 2, 8, 9, 10, 11]]), (5, [], [oN, oN, oN, oN, oS [0, 1, 2, 8, 9, 10, 11, 24, 28], oN, oN, oS [0, 1, 2, 8, 9, 10, 11, 31]]), (6, [], [oN, oN, oS [0, 1, 2, 8, 9, 10]]), (7, [], [oN, oS [0, 1, 2, 8, 9, 10]]), (8, [], [oN, oN, oN, oN, oS [0, 1, 2, 9, 35, 39], oN, oN, oN, oN, oS [1, 35, 39, 40, 44], oN, oN, oN, oN, oS [6, 48], oS [6, 7]])] Tryz.f113 = some ⟨3, 49, [.t 6, .t 7], (tH s113_15)⟩ := by kernel_rfl
theorem v_slices_BinarySearchFunc_SSint_Sint_Sint (hl : vs.length = 3) (h : wpV Tryz.prog (tH s113_15) (postV [.t 6, .t 7] RV) (envV vs) M) : VCall Tryz.prog n_slices_BinarySearchFunc_SSint_Sint_Sint vs M RV :=
  vcall_of_wp (fun _ _ _ hl h => acall_of_wp mixed Tryz.func113 c113 (by kernel_rfl) hl h) hl h
@[go_sem] def l148_0 (_ : Unit) : KL := [kB 2 (.mv (.c (.bool false))) [0]]
@[go_sem] def l148_1 (_ : Unit) : KL := [kA 3 (.mv (.t 0)),
  kA 4 (.mv (.t 0)),
  kA 5 (.bin .neq (.t 3) (.t 4)),
  kB 2 (.mv (.t 5)) [2]]
@[go_sem] def s148_2 (_ : Unit) : IR := (sQ [(kT l148_0), (kT l148_1), .ret])
theorem c148 : compFn Tryz.prog [(0, [], [oS [0]]), (1, [], [oN, oN, oN, oS [2]])] Tryz.f148 = some ⟨1, 6, [.t 2], (tH s148_2)⟩ := by kernel_rfl
theorem v_cmp_isNaN_int (hl : vs.length = 1) (h : wpV Tryz.prog (tH s148_2) (postV [.t 2] RV) (envV vs) M) : VCall Tryz.prog n_cmp_isNaN_int vs M RV :=
  vcall_of_wp (fun _ _ _ hl h => acall_of_wp mixed Tryz.func148 c148 (by kernel_rfl) hl h) hl h
@[go_sem] def l131_0 (_ : Unit) : KL := [kB 4 (.mv (cI 0)) [0, 1]]
@[go_sem] def l131_1 (_ : Unit) : KL := [kA 7 (.mv (.t 0)),
  kA 8 (.call (n_cmp_isNaN_int) [(.t 7)]),
  kB 5 (.mv (.t 8)) [0, 1, 5]]
@[go_sem] def l131_2 (_ : Unit) : KL := [kA 9 (.mv (.t 1)),
  kA 10 (.call (n_cmp_isNaN_int) [(.t 9)]),
  kB 6 (.mv (.t 10)) [0, 1, 5, 6]]
@[go_sem] def l131_3 (_ : Unit) : KL := [kB 11 (.mv (.t 5)) [0, 1, 6, 11]]
@[go_sem] def l131_4 (_ : Unit) : KL := [kB 12 (.mv (.t 6)) [12]]
@[go_sem] def l131_5 (_ : Unit) : KL := [kB 4 (.mv (cI 0)) [4]]
@[go_sem] def s131_6 (_ : Unit) : IR := (sQ [(kT l131_5), .ret])
@[go_sem] def s131_7 (_ : Unit) : IR := (sQ [(kT l131_4), (.cond (.t 12) (tH s131_6) .skip)])
@[go_sem] def l131_8 (_ : Unit) : KL := [kB 4 (.mv (.c (.int .i64 (-1)))) [4]]
@[go_sem] def s131_9 (_ : Unit) : IR := (sQ [(tH s131_7), (kT l131_8), .ret])
@[go_sem] def s131_10 (_ : Unit) : IR := (sQ [(kT l131_3), (.cond (.t 11) (tH s131_9) .skip)])
@[go_sem] def l131_11 (_ : Unit) : KL := [kB 13 (.mv (.t 6)) [0, 1, 13]]
@[go_sem] def l131_12 (_ : Unit) : KL := [kB 4 (.mv (cI 1)) [4]]
@[go_sem] def s131_13 (_ : Unit) : IR := (sQ [(kT l131_12), .ret])
@[go_sem] def s131_14 (_ : Unit) : IR := (sQ [(kT l131_11), (.cond (.t 13) (tH s131_13) .skip)])
@[go_sem] def l131_15 (_ : Unit) : KL := [kA 14 (.mv (.t 0)),
  kA 15 (.mv (.t 1)),
  kB 16 (.bin .lss (.t 14) (.t 15)) [0, 1, 16]]
@[go_sem] def l131_16 (_ : Unit) : KL := [kB 4 (.mv (.c (.int .i64 (-1)))) [4]]
@[go_sem] def s131_17 (_ : Unit) : IR := (sQ [(kT l131_16), .ret])
@[go_sem] def s131_18 (_ : Unit) : IR := (sQ [(kT l131_15), (.cond (.t 16) (tH s131_17) .skip)])
@[go_sem] def l131_19 (_ : Unit) : KL := [kA 17 (.mv (.t 0)),
  kA 18 (.mv (.t 1)),
  kB 19 (.bin .gtr (.t 17) (.t 18)) [19]]
@[go_sem] def l131_20 (_ : Unit) : KL := [kB 4 (.mv (cI 1)) [4]]
@[go_sem] def s131_21 (_ : Unit) : IR := (sQ [(kT l131_20), .ret])
@[go_sem] def s131_22 (_ : Unit) : IR := (sQ [(kT l131_19), (.cond (.t 19) (tH s131_21) .skip)])
@[go_sem] def l131_23 (_ : Unit) : KL := [kB 4 (.mv (cI 0)) [4]]
@[go_sem] def s131_24 (_ : Unit) : IR := (sQ [(kT l131_0), (kT l131_1), (kT l131_2), (tH s131_10), (tH s131_14), (tH s131_18), (tH s131_22), (kT l131_23), .ret])
theorem c131 : compFn Tryz.prog [(0, [], [oS [0, 1]]), (1, [], [oN, oN, oS [0, 1, 5]]), (2, [], [oN, oN, oS [0, 1, 5, 6]]), (3, [], [oS [0, 1, 6, 11]]), (4, [], [oS [12]]), (5, [], [oS [4]]), (6, [], [oS [4]]), (7, [], [oS [0, 1, 13]]), (8, [], [oS [4]]), (9, [], [oN, oN, oS [0, 1, 16]]), (10, [], [oS [4]]), (11, [], [oN, oN, oS [19]]), (12, [], [oS [4]]), (13, [], [oS [4]])] Tryz.f131 = some ⟨2, 20, [.t 4], (tH s131_24)⟩ := by kernel_rfl
theorem v_cmp_Compare_int (hl : vs.length = 2) (h : wpV Tryz.prog (tH s131_24) (postV [.t 4] RV) (envV vs) M) : VCall Tryz.prog n_cmp_Compare_int vs M RV :=
  vcall_of_wp (fun _ _ _ hl h => acall_of_wp mixed Tryz.func131 c131 (by kernel_rfl) hl h) hl h
@[go_sem] def l114_0 (_ : Unit) : KL := [kB 4 (.mv (cI 0)) [0, 1]]
@[go_sem] def l114_1 (_ : Unit) : KL := [kA 9 (.mv (.t 0)),
  kA 10 (.len (.t 9)),
  kB 11 (.mv (cI 0)) [0, 1, 9, 10, 11]]
@[go_sem] def l114_2 (_ : Unit) : KL := [kB 12 (.bin .lss (.t 11) (.t 10)) [0, 1, 9, 10, 11, 12]]
@[go_sem] def l114_3 (_ : Unit) : KL := [kA 13 (.mv (.t 11)),
  kA 14 (.iaddr (.t 9) (.t 11) 1),
  kA 15 (.load (.t 14) 1 false),
  kA 5 (.mv (.t 13)),
  kB 6 (.mv (.t 15)) [0, 1, 5, 6, 9, 10, 11]]
@[go_sem] def l114_4 (_ : Unit) : KL := [kA 16 (.mv (.t 5)),
  kA 17 (.mv (.t 1)),
  kA 18 (.len (.t 17)),
  kB 19 (.bin .geq (.t 16) (.t 18)) [0, 1, 5, 6, 9, 10, 11, 19]]
@[go_sem] def l114_5 (_ : Unit) : KL := [kB 4 (.mv (cI 1)) [4]]
@[go_sem] def s114_6 (_ : Unit) : IR := (sQ [(kT l114_5), .ret])
@[go_sem] def s114_7 (_ : Unit) : IR := (sQ [(kT l114_4), (.cond (.t 19) (tH s114_6) .skip)])
@[go_sem] def l114_8 (_ : Unit) : KL := [kA 20 (.mv (.t 1)),
  kA 21 (.mv (.t 5)),
  kA 22 (.iaddr (.t 20) (.t 21) 1),
  kA 23 (.load (.t 22) 1 false),
  kB 7 (.mv (.t 23)) [0, 1, 6, 7, 9, 10, 11]]
@[go_sem] def l114_9 (_ : Unit) : KL := [kA 24 (.mv (.t 6)),
  kA 25 (.mv (.t 7)),
  kA 26 (.call (n_cmp_Compare_int) [(.t 24), (.t 25)]),
  kB 8 (.mv (.t 26)) [0, 1, 8, 9, 10, 11]]
@[go_sem] def l114_10 (_ : Unit) : KL := [kA 27 (.mv (.t 8)),
  kB 28 (.bin .neq (.t 27) (cI 0)) [0, 1, 8, 9, 10, 11, 28]]
@[go_sem] def l114_11 (_ : Unit) : KL := [kA 29 (.mv (.t 8)),
  kB 4 (.mv (.t 29)) [4]]
@[go_sem] def s114_12 (_ : Unit) : IR := (sQ [(kT l114_11), .ret])
@[go_sem] def s114_13 (_ : Unit) : IR := (sQ [(kT l114_3), (tH s114_7), (kT l114_8), (kT l114_9), (kT l114_10), (.cond (.t 28) (tH s114_12) .skip)])
@[go_sem] def s114_14 (_ : Unit) : IR := (.block 1 (tH s114_13))
@[go_sem] def l114_15 (_ : Unit) : KL := [kA 30 (.bin .add (.t 11) (cI 1)),
  kB 11 (.mv (.t 30)) [0, 1, 9, 10, 11]]
@[go_sem] def s114_16 (_ : Unit) : IR := (sQ [(kT l114_2), (.cond (.t 12) .skip (.exit 0)), (tH s114_14), (kT l114_15)])
@[go_sem] def s114_17 (_ : Unit) : IR := (.loop (tH s114_16))
@[go_sem] def s114_18 (_ : Unit) : IR := (.block 0 (tH s114_17))
@[go_sem] def s114_19 (_ : Unit) : IR := (sQ [(kT l114_1), (tH s114_18)])
@[go_sem] def l114_20 (_ : Unit) : KL := [kA 31 (.mv (.t 0)),
  kA 32 (.len (.t 31)),
  kA 33 (.mv (.t 1)),
  kA 34 (.len (.t 33)),
  kB 35 (.bin .lss (.t 32) (.t 34)) [35]]
@[go_sem] def l114_21 (_ : Unit) : KL := [kB 4 (.mv (.c (.int .i64 (-1)))) [4]]
@[go_sem] def s114_22 (_ : Unit) : IR := (sQ [(kT l114_21), .ret])
@[go_sem] def s114_23 (_ : Unit) : IR := (sQ [(kT l114_20), (.cond (.t 35) (tH s114_22) .skip)])
@[go_sem] def l114_24 (_ : Unit) : KL := [kB 4 (.mv (cI 0)) [4]]
@[go_sem] def s114_25 (_ : Unit) : IR := (sQ [(kT l114_0), (tH s114_19), (tH s114_23), (kT l114_24), .ret])
theorem c114 : compFn Tryz.prog [(0, [], [oS [0, 1]]), (1, [], [oN, oN, oS [0, 1, 9, 10, 11]]), (2, [], [oS [0, 1, 9, 10, 11, 12]]), (3, [], [oN, oN, oN, oN, oS [0, 1, 5, 6, 9, 10, 11]]), (4, [], [oN, oN, oN, oS [0, 1, 5, 6, 9, 10, 11, 19]]), (5, [], [oS [4]]), (6, [], [oN, oN, oN, oN, oS [0, 1, 6, 7, 9, 10, 11]]), (7, [], [oN, oN, oN, oS [0, 1, 8, 9, 10, 11]]), (8, [], [oN, oS [0, 1, 8, 9, 10, 11, 28]]), (9, [], [oN, oS [4]]), (10, [], [oN, oS [0, 1, 9, 10, 11]]), (11, [], [oN, oN, oN, oN, oS [35]]), (12, [], [oS [4]]), (13, [], [oS [4]])] Tryz.f114 = some ⟨2, 36, [.t 4], (tH s114_25)⟩ := by kernel_rfl
theorem v_slices_Compare_Sint_int (hl : vs.length = 2) (h : wpV Tryz.prog (tH s114_25) (postV [.t 4] RV) (envV vs) M) : VCall Tryz.prog n_slices_Compare_Sint_int vs M RV :=
  vcall_of_wp (fun _ _ _ hl h => acall_of_wp mixed Tryz.func114 c114 (by kernel_rfl) hl h) hl h
@[go_sem] def l151_0 (_ : Unit) : KL := [kA 4 (.mv (.t 0)),
  kA 5 (.len (.t 4)),
  kA 6 (.bin .sub (.t 5) (cI 1)),
  kA 2 (.mv (cI 0)),
  kB 3 (.mv (.t 6)) [0, 2, 3]]
@[go_sem] def l151_1 (_ : Unit) : KL := [kA 7 (.mv (.t 2)),
  kA 8 (.mv (.t 3)),
  kB 9 (.bin .lss (.t 7) (.t 8)) [0, 2, 3, 9]]
@[go_sem] def s151_2 (_ : Unit) : IR := (sQ [(kT l151_1), (.cond (.t 9) .skip (.exit 0))])
@[go_sem] def l151_3 : Nat → GOp
  | 0 => ⟨(some 14), .mv (.t 0), none⟩
  | 1 => ⟨(some 15), .mv (.t 2), none⟩
  | 2 => ⟨(some 16), .mv (.t 0), none⟩
  | 3 => ⟨(some 17), .mv (.t 3), none⟩
  | 4 => ⟨(some 18), .mv (.t 0), none⟩
  | 5 => ⟨(some 19), .mv (.t 3), none⟩
  | 6 => ⟨(some 20), .iaddr (.t 18) (.t 19) 1, none⟩
  | 7 => ⟨(some 21), .load (.t 20) 1 false, none⟩
  | 8 => ⟨(some 22), .mv (.t 0), none⟩
  | 9 => ⟨(some 23), .mv (.t 2), none⟩
  | 10 => ⟨(some 24), .iaddr (.t 22) (.t 23) 1, none⟩
  | 11 => ⟨(some 25), .load (.t 24) 1 false, none⟩
  | 12 => ⟨(some 26), .iaddr (.t 14) (.t 15) 1, none⟩
  | 13 => ⟨none, .store (.t 26) 1 (.t 21), none⟩
  | 14 => ⟨(some 27), .iaddr (.t 16) (.t 17) 1, none⟩
  | 15 => ⟨none, .store (.t 27) 1 (.t 25), none⟩
  | _ => ⟨none, .mkmap, none⟩
@[go_sem] def s151_4 (_ : Unit) : IR := (.block 1 (.kd (oF l151_3 16) [(0, []), (1, []), (2, []), (3, []), (4, []), (5, []), (6, []), (7, []), (8, []), (9, []), (10, []), (11, []), (12, []), (13, []), (14, []), (15, [])] [0, 2, 3]))
@[go_sem] def l151_5 (_ : Unit) : KL := [kA 10 (.mv (.t 2)),
  kA 11 (.bin .add (.t 10) (cI 1)),
  kA 12 (.mv (.t 3)),
  kA 13 (.bin .sub (.t 12) (cI 1)),
  kB 2 (.mv (.t 11)) [0, 2, 13],
  kB 3 (.mv (.t 13)) [0, 2, 3]]
@[go_sem] def s151_6 (_ : Unit) : IR := (sQ [(tH s151_2), (tH s151_4), (kT l151_5)])
@[go_sem] def s151_7 (_ : Unit) : IR := (.loop (tH s151_6))
@[go_sem] def s151_8 (_ : Unit) : IR := (.block 0 (tH s151_7))
@[go_sem] def s151_9 (_ : Unit) : IR := (sQ [(kT l151_0), (tH s151_8)])
@[go_sem] def l149_0 (_ : Unit) : KL := [kA 4 (.mv (.t 0)),
  kA 5 (.mv (.t 1)),
  kA 6 (.slc 1 (.t 4) none (some (.t 5)) none),
  kB 7 (.call (n_slices_Reverse_SSint_Sint) [(.t 6)]) [0, 1]]
@[go_sem] def l149_1 (_ : Unit) : KL := [kA 8 (.mv (.t 0)),
  kA 9 (.mv (.t 1)),
  kA 10 (.slc 1 (.t 8) (some (.t 9)) none none),
  kB 11 (.call (n_slices_Reverse_SSint_Sint) [(.t 10)]) [0]]
@[go_sem] def l149_2 (_ : Unit) : KL := [kA 12 (.mv (.t 0)),
  kB 13 (.call (n_slices_Reverse_SSint_Sint) [(.t 12)]) []]
@[go_sem] def s149_3 (_ : Unit) : IR := (sQ [(kT l149_0), (kT l149_1), (kT l149_2)])
@[go_sem] def l133_0 (_ : Unit) : KL := [kA 4 (.mv (.t 0)),
  kA 5 (.mv (.t 0)),
  kA 6 (.len (.t 5)),
  kA 7 (.mv (.t 1)),
  kB 8 (.bin .sub (.t 6) (.t 7)) [4, 8],
  kB 9 (.call (n_slices_rotateLeft_Sint) [(.t 4), (.t 8)]) []]
@[go_sem] def l115_0 (_ : Unit) : KL := [kB 6 (.mv (.c (.sl none 0 0 true 0))) [0, 1, 2]]
@[go_sem] def l115_1 (_ : Unit) : KL := [kA 10 (.mv (.t 0)),
  kA 11 (.mv (.t 1)),
  kB 12 (.slc 1 (.t 10) (some (.t 11)) none none) [0, 1, 2]]
@[go_sem] def l115_2 (_ : Unit) : KL := [kA 13 (.mv (.t 2)),
  kA 14 (.len (.t 13)),
  kB 7 (.mv (.t 14)) [0, 1, 2, 7]]
@[go_sem] def l115_3 (_ : Unit) : KL := [kA 15 (.mv (.t 7)),
  kB 16 (.bin .eql (.t 15) (cI 0)) [0, 1, 2, 7, 16]]
@[go_sem] def l115_4 (_ : Unit) : KL := [kA 17 (.mv (.t 0)),
  kB 6 (.mv (.t 17)) [6]]
@[go_sem] def s115_5 (_ : Unit) : IR := (sQ [(kT l115_4), .ret])
@[go_sem] def s115_6 (_ : Unit) : IR := (sQ [(kT l115_3), (.cond (.t 16) (tH s115_5) .skip)])
@[go_sem] def l115_7 (_ : Unit) : KL := [kA 18 (.mv (.t 0)),
  kA 19 (.len (.t 18)),
  kB 8 (.mv (.t 19)) [0, 1, 2, 7, 8]]
@[go_sem] def l115_8 (_ : Unit) : KL := [kA 20 (.mv (.t 1)),
  kA 21 (.mv (.t 8)),
  kB 22 (.bin .eql (.t 20) (.t 21)) [0, 1, 2, 7, 8, 22]]
@[go_sem] def l115_9 (_ : Unit) : KL := [kA 23 (.mv (.t 0)),
  kA 24 (.mv (.t 2)),
  kA 25 (.app 1 24 (.t 23) (.t 24)),
  kB 6 (.mv (.t 25)) [6]]
@[go_sem] def s115_10 (_ : Unit) : IR := (sQ [(kT l115_9), .ret])
@[go_sem] def s115_11 (_ : Unit) : IR := (sQ [(kT l115_8), (.cond (.t 22) (tH s115_10) .skip)])
@[go_sem] def l115_12 (_ : Unit) : KL := [kA 26 (.mv (.t 8)),
  kA 27 (.mv (.t 7)),
  kA 28 (.bin .add (.t 26) (.t 27)),
  kA 29 (.mv (.t 0)),
  kB 30 (.cap (.t 29)) [0, 1, 2, 7, 8, 28, 30],
  kB 31 (.bin .gtr (.t 28) (.t 30)) [0, 1, 2, 7, 8, 31]]
@[go_sem] def l115_13 (_ : Unit) : KL := [kA 32 (.mv (.t 0)),
  kA 33 (.mv (.t 1)),
  kA 34 (.slc 1 (.t 32) none (some (.t 33)) none),
  kA 35 (.mv (.t 8)),
  kB 36 (.mv (.t 7)) [0, 1, 2, 7, 34, 35, 36],
  kA 37 (.bin .add (.t 35) (.t 36)),
  kA 38 (.mv (.t 1)),
  kA 39 (.bin .sub (.t 37) (.t 38)),
  kA 40 (.appz [(.sl none 0 0 true 0)] 24 (.t 34) (.t 39)),
  kB 9 (.mv (.t 40)) [0, 1, 2, 7, 9]]
@[go_sem] def l115_14 (_ : Unit) : KL := [kA 41 (.mv (.t 9)),
  kA 42 (.mv (.t 1)),
  kA 43 (.slc 1 (.t 41) (some (.t 42)) none none),
  kA 44 (.mv (.t 2)),
  kB 45 (.copy 1 (.t 43) (.t 44)) [0, 1, 7, 9]]
@[go_sem] def l115_15 : Nat → GOp
  | 0 => ⟨(some 46), .mv (.t 9), none⟩
  | 1 => ⟨(some 47), .mv (.t 1), none⟩
  | 2 => ⟨(some 48), .mv (.t 7), none⟩
  | 3 => ⟨(some 49), .bin .add (.t 47) (.t 48), none⟩
  | 4 => ⟨(some 50), .slc 1 (.t 46) (some (.t 49)) none none, none⟩
  | 5 => ⟨(some 51), .mv (.t 0), none⟩
  | 6 => ⟨(some 52), .mv (.t 1), none⟩
  | 7 => ⟨(some 53), .slc 1 (.t 51) (some (.t 52)) none none, none⟩
  | 8 => ⟨(some 54), .copy 1 (.t 50) (.t 53), none⟩
  | _ => ⟨none, .mkmap, none⟩
@[go_sem] def l115_16 (_ : Unit) : KL := [kA 55 (.mv (.t 9)),
  kB 6 (.mv (.t 55)) [6]]
@[go_sem] def s115_17 (_ : Unit) : IR := (sQ [(kT l115_13), (kT l115_14), (.kd (oF l115_15 9) [(0, []), (1, []), (2, []), (3, []), (4, []), (5, []), (6, []), (7, []), (8, [])] [9]), (kT l115_16), .ret])
@[go_sem] def s115_18 (_ : Unit) : IR := (sQ [(kT l115_12), (.cond (.t 31) (tH s115_17) .skip)])
@[go_sem] def l115_19 (_ : Unit) : KL := [kA 56 (.mv (.t 0)),
  kA 57 (.mv (.t 8)),
  kA 58 (.mv (.t 7)),
  kA 59 (.bin .add (.t 57) (.t 58)),
  kB 60 (.slc 1 (.t 56) none (some (.t 59)) none) [1, 2, 7, 8, 60],
  kB 0 (.mv (.t 60)) [0, 1, 2, 7, 8]]
@[go_sem] def l115_20 (_ : Unit) : KL := [kA 61 (.mv (.t 2)),
  kA 62 (.mv (.t 0)),
  kA 63 (.mv (.t 1)),
  kA 64 (.mv (.t 7)),
  kB 65 (.bin .add (.t 63) (.t 64)) [0, 1, 2, 7, 8, 61, 62, 65],
  kA 66 (.slc 1 (.t 62) (some (.t 65)) none none),
  kA 67 (.ovl (.t 61) (.t 66)),
  kB 68 (.un .not (.t 67)) [0, 1, 2, 7, 8, 68]]
@[go_sem] def l115_21 : Nat → GOp
  | 0 => ⟨(some 69), .mv (.t 0), none⟩
  | 1 => ⟨(some 70), .mv (.t 1), none⟩
  | 2 => ⟨(some 71), .mv (.t 7), none⟩
  | 3 => ⟨(some 72), .bin .add (.t 70) (.t 71), none⟩
  | 4 => ⟨(some 73), .slc 1 (.t 69) (some (.t 72)) none none, none⟩
  | 5 => ⟨(some 74), .mv (.t 0), none⟩
  | 6 => ⟨(some 75), .mv (.t 1), none⟩
  | 7 => ⟨(some 76), .slc 1 (.t 74) (some (.t 75)) none none, none⟩
  | 8 => ⟨(some 77), .copy 1 (.t 73) (.t 76), none⟩
  | _ => ⟨none, .mkmap, none⟩
@[go_sem] def l115_22 (_ : Unit) : KL := [kA 78 (.mv (.t 0)),
  kA 79 (.mv (.t 1)),
  kA 80 (.slc 1 (.t 78) (some (.t 79)) none none),
  kA 81 (.mv (.t 2)),
  kB 82 (.copy 1 (.t 80) (.t 81)) [0]]
@[go_sem] def l115_23 (_ : Unit) : KL := [kA 83 (.mv (.t 0)),
  kB 6 (.mv (.t 83)) [6]]
@[go_sem] def s115_24 (_ : Unit) : IR := (sQ [(.kd (oF l115_21 9) [(0, []), (1, []), (2, []), (3, []), (4, []), (5, []), (6, []), (7, []), (8, [])] [0, 1, 2]), (kT l115_22), (kT l115_23), .ret])
@[go_sem] def s115_25 (_ : Unit) : IR := (sQ [(kT l115_20), (.cond (.t 68) (tH s115_24) .skip)])
@[go_sem] def l115_26 (_ : Unit) : KL := [kA 84 (.mv (.t 0)),
  kA 85 (.mv (.t 8)),
  kA 86 (.slc 1 (.t 84) (some (.t 85)) none none),
  kA 87 (.mv (.t 2)),
  kB 88 (.copy 1 (.t 86) (.t 87)) [0, 1, 7]]
@[go_sem] def l115_27 (_ : Unit) : KL := [kA 89 (.mv (.t 0)),
  kA 90 (.mv (.t 1)),
  kA 91 (.slc 1 (.t 89) (some (.t 90)) none none),
  kA 92 (.mv (.t 7)),
  kB 93 (.call (n_slices_rotateRight_Sint) [(.t 91), (.t 92)]) [0]]
@[go_sem] def l115_28 (_ : Unit) : KL := [kA 94 (.mv (.t 0)),
  kB 6 (.mv (.t 94)) [6]]
@[go_sem] def s115_29 (_ : Unit) : IR := (sQ [(kT l115_0), (kT l115_1), (kT l115_2), (tH s115_6), (kT l115_7), (tH s115_11), (tH s115_18), (kT l115_19), (tH s115_25), (kT l115_26), (kT l115_27), (kT l115_28), .ret])
theorem c115 : compFn Tryz.prog [(0, [], [oS [0, 1, 2]]), (1, [], [oN, oN, oS [0, 1, 2]]), (2, [], [oN, oN, oS [0, 1, 2, 7]]), (3, [], [oN, oS [0, 1, 2, 7, 16]]), (4, [], [oN, oS [6]]), (5, [], [oN, oN, oS [0, 1, 2, 7, 8]]), (6, [], [oN, oN, oS [0, 1, 2, 7, 8, 22]]), (7, [], [oN, oN, oN, oS [6]]), (8, [], [oN, oN, oN, oN, oS [0, 1, 2, 7, 8, 28, 30], oS [0, 1, 2, 7, 8, 31]]), (9, [], [oN, oN, oN, oN, oS [0, 1, 2, 7, 34, 35, 36], oN, oN, oN, oN, oS [0, 1, 2, 7, 9]]), (10, [], [oN, oN, oN, oN, oS [0, 1, 7, 9]]), (11, [(0, []), (1, []), (2, []), (3, []), (4, []), (5, []), (6, []), (7, []), (8, [])], [oS [9]]), (12, [], [oN, oS [6]]), (13, [], [oN, oN, oN, oN, oS [1, 2, 7, 8, 60], oS [0, 1, 2, 7, 8]]), (14, [], [oN, oN, oN, oN, oS [0, 1, 2, 7, 8, 61, 62, 65], oN, oN, oS [0, 1, 2, 7, 8, 68]]), (15, [(0, []), (1, []), (2, []), (3, []), (4, []), (5, []), (6, []), (7, []), (8, [])], [oS [0, 1, 2]]), (16, [], [oN, oN, oN, oN, oS [0]]), (17, [], [oN, oS [6]]), (18, [], [oN, oN, oN, oN, oS [0, 1, 7]]), (19, [], [oN, oN, oN, oN, oS [0]]), (20, [], [oN, oS [6]])] Tryz.f115 = some ⟨3, 95, [.t 6], (tH s115_29)⟩ := by kernel_rfl
theorem v_slices_Insert_SSint_Sint (hl : vs.length = 3) (h : wpV Tryz.prog (tH s115_29) (postV [.t 6] RV) (envV vs) M) : VCall Tryz.prog n_slices_Insert_SSint_Sint vs M RV :=
  vcall_of_wp (fun _ _ _ hl h => acall_of_wp mixed Tryz.func115 c115 (by kernel_rfl) hl h) hl h
@[go_sem] def l116_0 (_ : Unit) : KL := [kB 2 (.mv (.c (.sl none 0 0 true 0))) [0]]
@[go_sem] def l116_1 (_ : Unit) : KL := [kA 4 (.mv (.t 0)),
  kA 5 (.len (.t 4)),
  kB 6 (.bin .eql (.t 5) (cI 0)) [0, 6]]
@[go_sem] def l116_2 (_ : Unit) : KL := [kB 2 (.mv (.c (.sl none 0 0 true 0))) [2]]
@[go_sem] def s116_3 (_ : Unit) : IR := (sQ [(kT l116_2), .ret])
@[go_sem] def s116_4 (_ : Unit) : IR := (sQ [(kT l116_1), (.cond (.t 6) (tH s116_3) .skip)])
@[go_sem] def l116_5 (_ : Unit) : KL := [kA 7 (.mv (.t 0)),
  kA 8 (.len (.t 7)),
  kA 9 (.mks [(.sl none 0 0 true 0)] 24 (.t 8)),
  kB 3 (.mv (.t 9)) [0, 3]]
@[go_sem] def l116_6 (_ : Unit) : KL := [kA 10 (.mv (.t 3)),
  kA 11 (.mv (.t 0)),
  kB 12 (.copy 1 (.t 10) (.t 11)) [3]]
@[go_sem] def l116_7 (_ : Unit) : KL := [kA 13 (.mv (.t 3)),
  kB 2 (.mv (.t 13)) [2]]
@[go_sem] def s116_8 (_ : Unit) : IR := (sQ [(kT l116_0), (tH s116_4), (kT l116_5), (kT l116_6), (kT l116_7), .ret])
theorem c116 : compFn Tryz.prog [(0, [], [oS [0]]), (1, [], [oN, oN, oS [0, 6]]), (2, [], [oS [2]]), (3, [], [oN, oN, oN, oS [0, 3]]), (4, [], [oN, oN, oS [3]]), (5, [], [oN, oS [2]])] Tryz.f116 = some ⟨1, 14, [.t 2], (tH s116_8)⟩ := by kernel_rfl
theorem v_impl_clone_Sint (hl : vs.length = 1) (h : wpV Tryz.prog (tH s116_8) (postV [.t 2] RV) (envV vs) M) : VCall Tryz.prog n_impl_clone_Sint vs M RV :=
  vcall_of_wp (fun _ _ _ hl h => acall_of_wp mixed Tryz.func116 c116 (by kernel_rfl) hl h) hl h
@[go_sem] def l87_0 (_ : Unit) : KL := [kA 2 (.box (.t 0)),
  kB 4 (.mv (.c (.sl none 0 0 true 0))) [1, 2]]
@[go_sem] def l87_1 (_ : Unit) : KL := [kB 5 (.mv (.c (.sl none 0 0 true 0))) [1, 2, 5]]
@[go_sem] def l87_2 (_ : Unit) : KL := [kA 11 (.faddr (.t 2) 1),
  kA 12 (.load (.t 11) 1 false),
  kA 13 (.len (.t 12)),
  kB 14 (.mv (cI 0)) [1, 2, 5, 13, 14]]
@[go_sem] def l87_3 (_ : Unit) : KL := [kB 15 (.bin .lss (.t 14) (.t 13)) [1, 2, 5, 13, 14, 15]]
@[go_sem] def l87_4 (_ : Unit) : KL := [kA 16 (.mv (.t 14)),
  kB 6 (.mv (.t 16)) [1, 2, 5, 6, 13, 14]]
@[go_sem] def l87_5 (_ : Unit) : KL := [kA 18 (.load (.t 2) 2 true),
  kA 19 (.mv (.t 1)),
  kA 20 (.mv (.t 6)),
  kA 21 (.call (n_impl_use) [(.t 18), (.t 19), (.t 20)]),
  kB 17 (.mv (.t 21)) [1, 2, 5, 13, 14, 17],
  kA 22 (.ext (.t 17) 0),
  kA 23 (.ext (.t 17) 1),
  kA 7 (.mv (.t 22)),
  kB 8 (.mv (.t 23)) [1, 2, 5, 7, 8, 13, 14]]
@[go_sem] def l87_6 (_ : Unit) : KL := [kB 24 (.mv (.t 8)) [1, 2, 5, 7, 13, 14, 24]]
@[go_sem] def l87_7 (_ : Unit) : KL := [kA 26 (.mv (.t 5)),
  kA 27 (.mv (.t 7)),
  kA 28 (.call (n_slices_BinarySearchFunc_SSint_Sint_Sint) [(.t 26), (.t 27), (.c (.fn (n_slices_Compare_Sint_int) []))]),
  kA 25 (.mv (.t 28)),
  kB 29 (.ext (.t 25) 0) [1, 2, 5, 7, 13, 14, 25, 29],
  kA 30 (.ext (.t 25) 1),
  kA 9 (.mv (.t 29)),
  kB 10 (.mv (.t 30)) [1, 2, 5, 7, 9, 10, 13, 14]]
@[go_sem] def l87_8 (_ : Unit) : KL := [kA 31 (.mv (.t 10)),
  kB 32 (.un .not (.t 31)) [1, 2, 5, 7, 9, 13, 14, 32]]
@[go_sem] def l87_9 (_ : Unit) : KL := [kA 33 (.mv (.t 5)),
  kA 34 (.mv (.t 9)),
  kA 35 (.mv (.t 7)),
  kA 36 (.bslc 1 1 [(.sl none 0 0 true 0)] [(0, (.t 35))]),
  kB 37 (.call (n_slices_Insert_SSint_Sint) [(.t 33), (.t 34), (.t 36)]) [1, 2, 13, 14, 37],
  kB 5 (.mv (.t 37)) [1, 2, 5, 13, 14]]
@[go_sem] def s87_10 (_ : Unit) : IR := (sQ [(kT l87_7), (kT l87_8), (.cond (.t 32) (kT l87_9) .skip)])
@[go_sem] def s87_11 (_ : Unit) : IR := (sQ [(kT l87_4), (kT l87_5), (kT l87_6), (.cond (.t 24) (tH s87_10) .skip)])
@[go_sem] def s87_12 (_ : Unit) : IR := (.block 1 (tH s87_11))
@[go_sem] def l87_13 (_ : Unit) : KL := [kA 38 (.bin .add (.t 14) (cI 1)),
  kB 14 (.mv (.t 38)) [1, 2, 5, 13, 14]]
@[go_sem] def s87_14 (_ : Unit) : IR := (sQ [(kT l87_3), (.cond (.t 15) .skip (.exit 0)), (tH s87_12), (kT l87_13)])
@[go_sem] def s87_15 (_ : Unit) : IR := (.loop (tH s87_14))
@[go_sem] def s87_16 (_ : Unit) : IR := (.block 0 (tH s87_15))
@[go_sem] def s87_17 (_ : Unit) : IR := (sQ [(kT l87_2), (tH s87_16)])
@[go_sem] def l87_18 (_ : Unit) : KL := [kA 39 (.mv (.t 5)),
  kA 40 (.call (n_impl_clone_Sint) [(.t 39)]),
  kB 4 (.mv (.t 40)) [4]]
@[go_sem] def s87_19 (_ : Unit) : IR := (sQ [(kT l87_0), (kT l87_1), (tH s87_17), (kT l87_18), .ret])
theorem c87 : compFn Tryz.prog [(0, [], [oN, oS [1, 2]]), (1, [], [oS [1, 2, 5]]), (2, [], [oN, oN, oN, oS [1, 2, 5, 13, 14]]), (3, [], [oS [1, 2, 5, 13, 14, 15]]), (4, [], [oN, oS [1, 2, 5, 6, 13, 14]]), (5, [], [oN, oN, oN, oN, oS [1, 2, 5, 13, 14, 17], oN, oN, oN, oS [1, 2, 5, 7, 8, 13, 14]]), (6, [], [oS [1, 2, 5, 7, 13, 14, 24]]), (7, [], [oN, oN, oN, oN, oS [1, 2, 5, 7, 13, 14, 25, 29], oN, oN, oS [1, 2, 5, 7, 9, 10, 13, 14]]), (8, [], [oN, oS [1, 2, 5, 7, 9, 13, 14, 32]]), (9, [], [oN, oN, oN, oN, oS [1, 2, 13, 14, 37], oS [1, 2, 5, 13, 14]]), (10, [], [oN, oS [1, 2, 5, 13, 14]]), (11, [], [oN, oN, oS [4]])] Tryz.f87 = some ⟨2, 41, [.t 4], (tH s87_19)⟩ := by kernel_rfl
theorem v_impl_nextStates (hl : vs.length = 2) (h : wpV Tryz.prog (tH s87_19) (postV [.t 4] RV) (envV vs) M) : VCall Tryz.prog n_impl_nextStates vs M RV :=
  vcall_of_wp (fun _ _ _ hl h => acall_of_wp mixed Tryz.func87 c87 (by kernel_rfl) hl h) hl h
@[go_sem] def l80_0 (_ : Unit) : KL := [kA 2 (.box (.t 0)),
  kB 4 (.mv (cI 0)) [1, 2]]
@[go_sem] def l80_1 (_ : Unit) : KL := [kB 5 (.mv (cI 0)) [1, 2, 5]]
@[go_sem] def l80_2 (_ : Unit) : KL := [kA 8 (.faddr (.t 2) 0),
  kA 9 (.load (.t 8) 1 false),
  kA 10 (.len (.t 9)),
  kB 11 (.mv (cI 0)) [1, 5, 9, 10, 11]]
@[go_sem] def l80_3 (_ : Unit) : KL := [kB 12 (.bin .lss (.t 11) (.t 10)) [1, 5, 9, 10, 11, 12]]
@[go_sem] def l80_4 (_ : Unit) : KL := [kA 13 (.mv (.t 11)),
  kA 14 (.iaddr (.t 9) (.t 11) 3),
  kA 15 (.load (.t 14) 3 true),
  kA 7 (.alloc [(.int .i64 0), (.int .i64 0), (.int .i64 0)]),
  kB 6 (.mv (.t 13)) [1, 5, 6, 7, 9, 10, 11, 15],
  (⟨none, .store (.t 7) 3 (.t 15), none⟩, (some [1, 5, 6, 7, 9, 10, 11]))]
@[go_sem] def l80_5 : Nat → GOp
  | 0 => ⟨(some 16), .mv (.t 5), none⟩
  | 1 => ⟨(some 17), .faddr (.t 7) 1, none⟩
  | 2 => ⟨(some 18), .load (.t 17) 1 false, none⟩
  | 3 => ⟨(some 19), .faddr (.t 7) 0, none⟩
  | 4 => ⟨(some 20), .load (.t 19) 1 false, none⟩
  | 5 => ⟨(some 21), .bin .sub (.t 18) (.t 20), none⟩
  | 6 => ⟨(some 22), .bin .add (.t 21) (cI 1), none⟩
  | 7 => ⟨(some 23), .bin .mul (.t 16) (.t 22), none⟩
  | 8 => ⟨(some 24), .mv (.t 1), none⟩
  | 9 => ⟨(some 25), .mv (.t 6), none⟩
  | 10 => ⟨(some 26), .iaddr (.t 24) (.t 25) 1, none⟩
  | 11 => ⟨(some 27), .load (.t 26) 1 false, none⟩
  | 12 => ⟨(some 28), .bin .add (.t 23) (.t 27), none⟩
  | 13 => ⟨(some 29), .faddr (.t 7) 0, none⟩
  | 14 => ⟨(some 30), .load (.t 29) 1 false, none⟩
  | 15 => ⟨(some 31), .bin .sub (.t 28) (.t 30), none⟩
  | 16 => ⟨(some 5), .mv (.t 31), none⟩
  | _ => ⟨none, .mkmap, none⟩
@[go_sem] def s80_6 (_ : Unit) : IR := (sQ [(kT l80_4), (.kd (oF l80_5 17) [(0, []), (1, []), (2, []), (3, []), (4, []), (5, []), (6, []), (7, []), (8, []), (9, []), (10, []), (11, []), (12, []), (13, []), (14, []), (15, []), (16, [])] [1, 5, 9, 10, 11])])
@[go_sem] def s80_7 (_ : Unit) : IR := (.block 1 (tH s80_6))
@[go_sem] def l80_8 (_ : Unit) : KL := [kA 32 (.bin .add (.t 11) (cI 1)),
  kB 11 (.mv (.t 32)) [1, 5, 9, 10, 11]]
@[go_sem] def s80_9 (_ : Unit) : IR := (sQ [(kT l80_3), (.cond (.t 12) .skip (.exit 0)), (tH s80_7), (kT l80_8)])
@[go_sem] def s80_10 (_ : Unit) : IR := (.loop (tH s80_9))
@[go_sem] def s80_11 (_ : Unit) : IR := (.block 0 (tH s80_10))
@[go_sem] def s80_12 (_ : Unit) : IR := (sQ [(kT l80_2), (tH s80_11)])
@[go_sem] def l80_13 (_ : Unit) : KL := [kA 33 (.mv (.t 5)),
  kB 4 (.mv (.t 33)) [4]]
@[go_sem] def s80_14 (_ : Unit) : IR := (sQ [(kT l80_0), (kT l80_1), (tH s80_12), (kT l80_13), .ret])
theorem c80 : compFn Tryz.prog [(0, [], [oN, oS [1, 2]]), (1, [], [oS [1, 2, 5]]), (2, [], [oN, oN, oN, oS [1, 5, 9, 10, 11]]), (3, [], [oS [1, 5, 9, 10, 11, 12]]), (4, [], [oN, oN, oN, oN, oS [1, 5, 6, 7, 9, 10, 11, 15], oS [1, 5, 6, 7, 9, 10, 11]]), (5, [(0, []), (1, []), (2, []), (3, []), (4, []), (5, []), (6, []), (7, []), (8, []), (9, []), (10, []), (11, []), (12, []), (13, []), (14, []), (15, []), (16, [])], [oS [1, 5, 9, 10, 11]]), (6, [], [oN, oS [1, 5, 9, 10, 11]]), (7, [], [oN, oS [4]])] Tryz.f80 = some ⟨2, 34, [.t 4], (tH s80_14)⟩ := by kernel_rfl
theorem v_impl_number (hl : vs.length = 2) (h : wpV Tryz.prog (tH s80_14) (postV [.t 4] RV) (envV vs) M) : VCall Tryz.prog n_impl_number vs M RV :=
  vcall_of_wp (fun _ _ _ hl h => acall_of_wp mixed Tryz.func80 c80 (by kernel_rfl) hl h) hl h
@[go_sem] def l39_0 (_ : Unit) : KL := [kA 1 (.box (.t 0)),
  kB 2 (.mv (.c (.sl none 0 0 true 0))) [1]]
@[go_sem] def l39_1 (_ : Unit) : KL := [kA 7 (.faddr (.t 1) 0),
  kA 8 (.load (.t 7) 1 false),
  kA 9 (.call (n_impl_size) [(.t 8)]),
  kA 10 (.mks [(.sl none 0 0 true 0)] 24 (.t 9)),
  kB 3 (.mv (.t 10)) [1, 3]]
@[go_sem] def l39_2 (_ : Unit) : KL := [kA 11 (.mv (.t 3)),
  kA 12 (.len (.t 11)),
  kB 13 (.mv (cI 0)) [1, 3, 12, 13]]
@[go_sem] def l39_3 (_ : Unit) : KL := [kB 14 (.bin .lss (.t 13) (.t 12)) [1, 3, 12, 13, 14]]
@[go_sem] def l39_4 (_ : Unit) : KL := [kA 15 (.mv (.t 13)),
  kB 4 (.mv (.t 15)) [1, 3, 4, 12, 13]]
@[go_sem] def l39_5 : Nat → GOp
  | 0 => ⟨(some 16), .load (.t 1) 2 true, none⟩
  | 1 => ⟨(some 17), .load (.t 1) 2 true, none⟩
  | 2 => ⟨(some 18), .mv (.t 4), none⟩
  | 3 => ⟨(some 19), .call (n_impl_stateAt) [(.t 17), (.t 18)], none⟩
  | 4 => ⟨(some 20), .call (n_impl_nextStates) [(.t 16), (.t 19)], none⟩
  | 5 => ⟨(some 21), .len (.t 20), none⟩
  | 6 => ⟨(some 22), .mv (cI 0), none⟩
  | _ => ⟨none, .mkmap, none⟩
@[go_sem] def l39_6 (_ : Unit) : KL := [kB 23 (.bin .lss (.t 22) (.t 21)) [1, 3, 4, 12, 13, 20, 21, 22, 23]]
@[go_sem] def l39_7 (_ : Unit) : KL := [kA 24 (.iaddr (.t 20) (.t 22) 1),
  kA 25 (.load (.t 24) 1 false),
  kB 6 (.mv (.t 25)) [1, 3, 4, 6, 12, 13, 20, 21, 22]]
@[go_sem] def l39_8 : Nat → GOp
  | 0 => ⟨(some 26), .mv (.t 3), none⟩
  | 1 => ⟨(some 27), .mv (.t 4), none⟩
  | 2 => ⟨(some 28), .mv (.t 3), none⟩
  | 3 => ⟨(some 29), .mv (.t 4), none⟩
  | 4 => ⟨(some 30), .iaddr (.t 28) (.t 29) 1, none⟩
  | 5 => ⟨(some 31), .load (.t 30) 1 false, none⟩
  | 6 => ⟨(some 32), .load (.t 1) 2 true, none⟩
  | 7 => ⟨(some 33), .mv (.t 6), none⟩
  | 8 => ⟨(some 34), .call (n_impl_number) [(.t 32), (.t 33)], none⟩
  | 9 => ⟨(some 35), .bslc 1 1 [(.int .i64 0)] [(0, (.t 34))], none⟩
  | 10 => ⟨(some 36), .app 1 8 (.t 31) (.t 35), none⟩
  | 11 => ⟨(some 37), .iaddr (.t 26) (.t 27) 1, none⟩
  | 12 => ⟨none, .store (.t 37) 1 (.t 36), none⟩
  | _ => ⟨none, .mkmap, none⟩
@[go_sem] def s39_9 (_ : Unit) : IR := (sQ [(kT l39_7), (.kd (oF l39_8 13) [(0, []), (1, []), (2, []), (3, []), (4, []), (5, []), (6, []), (7, []), (8, [5]), (9, []), (10, []), (11, []), (12, [])] [1, 3, 4, 12, 13, 20, 21, 22])])
@[go_sem] def s39_10 (_ : Unit) : IR := (.block 3 (tH s39_9))
@[go_sem] def l39_11 (_ : Unit) : KL := [kA 38 (.bin .add (.t 22) (cI 1)),
  kB 22 (.mv (.t 38)) [1, 3, 4, 12, 13, 20, 21, 22]]
@[go_sem] def s39_12 (_ : Unit) : IR := (sQ [(kT l39_6), (.cond (.t 23) .skip (.exit 2)), (tH s39_10), (kT l39_11)])
@[go_sem] def s39_13 (_ : Unit) : IR := (.loop (tH s39_12))
@[go_sem] def s39_14 (_ : Unit) : IR := (.block 2 (tH s39_13))
@[go_sem] def s39_15 (_ : Unit) : IR := (sQ [(kT l39_4), (.kd (oF l39_5 7) [(0, []), (1, []), (2, []), (6, []), (3, [0]), (4, []), (5, [])] [1, 3, 4, 12, 13, 20, 21, 22]), (tH s39_14)])
@[go_sem] def s39_16 (_ : Unit) : IR := (.block 1 (tH s39_15))
@[go_sem] def l39_17 (_ : Unit) : KL := [kA 39 (.bin .add (.t 13) (cI 1)),
  kB 13 (.mv (.t 39)) [1, 3, 12, 13]]
@[go_sem] def s39_18 (_ : Unit) : IR := (sQ [(kT l39_3), (.cond (.t 14) .skip (.exit 0)), (tH s39_16), (kT l39_17)])
@[go_sem] def s39_19 (_ : Unit) : IR := (.loop (tH s39_18))
@[go_sem] def s39_20 (_ : Unit) : IR := (.block 0 (tH s39_19))
@[go_sem] def s39_21 (_ : Unit) : IR := (sQ [(kT l39_2), (tH s39_20)])
@[go_sem] def l39_22 (_ : Unit) : KL := [kA 40 (.mv (.t 3)),
  kB 2 (.mv (.t 40)) [2]]
@[go_sem] def s39_23 (_ : Unit) : IR := (sQ [(kT l39_0), (kT l39_1), (tH s39_21), (kT l39_22), .ret])
theorem c39 : compFn Tryz.prog [(0, [], [oN, oS [1]]), (1, [], [oN, oN, oN, oN, oS [1, 3]]), (2, [], [oN, oN, oS [1, 3, 12, 13]]), (3, [], [oS [1, 3, 12, 13, 14]]), (4, [], [oN, oS [1, 3, 4, 12, 13]]), (5, [(0, []), (1, []), (2, []), (6, []), (3, [0]), (4, []), (5, [])], [oS [1, 3, 4, 12, 13, 20, 21, 22]]), (6, [], [oS [1, 3, 4, 12, 13, 20, 21, 22, 23]]), (7, [], [oN, oN, oS [1, 3, 4, 6, 12, 13, 20, 21, 22]]), (8, [(0, []), (1, []), (2, []), (3, []), (4, []), (5, []), (6, []), (7, []), (8, [5]), (9, []), (10, []), (11, []), (12, [])], [oS [1, 3, 4, 12, 13, 20, 21, 22]]), (9, [], [oN, oS [1, 3, 4, 12, 13, 20, 21, 22]]), (10, [], [oN, oS [1, 3, 12, 13]]), (11, [], [oN, oS [2]])] Tryz.f39 = some ⟨1, 41, [.t 2], (tH s39_23)⟩ := by kernel_rfl
theorem v_impl_nexts (hl : vs.length = 1) (h : wpV Tryz.prog (tH s39_23) (postV [.t 2] RV) (envV vs) M) : VCall Tryz.prog n_impl_nexts vs M RV :=
  vcall_of_wp (fun _ _ _ hl h => acall_of_wp mixed Tryz.func39 c39 (by kernel_rfl) hl h) hl h
@[go_sem] def l45_0 (_ : Unit) : KL := [kB 2 (.mv (.c (.sl none 0 0 true 0))) [0]]
@[go_sem] def l45_1 (_ : Unit) : KL := [kA 8 (.mv (.t 0)),
  kA 9 (.len (.t 8)),
  kA 10 (.mks [(.sl none 0 0 true 0)] 24 (.t 9)),
  kB 3 (.mv (.t 10)) [0, 3]]
@[go_sem] def l45_2 (_ : Unit) : KL := [kA 11 (.mv (.t 0)),
  kA 12 (.len (.t 11)),
  kB 13 (.mv (cI 0)) [3, 11, 12, 13]]
@[go_sem] def l45_3 (_ : Unit) : KL := [kB 14 (.bin .lss (.t 13) (.t 12)) [3, 11, 12, 13, 14]]
@[go_sem] def l45_4 (_ : Unit) : KL := [kA 15 (.mv (.t 13)),
  kA 16 (.iaddr (.t 11) (.t 13) 1),
  kA 17 (.load (.t 16) 1 false),
  kA 4 (.mv (.t 15)),
  kB 5 (.mv (.t 17)) [3, 4, 5, 11, 12, 13]]
@[go_sem] def l45_5 (_ : Unit) : KL := [kA 18 (.mv (.t 5)),
  kA 19 (.len (.t 18)),
  kB 20 (.mv (cI 0)) [3, 4, 11, 12, 13, 18, 19, 20]]
@[go_sem] def l45_6 (_ : Unit) : KL := [kB 21 (.bin .lss (.t 20) (.t 19)) [3, 4, 11, 12, 13, 18, 19, 20, 21]]
@[go_sem] def l45_7 (_ : Unit) : KL := [kA 22 (.iaddr (.t 18) (.t 20) 1),
  kA 23 (.load (.t 22) 1 false),
  kB 7 (.mv (.t 23)) [3, 4, 7, 11, 12, 13, 18, 19, 20]]
@[go_sem] def l45_8 (_ : Unit) : KL := [kA 24 (.mv (.t 3)),
  kA 25 (.mv (.t 7)),
  kA 26 (.mv (.t 3)),
  kA 27 (.mv (.t 7)),
  kB 28 (.iaddr (.t 26) (.t 27) 1) [3, 4, 11, 12, 13, 18, 19, 20, 24, 25, 28],
  kA 29 (.load (.t 28) 1 false),
  kA 30 (.mv (.t 4)),
  kA 31 (.bslc 1 1 [(.int .i64 0)] [(0, (.t 30))]),
  kA 32 (.app 1 8 (.t 29) (.t 31)),
  kB 33 (.iaddr (.t 24) (.t 25) 1) [3, 4, 11, 12, 13, 18, 19, 20, 32, 33],
  (⟨none, .store (.t 33) 1 (.t 32), none⟩, (some [3, 4, 11, 12, 13, 18, 19, 20]))]
@[go_sem] def s45_9 (_ : Unit) : IR := (sQ [(kT l45_7), (kT l45_8)])
@[go_sem] def s45_10 (_ : Unit) : IR := (.block 3 (tH s45_9))
@[go_sem] def l45_11 (_ : Unit) : KL := [kA 34 (.bin .add (.t 20) (cI 1)),
  kB 20 (.mv (.t 34)) [3, 4, 11, 12, 13, 18, 19, 20]]
@[go_sem] def s45_12 (_ : Unit) : IR := (sQ [(kT l45_6), (.cond (.t 21) .skip (.exit 2)), (tH s45_10), (kT l45_11)])
@[go_sem] def s45_13 (_ : Unit) : IR := (.loop (tH s45_12))
@[go_sem] def s45_14 (_ : Unit) : IR := (.block 2 (tH s45_13))
@[go_sem] def s45_15 (_ : Unit) : IR := (sQ [(kT l45_4), (kT l45_5), (tH s45_14)])
@[go_sem] def s45_16 (_ : Unit) : IR := (.block 1 (tH s45_15))
@[go_sem] def l45_17 (_ : Unit) : KL := [kA 35 (.bin .add (.t 13) (cI 1)),
  kB 13 (.mv (.t 35)) [3, 11, 12, 13]]
@[go_sem] def s45_18 (_ : Unit) : IR := (sQ [(kT l45_3), (.cond (.t 14) .skip (.exit 0)), (tH s45_16), (kT l45_17)])
@[go_sem] def s45_19 (_ : Unit) : IR := (.loop (tH s45_18))
@[go_sem] def s45_20 (_ : Unit) : IR := (.block 0 (tH s45_19))
@[go_sem] def s45_21 (_ : Unit) : IR := (sQ [(kT l45_2), (tH s45_20)])
@[go_sem] def l45_22 (_ : Unit) : KL := [kA 36 (.mv (.t 3)),
  kB 2 (.mv (.t 36)) [2]]
@[go_sem] def s45_23 (_ : Unit) : IR := (sQ [(kT l45_0), (kT l45_1), (tH s45_21), (kT l45_22), .ret])
theorem c45 : compFn Tryz.prog [(0, [], [oS [0]]), (1, [], [oN, oN, oN, oS [0, 3]]), (2, [], [oN, oN, oS [3, 11, 12, 13]]), (3, [], [oS [3, 11, 12, 13, 14]]), (4, [], [oN, oN, oN, oN, oS [3, 4, 5, 11, 12, 13]]), (5, [], [oN, oN, oS [3, 4, 11, 12, 13, 18, 19, 20]]), (6, [], [oS [3, 4, 11, 12, 13, 18, 19, 20, 21]]), (7, [], [oN, oN, oS [3, 4, 7, 11, 12, 13, 18, 19, 20]]), (8, [], [oN, oN, oN, oN, oS [3, 4, 11, 12, 13, 18, 19, 20, 24, 25, 28], oN, oN, oN, oN, oS [3, 4, 11, 12, 13, 18, 19, 20, 32, 33], oS [3, 4, 11, 12, 13, 18, 19, 20]]), (9, [], [oN, oS [3, 4, 11, 12, 13, 18, 19, 20]]), (10, [], [oN, oS [3, 11, 12, 13]]), (11, [], [oN, oS [2]])] Tryz.f45 = some ⟨1, 37, [.t 2], (tH s45_23)⟩ := by kernel_rfl
theorem v_impl_pasts (hl : vs.length = 1) (h : wpV Tryz.prog (tH s45_23) (postV [.t 2] RV) (envV vs) M) : VCall Tryz.prog n_impl_pasts vs M RV :=
  vcall_of_wp (fun _ _ _ hl h => acall_of_wp mixed Tryz.func45 c45 (by kernel_rfl) hl h) hl h
@[go_sem] def l96_0 (_ : Unit) : KL := [kB 4 (.mv (.c (.sl none 0 0 true 0))) [0, 1]]
@[go_sem] def l96_1 (_ : Unit) : KL := [kA 8 (.mv (.t 1)),
  kA 9 (.mks [(.bool false)] 1 (.t 8)),
  kB 5 (.mv (.t 9)) [0, 5]]
@[go_sem] def l96_2 (_ : Unit) : KL := [kA 10 (.mv (.t 0)),
  kA 11 (.len (.t 10)),
  kB 12 (.mv (cI 0)) [5, 10, 11, 12]]
@[go_sem] def l96_3 (_ : Unit) : KL := [kB 13 (.bin .lss (.t 12) (.t 11)) [5, 10, 11, 12, 13]]
@[go_sem] def l96_4 (_ : Unit) : KL := [kA 14 (.iaddr (.t 10) (.t 12) 1),
  kA 15 (.load (.t 14) 1 false),
  kB 7 (.mv (.t 15)) [5, 7, 10, 11, 12]]
@[go_sem] def l96_5 (_ : Unit) : KL := [kA 16 (.mv (.t 5)),
  kA 17 (.mv (.t 7)),
  kA 18 (.iaddr (.t 16) (.t 17) 1),
  (⟨none, .store (.t 18) 1 (.c (.bool true)), none⟩, (some [5, 10, 11, 12]))]
@[go_sem] def s96_6 (_ : Unit) : IR := (sQ [(kT l96_4), (kT l96_5)])
@[go_sem] def s96_7 (_ : Unit) : IR := (.block 1 (tH s96_6))
@[go_sem] def l96_8 (_ : Unit) : KL := [kA 19 (.bin .add (.t 12) (cI 1)),
  kB 12 (.mv (.t 19)) [5, 10, 11, 12]]
@[go_sem] def s96_9 (_ : Unit) : IR := (sQ [(kT l96_3), (.cond (.t 13) .skip (.exit 0)), (tH s96_7), (kT l96_8)])
@[go_sem] def s96_10 (_ : Unit) : IR := (.loop (tH s96_9))
@[go_sem] def s96_11 (_ : Unit) : IR := (.block 0 (tH s96_10))
@[go_sem] def s96_12 (_ : Unit) : IR := (sQ [(kT l96_2), (tH s96_11)])
@[go_sem] def l96_13 (_ : Unit) : KL := [kA 20 (.mv (.t 5)),
  kB 4 (.mv (.t 20)) [4]]
@[go_sem] def s96_14 (_ : Unit) : IR := (sQ [(kT l96_0), (kT l96_1), (tH s96_12), (kT l96_13), .ret])
theorem c96 : compFn Tryz.prog [(0, [], [oS [0, 1]]), (1, [], [oN, oN, oS [0, 5]]), (2, [], [oN, oN, oS [5, 10, 11, 12]]), (3, [], [oS [5, 10, 11, 12, 13]]), (4, [], [oN, oN, oS [5, 7, 10, 11, 12]]), (5, [], [oN, oN, oN, oS [5, 10, 11, 12]]), (6, [], [oN, oS [5, 10, 11, 12]]), (7, [], [oN, oS [4]])] Tryz.f96 = some ⟨2, 21, [.t 4], (tH s96_14)⟩ := by kernel_rfl
theorem v_impl_marks (hl : vs.length = 2) (h : wpV Tryz.prog (tH s96_14) (postV [.t 4] RV) (envV vs) M) : VCall Tryz.prog n_impl_marks vs M RV :=
  vcall_of_wp (fun _ _ _ hl h => acall_of_wp mixed Tryz.func96 c96 (by kernel_rfl) hl h) hl h
@[go_sem] def l43_0 (_ : Unit) : KL := [kB 2 (.mv (.c (.sl none 0 0 true 0))) [0]]
@[go_sem] def l43_1 (_ : Unit) : KL := [kB 3 (.mv (.c (.sl none 0 0 true 0))) [0, 3]]
@[go_sem] def l43_2 (_ : Unit) : KL := [kA 6 (.mv (.t 0)),
  kA 7 (.len (.t 6)),
  kB 8 (.mv (cI 0)) [3, 6, 7, 8]]
@[go_sem] def l43_3 (_ : Unit) : KL := [kB 9 (.bin .lss (.t 8) (.t 7)) [3, 6, 7, 8, 9]]
@[go_sem] def l43_4 (_ : Unit) : KL := [kA 10 (.mv (.t 8)),
  kA 11 (.iaddr (.t 6) (.t 8) 1),
  kA 12 (.load (.t 11) 1 false),
  kA 4 (.mv (.t 10)),
  kB 5 (.mv (.t 12)) [3, 4, 5, 6, 7, 8]]
@[go_sem] def l43_5 (_ : Unit) : KL := [kB 13 (.mv (.t 5)) [3, 4, 6, 7, 8, 13]]
@[go_sem] def l43_6 (_ : Unit) : KL := [kA 14 (.mv (.t 3)),
  kA 15 (.mv (.t 4)),
  kA 16 (.bslc 1 1 [(.int .i64 0)] [(0, (.t 15))]),
  kA 17 (.app 1 8 (.t 14) (.t 16)),
  kB 3 (.mv (.t 17)) [3, 6, 7, 8]]
@[go_sem] def s43_7 (_ : Unit) : IR := (sQ [(kT l43_4), (kT l43_5), (.cond (.t 13) (kT l43_6) .skip)])
@[go_sem] def s43_8 (_ : Unit) : IR := (.block 1 (tH s43_7))
@[go_sem] def l43_9 (_ : Unit) : KL := [kA 18 (.bin .add (.t 8) (cI 1)),
  kB 8 (.mv (.t 18)) [3, 6, 7, 8]]
@[go_sem] def s43_10 (_ : Unit) : IR := (sQ [(kT l43_3), (.cond (.t 9) .skip (.exit 0)), (tH s43_8), (kT l43_9)])
@[go_sem] def s43_11 (_ : Unit) : IR := (.loop (tH s43_10))
@[go_sem] def s43_12 (_ : Unit) : IR := (.block 0 (tH s43_11))
@[go_sem] def s43_13 (_ : Unit) : IR := (sQ [(kT l43_2), (tH s43_12)])
@[go_sem] def l43_14 (_ : Unit) : KL := [kA 19 (.mv (.t 3)),
  kA 20 (.call (n_impl_clone_int) [(.t 19)]),
  kB 2 (.mv (.t 20)) [2]]
@[go_sem] def s43_15 (_ : Unit) : IR := (sQ [(kT l43_0), (kT l43_1), (tH s43_13), (kT l43_14), .ret])
theorem c43 : compFn Tryz.prog [(0, [], [oS [0]]), (1, [], [oS [0, 3]]), (2, [], [oN, oN, oS [3, 6, 7, 8]]), (3, [], [oS [3, 6, 7, 8, 9]]), (4, [], [oN, oN, oN, oN, oS [3, 4, 5, 6, 7, 8]]), (5, [], [oS [3, 4, 6, 7, 8, 13]]), (6, [], [oN, oN, oN, oN, oS [3, 6, 7, 8]]), (7, [], [oN, oS [3, 6, 7, 8]]), (8, [], [oN, oN, oS [2]])] Tryz.f43 = some ⟨1, 21, [.t 2], (tH s43_15)⟩ := by kernel_rfl
theorem v_impl_listOf (hl : vs.length = 1) (h : wpV Tryz.prog (tH s43_15) (postV [.t 2] RV) (envV vs) M) : VCall Tryz.prog n_impl_listOf vs M RV :=
  vcall_of_wp (fun _ _ _ hl h => acall_of_wp mixed Tryz.func43 c43 (by kernel_rfl) hl h) hl h
@[go_sem] def l72_0 (_ : Unit) : KL := [kB 4 (.mv (.c (.sl none 0 0 true 0))) [0, 1]]
@[go_sem] def l72_1 (_ : Unit) : KL := [kA 10 (.mv (.t 0)),
  kA 11 (.len (.t 10)),
  kA 12 (.mks [(.bool false)] 1 (.t 11)),
  kB 5 (.mv (.t 12)) [0, 1, 5]]
@[go_sem] def l72_2 (_ : Unit) : KL := [kA 13 (.mv (.t 1)),
  kA 14 (.len (.t 13)),
  kB 15 (.mv (cI 0)) [0, 5, 13, 14, 15]]
@[go_sem] def l72_3 (_ : Unit) : KL := [kB 16 (.bin .lss (.t 15) (.t 14)) [0, 5, 13, 14, 15, 16]]
@[go_sem] def l72_4 (_ : Unit) : KL := [kA 17 (.iaddr (.t 13) (.t 15) 1),
  kA 18 (.load (.t 17) 1 false),
  kB 7 (.mv (.t 18)) [0, 5, 7, 13, 14, 15]]
@[go_sem] def l72_5 (_ : Unit) : KL := [kA 19 (.mv (.t 0)),
  kA 20 (.mv (.t 7)),
  kA 21 (.iaddr (.t 19) (.t 20) 1),
  kA 22 (.load (.t 21) 1 false),
  kB 23 (.len (.t 22)) [0, 5, 13, 14, 15, 22, 23],
  kB 24 (.mv (cI 0)) [0, 5, 13, 14, 15, 22, 23, 24]]
@[go_sem] def l72_6 (_ : Unit) : KL := [kB 25 (.bin .lss (.t 24) (.t 23)) [0, 5, 13, 14, 15, 22, 23, 24, 25]]
@[go_sem] def l72_7 (_ : Unit) : KL := [kA 26 (.iaddr (.t 22) (.t 24) 1),
  kA 27 (.load (.t 26) 1 false),
  kB 9 (.mv (.t 27)) [0, 5, 9, 13, 14, 15, 22, 23, 24]]
@[go_sem] def l72_8 (_ : Unit) : KL := [kA 28 (.mv (.t 5)),
  kA 29 (.mv (.t 9)),
  kA 30 (.iaddr (.t 28) (.t 29) 1),
  (⟨none, .store (.t 30) 1 (.c (.bool true)), none⟩, (some [0, 5, 13, 14, 15, 22, 23, 24]))]
@[go_sem] def s72_9 (_ : Unit) : IR := (sQ [(kT l72_7), (kT l72_8)])
@[go_sem] def s72_10 (_ : Unit) : IR := (.block 3 (tH s72_9))
@[go_sem] def l72_11 (_ : Unit) : KL := [kA 31 (.bin .add (.t 24) (cI 1)),
  kB 24 (.mv (.t 31)) [0, 5, 13, 14, 15, 22, 23, 24]]
@[go_sem] def s72_12 (_ : Unit) : IR := (sQ [(kT l72_6), (.cond (.t 25) .skip (.exit 2)), (tH s72_10), (kT l72_11)])
@[go_sem] def s72_13 (_ : Unit) : IR := (.loop (tH s72_12))
@[go_sem] def s72_14 (_ : Unit) : IR := (.block 2 (tH s72_13))
@[go_sem] def s72_15 (_ : Unit) : IR := (sQ [(kT l72_4), (kT l72_5), (tH s72_14)])
@[go_sem] def s72_16 (_ : Unit) : IR := (.block 1 (tH s72_15))
@[go_sem] def l72_17 (_ : Unit) : KL := [kA 32 (.bin .add (.t 15) (cI 1)),
  kB 15 (.mv (.t 32)) [0, 5, 13, 14, 15]]
@[go_sem] def s72_18 (_ : Unit) : IR := (sQ [(kT l72_3), (.cond (.t 16) .skip (.exit 0)), (tH s72_16), (kT l72_17)])
@[go_sem] def s72_19 (_ : Unit) : IR := (.loop (tH s72_18))
@[go_sem] def s72_20 (_ : Unit) : IR := (.block 0 (tH s72_19))
@[go_sem] def s72_21 (_ : Unit) : IR := (sQ [(kT l72_2), (tH s72_20)])
@[go_sem] def l72_22 (_ : Unit) : KL := [kA 33 (.mv (.t 5)),
  kA 34 (.call (n_impl_listOf) [(.t 33)]),
  kB 4 (.mv (.t 34)) [4]]
@[go_sem] def s72_23 (_ : Unit) : IR := (sQ [(kT l72_0), (kT l72_1), (tH s72_21), (kT l72_22), .ret])
theorem c72 : compFn Tryz.prog [(0, [], [oS [0, 1]]), (1, [], [oN, oN, oN, oS [0, 1, 5]]), (2, [], [oN, oN, oS [0, 5, 13, 14, 15]]), (3, [], [oS [0, 5, 13, 14, 15, 16]]), (4, [], [oN, oN, oS [0, 5, 7, 13, 14, 15]]), (5, [], [oN, oN, oN, oN, oS [0, 5, 13, 14, 15, 22, 23], oS [0, 5, 13, 14, 15, 22, 23, 24]]), (6, [], [oS [0, 5, 13, 14, 15, 22, 23, 24, 25]]), (7, [], [oN, oN, oS [0, 5, 9, 13, 14, 15, 22, 23, 24]]), (8, [], [oN, oN, oN, oS [0, 5, 13, 14, 15, 22, 23, 24]]), (9, [], [oN, oS [0, 5, 13, 14, 15, 22, 23, 24]]), (10, [], [oN, oS [0, 5, 13, 14, 15]]), (11, [], [oN, oN, oS [4]])] Tryz.f72 = some ⟨2, 35, [.t 4], (tH s72_23)⟩ := by kernel_rfl
theorem v_impl_over (hl : vs.length = 2) (h : wpV Tryz.prog (tH s72_23) (postV [.t 4] RV) (envV vs) M) : VCall Tryz.prog n_impl_over vs M RV :=
  vcall_of_wp (fun _ _ _ hl h => acall_of_wp mixed Tryz.func72 c72 (by kernel_rfl) hl h) hl h
@[go_sem] def l93_0 (_ : Unit) : KL := [kB 6 (.mv (.c (.sl none 0 0 true 0))) [0, 1, 2]]
@[go_sem] def l93_1 (_ : Unit) : KL := [kA 12 (.mv (.t 1)),
  kA 13 (.mv (.t 0)),
  kA 14 (.len (.t 13)),
  kA 15 (.call (n_impl_marks) [(.t 12), (.t 14)]),
  kB 7 (.mv (.t 15)) [0, 2, 7]]
@[go_sem] def l93_2 (_ : Unit) : KL := [kA 16 (.mv (.t 2)),
  kB 17 (.mv (cI 0)) [0, 7, 16, 17]]
@[go_sem] def l93_3 (_ : Unit) : KL := [kB 18 (.bin .lss (.t 17) (.t 16)) [0, 7, 16, 17, 18]]
@[go_sem] def l93_4 (_ : Unit) : KL := [kA 19 (.mv (.t 0)),
  kA 20 (.mv (.t 7)),
  kA 21 (.call (n_impl_listOf) [(.t 20)]),
  kA 22 (.call (n_impl_over) [(.t 19), (.t 21)]),
  kB 8 (.mv (.t 22)) [0, 7, 8, 16, 17]]
@[go_sem] def l93_5 (_ : Unit) : KL := [kB 9 (.mv (.c (.bool false))) [0, 7, 8, 9, 16, 17]]
@[go_sem] def l93_6 (_ : Unit) : KL := [kA 23 (.mv (.t 8)),
  kA 24 (.len (.t 23)),
  kB 25 (.mv (cI 0)) [0, 7, 9, 16, 17, 23, 24, 25]]
@[go_sem] def l93_7 (_ : Unit) : KL := [kB 26 (.bin .lss (.t 25) (.t 24)) [0, 7, 9, 16, 17, 23, 24, 25, 26]]
@[go_sem] def l93_8 (_ : Unit) : KL := [kA 27 (.iaddr (.t 23) (.t 25) 1),
  kA 28 (.load (.t 27) 1 false),
  kB 11 (.mv (.t 28)) [0, 7, 9, 11, 16, 17, 23, 24, 25]]
@[go_sem] def l93_9 (_ : Unit) : KL := [kA 29 (.mv (.t 9)),
  kA 30 (.mv (.t 29)),
  (⟨(some 31), .mv (.t 7), (some (30, false))⟩, none),
  (⟨(some 32), .mv (.t 11), (some (30, false))⟩, none),
  (⟨(some 33), .iaddr (.t 31) (.t 32) 1, (some (30, false))⟩, (some [0, 7, 11, 16, 17, 23, 24, 25, 30, 33])),
  (⟨(some 34), .load (.t 33) 1 false, (some (30, false))⟩, none),
  (⟨(some 35), .un .not (.t 34), (some (30, false))⟩, none),
  kA 36 (.pick (.t 30) (.c (.bool true)) (.t 35)),
  kB 9 (.mv (.t 36)) [0, 7, 9, 11, 16, 17, 23, 24, 25]]
@[go_sem] def l93_10 (_ : Unit) : KL := [kA 37 (.mv (.t 7)),
  kA 38 (.mv (.t 11)),
  kA 39 (.iaddr (.t 37) (.t 38) 1),
  (⟨none, .store (.t 39) 1 (.c (.bool true)), none⟩, (some [0, 7, 9, 16, 17, 23, 24, 25]))]
@[go_sem] def s93_11 (_ : Unit) : IR := (sQ [(kT l93_8), (kT l93_9), (kT l93_10)])
@[go_sem] def s93_12 (_ : Unit) : IR := (.block 3 (tH s93_11))
@[go_sem] def l93_13 (_ : Unit) : KL := [kA 40 (.bin .add (.t 25) (cI 1)),
  kB 25 (.mv (.t 40)) [0, 7, 9, 16, 17, 23, 24, 25]]
@[go_sem] def s93_14 (_ : Unit) : IR := (sQ [(kT l93_7), (.cond (.t 26) .skip (.exit 2)), (tH s93_12), (kT l93_13)])
@[go_sem] def s93_15 (_ : Unit) : IR := (.loop (tH s93_14))
@[go_sem] def s93_16 (_ : Unit) : IR := (.block 2 (tH s93_15))
@[go_sem] def s93_17 (_ : Unit) : IR := (sQ [(kT l93_6), (tH s93_16)])
@[go_sem] def l93_18 (_ : Unit) : KL := [kA 41 (.mv (.t 9)),
  kB 42 (.un .not (.t 41)) [0, 7, 16, 17, 42]]
@[go_sem] def s93_19 (_ : Unit) : IR := (sQ [(kT l93_4), (kT l93_5), (tH s93_17), (kT l93_18), (.cond (.t 42) (.exit 0) .skip)])
@[go_sem] def s93_20 (_ : Unit) : IR := (.block 1 (tH s93_19))
@[go_sem] def l93_21 (_ : Unit) : KL := [kA 43 (.bin .add (.t 17) (cI 1)),
  kB 17 (.mv (.t 43)) [0, 7, 16, 17]]
@[go_sem] def s93_22 (_ : Unit) : IR := (sQ [(kT l93_3), (.cond (.t 18) .skip (.exit 0)), (tH s93_20), (kT l93_21)])
@[go_sem] def s93_23 (_ : Unit) : IR := (.loop (tH s93_22))
@[go_sem] def s93_24 (_ : Unit) : IR := (.block 0 (tH s93_23))
@[go_sem] def s93_25 (_ : Unit) : IR := (sQ [(kT l93_2), (tH s93_24)])
@[go_sem] def l93_26 (_ : Unit) : KL := [kA 44 (.mv (.t 7)),
  kB 6 (.mv (.t 44)) [6]]
@[go_sem] def s93_27 (_ : Unit) : IR := (sQ [(kT l93_0), (kT l93_1), (tH s93_25), (kT l93_26), .ret])
theorem c93 : compFn Tryz.prog [(0, [], [oS [0, 1, 2]]), (1, [], [oN, oN, oN, oN, oS [0, 2, 7]]), (2, [], [oN, oS [0, 7, 16, 17]]), (3, [], [oS [0, 7, 16, 17, 18]]), (4, [], [oN, oN, oN, oN, oS [0, 7, 8, 16, 17]]), (5, [], [oS [0, 7, 8, 9, 16, 17]]), (6, [], [oN, oN, oS [0, 7, 9, 16, 17, 23, 24, 25]]), (7, [], [oS [0, 7, 9, 16, 17, 23, 24, 25, 26]]), (8, [], [oN, oN, oS [0, 7, 9, 11, 16, 17, 23, 24, 25]]), (9, [], [oN, oN, oN, oN, oS [0, 7, 11, 16, 17, 23, 24, 25, 30, 33], oN, oN, oN, oS [0, 7, 9, 11, 16, 17, 23, 24, 25]]), (10, [], [oN, oN, oN, oS [0, 7, 9, 16, 17, 23, 24, 25]]), (11, [], [oN, oS [0, 7, 9, 16, 17, 23, 24, 25]]), (12, [], [oN, oS [0, 7, 16, 17, 42]]), (13, [], [oN, oS [0, 7, 16, 17]]), (14, [], [oN, oS [6]])] Tryz.f93 = some ⟨3, 45, [.t 6], (tH s93_27)⟩ := by kernel_rfl
theorem v_impl_within (hl : vs.length = 3) (h : wpV Tryz.prog (tH s93_27) (postV [.t 6] RV) (envV vs) M) : VCall Tryz.prog n_impl_within vs M RV :=
  vcall_of_wp (fun _ _ _ hl h => acall_of_wp mixed Tryz.func93 c93 (by kernel_rfl) hl h) hl h
@[go_sem] def l47_0 (_ : Unit) : KL := [kA 4 (.box (.t 0)),
  kB 8 (.mv (.c (.sl none 0 0 true 0))) [1, 2, 3, 4]]
@[go_sem] def l47_1 (_ : Unit) : KL := [kA 10 (.load (.t 4) 2 true),
  kA 11 (.mv (.t 1)),
  kA 12 (.call (n_impl_SetValid) [(.t 10), (.t 11)]),
  kA 13 (.un .not (.t 12)),
  kB 14 (.mv (.t 13)) [1, 2, 3, 4, 14],
  (⟨(some 15), .mv (.t 2), (some (14, false))⟩, none),
  (⟨(some 16), .call (n_impl_in) [(.t 15), (cI 0), (.c (.int .i64 400))], (some (14, false))⟩, none),
  (⟨(some 17), .un .not (.t 16), (some (14, false))⟩, none),
  kB 18 (.pick (.t 14) (.c (.bool true)) (.t 17)) [1, 2, 3, 4, 18]]
@[go_sem] def l47_2 (_ : Unit) : KL := [kB 8 (.mv (.c (.sl none 0 0 true 0))) [8]]
@[go_sem] def s47_3 (_ : Unit) : IR := (sQ [(kT l47_2), .ret])
@[go_sem] def s47_4 (_ : Unit) : IR := (sQ [(kT l47_1), (.cond (.t 18) (tH s47_3) .skip)])
@[go_sem] def l47_5 (_ : Unit) : KL := [kA 19 (.load (.t 4) 2 true),
  kA 20 (.call (n_impl_nexts) [(.t 19)]),
  kB 9 (.mv (.t 20)) [1, 2, 3, 9]]
@[go_sem] def l47_6 (_ : Unit) : KL := [kB 21 (.mv (.t 3)) [1, 2, 9, 21]]
@[go_sem] def l47_7 (_ : Unit) : KL := [kA 22 (.mv (.t 9)),
  kA 23 (.call (n_impl_pasts) [(.t 22)]),
  kB 9 (.mv (.t 23)) [1, 2, 9]]
@[go_sem] def s47_8 (_ : Unit) : IR := (sQ [(kT l47_6), (.cond (.t 21) (kT l47_7) .skip)])
@[go_sem] def l47_9 (_ : Unit) : KL := [kA 24 (.mv (.t 9)),
  kA 25 (.mv (.t 1)),
  kA 26 (.mv (.t 2)),
  kA 27 (.call (n_impl_within) [(.t 24), (.t 25), (.t 26)]),
  kB 28 (.call (n_impl_listOf) [(.t 27)]) [28],
  kB 8 (.mv (.t 28)) [8]]
@[go_sem] def s47_10 (_ : Unit) : IR := (sQ [(kT l47_0), (tH s47_4), (kT l47_5), (tH s47_8), (kT l47_9), .ret])
theorem c47 : compFn Tryz.prog [(0, [], [oN, oS [1, 2, 3, 4]]), (1, [], [oN, oN, oN, oN, oS [1, 2, 3, 4, 14], oN, oN, oN, oS [1, 2, 3, 4, 18]]), (2, [], [oS [8]]), (3, [], [oN, oN, oS [1, 2, 3, 9]]), (4, [], [oS [1, 2, 9, 21]]), (5, [], [oN, oN, oS [1, 2, 9]]), (6, [], [oN, oN, oN, oN, oS [28], oS [8]])] Tryz.f47 = some ⟨4, 29, [.t 8], (tH s47_10)⟩ := by kernel_rfl
theorem v_impl_withinOf (hl : vs.length = 4) (h : wpV Tryz.prog (tH s47_10) (postV [.t 8] RV) (envV vs) M) : VCall Tryz.prog n_impl_withinOf vs M RV :=
  vcall_of_wp (fun _ _ _ hl h => acall_of_wp mixed Tryz.func47 c47 (by kernel_rfl) hl h) hl h
@[go_sem] def l16_0 (_ : Unit) : KL := [kA 3 (.box (.t 0)),
  kB 6 (.mv (.c (.sl none 0 0 true 0))) [1, 2, 3]]
@[go_sem] def l16_1 (_ : Unit) : KL := [kA 7 (.load (.t 3) 2 true),
  kA 8 (.mv (.t 1)),
  kA 9 (.mv (.t 2)),
  kA 10 (.call (n_impl_withinOf) [(.t 7), (.t 8), (.t 9), (.c (.bool true))]),
  kB 6 (.mv (.t 10)) [6]]
@[go_sem] def s16_2 (_ : Unit) : IR := (sQ [(kT l16_0), (kT l16_1), .ret])
theorem c16 : compFn Tryz.prog [(0, [], [oN, oS [1, 2, 3]]), (1, [], [oN, oN, oN, oN, oS [6]])] Tryz.f16 = some ⟨3, 11, [.t 6], (tH s16_2)⟩ := by kernel_rfl
theorem v_impl_BackWithin (hl : vs.length = 3) (h : wpV Tryz.prog (tH s16_2) (postV [.t 6] RV) (envV vs) M) : VCall Tryz.prog n_impl_BackWithin vs M RV :=
  vcall_of_wp (fun _ _ _ hl h => acall_of_wp mixed Tryz.func16 c16 (by kernel_rfl) hl h) hl h
@[go_sem] def l17_0 (_ : Unit) : KL := [kA 3 (.box (.t 0)),
  kB 6 (.mv (.c (.sl none 0 0 true 0))) [1, 2, 3]]
@[go_sem] def l17_1 (_ : Unit) : KL := [kA 7 (.load (.t 3) 2 true),
  kA 8 (.mv (.t 1)),
  kA 9 (.mv (.t 2)),
  kA 10 (.call (n_impl_withinOf) [(.t 7), (.t 8), (.t 9), (.c (.bool false))]),
  kB 6 (.mv (.t 10)) [6]]
@[go_sem] def s17_2 (_ : Unit) : IR := (sQ [(kT l17_0), (kT l17_1), .ret])
theorem c17 : compFn Tryz.prog [(0, [], [oN, oS [1, 2, 3]]), (1, [], [oN, oN, oN, oN, oS [6]])] Tryz.f17 = some ⟨3, 11, [.t 6], (tH s17_2)⟩ := by kernel_rfl
theorem v_impl_AheadWithin (hl : vs.length = 3) (h : wpV Tryz.prog (tH s17_2) (postV [.t 6] RV) (envV vs) M) : VCall Tryz.prog n_impl_AheadWithin vs M RV :=
  vcall_of_wp (fun _ _ _ hl h => acall_of_wp mixed Tryz.func17 c17 (by kernel_rfl) hl h) hl h
@[go_sem] def l21_0 (_ : Unit) : KL := [kA 2 (.box (.t 0)),
  kB 4 (.mv (.c (.bool false))) [1, 2]]
@[go_sem] def l21_1 (_ : Unit) : KL := [kA 7 (.load (.t 2) 2 true),
  kA 8 (.call (n_spec_SizeOf) [(.t 7)]),
  kB 5 (.mv (.t 8)) [1, 5]]
@[go_sem] def l21_2 (_ : Unit) : KL := [kB 6 (.mv (cI 0)) [1, 5, 6]]
@[go_sem] def l21_3 (_ : Unit) : KL := [kA 9 (.mv (.t 6)),
  kA 10 (.mv (.t 1)),
  kA 11 (.len (.t 10)),
  kB 12 (.bin .lss (.t 9) (.t 11)) [1, 5, 6, 12]]
@[go_sem] def s21_4 (_ : Unit) : IR := (sQ [(kT l21_3), (.cond (.t 12) .skip (.exit 0))])
@[go_sem] def l21_5 : Nat → GOp
  | 0 => ⟨(some 15), .mv (.t 1), none⟩
  | 1 => ⟨(some 16), .mv (.t 6), none⟩
  | 2 => ⟨(some 17), .iaddr (.t 15) (.t 16) 1, none⟩
  | 3 => ⟨(some 18), .load (.t 17) 1 false, none⟩
  | 4 => ⟨(some 19), .mv (.t 5), none⟩
  | 5 => ⟨(some 20), .bin .sub (.t 19) (cI 1), none⟩
  | 6 => ⟨(some 21), .call (n_spec_l1In) [(.t 18), (cI 0), (.t 20)], none⟩
  | 7 => ⟨(some 22), .un .not (.t 21), none⟩
  | 8 => ⟨(some 23), .mv (.t 22), none⟩
  | 9 => ⟨(some 24), .mv (.t 6), (some (23, false))⟩
  | 10 => ⟨(some 25), .bin .gtr (.t 24) (cI 0), (some (23, false))⟩
  | 11 => ⟨(some 26), .mv (.t 25), (some (23, false))⟩
  | 12 => ⟨(some 27), .mv (.t 1), (some (26, true))⟩
  | 13 => ⟨(some 28), .mv (.t 6), (some (26, true))⟩
  | 14 => ⟨(some 29), .iaddr (.t 27) (.t 28) 1, (some (26, true))⟩
  | 15 => ⟨(some 30), .load (.t 29) 1 false, (some (26, true))⟩
  | 16 => ⟨(some 31), .mv (.t 1), (some (26, true))⟩
  | 17 => ⟨(some 32), .mv (.t 6), (some (26, true))⟩
  | 18 => ⟨(some 33), .bin .sub (.t 32) (cI 1), (some (26, true))⟩
  | 19 => ⟨(some 34), .iaddr (.t 31) (.t 33) 1, (some (26, true))⟩
  | 20 => ⟨(some 35), .load (.t 34) 1 false, (some (26, true))⟩
  | 21 => ⟨(some 36), .bin .leq (.t 30) (.t 35), (some (26, true))⟩
  | 22 => ⟨(some 37), .pick (.t 26) (.t 36) (.c (.bool false)), (some (23, false))⟩
  | 23 => ⟨(some 38), .pick (.t 23) (.c (.bool true)) (.t 37), none⟩
  | _ => ⟨none, .mkmap, none⟩
@[go_sem] def l21_6 (_ : Unit) : KL := [kB 4 (.mv (.c (.bool false))) [4]]
@[go_sem] def s21_7 (_ : Unit) : IR := (sQ [(kT l21_6), .ret])
@[go_sem] def s21_8 (_ : Unit) : IR := (sQ [(.kd (oF l21_5 24) [(0, []), (1, []), (2, []), (3, []), (4, []), (5, []), (6, []), (7, []), (8, []), (9, []), (10, []), (11, []), (12, []), (13, []), (14, []), (15, []), (16, []), (17, []), (18, []), (19, []), (20, []), (21, []), (22, []), (23, [])] [1, 5, 6, 38]), (.cond (.t 38) (tH s21_7) .skip)])
@[go_sem] def s21_9 (_ : Unit) : IR := (.block 1 (tH s21_8))
@[go_sem] def l21_10 (_ : Unit) : KL := [kA 13 (.mv (.t 6)),
  kA 14 (.bin .add (.t 13) (cI 1)),
  kB 6 (.mv (.t 14)) [1, 5, 6]]
@[go_sem] def s21_11 (_ : Unit) : IR := (sQ [(tH s21_4), (tH s21_9), (kT l21_10)])
@[go_sem] def s21_12 (_ : Unit) : IR := (.loop (tH s21_11))
@[go_sem] def s21_13 (_ : Unit) : IR := (.block 0 (tH s21_12))
@[go_sem] def s21_14 (_ : Unit) : IR := (sQ [(kT l21_2), (tH s21_13)])
@[go_sem] def l21_15 (_ : Unit) : KL := [kA 39 (.mv (.t 5)),
  kA 40 (.bin .gtr (.t 39) (cI 0)),
  kB 4 (.mv (.t 40)) [4]]
@[go_sem] def s21_16 (_ : Unit) : IR := (sQ [(kT l21_0), (kT l21_1), (tH s21_14), (kT l21_15), .ret])
theorem c21 : compFn Tryz.prog [(0, [], [oN, oS [1, 2]]), (1, [], [oN, oN, oS [1, 5]]), (2, [], [oS [1, 5, 6]]), (3, [], [oN, oN, oN, oS [1, 5, 6, 12]]), (5, [(0, []), (1, []), (2, []), (3, []), (4, []), (5, []), (6, []), (7, []), (8, []), (9, []), (10, []), (11, []), (12, []), (13, []), (14, []), (15, []), (16, []), (17, []), (18, []), (19, []), (20, []), (21, []), (22, []), (23, [])], [oS [1, 5, 6, 38]]), (6, [], [oS [4]]), (4, [], [oN, oN, oS [1, 5, 6]]), (7, [], [oN, oN, oS [4]])] Tryz.f21 = some ⟨2, 41, [.t 4], (tH s21_16)⟩ := by kernel_rfl
theorem v_spec_SetValid (hl : vs.length = 2) (h : wpV Tryz.prog (tH s21_16) (postV [.t 4] RV) (envV vs) M) : VCall Tryz.prog n_spec_SetValid vs M RV :=
  vcall_of_wp (fun _ _ _ hl h => acall_of_wp mixed Tryz.func21 c21 (by kernel_rfl) hl h) hl h
@[go_sem] def l48_0 (_ : Unit) : KL := [kB 2 (.mv (.c (.bool false))) [0]]
@[go_sem] def l48_1 (_ : Unit) : KL := [kA 3 (.mv (.t 0)),
  kA 4 (.call (n_spec_l1In) [(.t 3), (cI 0), (.c (.int .i64 400))]),
  kB 2 (.mv (.t 4)) [2]]
@[go_sem] def s48_2 (_ : Unit) : IR := (sQ [(kT l48_0), (kT l48_1), .ret])
theorem c48 : compFn Tryz.prog [(0, [], [oS [0]]), (1, [], [oN, oN, oS [2]])] Tryz.f48 = some ⟨1, 5, [.t 2], (tH s48_2)⟩ := by kernel_rfl
theorem v_spec_l19Steps (hl : vs.length = 1) (h : wpV Tryz.prog (tH s48_2) (postV [.t 2] RV) (envV vs) M) : VCall Tryz.prog n_spec_l19Steps vs M RV :=
  vcall_of_wp (fun _ _ _ hl h => acall_of_wp mixed Tryz.func48 c48 (by kernel_rfl) hl h) hl h
@[go_sem] def l119_0 (_ : Unit) : KL := [kA 1 (.box (.t 0)),
  kB 2 (.mv (.c (.sl none 0 0 true 0))) [1]]
@[go_sem] def l119_1 (_ : Unit) : KL := [kA 5 (.bslc 1 0 [(.int .i64 0)] []),
  kB 3 (.mv (.t 5)) [1, 3]]
@[go_sem] def l119_2 (_ : Unit) : KL := [kB 4 (.mv (cI 0)) [1, 3, 4]]
@[go_sem] def l119_3 (_ : Unit) : KL := [kA 6 (.mv (.t 4)),
  kA 7 (.faddr (.t 1) 0),
  kA 8 (.load (.t 7) 1 false),
  kA 9 (.len (.t 8)),
  kB 10 (.bin .lss (.t 6) (.t 9)) [1, 3, 4, 10],
  kA 11 (.mv (.t 10)),
  (⟨(some 12), .load (.t 1) 2 true, (some (11, true))⟩, none),
  (⟨(some 13), .call (n_spec_SystemValid) [(.t 12)], (some (11, true))⟩, none),
  kB 14 (.pick (.t 11) (.t 13) (.c (.bool false))) [1, 3, 4, 14]]
@[go_sem] def s119_4 (_ : Unit) : IR := (sQ [(kT l119_3), (.cond (.t 14) .skip (.exit 0))])
@[go_sem] def l119_5 (_ : Unit) : KL := [kA 17 (.mv (.t 3)),
  kA 18 (.faddr (.t 1) 0),
  kA 19 (.load (.t 18) 1 false),
  kA 20 (.mv (.t 4)),
  kB 21 (.iaddr (.t 19) (.t 20) 3) [1, 4, 17, 21],
  kA 22 (.faddr (.t 21) 2),
  kA 23 (.load (.t 22) 1 false),
  kA 24 (.bslc 1 1 [(.int .i64 0)] [(0, (.t 23))]),
  kA 25 (.app 1 8 (.t 17) (.t 24)),
  kB 3 (.mv (.t 25)) [1, 3, 4]]
@[go_sem] def s119_6 (_ : Unit) : IR := (.block 1 (kT l119_5))
@[go_sem] def l119_7 (_ : Unit) : KL := [kA 15 (.mv (.t 4)),
  kA 16 (.bin .add (.t 15) (cI 1)),
  kB 4 (.mv (.t 16)) [1, 3, 4]]
@[go_sem] def s119_8 (_ : Unit) : IR := (sQ [(tH s119_4), (tH s119_6), (kT l119_7)])
@[go_sem] def s119_9 (_ : Unit) : IR := (.loop (tH s119_8))
@[go_sem] def s119_10 (_ : Unit) : IR := (.block 0 (tH s119_9))
@[go_sem] def s119_11 (_ : Unit) : IR := (sQ [(kT l119_2), (tH s119_10)])
@[go_sem] def l119_12 (_ : Unit) : KL := [kA 26 (.mv (.t 3)),
  kB 2 (.mv (.t 26)) [2]]
@[go_sem] def s119_13 (_ : Unit) : IR := (sQ [(kT l119_0), (kT l119_1), (tH s119_11), (kT l119_12), .ret])
theorem c119 : compFn Tryz.prog [(0, [], [oN, oS [1]]), (1, [], [oN, oS [1, 3]]), (2, [], [oS [1, 3, 4]]), (3, [], [oN, oN, oN, oN, oS [1, 3, 4, 10], oN, oN, oN, oS [1, 3, 4, 14]]), (5, [], [oN, oN, oN, oN, oS [1, 4, 17, 21], oN, oN, oN, oN, oS [1, 3, 4]]), (4, [], [oN, oN, oS [1, 3, 4]]), (6, [], [oN, oS [2]])] Tryz.f119 = some ⟨1, 27, [.t 2], (tH s119_13)⟩ := by kernel_rfl
theorem v_spec_FirstState (hl : vs.length = 1) (h : wpV Tryz.prog (tH s119_13) (postV [.t 2] RV) (envV vs) M) : VCall Tryz.prog n_spec_FirstState vs M RV :=
  vcall_of_wp (fun _ _ _ hl h => acall_of_wp mixed Tryz.func119 c119 (by kernel_rfl) hl h) hl h
@[go_sem] def l104_0 (_ : Unit) : KL := [kB 2 (.mv (.c (.sl none 0 0 true 0))) [0]]
@[go_sem] def l104_1 (_ : Unit) : KL := [kA 5 (.bslc 1 0 [(.int .i64 0)] []),
  kB 3 (.mv (.t 5)) [0, 3]]
@[go_sem] def l104_2 (_ : Unit) : KL := [kB 4 (.mv (cI 0)) [0, 3, 4]]
@[go_sem] def l104_3 (_ : Unit) : KL := [kA 6 (.mv (.t 4)),
  kA 7 (.mv (.t 0)),
  kA 8 (.len (.t 7)),
  kB 9 (.bin .lss (.t 6) (.t 8)) [0, 3, 4, 9]]
@[go_sem] def s104_4 (_ : Unit) : IR := (sQ [(kT l104_3), (.cond (.t 9) .skip (.exit 0))])
@[go_sem] def l104_5 (_ : Unit) : KL := [kA 12 (.mv (.t 3)),
  kA 13 (.mv (.t 0)),
  kA 14 (.mv (.t 4)),
  kA 15 (.iaddr (.t 13) (.t 14) 1),
  kB 16 (.load (.t 15) 1 false) [0, 4, 12, 16],
  kA 17 (.bslc 1 1 [(.int .i64 0)] [(0, (.t 16))]),
  kA 18 (.app 1 8 (.t 12) (.t 17)),
  kB 3 (.mv (.t 18)) [0, 3, 4]]
@[go_sem] def s104_6 (_ : Unit) : IR := (.block 1 (kT l104_5))
@[go_sem] def l104_7 (_ : Unit) : KL := [kA 10 (.mv (.t 4)),
  kA 11 (.bin .add (.t 10) (cI 1)),
  kB 4 (.mv (.t 11)) [0, 3, 4]]
@[go_sem] def s104_8 (_ : Unit) : IR := (sQ [(tH s104_4), (tH s104_6), (kT l104_7)])
@[go_sem] def s104_9 (_ : Unit) : IR := (.loop (tH s104_8))
@[go_sem] def s104_10 (_ : Unit) : IR := (.block 0 (tH s104_9))
@[go_sem] def s104_11 (_ : Unit) : IR := (sQ [(kT l104_2), (tH s104_10)])
@[go_sem] def l104_12 (_ : Unit) : KL := [kA 19 (.mv (.t 3)),
  kB 2 (.mv (.t 19)) [2]]
@[go_sem] def s104_13 (_ : Unit) : IR := (sQ [(kT l104_0), (kT l104_1), (tH s104_11), (kT l104_12), .ret])
theorem c104 : compFn Tryz.prog [(0, [], [oS [0]]), (1, [], [oN, oS [0, 3]]), (2, [], [oS [0, 3, 4]]), (3, [], [oN, oN, oN, oS [0, 3, 4, 9]]), (5, [], [oN, oN, oN, oN, oS [0, 4, 12, 16], oN, oN, oS [0, 3, 4]]), (4, [], [oN, oN, oS [0, 3, 4]]), (6, [], [oN, oS [2]])] Tryz.f104 = some ⟨1, 20, [.t 2], (tH s104_13)⟩ := by kernel_rfl
theorem v_spec_l3Copy (hl : vs.length = 1) (h : wpV Tryz.prog (tH s104_13) (postV [.t 2] RV) (envV vs) M) : VCall Tryz.prog n_spec_l3Copy vs M RV :=
  vcall_of_wp (fun _ _ _ hl h => acall_of_wp mixed Tryz.func104 c104 (by kernel_rfl) hl h) hl h
@[go_sem] def l90_0 (_ : Unit) : KL := [kA 2 (.box (.t 0)),
  kB 4 (.mv (.c (.sl none 0 0 true 0))) [1, 2]]
@[go_sem] def l90_1 (_ : Unit) : KL := [kA 8 (.load (.t 2) 2 true),
  kA 9 (.call (n_spec_FirstState) [(.t 8)]),
  kA 10 (.call (n_spec_l3Copy) [(.t 9)]),
  kB 5 (.mv (.t 10)) [1, 2, 5]]
@[go_sem] def l90_2 (_ : Unit) : KL := [kA 11 (.faddr (.t 2) 0),
  kA 12 (.load (.t 11) 1 false),
  kA 13 (.len (.t 12)),
  kA 14 (.bin .sub (.t 13) (cI 1)),
  kB 6 (.mv (.t 14)) [1, 2, 5, 6]]
@[go_sem] def l90_3 (_ : Unit) : KL := [kA 15 (.mv (.t 6)),
  kB 16 (.bin .geq (.t 15) (cI 0)) [1, 2, 5, 6, 16]]
@[go_sem] def s90_4 (_ : Unit) : IR := (sQ [(kT l90_3), (.cond (.t 16) .skip (.exit 0))])
@[go_sem] def l90_5 : Nat → GOp
  | 0 => ⟨(some 19), .faddr (.t 2) 0, none⟩
  | 1 => ⟨(some 20), .load (.t 19) 1 false, none⟩
  | 2 => ⟨(some 21), .mv (.t 6), none⟩
  | 3 => ⟨(some 22), .iaddr (.t 20) (.t 21) 3, none⟩
  | 4 => ⟨(some 23), .faddr (.t 22) 1, none⟩
  | 5 => ⟨(some 24), .load (.t 23) 1 false, none⟩
  | 6 => ⟨(some 25), .faddr (.t 2) 0, none⟩
  | 7 => ⟨(some 26), .load (.t 25) 1 false, none⟩
  | 8 => ⟨(some 27), .mv (.t 6), none⟩
  | 9 => ⟨(some 28), .iaddr (.t 26) (.t 27) 3, none⟩
  | 10 => ⟨(some 29), .faddr (.t 28) 0, none⟩
  | 11 => ⟨(some 30), .load (.t 29) 1 false, none⟩
  | 12 => ⟨(some 31), .bin .sub (.t 24) (.t 30), none⟩
  | 13 => ⟨(some 32), .bin .add (.t 31) (cI 1), none⟩
  | 14 => ⟨(some 7), .mv (.t 32), none⟩
  | _ => ⟨none, .mkmap, none⟩
@[go_sem] def l90_6 : Nat → GOp
  | 0 => ⟨(some 33), .mv (.t 5), none⟩
  | 1 => ⟨(some 34), .mv (.t 6), none⟩
  | 2 => ⟨(some 35), .faddr (.t 2) 0, none⟩
  | 3 => ⟨(some 36), .load (.t 35) 1 false, none⟩
  | 4 => ⟨(some 37), .mv (.t 6), none⟩
  | 5 => ⟨(some 38), .iaddr (.t 36) (.t 37) 3, none⟩
  | 6 => ⟨(some 39), .faddr (.t 38) 0, none⟩
  | 7 => ⟨(some 40), .load (.t 39) 1 false, none⟩
  | 8 => ⟨(some 41), .mv (.t 1), none⟩
  | 9 => ⟨(some 42), .mv (.t 7), none⟩
  | 10 => ⟨(some 43), .bin .rem (.t 41) (.t 42), none⟩
  | 11 => ⟨(some 44), .bin .add (.t 40) (.t 43), none⟩
  | 12 => ⟨(some 45), .iaddr (.t 33) (.t 34) 1, none⟩
  | 13 => ⟨none, .store (.t 45) 1 (.t 44), none⟩
  | _ => ⟨none, .mkmap, none⟩
@[go_sem] def l90_7 (_ : Unit) : KL := [kA 46 (.mv (.t 1)),
  kA 47 (.mv (.t 7)),
  kA 48 (.bin .quo (.t 46) (.t 47)),
  kB 1 (.mv (.t 48)) [1, 2, 5, 6]]
@[go_sem] def s90_8 (_ : Unit) : IR := (sQ [(.kd (oF l90_5 15) [(0, []), (1, []), (2, []), (3, []), (4, []), (5, []), (6, []), (7, []), (8, []), (9, []), (10, []), (11, []), (12, []), (13, []), (14, [])] [1, 2, 5, 6, 7]), (.kd (oF l90_6 14) [(0, []), (1, []), (2, []), (3, []), (4, []), (5, []), (6, []), (7, []), (8, []), (9, []), (10, []), (11, []), (12, []), (13, [])] [1, 2, 5, 6, 7]), (kT l90_7)])
@[go_sem] def s90_9 (_ : Unit) : IR := (.block 1 (tH s90_8))
@[go_sem] def l90_10 (_ : Unit) : KL := [kA 17 (.mv (.t 6)),
  kA 18 (.bin .sub (.t 17) (cI 1)),
  kB 6 (.mv (.t 18)) [1, 2, 5, 6]]
@[go_sem] def s90_11 (_ : Unit) : IR := (sQ [(tH s90_4), (tH s90_9), (kT l90_10)])
@[go_sem] def s90_12 (_ : Unit) : IR := (.loop (tH s90_11))
@[go_sem] def s90_13 (_ : Unit) : IR := (.block 0 (tH s90_12))
@[go_sem] def s90_14 (_ : Unit) : IR := (sQ [(kT l90_2), (tH s90_13)])
@[go_sem] def l90_15 (_ : Unit) : KL := [kA 49 (.mv (.t 5)),
  kB 4 (.mv (.t 49)) [4]]
@[go_sem] def s90_16 (_ : Unit) : IR := (sQ [(kT l90_0), (kT l90_1), (tH s90_14), (kT l90_15), .ret])
theorem c90 : compFn Tryz.prog [(0, [], [oN, oS [1, 2]]), (1, [], [oN, oN, oN, oS [1, 2, 5]]), (2, [], [oN, oN, oN, oN, oS [1, 2, 5, 6]]), (3, [], [oN, oS [1, 2, 5, 6, 16]]), (5, [(0, []), (1, []), (2, []), (3, []), (4, []), (5, []), (6, []), (7, []), (8, []), (9, []), (10, []), (11, []), (12, []), (13, []), (14, [])], [oS [1, 2, 5, 6, 7]]), (6, [(0, []), (1, []), (2, []), (3, []), (4, []), (5, []), (6, []), (7, []), (8, []), (9, []), (10, []), (11, []), (12, []), (13, [])], [oS [1, 2, 5, 6, 7]]), (7, [], [oN, oN, oN, oS [1, 2, 5, 6]]), (4, [], [oN, oN, oS [1, 2, 5, 6]]), (8, [], [oN, oS [4]])] Tryz.f90 = some ⟨2, 50, [.t 4], (tH s90_16)⟩ := by kernel_rfl
theorem v_spec_l4State (hl : vs.length = 2) (h : wpV Tryz.prog (tH s90_16) (postV [.t 4] RV) (envV vs) M) : VCall Tryz.prog n_spec_l4State vs M RV :=
  vcall_of_wp (fun _ _ _ hl h => acall_of_wp mixed Tryz.func90 c90 (by kernel_rfl) hl h) hl h
@[go_sem] def l152_0 (_ : Unit) : KL := [kB 2 (.mv (cI 0)) [0]]
@[go_sem] def l152_1 (_ : Unit) : KL := [kA 3 (.mv (.t 0)),
  kB 4 (.bin .gtr (.t 3) (.c (.int .i64 9999))) [0, 4]]
@[go_sem] def l152_2 (_ : Unit) : KL := [kB 2 (.mv (.c (.int .i64 9999))) [2]]
@[go_sem] def s152_3 (_ : Unit) : IR := (sQ [(kT l152_2), .ret])
@[go_sem] def s152_4 (_ : Unit) : IR := (sQ [(kT l152_1), (.cond (.t 4) (tH s152_3) .skip)])
@[go_sem] def l152_5 (_ : Unit) : KL := [kA 5 (.mv (.t 0)),
  kB 6 (.bin .lss (.t 5) (.c (.int .i64 (-9999)))) [0, 6]]
@[go_sem] def l152_6 (_ : Unit) : KL := [kB 2 (.mv (.c (.int .i64 (-9999)))) [2]]
@[go_sem] def s152_7 (_ : Unit) : IR := (sQ [(kT l152_6), .ret])
@[go_sem] def s152_8 (_ : Unit) : IR := (sQ [(kT l152_5), (.cond (.t 6) (tH s152_7) .skip)])
@[go_sem] def l152_9 (_ : Unit) : KL := [kA 7 (.mv (.t 0)),
  kB 2 (.mv (.t 7)) [2]]
@[go_sem] def s152_10 (_ : Unit) : IR := (sQ [(kT l152_0), (tH s152_4), (tH s152_8), (kT l152_9), .ret])
theorem c152 : compFn Tryz.prog [(0, [], [oS [0]]), (1, [], [oN, oS [0, 4]]), (2, [], [oS [2]]), (3, [], [oN, oS [0, 6]]), (4, [], [oS [2]]), (5, [], [oN, oS [2]])] Tryz.f152 = some ⟨1, 8, [.t 2], (tH s152_10)⟩ := by kernel_rfl
theorem v_spec_l1Held (hl : vs.length = 1) (h : wpV Tryz.prog (tH s152_10) (postV [.t 2] RV) (envV vs) M) : VCall Tryz.prog n_spec_l1Held vs M RV :=
  vcall_of_wp (fun _ _ _ hl h => acall_of_wp mixed Tryz.func152 c152 (by kernel_rfl) hl h) hl h
@[go_sem] def l153_0 (_ : Unit) : KL := [kB 2 (.mv (cI 0)) [0]]
@[go_sem] def l153_1 (_ : Unit) : KL := [kB 3 (.mv (.t 0)) [3]]
@[go_sem] def l153_2 (_ : Unit) : KL := [kB 2 (.mv (cI 1)) [2]]
@[go_sem] def s153_3 (_ : Unit) : IR := (sQ [(kT l153_2), .ret])
@[go_sem] def s153_4 (_ : Unit) : IR := (sQ [(kT l153_1), (.cond (.t 3) (tH s153_3) .skip)])
@[go_sem] def l153_5 (_ : Unit) : KL := [kB 2 (.mv (cI 0)) [2]]
@[go_sem] def s153_6 (_ : Unit) : IR := (sQ [(kT l153_0), (tH s153_4), (kT l153_5), .ret])
theorem c153 : compFn Tryz.prog [(0, [], [oS [0]]), (1, [], [oS [3]]), (2, [], [oS [2]]), (3, [], [oS [2]])] Tryz.f153 = some ⟨1, 4, [.t 2], (tH s153_6)⟩ := by kernel_rfl
theorem v_spec_l1Truth (hl : vs.length = 1) (h : wpV Tryz.prog (tH s153_6) (postV [.t 2] RV) (envV vs) M) : VCall Tryz.prog n_spec_l1Truth vs M RV :=
  vcall_of_wp (fun _ _ _ hl h => acall_of_wp mixed Tryz.func153 c153 (by kernel_rfl) hl h) hl h
end Go.M2
