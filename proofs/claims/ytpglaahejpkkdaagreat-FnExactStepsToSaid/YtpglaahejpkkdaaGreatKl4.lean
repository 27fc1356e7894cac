/- The functions, turned: printed by program. -/
import Derived.Test.YtpglaahejpkkdaaGreatKl3
import Derived.Test.YtpglaahejpkkdaaGreatProg
import Derived.KernelRfl
set_option linter.unusedVariables false
set_option linter.unusedSimpArgs false
set_option maxRecDepth 10000
set_option maxHeartbeats 4000000
namespace Go.M2
open Go.Proofs
variable {M : MH} {vs : List V} {RV : V → MH → Prop}
theorem mixed : Tryz.prog.follows .mixedOrders = true := by kernel_rfl
def n_laws_szVarS : Nat := 50
def n_laws_szTermS : Nat := 34
def n_laws_szIntS : Nat := 99
def n_laws_szTermSS : Nat := 137
def n_laws_szRule : Nat := 105
def n_laws_szRuleS : Nat := 51
def n_laws_szSystem : Nat := 14
def n_laws_toVar : Nat := 107
def n_laws_toVarS : Nat := 58
def n_laws_toTerm : Nat := 89
def n_laws_toTermS : Nat := 36
def n_laws_toIntS : Nat := 17
def n_laws_toTermSS : Nat := 138
def n_laws_toRule : Nat := 108
def n_laws_toRuleS : Nat := 59
def n_laws_toSystem : Nat := 16
def n_spec_l1In : Nat := 106
def n_spec_l2Var : Nat := 125
def n_spec_l1One : Nat := 162
def n_spec_l1Kind : Nat := 152
def n_spec_KindsOf : Nat := 130
def n_spec_l2Is : Nat := 87
def n_spec_l2Rule : Nat := 126
def n_spec_SystemValid : Nat := 75
def n_spec_SizeOf : Nat := 57
def n_spec_FirstState : Nat := 84
def n_spec_l3Copy : Nat := 117
def n_spec_l4State : Nat := 70
def n_spec_l1Held : Nat := 168
def n_spec_l1Truth : Nat := 169
def n_spec_l1Do : Nat := 163
def n_spec_l1Values : Nat := 153
def n_spec_l2Last : Nat := 131
def n_spec_l2In : Nat := 145
def n_spec_l2Use : Nat := 115
def n_spec_l2Same : Nat := 100
def n_spec_l2Less : Nat := 146
def n_spec_l2Put : Nat := 116
def n_spec_l2Next : Nat := 69
def n_spec_l4Number : Nat := 83
def n_spec_l4Steps : Nat := 55
def n_spec_l4Marks : Nat := 56
def n_spec_l5First : Nat := 77
def n_spec_l5Steps : Nat := 76
def n_spec_StepsTo : Nat := 30
def n_impl_in : Nat := 101
def n_slices_IndexFunc_Simpl_Var_impl_Var : Nat := 147
def n_slices_ContainsFunc_Simpl_Var_impl_Var : Nat := 118
def n_impl_varOk : Nat := 120
def n_impl_SystemValid_1 : Nat := 119
def n_impl_size : Nat := 94
def n_impl_parts : Nat := 164
def n_impl_kindsOf : Nat := 154
def n_impl_kindOf : Nat := 132
def n_impl_ruleOk : Nat := 123
def n_impl_SystemValid_2 : Nat := 122
def n_slices_IndexFunc_Simpl_Rule_impl_Rule : Nat := 148
def n_slices_ContainsFunc_Simpl_Rule_impl_Rule : Nat := 121
def n_impl_SystemValid : Nat := 71
def n_impl_stateAt : Nat := 110
def n_impl_held : Nat := 170
def n_impl_bit : Nat := 171
def n_impl_do : Nat := 165
def n_impl_eval : Nat := 155
def n_impl_clone_int : Nat := 78
def n_impl_inRange : Nat := 156
def n_impl_use : Nat := 139
def n_slices_BinarySearchFunc_SSint_Sint_Sint : Nat := 140
def n_cmp_isNaN_int : Nat := 166
def n_cmp_Compare_int : Nat := 157
def n_slices_Compare_Sint_int : Nat := 141
def n_slices_Reverse_SSint_Sint : Nat := 172
def n_slices_rotateLeft_Sint : Nat := 167
def n_slices_rotateRight_Sint : Nat := 159
def n_slices_Insert_SSint_Sint : Nat := 142
def n_impl_clone_Sint : Nat := 143
def n_impl_nextStates : Nat := 109
def n_impl_number : Nat := 80
def n_impl_nexts : Nat := 62
def n_impl_first : Nat := 81
def n_math_bits_Mul32 : Nat := 160
def n_math_bits_Mul64 : Nat := 161
def n_math_bits_Mul : Nat := 150
def n_slices_Repeat_Sint_int : Nat := 127
def n_impl_steps : Nat := 79
def n_impl_StepsTo : Nat := 31
def n_laws_eqIntS : Nat := 19
def n_laws_eqVar : Nat := 111
def n_laws_eqVarS : Nat := 63
def n_laws_eqTerm : Nat := 92
def n_laws_eqTermS : Nat := 38
def n_laws_eqTermSS : Nat := 144
def n_laws_eqRule : Nat := 112
def n_laws_eqRuleS : Nat := 64
def n_laws_eqSystem : Nat := 20
def n_laws_markVarS : Nat := 65
def n_laws_markTermS : Nat := 113
def n_laws_markIntS : Nat := 22
def n_laws_markTermSS : Nat := 114
def n_laws_markRuleS : Nat := 66
def n_laws_markSystem : Nat := 21
def n_laws_heldIntS : Nat := 23
def n_laws_FnExactStepsTo : Nat := 7
@[go_sem] def l50_0 (_ : Unit) : KL := [kB 4 (.mv (cI 0)) [0, 1]]
@[go_sem] def l50_1 (_ : Unit) : KL := [kA 5 (.mv (.t 1)),
  kA 6 (.mv (.t 0)),
  kA 7 (.len (.t 6)),
  kA 8 (.bin .sub (.t 5) (.t 7)),
  kB 1 (.mv (.t 8)) [1]]
@[go_sem] def l50_2 (_ : Unit) : KL := [kA 9 (.mv (.t 1)),
  kB 10 (.bin .lss (.t 9) (cI 0)) [1, 10]]
@[go_sem] def l50_3 (_ : Unit) : KL := [kB 4 (.mv (.c (.int .i64 (-1)))) [4]]
@[go_sem] def s50_4 (_ : Unit) : IR := (sQ [(kT l50_3), .ret])
@[go_sem] def s50_5 (_ : Unit) : IR := (sQ [(kT l50_2), (.cond (.t 10) (tH s50_4) .skip)])
@[go_sem] def l50_6 (_ : Unit) : KL := [kA 11 (.mv (.t 1)),
  kB 4 (.mv (.t 11)) [4]]
@[go_sem] def s50_7 (_ : Unit) : IR := (sQ [(kT l50_0), (kT l50_1), (tH s50_5), (kT l50_6), .ret])
theorem c50 : compFn Tryz.prog [(0, [], [oS [0, 1]]), (1, [], [oN, oN, oN, oN, oS [1]]), (2, [], [oN, oS [1, 10]]), (3, [], [oS [4]]), (4, [], [oN, oS [4]])] Tryz.f50 = some ⟨2, 12, [.t 4], (tH s50_7)⟩ := by kernel_rfl
theorem v_laws_szVarS (hl : vs.length = 2) (h : wpV Tryz.prog (tH s50_7) (postV [.t 4] RV) (envV vs) M) : VCall Tryz.prog n_laws_szVarS vs M RV :=
  vcall_of_wp (fun _ _ _ hl h => acall_of_wp mixed Tryz.func50 c50 (by kernel_rfl) hl h) hl h
@[go_sem] def l34_0 (_ : Unit) : KL := [kB 4 (.mv (cI 0)) [0, 1]]
@[go_sem] def l34_1 (_ : Unit) : KL := [kA 5 (.mv (.t 1)),
  kA 6 (.mv (.t 0)),
  kA 7 (.len (.t 6)),
  kA 8 (.bin .sub (.t 5) (.t 7)),
  kB 1 (.mv (.t 8)) [1]]
@[go_sem] def l34_2 (_ : Unit) : KL := [kA 9 (.mv (.t 1)),
  kB 10 (.bin .lss (.t 9) (cI 0)) [1, 10]]
@[go_sem] def l34_3 (_ : Unit) : KL := [kB 4 (.mv (.c (.int .i64 (-1)))) [4]]
@[go_sem] def s34_4 (_ : Unit) : IR := (sQ [(kT l34_3), .ret])
@[go_sem] def s34_5 (_ : Unit) : IR := (sQ [(kT l34_2), (.cond (.t 10) (tH s34_4) .skip)])
@[go_sem] def l34_6 (_ : Unit) : KL := [kA 11 (.mv (.t 1)),
  kB 4 (.mv (.t 11)) [4]]
@[go_sem] def s34_7 (_ : Unit) : IR := (sQ [(kT l34_0), (kT l34_1), (tH s34_5), (kT l34_6), .ret])
theorem c34 : compFn Tryz.prog [(0, [], [oS [0, 1]]), (1, [], [oN, oN, oN, oN, oS [1]]), (2, [], [oN, oS [1, 10]]), (3, [], [oS [4]]), (4, [], [oN, oS [4]])] Tryz.f34 = some ⟨2, 12, [.t 4], (tH s34_7)⟩ := by kernel_rfl
theorem v_laws_szTermS (hl : vs.length = 2) (h : wpV Tryz.prog (tH s34_7) (postV [.t 4] RV) (envV vs) M) : VCall Tryz.prog n_laws_szTermS vs M RV :=
  vcall_of_wp (fun _ _ _ hl h => acall_of_wp mixed Tryz.func34 c34 (by kernel_rfl) hl h) hl h
@[go_sem] def l99_0 (_ : Unit) : KL := [kB 4 (.mv (cI 0)) [0, 1]]
@[go_sem] def l99_1 (_ : Unit) : KL := [kA 5 (.mv (.t 1)),
  kA 6 (.mv (.t 0)),
  kA 7 (.len (.t 6)),
  kA 8 (.bin .sub (.t 5) (.t 7)),
  kB 1 (.mv (.t 8)) [1]]
@[go_sem] def l99_2 (_ : Unit) : KL := [kA 9 (.mv (.t 1)),
  kB 10 (.bin .lss (.t 9) (cI 0)) [1, 10]]
@[go_sem] def l99_3 (_ : Unit) : KL := [kB 4 (.mv (.c (.int .i64 (-1)))) [4]]
@[go_sem] def s99_4 (_ : Unit) : IR := (sQ [(kT l99_3), .ret])
@[go_sem] def s99_5 (_ : Unit) : IR := (sQ [(kT l99_2), (.cond (.t 10) (tH s99_4) .skip)])
@[go_sem] def l99_6 (_ : Unit) : KL := [kA 11 (.mv (.t 1)),
  kB 4 (.mv (.t 11)) [4]]
@[go_sem] def s99_7 (_ : Unit) : IR := (sQ [(kT l99_0), (kT l99_1), (tH s99_5), (kT l99_6), .ret])
theorem c99 : compFn Tryz.prog [(0, [], [oS [0, 1]]), (1, [], [oN, oN, oN, oN, oS [1]]), (2, [], [oN, oS [1, 10]]), (3, [], [oS [4]]), (4, [], [oN, oS [4]])] Tryz.f99 = some ⟨2, 12, [.t 4], (tH s99_7)⟩ := by kernel_rfl
theorem v_laws_szIntS (hl : vs.length = 2) (h : wpV Tryz.prog (tH s99_7) (postV [.t 4] RV) (envV vs) M) : VCall Tryz.prog n_laws_szIntS vs M RV :=
  vcall_of_wp (fun _ _ _ hl h => acall_of_wp mixed Tryz.func99 c99 (by kernel_rfl) hl h) hl h
@[go_sem] def l137_0 (_ : Unit) : KL := [kB 4 (.mv (cI 0)) [0, 1]]
@[go_sem] def l137_1 (_ : Unit) : KL := [kA 6 (.mv (.t 1)),
  kA 7 (.mv (.t 0)),
  kA 8 (.len (.t 7)),
  kA 9 (.bin .sub (.t 6) (.t 8)),
  kB 1 (.mv (.t 9)) [0, 1]]
@[go_sem] def l137_2 (_ : Unit) : KL := [kA 10 (.mv (.t 1)),
  kB 11 (.bin .lss (.t 10) (cI 0)) [0, 1, 11]]
@[go_sem] def l137_3 (_ : Unit) : KL := [kB 4 (.mv (.c (.int .i64 (-1)))) [4]]
@[go_sem] def s137_4 (_ : Unit) : IR := (sQ [(kT l137_3), .ret])
@[go_sem] def s137_5 (_ : Unit) : IR := (sQ [(kT l137_2), (.cond (.t 11) (tH s137_4) .skip)])
@[go_sem] def l137_6 (_ : Unit) : KL := [kB 5 (.mv (cI 0)) [0, 1, 5]]
@[go_sem] def l137_7 (_ : Unit) : KL := [kA 12 (.mv (.t 5)),
  kA 13 (.mv (.t 0)),
  kA 14 (.len (.t 13)),
  kB 15 (.bin .lss (.t 12) (.t 14)) [0, 1, 5, 15]]
@[go_sem] def s137_8 (_ : Unit) : IR := (sQ [(kT l137_7), (.cond (.t 15) .skip (.exit 0))])
@[go_sem] def l137_9 (_ : Unit) : KL := [kA 18 (.mv (.t 0)),
  kA 19 (.mv (.t 5)),
  kA 20 (.iaddr (.t 18) (.t 19) 1),
  kA 21 (.load (.t 20) 1 false),
  kB 22 (.mv (.t 1)) [0, 5, 21, 22],
  kA 23 (.call (n_laws_szTermS) [(.t 21), (.t 22)]),
  kB 1 (.mv (.t 23)) [0, 1, 5]]
@[go_sem] def l137_10 (_ : Unit) : KL := [kA 24 (.mv (.t 1)),
  kB 25 (.bin .lss (.t 24) (cI 0)) [0, 1, 5, 25]]
@[go_sem] def l137_11 (_ : Unit) : KL := [kB 4 (.mv (.c (.int .i64 (-1)))) [4]]
@[go_sem] def s137_12 (_ : Unit) : IR := (sQ [(kT l137_11), .ret])
@[go_sem] def s137_13 (_ : Unit) : IR := (sQ [(kT l137_9), (kT l137_10), (.cond (.t 25) (tH s137_12) .skip)])
@[go_sem] def s137_14 (_ : Unit) : IR := (.block 1 (tH s137_13))
@[go_sem] def l137_15 (_ : Unit) : KL := [kA 16 (.mv (.t 5)),
  kA 17 (.bin .add (.t 16) (cI 1)),
  kB 5 (.mv (.t 17)) [0, 1, 5]]
@[go_sem] def s137_16 (_ : Unit) : IR := (sQ [(tH s137_8), (tH s137_14), (kT l137_15)])
@[go_sem] def s137_17 (_ : Unit) : IR := (.loop (tH s137_16))
@[go_sem] def s137_18 (_ : Unit) : IR := (.block 0 (tH s137_17))
@[go_sem] def s137_19 (_ : Unit) : IR := (sQ [(kT l137_6), (tH s137_18)])
@[go_sem] def l137_20 (_ : Unit) : KL := [kA 26 (.mv (.t 1)),
  kB 4 (.mv (.t 26)) [4]]
@[go_sem] def s137_21 (_ : Unit) : IR := (sQ [(kT l137_0), (kT l137_1), (tH s137_5), (tH s137_19), (kT l137_20), .ret])
theorem c137 : compFn Tryz.prog [(0, [], [oS [0, 1]]), (1, [], [oN, oN, oN, oN, oS [0, 1]]), (2, [], [oN, oS [0, 1, 11]]), (3, [], [oS [4]]), (4, [], [oS [0, 1, 5]]), (5, [], [oN, oN, oN, oS [0, 1, 5, 15]]), (7, [], [oN, oN, oN, oN, oS [0, 5, 21, 22], oN, oS [0, 1, 5]]), (8, [], [oN, oS [0, 1, 5, 25]]), (9, [], [oS [4]]), (6, [], [oN, oN, oS [0, 1, 5]]), (10, [], [oN, oS [4]])] Tryz.f137 = some ⟨2, 27, [.t 4], (tH s137_21)⟩ := by kernel_rfl
theorem v_laws_szTermSS (hl : vs.length = 2) (h : wpV Tryz.prog (tH s137_21) (postV [.t 4] RV) (envV vs) M) : VCall Tryz.prog n_laws_szTermSS vs M RV :=
  vcall_of_wp (fun _ _ _ hl h => acall_of_wp mixed Tryz.func137 c137 (by kernel_rfl) hl h) hl h
@[go_sem] def l105_0 (_ : Unit) : KL := [kA 2 (.box (.t 0)),
  kB 4 (.mv (cI 0)) [1, 2]]
@[go_sem] def l105_1 (_ : Unit) : KL := [kA 5 (.faddr (.t 2) 0),
  kA 6 (.load (.t 5) 1 false),
  kA 7 (.mv (.t 1)),
  kA 8 (.call (n_laws_szTermS) [(.t 6), (.t 7)]),
  kB 1 (.mv (.t 8)) [1, 2]]
@[go_sem] def l105_2 (_ : Unit) : KL := [kA 9 (.mv (.t 1)),
  kB 10 (.bin .lss (.t 9) (cI 0)) [1, 2, 10]]
@[go_sem] def l105_3 (_ : Unit) : KL := [kB 4 (.mv (.c (.int .i64 (-1)))) [4]]
@[go_sem] def s105_4 (_ : Unit) : IR := (sQ [(kT l105_3), .ret])
@[go_sem] def s105_5 (_ : Unit) : IR := (sQ [(kT l105_2), (.cond (.t 10) (tH s105_4) .skip)])
@[go_sem] def l105_6 (_ : Unit) : KL := [kA 11 (.faddr (.t 2) 1),
  kA 12 (.load (.t 11) 1 false),
  kA 13 (.mv (.t 1)),
  kA 14 (.call (n_laws_szIntS) [(.t 12), (.t 13)]),
  kB 1 (.mv (.t 14)) [1, 2]]
@[go_sem] def l105_7 (_ : Unit) : KL := [kA 15 (.mv (.t 1)),
  kB 16 (.bin .lss (.t 15) (cI 0)) [1, 2, 16]]
@[go_sem] def l105_8 (_ : Unit) : KL := [kB 4 (.mv (.c (.int .i64 (-1)))) [4]]
@[go_sem] def s105_9 (_ : Unit) : IR := (sQ [(kT l105_8), .ret])
@[go_sem] def s105_10 (_ : Unit) : IR := (sQ [(kT l105_7), (.cond (.t 16) (tH s105_9) .skip)])
@[go_sem] def l105_11 (_ : Unit) : KL := [kA 17 (.faddr (.t 2) 2),
  kA 18 (.load (.t 17) 1 false),
  kA 19 (.mv (.t 1)),
  kA 20 (.call (n_laws_szTermSS) [(.t 18), (.t 19)]),
  kB 1 (.mv (.t 20)) [1]]
@[go_sem] def l105_12 (_ : Unit) : KL := [kA 21 (.mv (.t 1)),
  kB 22 (.bin .lss (.t 21) (cI 0)) [1, 22]]
@[go_sem] def l105_13 (_ : Unit) : KL := [kB 4 (.mv (.c (.int .i64 (-1)))) [4]]
@[go_sem] def s105_14 (_ : Unit) : IR := (sQ [(kT l105_13), .ret])
@[go_sem] def s105_15 (_ : Unit) : IR := (sQ [(kT l105_12), (.cond (.t 22) (tH s105_14) .skip)])
@[go_sem] def l105_16 (_ : Unit) : KL := [kA 23 (.mv (.t 1)),
  kB 4 (.mv (.t 23)) [4]]
@[go_sem] def s105_17 (_ : Unit) : IR := (sQ [(kT l105_0), (kT l105_1), (tH s105_5), (kT l105_6), (tH s105_10), (kT l105_11), (tH s105_15), (kT l105_16), .ret])
theorem c105 : compFn Tryz.prog [(0, [], [oN, oS [1, 2]]), (1, [], [oN, oN, oN, oN, oS [1, 2]]), (2, [], [oN, oS [1, 2, 10]]), (3, [], [oS [4]]), (4, [], [oN, oN, oN, oN, oS [1, 2]]), (5, [], [oN, oS [1, 2, 16]]), (6, [], [oS [4]]), (7, [], [oN, oN, oN, oN, oS [1]]), (8, [], [oN, oS [1, 22]]), (9, [], [oS [4]]), (10, [], [oN, oS [4]])] Tryz.f105 = some ⟨2, 24, [.t 4], (tH s105_17)⟩ := by kernel_rfl
theorem v_laws_szRule (hl : vs.length = 2) (h : wpV Tryz.prog (tH s105_17) (postV [.t 4] RV) (envV vs) M) : VCall Tryz.prog n_laws_szRule vs M RV :=
  vcall_of_wp (fun _ _ _ hl h => acall_of_wp mixed Tryz.func105 c105 (by kernel_rfl) hl h) hl h
@[go_sem] def l51_0 (_ : Unit) : KL := [kB 4 (.mv (cI 0)) [0, 1]]
@[go_sem] def l51_1 (_ : Unit) : KL := [kA 6 (.mv (.t 1)),
  kA 7 (.mv (.t 0)),
  kA 8 (.len (.t 7)),
  kA 9 (.bin .sub (.t 6) (.t 8)),
  kB 1 (.mv (.t 9)) [0, 1]]
@[go_sem] def l51_2 (_ : Unit) : KL := [kA 10 (.mv (.t 1)),
  kB 11 (.bin .lss (.t 10) (cI 0)) [0, 1, 11]]
@[go_sem] def l51_3 (_ : Unit) : KL := [kB 4 (.mv (.c (.int .i64 (-1)))) [4]]
@[go_sem] def s51_4 (_ : Unit) : IR := (sQ [(kT l51_3), .ret])
@[go_sem] def s51_5 (_ : Unit) : IR := (sQ [(kT l51_2), (.cond (.t 11) (tH s51_4) .skip)])
@[go_sem] def l51_6 (_ : Unit) : KL := [kB 5 (.mv (cI 0)) [0, 1, 5]]
@[go_sem] def l51_7 (_ : Unit) : KL := [kA 12 (.mv (.t 5)),
  kA 13 (.mv (.t 0)),
  kA 14 (.len (.t 13)),
  kB 15 (.bin .lss (.t 12) (.t 14)) [0, 1, 5, 15]]
@[go_sem] def s51_8 (_ : Unit) : IR := (sQ [(kT l51_7), (.cond (.t 15) .skip (.exit 0))])
@[go_sem] def l51_9 (_ : Unit) : KL := [kA 18 (.mv (.t 0)),
  kA 19 (.mv (.t 5)),
  kA 20 (.iaddr (.t 18) (.t 19) 3),
  kA 21 (.load (.t 20) 3 true),
  kB 22 (.mv (.t 1)) [0, 5, 21, 22],
  kA 23 (.call (n_laws_szRule) [(.t 21), (.t 22)]),
  kB 1 (.mv (.t 23)) [0, 1, 5]]
@[go_sem] def l51_10 (_ : Unit) : KL := [kA 24 (.mv (.t 1)),
  kB 25 (.bin .lss (.t 24) (cI 0)) [0, 1, 5, 25]]
@[go_sem] def l51_11 (_ : Unit) : KL := [kB 4 (.mv (.c (.int .i64 (-1)))) [4]]
@[go_sem] def s51_12 (_ : Unit) : IR := (sQ [(kT l51_11), .ret])
@[go_sem] def s51_13 (_ : Unit) : IR := (sQ [(kT l51_9), (kT l51_10), (.cond (.t 25) (tH s51_12) .skip)])
@[go_sem] def s51_14 (_ : Unit) : IR := (.block 1 (tH s51_13))
@[go_sem] def l51_15 (_ : Unit) : KL := [kA 16 (.mv (.t 5)),
  kA 17 (.bin .add (.t 16) (cI 1)),
  kB 5 (.mv (.t 17)) [0, 1, 5]]
@[go_sem] def s51_16 (_ : Unit) : IR := (sQ [(tH s51_8), (tH s51_14), (kT l51_15)])
@[go_sem] def s51_17 (_ : Unit) : IR := (.loop (tH s51_16))
@[go_sem] def s51_18 (_ : Unit) : IR := (.block 0 (tH s51_17))
@[go_sem] def s51_19 (_ : Unit) : IR := (sQ [(kT l51_6), (tH s51_18)])
@[go_sem] def l51_20 (_ : Unit) : KL := [kA 26 (.mv (.t 1)),
  kB 4 (.mv (.t 26)) [4]]
@[go_sem] def s51_21 (_ : Unit) : IR := (sQ [(kT l51_0), (kT l51_1), (tH s51_5), (tH s51_19), (kT l51_20), .ret])
theorem c51 : compFn Tryz.prog [(0, [], [oS [0, 1]]), (1, [], [oN, oN, oN, oN, oS [0, 1]]), (2, [], [oN, oS [0, 1, 11]]), (3, [], [oS [4]]), (4, [], [oS [0, 1, 5]]), (5, [], [oN, oN, oN, oS [0, 1, 5, 15]]), (7, [], [oN, oN, oN, oN, oS [0, 5, 21, 22], oN, oS [0, 1, 5]]), (8, [], [oN, oS [0, 1, 5, 25]]), (9, [], [oS [4]]), (6, [], [oN, oN, oS [0, 1, 5]]), (10, [], [oN, oS [4]])] Tryz.f51 = some ⟨2, 27, [.t 4], (tH s51_21)⟩ := by kernel_rfl
theorem v_laws_szRuleS (hl : vs.length = 2) (h : wpV Tryz.prog (tH s51_21) (postV [.t 4] RV) (envV vs) M) : VCall Tryz.prog n_laws_szRuleS vs M RV :=
  vcall_of_wp (fun _ _ _ hl h => acall_of_wp mixed Tryz.func51 c51 (by kernel_rfl) hl h) hl h
@[go_sem] def l14_0 (_ : Unit) : KL := [kA 2 (.box (.t 0)),
  kB 4 (.mv (cI 0)) [1, 2]]
@[go_sem] def l14_1 (_ : Unit) : KL := [kA 5 (.faddr (.t 2) 0),
  kA 6 (.load (.t 5) 1 false),
  kA 7 (.mv (.t 1)),
  kA 8 (.call (n_laws_szVarS) [(.t 6), (.t 7)]),
  kB 1 (.mv (.t 8)) [1, 2]]
@[go_sem] def l14_2 (_ : Unit) : KL := [kA 9 (.mv (.t 1)),
  kB 10 (.bin .lss (.t 9) (cI 0)) [1, 2, 10]]
@[go_sem] def l14_3 (_ : Unit) : KL := [kB 4 (.mv (.c (.int .i64 (-1)))) [4]]
@[go_sem] def s14_4 (_ : Unit) : IR := (sQ [(kT l14_3), .ret])
@[go_sem] def s14_5 (_ : Unit) : IR := (sQ [(kT l14_2), (.cond (.t 10) (tH s14_4) .skip)])
@[go_sem] def l14_6 (_ : Unit) : KL := [kA 11 (.faddr (.t 2) 1),
  kA 12 (.load (.t 11) 1 false),
  kA 13 (.mv (.t 1)),
  kA 14 (.call (n_laws_szRuleS) [(.t 12), (.t 13)]),
  kB 1 (.mv (.t 14)) [1]]
@[go_sem] def l14_7 (_ : Unit) : KL := [kA 15 (.mv (.t 1)),
  kB 16 (.bin .lss (.t 15) (cI 0)) [1, 16]]
@[go_sem] def l14_8 (_ : Unit) : KL := [kB 4 (.mv (.c (.int .i64 (-1)))) [4]]
@[go_sem] def s14_9 (_ : Unit) : IR := (sQ [(kT l14_8), .ret])
@[go_sem] def s14_10 (_ : Unit) : IR := (sQ [(kT l14_7), (.cond (.t 16) (tH s14_9) .skip)])
@[go_sem] def l14_11 (_ : Unit) : KL := [kA 17 (.mv (.t 1)),
  kB 4 (.mv (.t 17)) [4]]
@[go_sem] def s14_12 (_ : Unit) : IR := (sQ [(kT l14_0), (kT l14_1), (tH s14_5), (kT l14_6), (tH s14_10), (kT l14_11), .ret])
theorem c14 : compFn Tryz.prog [(0, [], [oN, oS [1, 2]]), (1, [], [oN, oN, oN, oN, oS [1, 2]]), (2, [], [oN, oS [1, 2, 10]]), (3, [], [oS [4]]), (4, [], [oN, oN, oN, oN, oS [1]]), (5, [], [oN, oS [1, 16]]), (6, [], [oS [4]]), (7, [], [oN, oS [4]])] Tryz.f14 = some ⟨2, 18, [.t 4], (tH s14_12)⟩ := by kernel_rfl
theorem v_laws_szSystem (hl : vs.length = 2) (h : wpV Tryz.prog (tH s14_12) (postV [.t 4] RV) (envV vs) M) : VCall Tryz.prog n_laws_szSystem vs M RV :=
  vcall_of_wp (fun _ _ _ hl h => acall_of_wp mixed Tryz.func14 c14 (by kernel_rfl) hl h) hl h
@[go_sem] def l107_0 (_ : Unit) : KL := [kA 1 (.box (.t 0)),
  kB 2 (.alloc [(.int .i64 0), (.int .i64 0), (.int .i64 0)]) [1, 2]]
@[go_sem] def l107_1 (_ : Unit) : KL := [kB 3 (.alloc [(.int .i64 0), (.int .i64 0), (.int .i64 0)]) [1, 2, 3]]
@[go_sem] def l107_2 (_ : Unit) : KL := [kA 4 (.faddr (.t 1) 0),
  kA 5 (.load (.t 4) 1 false),
  kA 6 (.faddr (.t 3) 0),
  (⟨none, .store (.t 6) 1 (.t 5), none⟩, (some [1, 2, 3]))]
@[go_sem] def l107_3 (_ : Unit) : KL := [kA 7 (.faddr (.t 1) 1),
  kA 8 (.load (.t 7) 1 false),
  kA 9 (.faddr (.t 3) 1),
  (⟨none, .store (.t 9) 1 (.t 8), none⟩, (some [1, 2, 3]))]
@[go_sem] def l107_4 (_ : Unit) : KL := [kA 10 (.faddr (.t 1) 2),
  kA 11 (.load (.t 10) 1 false),
  kA 12 (.faddr (.t 3) 2),
  (⟨none, .store (.t 12) 1 (.t 11), none⟩, (some [2, 3]))]
@[go_sem] def l107_5 (_ : Unit) : KL := [kA 13 (.load (.t 3) 3 true),
  (⟨none, .store (.t 2) 3 (.t 13), none⟩, (some [2]))]
@[go_sem] def s107_6 (_ : Unit) : IR := (sQ [(kT l107_0), (kT l107_1), (kT l107_2), (kT l107_3), (kT l107_4), (kT l107_5), .ret])
theorem c107 : compFn Tryz.prog [(0, [], [oN, oS [1, 2]]), (1, [], [oS [1, 2, 3]]), (2, [], [oN, oN, oN, oS [1, 2, 3]]), (3, [], [oN, oN, oN, oS [1, 2, 3]]), (4, [], [oN, oN, oN, oS [2, 3]]), (5, [], [oN, oS [2]])] Tryz.f107 = some ⟨1, 14, [.c 2 3 true], (tH s107_6)⟩ := by kernel_rfl
theorem v_laws_toVar (hl : vs.length = 1) (h : wpV Tryz.prog (tH s107_6) (postV [.c 2 3 true] RV) (envV vs) M) : VCall Tryz.prog n_laws_toVar vs M RV :=
  vcall_of_wp (fun _ _ _ hl h => acall_of_wp mixed Tryz.func107 c107 (by kernel_rfl) hl h) hl h
@[go_sem] def l58_0 (_ : Unit) : KL := [kB 2 (.mv (.c (.sl none 0 0 true 0))) [0]]
@[go_sem] def l58_1 (_ : Unit) : KL := [kA 5 (.mv (.t 0)),
  kA 6 (.len (.t 5)),
  kA 7 (.mks [(.int .i64 0), (.int .i64 0), (.int .i64 0)] 24 (.t 6)),
  kB 3 (.mv (.t 7)) [0, 3]]
@[go_sem] def l58_2 (_ : Unit) : KL := [kB 4 (.mv (cI 0)) [0, 3, 4]]
@[go_sem] def l58_3 (_ : Unit) : KL := [kA 8 (.mv (.t 4)),
  kA 9 (.mv (.t 0)),
  kA 10 (.len (.t 9)),
  kB 11 (.bin .lss (.t 8) (.t 10)) [0, 3, 4, 11]]
@[go_sem] def s58_4 (_ : Unit) : IR := (sQ [(kT l58_3), (.cond (.t 11) .skip (.exit 0))])
@[go_sem] def l58_5 (_ : Unit) : KL := [kA 14 (.mv (.t 3)),
  kA 15 (.mv (.t 4)),
  kA 16 (.mv (.t 0)),
  kA 17 (.mv (.t 4)),
  kB 18 (.iaddr (.t 16) (.t 17) 3) [0, 3, 4, 14, 15, 18],
  kA 19 (.load (.t 18) 3 true),
  kA 20 (.call (n_laws_toVar) [(.t 19)]),
  kA 21 (.iaddr (.t 14) (.t 15) 3),
  (⟨none, .store (.t 21) 3 (.t 20), none⟩, (some [0, 3, 4]))]
@[go_sem] def s58_6 (_ : Unit) : IR := (.block 1 (kT l58_5))
@[go_sem] def l58_7 (_ : Unit) : KL := [kA 12 (.mv (.t 4)),
  kA 13 (.bin .add (.t 12) (cI 1)),
  kB 4 (.mv (.t 13)) [0, 3, 4]]
@[go_sem] def s58_8 (_ : Unit) : IR := (sQ [(tH s58_4), (tH s58_6), (kT l58_7)])
@[go_sem] def s58_9 (_ : Unit) : IR := (.loop (tH s58_8))
@[go_sem] def s58_10 (_ : Unit) : IR := (.block 0 (tH s58_9))
@[go_sem] def s58_11 (_ : Unit) : IR := (sQ [(kT l58_2), (tH s58_10)])
@[go_sem] def l58_12 (_ : Unit) : KL := [kA 22 (.mv (.t 3)),
  kB 2 (.mv (.t 22)) [2]]
@[go_sem] def s58_13 (_ : Unit) : IR := (sQ [(kT l58_0), (kT l58_1), (tH s58_11), (kT l58_12), .ret])
theorem c58 : compFn Tryz.prog [(0, [], [oS [0]]), (1, [], [oN, oN, oN, oS [0, 3]]), (2, [], [oS [0, 3, 4]]), (3, [], [oN, oN, oN, oS [0, 3, 4, 11]]), (5, [], [oN, oN, oN, oN, oS [0, 3, 4, 14, 15, 18], oN, oN, oN, oS [0, 3, 4]]), (4, [], [oN, oN, oS [0, 3, 4]]), (6, [], [oN, oS [2]])] Tryz.f58 = some ⟨1, 23, [.t 2], (tH s58_13)⟩ := by kernel_rfl
theorem v_laws_toVarS (hl : vs.length = 1) (h : wpV Tryz.prog (tH s58_13) (postV [.t 2] RV) (envV vs) M) : VCall Tryz.prog n_laws_toVarS vs M RV :=
  vcall_of_wp (fun _ _ _ hl h => acall_of_wp mixed Tryz.func58 c58 (by kernel_rfl) hl h) hl h
@[go_sem] def l89_0 (_ : Unit) : KL := [kA 1 (.box (.t 0)),
  kB 2 (.alloc [(.int .i64 0), (.int .i64 0), (.int .i64 0), (.int .i64 0)]) [1, 2]]
@[go_sem] def l89_1 (_ : Unit) : KL := [kB 3 (.alloc [(.int .i64 0), (.int .i64 0), (.int .i64 0), (.int .i64 0)]) [1, 2, 3]]
@[go_sem] def l89_2 (_ : Unit) : KL := [kA 4 (.faddr (.t 1) 0),
  kA 5 (.load (.t 4) 1 false),
  kA 6 (.faddr (.t 3) 0),
  (⟨none, .store (.t 6) 1 (.t 5), none⟩, (some [1, 2, 3]))]
@[go_sem] def l89_3 (_ : Unit) : KL := [kA 7 (.faddr (.t 1) 1),
  kA 8 (.load (.t 7) 1 false),
  kA 9 (.faddr (.t 3) 1),
  (⟨none, .store (.t 9) 1 (.t 8), none⟩, (some [1, 2, 3]))]
@[go_sem] def l89_4 (_ : Unit) : KL := [kA 10 (.faddr (.t 1) 2),
  kA 11 (.load (.t 10) 1 false),
  kA 12 (.faddr (.t 3) 2),
  (⟨none, .store (.t 12) 1 (.t 11), none⟩, (some [1, 2, 3]))]
@[go_sem] def l89_5 (_ : Unit) : KL := [kA 13 (.faddr (.t 1) 3),
  kA 14 (.load (.t 13) 1 false),
  kA 15 (.faddr (.t 3) 3),
  (⟨none, .store (.t 15) 1 (.t 14), none⟩, (some [2, 3]))]
@[go_sem] def l89_6 (_ : Unit) : KL := [kA 16 (.load (.t 3) 4 true),
  (⟨none, .store (.t 2) 4 (.t 16), none⟩, (some [2]))]
@[go_sem] def s89_7 (_ : Unit) : IR := (sQ [(kT l89_0), (kT l89_1), (kT l89_2), (kT l89_3), (kT l89_4), (kT l89_5), (kT l89_6), .ret])
theorem c89 : compFn Tryz.prog [(0, [], [oN, oS [1, 2]]), (1, [], [oS [1, 2, 3]]), (2, [], [oN, oN, oN, oS [1, 2, 3]]), (3, [], [oN, oN, oN, oS [1, 2, 3]]), (4, [], [oN, oN, oN, oS [1, 2, 3]]), (5, [], [oN, oN, oN, oS [2, 3]]), (6, [], [oN, oS [2]])] Tryz.f89 = some ⟨1, 17, [.c 2 4 true], (tH s89_7)⟩ := by kernel_rfl
theorem v_laws_toTerm (hl : vs.length = 1) (h : wpV Tryz.prog (tH s89_7) (postV [.c 2 4 true] RV) (envV vs) M) : VCall Tryz.prog n_laws_toTerm vs M RV :=
  vcall_of_wp (fun _ _ _ hl h => acall_of_wp mixed Tryz.func89 c89 (by kernel_rfl) hl h) hl h
@[go_sem] def l36_0 (_ : Unit) : KL := [kB 2 (.mv (.c (.sl none 0 0 true 0))) [0]]
@[go_sem] def l36_1 (_ : Unit) : KL := [kA 5 (.mv (.t 0)),
  kA 6 (.len (.t 5)),
  kA 7 (.mks [(.int .i64 0), (.int .i64 0), (.int .i64 0), (.int .i64 0)] 32 (.t 6)),
  kB 3 (.mv (.t 7)) [0, 3]]
@[go_sem] def l36_2 (_ : Unit) : KL := [kB 4 (.mv (cI 0)) [0, 3, 4]]
@[go_sem] def l36_3 (_ : Unit) : KL := [kA 8 (.mv (.t 4)),
  kA 9 (.mv (.t 0)),
  kA 10 (.len (.t 9)),
  kB 11 (.bin .lss (.t 8) (.t 10)) [0, 3, 4, 11]]
@[go_sem] def s36_4 (_ : Unit) : IR := (sQ [(kT l36_3), (.cond (.t 11) .skip (.exit 0))])
@[go_sem] def l36_5 (_ : Unit) : KL := [kA 14 (.mv (.t 3)),
  kA 15 (.mv (.t 4)),
  kA 16 (.mv (.t 0)),
  kA 17 (.mv (.t 4)),
  kB 18 (.iaddr (.t 16) (.t 17) 4) [0, 3, 4, 14, 15, 18],
  kA 19 (.load (.t 18) 4 true),
  kA 20 (.call (n_laws_toTerm) [(.t 19)]),
  kA 21 (.iaddr (.t 14) (.t 15) 4),
  (⟨none, .store (.t 21) 4 (.t 20), none⟩, (some [0, 3, 4]))]
@[go_sem] def s36_6 (_ : Unit) : IR := (.block 1 (kT l36_5))
@[go_sem] def l36_7 (_ : Unit) : KL := [kA 12 (.mv (.t 4)),
  kA 13 (.bin .add (.t 12) (cI 1)),
  kB 4 (.mv (.t 13)) [0, 3, 4]]
@[go_sem] def s36_8 (_ : Unit) : IR := (sQ [(tH s36_4), (tH s36_6), (kT l36_7)])
@[go_sem] def s36_9 (_ : Unit) : IR := (.loop (tH s36_8))
@[go_sem] def s36_10 (_ : Unit) : IR := (.block 0 (tH s36_9))
@[go_sem] def s36_11 (_ : Unit) : IR := (sQ [(kT l36_2), (tH s36_10)])
@[go_sem] def l36_12 (_ : Unit) : KL := [kA 22 (.mv (.t 3)),
  kB 2 (.mv (.t 22)) [2]]
@[go_sem] def s36_13 (_ : Unit) : IR := (sQ [(kT l36_0), (kT l36_1), (tH s36_11), (kT l36_12), .ret])
theorem c36 : compFn Tryz.prog [(0, [], [oS [0]]), (1, [], [oN, oN, oN, oS [0, 3]]), (2, [], [oS [0, 3, 4]]), (3, [], [oN, oN, oN, oS [0, 3, 4, 11]]), (5, [], [oN, oN, oN, oN, oS [0, 3, 4, 14, 15, 18], oN, oN, oN, oS [0, 3, 4]]), (4, [], [oN, oN, oS [0, 3, 4]]), (6, [], [oN, oS [2]])] Tryz.f36 = some ⟨1, 23, [.t 2], (tH s36_13)⟩ := by kernel_rfl
theorem v_laws_toTermS (hl : vs.length = 1) (h : wpV Tryz.prog (tH s36_13) (postV [.t 2] RV) (envV vs) M) : VCall Tryz.prog n_laws_toTermS vs M RV :=
  vcall_of_wp (fun _ _ _ hl h => acall_of_wp mixed Tryz.func36 c36 (by kernel_rfl) hl h) hl h
@[go_sem] def l17_0 (_ : Unit) : KL := [kB 2 (.mv (.c (.sl none 0 0 true 0))) [0]]
@[go_sem] def l17_1 (_ : Unit) : KL := [kA 5 (.mv (.t 0)),
  kA 6 (.len (.t 5)),
  kA 7 (.mks [(.int .i64 0)] 8 (.t 6)),
  kB 3 (.mv (.t 7)) [0, 3]]
@[go_sem] def l17_2 (_ : Unit) : KL := [kB 4 (.mv (cI 0)) [0, 3, 4]]
@[go_sem] def l17_3 (_ : Unit) : KL := [kA 8 (.mv (.t 4)),
  kA 9 (.mv (.t 0)),
  kA 10 (.len (.t 9)),
  kB 11 (.bin .lss (.t 8) (.t 10)) [0, 3, 4, 11]]
@[go_sem] def s17_4 (_ : Unit) : IR := (sQ [(kT l17_3), (.cond (.t 11) .skip (.exit 0))])
@[go_sem] def l17_5 (_ : Unit) : KL := [kA 14 (.mv (.t 3)),
  kA 15 (.mv (.t 4)),
  kA 16 (.mv (.t 0)),
  kA 17 (.mv (.t 4)),
  kB 18 (.iaddr (.t 16) (.t 17) 1) [0, 3, 4, 14, 15, 18],
  kA 19 (.load (.t 18) 1 false),
  kA 20 (.iaddr (.t 14) (.t 15) 1),
  (⟨none, .store (.t 20) 1 (.t 19), none⟩, (some [0, 3, 4]))]
@[go_sem] def s17_6 (_ : Unit) : IR := (.block 1 (kT l17_5))
@[go_sem] def l17_7 (_ : Unit) : KL := [kA 12 (.mv (.t 4)),
  kA 13 (.bin .add (.t 12) (cI 1)),
  kB 4 (.mv (.t 13)) [0, 3, 4]]
@[go_sem] def s17_8 (_ : Unit) : IR := (sQ [(tH s17_4), (tH s17_6), (kT l17_7)])
@[go_sem] def s17_9 (_ : Unit) : IR := (.loop (tH s17_8))
@[go_sem] def s17_10 (_ : Unit) : IR := (.block 0 (tH s17_9))
@[go_sem] def s17_11 (_ : Unit) : IR := (sQ [(kT l17_2), (tH s17_10)])
@[go_sem] def l17_12 (_ : Unit) : KL := [kA 21 (.mv (.t 3)),
  kB 2 (.mv (.t 21)) [2]]
@[go_sem] def s17_13 (_ : Unit) : IR := (sQ [(kT l17_0), (kT l17_1), (tH s17_11), (kT l17_12), .ret])
theorem c17 : compFn Tryz.prog [(0, [], [oS [0]]), (1, [], [oN, oN, oN, oS [0, 3]]), (2, [], [oS [0, 3, 4]]), (3, [], [oN, oN, oN, oS [0, 3, 4, 11]]), (5, [], [oN, oN, oN, oN, oS [0, 3, 4, 14, 15, 18], oN, oN, oS [0, 3, 4]]), (4, [], [oN, oN, oS [0, 3, 4]]), (6, [], [oN, oS [2]])] Tryz.f17 = some ⟨1, 22, [.t 2], (tH s17_13)⟩ := by kernel_rfl
theorem v_laws_toIntS (hl : vs.length = 1) (h : wpV Tryz.prog (tH s17_13) (postV [.t 2] RV) (envV vs) M) : VCall Tryz.prog n_laws_toIntS vs M RV :=
  vcall_of_wp (fun _ _ _ hl h => acall_of_wp mixed Tryz.func17 c17 (by kernel_rfl) hl h) hl h
@[go_sem] def l138_0 (_ : Unit) : KL := [kB 2 (.mv (.c (.sl none 0 0 true 0))) [0]]
@[go_sem] def l138_1 (_ : Unit) : KL := [kA 5 (.mv (.t 0)),
  kA 6 (.len (.t 5)),
  kA 7 (.mks [(.sl none 0 0 true 0)] 24 (.t 6)),
  kB 3 (.mv (.t 7)) [0, 3]]
@[go_sem] def l138_2 (_ : Unit) : KL := [kB 4 (.mv (cI 0)) [0, 3, 4]]
@[go_sem] def l138_3 (_ : Unit) : KL := [kA 8 (.mv (.t 4)),
  kA 9 (.mv (.t 0)),
  kA 10 (.len (.t 9)),
  kB 11 (.bin .lss (.t 8) (.t 10)) [0, 3, 4, 11]]
@[go_sem] def s138_4 (_ : Unit) : IR := (sQ [(kT l138_3), (.cond (.t 11) .skip (.exit 0))])
@[go_sem] def l138_5 (_ : Unit) : KL := [kA 14 (.mv (.t 3)),
  kA 15 (.mv (.t 4)),
  kA 16 (.mv (.t 0)),
  kA 17 (.mv (.t 4)),
  kB 18 (.iaddr (.t 16) (.t 17) 1) [0, 3, 4, 14, 15, 18],
  kA 19 (.load (.t 18) 1 false),
  kA 20 (.call (n_laws_toTermS) [(.t 19)]),
  kA 21 (.iaddr (.t 14) (.t 15) 1),
  (⟨none, .store (.t 21) 1 (.t 20), none⟩, (some [0, 3, 4]))]
@[go_sem] def s138_6 (_ : Unit) : IR := (.block 1 (kT l138_5))
@[go_sem] def l138_7 (_ : Unit) : KL := [kA 12 (.mv (.t 4)),
  kA 13 (.bin .add (.t 12) (cI 1)),
  kB 4 (.mv (.t 13)) [0, 3, 4]]
@[go_sem] def s138_8 (_ : Unit) : IR := (sQ [(tH s138_4), (tH s138_6), (kT l138_7)])
@[go_sem] def s138_9 (_ : Unit) : IR := (.loop (tH s138_8))
@[go_sem] def s138_10 (_ : Unit) : IR := (.block 0 (tH s138_9))
@[go_sem] def s138_11 (_ : Unit) : IR := (sQ [(kT l138_2), (tH s138_10)])
@[go_sem] def l138_12 (_ : Unit) : KL := [kA 22 (.mv (.t 3)),
  kB 2 (.mv (.t 22)) [2]]
@[go_sem] def s138_13 (_ : Unit) : IR := (sQ [(kT l138_0), (kT l138_1), (tH s138_11), (kT l138_12), .ret])
theorem c138 : compFn Tryz.prog [(0, [], [oS [0]]), (1, [], [oN, oN, oN, oS [0, 3]]), (2, [], [oS [0, 3, 4]]), (3, [], [oN, oN, oN, oS [0, 3, 4, 11]]), (5, [], [oN, oN, oN, oN, oS [0, 3, 4, 14, 15, 18], oN, oN, oN, oS [0, 3, 4]]), (4, [], [oN, oN, oS [0, 3, 4]]), (6, [], [oN, oS [2]])] Tryz.f138 = some ⟨1, 23, [.t 2], (tH s138_13)⟩ := by kernel_rfl
theorem v_laws_toTermSS (hl : vs.length = 1) (h : wpV Tryz.prog (tH s138_13) (postV [.t 2] RV) (envV vs) M) : VCall Tryz.prog n_laws_toTermSS vs M RV :=
  vcall_of_wp (fun _ _ _ hl h => acall_of_wp mixed Tryz.func138 c138 (by kernel_rfl) hl h) hl h
@[go_sem] def l108_0 (_ : Unit) : KL := [kA 1 (.box (.t 0)),
  kB 2 (.alloc [(.sl none 0 0 true 0), (.sl none 0 0 true 0), (.sl none 0 0 true 0)]) [1, 2]]
@[go_sem] def l108_1 (_ : Unit) : KL := [kB 3 (.alloc [(.sl none 0 0 true 0), (.sl none 0 0 true 0), (.sl none 0 0 true 0)]) [1, 2, 3]]
@[go_sem] def l108_2 (_ : Unit) : KL := [kA 4 (.faddr (.t 1) 0),
  kA 5 (.load (.t 4) 1 false),
  kA 6 (.call (n_laws_toTermS) [(.t 5)]),
  kA 7 (.faddr (.t 3) 0),
  (⟨none, .store (.t 7) 1 (.t 6), none⟩, (some [1, 2, 3]))]
@[go_sem] def l108_3 (_ : Unit) : KL := [kA 8 (.faddr (.t 1) 1),
  kA 9 (.load (.t 8) 1 false),
  kA 10 (.call (n_laws_toIntS) [(.t 9)]),
  kA 11 (.faddr (.t 3) 1),
  (⟨none, .store (.t 11) 1 (.t 10), none⟩, (some [1, 2, 3]))]
@[go_sem] def l108_4 (_ : Unit) : KL := [kA 12 (.faddr (.t 1) 2),
  kA 13 (.load (.t 12) 1 false),
  kA 14 (.call (n_laws_toTermSS) [(.t 13)]),
  kA 15 (.faddr (.t 3) 2),
  (⟨none, .store (.t 15) 1 (.t 14), none⟩, (some [2, 3]))]
@[go_sem] def l108_5 (_ : Unit) : KL := [kA 16 (.load (.t 3) 3 true),
  (⟨none, .store (.t 2) 3 (.t 16), none⟩, (some [2]))]
@[go_sem] def s108_6 (_ : Unit) : IR := (sQ [(kT l108_0), (kT l108_1), (kT l108_2), (kT l108_3), (kT l108_4), (kT l108_5), .ret])
theorem c108 : compFn Tryz.prog [(0, [], [oN, oS [1, 2]]), (1, [], [oS [1, 2, 3]]), (2, [], [oN, oN, oN, oN, oS [1, 2, 3]]), (3, [], [oN, oN, oN, oN, oS [1, 2, 3]]), (4, [], [oN, oN, oN, oN, oS [2, 3]]), (5, [], [oN, oS [2]])] Tryz.f108 = some ⟨1, 17, [.c 2 3 true], (tH s108_6)⟩ := by kernel_rfl
theorem v_laws_toRule (hl : vs.length = 1) (h : wpV Tryz.prog (tH s108_6) (postV [.c 2 3 true] RV) (envV vs) M) : VCall Tryz.prog n_laws_toRule vs M RV :=
  vcall_of_wp (fun _ _ _ hl h => acall_of_wp mixed Tryz.func108 c108 (by kernel_rfl) hl h) hl h
@[go_sem] def l59_0 (_ : Unit) : KL := [kB 2 (.mv (.c (.sl none 0 0 true 0))) [0]]
@[go_sem] def l59_1 (_ : Unit) : KL := [kA 5 (.mv (.t 0)),
  kA 6 (.len (.t 5)),
  kA 7 (.mks [(.sl none 0 0 true 0), (.sl none 0 0 true 0), (.sl none 0 0 true 0)] 72 (.t 6)),
  kB 3 (.mv (.t 7)) [0, 3]]
@[go_sem] def l59_2 (_ : Unit) : KL := [kB 4 (.mv (cI 0)) [0, 3, 4]]
@[go_sem] def l59_3 (_ : Unit) : KL := [kA 8 (.mv (.t 4)),
  kA 9 (.mv (.t 0)),
  kA 10 (.len (.t 9)),
  kB 11 (.bin .lss (.t 8) (.t 10)) [0, 3, 4, 11]]
@[go_sem] def s59_4 (_ : Unit) : IR := (sQ [(kT l59_3), (.cond (.t 11) .skip (.exit 0))])
@[go_sem] def l59_5 (_ : Unit) : KL := [kA 14 (.mv (.t 3)),
  kA 15 (.mv (.t 4)),
  kA 16 (.mv (.t 0)),
  kA 17 (.mv (.t 4)),
  kB 18 (.iaddr (.t 16) (.t 17) 3) [0, 3, 4, 14, 15, 18],
  kA 19 (.load (.t 18) 3 true),
  kA 20 (.call (n_laws_toRule) [(.t 19)]),
  kA 21 (.iaddr (.t 14) (.t 15) 3),
  (⟨none, .store (.t 21) 3 (.t 20), none⟩, (some [0, 3, 4]))]
@[go_sem] def s59_6 (_ : Unit) : IR := (.block 1 (kT l59_5))
@[go_sem] def l59_7 (_ : Unit) : KL := [kA 12 (.mv (.t 4)),
  kA 13 (.bin .add (.t 12) (cI 1)),
  kB 4 (.mv (.t 13)) [0, 3, 4]]
@[go_sem] def s59_8 (_ : Unit) : IR := (sQ [(tH s59_4), (tH s59_6), (kT l59_7)])
@[go_sem] def s59_9 (_ : Unit) : IR := (.loop (tH s59_8))
@[go_sem] def s59_10 (_ : Unit) : IR := (.block 0 (tH s59_9))
@[go_sem] def s59_11 (_ : Unit) : IR := (sQ [(kT l59_2), (tH s59_10)])
@[go_sem] def l59_12 (_ : Unit) : KL := [kA 22 (.mv (.t 3)),
  kB 2 (.mv (.t 22)) [2]]
@[go_sem] def s59_13 (_ : Unit) : IR := (sQ [(kT l59_0), (kT l59_1), (tH s59_11), (kT l59_12), .ret])
theorem c59 : compFn Tryz.prog [(0, [], [oS [0]]), (1, [], [oN, oN, oN, oS [0, 3]]), (2, [], [oS [0, 3, 4]]), (3, [], [oN, oN, oN, oS [0, 3, 4, 11]]), (5, [], [oN, oN, oN, oN, oS [0, 3, 4, 14, 15, 18], oN, oN, oN, oS [0, 3, 4]]), (4, [], [oN, oN, oS [0, 3, 4]]), (6, [], [oN, oS [2]])] Tryz.f59 = some ⟨1, 23, [.t 2], (tH s59_13)⟩ := by kernel_rfl
theorem v_laws_toRuleS (hl : vs.length = 1) (h : wpV Tryz.prog (tH s59_13) (postV [.t 2] RV) (envV vs) M) : VCall Tryz.prog n_laws_toRuleS vs M RV :=
  vcall_of_wp (fun _ _ _ hl h => acall_of_wp mixed Tryz.func59 c59 (by kernel_rfl) hl h) hl h
@[go_sem] def l16_0 (_ : Unit) : KL := [kA 1 (.box (.t 0)),
  kB 2 (.alloc [(.sl none 0 0 true 0), (.sl none 0 0 true 0)]) [1, 2]]
@[go_sem] def l16_1 (_ : Unit) : KL := [kB 3 (.alloc [(.sl none 0 0 true 0), (.sl none 0 0 true 0)]) [1, 2, 3]]
@[go_sem] def l16_2 (_ : Unit) : KL := [kA 4 (.faddr (.t 1) 0),
  kA 5 (.load (.t 4) 1 false),
  kA 6 (.call (n_laws_toVarS) [(.t 5)]),
  kA 7 (.faddr (.t 3) 0),
  (⟨none, .store (.t 7) 1 (.t 6), none⟩, (some [1, 2, 3]))]
@[go_sem] def l16_3 (_ : Unit) : KL := [kA 8 (.faddr (.t 1) 1),
  kA 9 (.load (.t 8) 1 false),
  kA 10 (.call (n_laws_toRuleS) [(.t 9)]),
  kA 11 (.faddr (.t 3) 1),
  (⟨none, .store (.t 11) 1 (.t 10), none⟩, (some [2, 3]))]
@[go_sem] def l16_4 (_ : Unit) : KL := [kA 12 (.load (.t 3) 2 true),
  (⟨none, .store (.t 2) 2 (.t 12), none⟩, (some [2]))]
@[go_sem] def s16_5 (_ : Unit) : IR := (sQ [(kT l16_0), (kT l16_1), (kT l16_2), (kT l16_3), (kT l16_4), .ret])
theorem c16 : compFn Tryz.prog [(0, [], [oN, oS [1, 2]]), (1, [], [oS [1, 2, 3]]), (2, [], [oN, oN, oN, oN, oS [1, 2, 3]]), (3, [], [oN, oN, oN, oN, oS [2, 3]]), (4, [], [oN, oS [2]])] Tryz.f16 = some ⟨1, 13, [.c 2 2 true], (tH s16_5)⟩ := by kernel_rfl
theorem v_laws_toSystem (hl : vs.length = 1) (h : wpV Tryz.prog (tH s16_5) (postV [.c 2 2 true] RV) (envV vs) M) : VCall Tryz.prog n_laws_toSystem vs M RV :=
  vcall_of_wp (fun _ _ _ hl h => acall_of_wp mixed Tryz.func16 c16 (by kernel_rfl) hl h) hl h
@[go_sem] def l106_0 (_ : Unit) : KL := [kB 6 (.mv (.c (.bool false))) [0, 1, 2]]
@[go_sem] def l106_1 (_ : Unit) : KL := [kA 7 (.mv (.t 0)),
  kA 8 (.mv (.t 1)),
  kA 9 (.bin .geq (.t 7) (.t 8)),
  kA 10 (.mv (.t 9)),
  (⟨(some 11), .mv (.t 0), (some (10, true))⟩, (some [2, 10, 11])),
  (⟨(some 12), .mv (.t 2), (some (10, true))⟩, none),
  (⟨(some 13), .bin .leq (.t 11) (.t 12), (some (10, true))⟩, none),
  kA 14 (.pick (.t 10) (.t 13) (.c (.bool false))),
  kB 6 (.mv (.t 14)) [6]]
@[go_sem] def s106_2 (_ : Unit) : IR := (sQ [(kT l106_0), (kT l106_1), .ret])
theorem c106 : compFn Tryz.prog [(0, [], [oS [0, 1, 2]]), (1, [], [oN, oN, oN, oN, oS [2, 10, 11], oN, oN, oN, oS [6]])] Tryz.f106 = some ⟨3, 15, [.t 6], (tH s106_2)⟩ := by kernel_rfl
theorem v_spec_l1In (hl : vs.length = 3) (h : wpV Tryz.prog (tH s106_2) (postV [.t 6] RV) (envV vs) M) : VCall Tryz.prog n_spec_l1In vs M RV :=
  vcall_of_wp (fun _ _ _ hl h => acall_of_wp mixed Tryz.func106 c106 (by kernel_rfl) hl h) hl h
@[go_sem] def l125_0 (_ : Unit) : KL := [kA 1 (.box (.t 0)),
  kB 2 (.mv (.c (.bool false))) [1]]
@[go_sem] def l125_1 (_ : Unit) : KL := [kA 3 (.faddr (.t 1) 0),
  kA 4 (.load (.t 3) 1 false),
  kA 5 (.call (n_spec_l1In) [(.t 4), (.c (.int .i64 (-9999))), (.c (.int .i64 9999))]),
  kA 6 (.mv (.t 5)),
  (⟨(some 7), .faddr (.t 1) 1, (some (6, true))⟩, (some [1, 6, 7])),
  (⟨(some 8), .load (.t 7) 1 false, (some (6, true))⟩, none),
  (⟨(some 9), .faddr (.t 1) 0, (some (6, true))⟩, none),
  (⟨(some 10), .load (.t 9) 1 false, (some (6, true))⟩, none),
  (⟨(some 11), .call (n_spec_l1In) [(.t 8), (.t 10), (.c (.int .i64 9999))], (some (6, true))⟩, none),
  kB 12 (.pick (.t 6) (.t 11) (.c (.bool false))) [1, 12],
  kA 13 (.mv (.t 12)),
  (⟨(some 14), .faddr (.t 1) 1, (some (13, true))⟩, none),
  (⟨(some 15), .load (.t 14) 1 false, (some (13, true))⟩, none),
  (⟨(some 16), .faddr (.t 1) 0, (some (13, true))⟩, none),
  (⟨(some 17), .load (.t 16) 1 false, (some (13, true))⟩, (some [1, 13, 15, 17])),
  (⟨(some 18), .bin .sub (.t 15) (.t 17), (some (13, true))⟩, none),
  (⟨(some 19), .bin .lss (.t 18) (.c (.int .i64 20)), (some (13, true))⟩, none),
  kA 20 (.pick (.t 13) (.t 19) (.c (.bool false))),
  kA 21 (.mv (.t 20)),
  (⟨(some 22), .faddr (.t 1) 2, (some (21, true))⟩, (some [1, 21, 22])),
  (⟨(some 23), .load (.t 22) 1 false, (some (21, true))⟩, none),
  (⟨(some 24), .faddr (.t 1) 0, (some (21, true))⟩, none),
  (⟨(some 25), .load (.t 24) 1 false, (some (21, true))⟩, none),
  (⟨(some 26), .faddr (.t 1) 1, (some (21, true))⟩, none),
  (⟨(some 27), .load (.t 26) 1 false, (some (21, true))⟩, (some [21, 23, 25, 27])),
  (⟨(some 28), .call (n_spec_l1In) [(.t 23), (.t 25), (.t 27)], (some (21, true))⟩, none),
  kA 29 (.pick (.t 21) (.t 28) (.c (.bool false))),
  kB 2 (.mv (.t 29)) [2]]
@[go_sem] def s125_2 (_ : Unit) : IR := (sQ [(kT l125_0), (kT l125_1), .ret])
theorem c125 : compFn Tryz.prog [(0, [], [oN, oS [1]]), (1, [], [oN, oN, oN, oN, oS [1, 6, 7], oN, oN, oN, oN, oS [1, 12], oN, oN, oN, oN, oS [1, 13, 15, 17], oN, oN, oN, oN, oS [1, 21, 22], oN, oN, oN, oN, oS [21, 23, 25, 27], oN, oN, oS [2]])] Tryz.f125 = some ⟨1, 30, [.t 2], (tH s125_2)⟩ := by kernel_rfl
theorem v_spec_l2Var (hl : vs.length = 1) (h : wpV Tryz.prog (tH s125_2) (postV [.t 2] RV) (envV vs) M) : VCall Tryz.prog n_spec_l2Var vs M RV :=
  vcall_of_wp (fun _ _ _ hl h => acall_of_wp mixed Tryz.func125 c125 (by kernel_rfl) hl h) hl h
@[go_sem] def l162_0 (_ : Unit) : KL := [kB 2 (.mv (.c (.bool false))) [0]]
@[go_sem] def l162_1 (_ : Unit) : KL := [kA 3 (.mv (.t 0)),
  kA 4 (.bin .eql (.t 3) (.c (.int .i64 7))),
  kB 2 (.mv (.t 4)) [2]]
@[go_sem] def s162_2 (_ : Unit) : IR := (sQ [(kT l162_0), (kT l162_1), .ret])
theorem c162 : compFn Tryz.prog [(0, [], [oS [0]]), (1, [], [oN, oN, oS [2]])] Tryz.f162 = some ⟨1, 5, [.t 2], (tH s162_2)⟩ := by kernel_rfl
theorem v_spec_l1One (hl : vs.length = 1) (h : wpV Tryz.prog (tH s162_2) (postV [.t 2] RV) (envV vs) M) : VCall Tryz.prog n_spec_l1One vs M RV :=
  vcall_of_wp (fun _ _ _ hl h => acall_of_wp mixed Tryz.func162 c162 (by kernel_rfl) hl h) hl h
@[go_sem] def l152_0 (_ : Unit) : KL := [kA 3 (.box (.t 0)),
  kB 6 (.mv (cI 0)) [1, 2, 3]]
@[go_sem] def l152_1 (_ : Unit) : KL := [kA 8 (.faddr (.t 3) 0),
  kA 9 (.load (.t 8) 1 false),
  kA 10 (.bin .eql (.t 9) (cI 0)),
  kA 11 (.mv (.t 10)),
  (⟨(some 12), .faddr (.t 3) 1, (some (11, true))⟩, (some [1, 2, 3, 11, 12])),
  (⟨(some 13), .load (.t 12) 1 false, (some (11, true))⟩, none),
  (⟨(some 14), .call (n_spec_l1In) [(.t 13), (.c (.int .i64 (-9999))), (.c (.int .i64 9999))], (some (11, true))⟩, none),
  kA 15 (.pick (.t 11) (.t 14) (.c (.bool false))),
  kA 16 (.mv (.t 15)),
  (⟨(some 17), .faddr (.t 3) 2, (some (16, true))⟩, (some [1, 2, 3, 16, 17])),
  (⟨(some 18), .load (.t 17) 1 false, (some (16, true))⟩, none),
  (⟨(some 19), .bin .eql (.t 18) (cI 0), (some (16, true))⟩, none),
  kA 20 (.pick (.t 16) (.t 19) (.c (.bool false))),
  kA 21 (.mv (.t 20)),
  (⟨(some 22), .faddr (.t 3) 3, (some (21, true))⟩, (some [1, 2, 3, 21, 22])),
  (⟨(some 23), .load (.t 22) 1 false, (some (21, true))⟩, none),
  (⟨(some 24), .bin .eql (.t 23) (cI 0), (some (21, true))⟩, none),
  kB 25 (.pick (.t 21) (.t 24) (.c (.bool false))) [1, 2, 3, 25]]
@[go_sem] def l152_2 (_ : Unit) : KL := [kB 6 (.mv (cI 1)) [6]]
@[go_sem] def s152_3 (_ : Unit) : IR := (sQ [(kT l152_2), .ret])
@[go_sem] def s152_4 (_ : Unit) : IR := (sQ [(kT l152_1), (.cond (.t 25) (tH s152_3) .skip)])
@[go_sem] def l152_5 (_ : Unit) : KL := [kA 26 (.faddr (.t 3) 0),
  kA 27 (.load (.t 26) 1 false),
  kA 28 (.bin .eql (.t 27) (cI 1)),
  kA 29 (.mv (.t 28)),
  (⟨(some 30), .faddr (.t 3) 1, (some (29, true))⟩, (some [1, 2, 3, 29, 30])),
  (⟨(some 31), .load (.t 30) 1 false, (some (29, true))⟩, none),
  (⟨(some 32), .mv (.t 2), (some (29, true))⟩, none),
  (⟨(some 33), .bin .sub (.t 32) (cI 1), (some (29, true))⟩, none),
  (⟨(some 34), .call (n_spec_l1In) [(.t 31), (cI 0), (.t 33)], (some (29, true))⟩, none),
  kB 35 (.pick (.t 29) (.t 34) (.c (.bool false))) [1, 3, 35],
  kA 36 (.mv (.t 35)),
  (⟨(some 37), .faddr (.t 3) 2, (some (36, true))⟩, none),
  (⟨(some 38), .load (.t 37) 1 false, (some (36, true))⟩, none),
  (⟨(some 39), .bin .eql (.t 38) (cI 0), (some (36, true))⟩, none),
  kB 40 (.pick (.t 36) (.t 39) (.c (.bool false))) [1, 3, 40],
  kA 41 (.mv (.t 40)),
  (⟨(some 42), .faddr (.t 3) 3, (some (41, true))⟩, none),
  (⟨(some 43), .load (.t 42) 1 false, (some (41, true))⟩, none),
  (⟨(some 44), .bin .eql (.t 43) (cI 0), (some (41, true))⟩, none),
  kB 45 (.pick (.t 41) (.t 44) (.c (.bool false))) [1, 3, 45]]
@[go_sem] def l152_6 (_ : Unit) : KL := [kB 6 (.mv (cI 1)) [6]]
@[go_sem] def s152_7 (_ : Unit) : IR := (sQ [(kT l152_6), .ret])
@[go_sem] def s152_8 (_ : Unit) : IR := (sQ [(kT l152_5), (.cond (.t 45) (tH s152_7) .skip)])
@[go_sem] def l152_9 (_ : Unit) : KL := [kA 46 (.faddr (.t 3) 0),
  kA 47 (.load (.t 46) 1 false),
  kA 48 (.call (n_spec_l1In) [(.t 47), (.c (.int .i64 2)), (.c (.int .i64 9))]),
  kA 49 (.un .not (.t 48)),
  kB 50 (.mv (.t 49)) [1, 3, 50],
  (⟨(some 51), .faddr (.t 3) 1, (some (50, false))⟩, none),
  (⟨(some 52), .load (.t 51) 1 false, (some (50, false))⟩, none),
  (⟨(some 53), .bin .neq (.t 52) (cI 0), (some (50, false))⟩, none),
  kA 54 (.pick (.t 50) (.c (.bool true)) (.t 53)),
  kB 55 (.mv (.t 54)) [1, 3, 55],
  (⟨(some 56), .faddr (.t 3) 2, (some (55, false))⟩, none),
  (⟨(some 57), .load (.t 56) 1 false, (some (55, false))⟩, none),
  (⟨(some 58), .mv (.t 1), (some (55, false))⟩, none),
  (⟨(some 59), .len (.t 58), (some (55, false))⟩, none),
  (⟨(some 60), .bin .sub (.t 59) (cI 1), (some (55, false))⟩, (some [1, 3, 55, 57, 60])),
  (⟨(some 61), .call (n_spec_l1In) [(.t 57), (cI 0), (.t 60)], (some (55, false))⟩, none),
  (⟨(some 62), .un .not (.t 61), (some (55, false))⟩, none),
  kA 63 (.pick (.t 55) (.c (.bool true)) (.t 62)),
  kA 64 (.mv (.t 63)),
  (⟨(some 65), .faddr (.t 3) 3, (some (64, false))⟩, (some [1, 3, 64, 65])),
  (⟨(some 66), .load (.t 65) 1 false, (some (64, false))⟩, none),
  (⟨(some 67), .mv (.t 1), (some (64, false))⟩, none),
  (⟨(some 68), .len (.t 67), (some (64, false))⟩, none),
  (⟨(some 69), .bin .sub (.t 68) (cI 1), (some (64, false))⟩, none),
  (⟨(some 70), .call (n_spec_l1In) [(.t 66), (cI 0), (.t 69)], (some (64, false))⟩, (some [1, 3, 64, 70])),
  (⟨(some 71), .un .not (.t 70), (some (64, false))⟩, none),
  kB 72 (.pick (.t 64) (.c (.bool true)) (.t 71)) [1, 3, 72]]
@[go_sem] def l152_10 (_ : Unit) : KL := [kB 6 (.mv (cI 0)) [6]]
@[go_sem] def s152_11 (_ : Unit) : IR := (sQ [(kT l152_10), .ret])
@[go_sem] def s152_12 (_ : Unit) : IR := (sQ [(kT l152_9), (.cond (.t 72) (tH s152_11) .skip)])
@[go_sem] def l152_13 (_ : Unit) : KL := [kB 7 (.mv (cI 1)) [1, 3, 7]]
@[go_sem] def l152_14 (_ : Unit) : KL := [kA 73 (.faddr (.t 3) 0),
  kA 74 (.load (.t 73) 1 false),
  kB 75 (.bin .geq (.t 74) (.c (.int .i64 7))) [1, 3, 7, 75]]
@[go_sem] def l152_15 (_ : Unit) : KL := [kB 7 (.mv (.c (.int .i64 2))) [1, 3, 7]]
@[go_sem] def s152_16 (_ : Unit) : IR := (sQ [(kT l152_14), (.cond (.t 75) (kT l152_15) .skip)])
@[go_sem] def l152_17 (_ : Unit) : KL := [kA 76 (.mv (.t 1)),
  kA 77 (.faddr (.t 3) 2),
  kA 78 (.load (.t 77) 1 false),
  kA 79 (.iaddr (.t 76) (.t 78) 1),
  kB 80 (.load (.t 79) 1 false) [1, 3, 7, 80],
  kA 81 (.mv (.t 7)),
  kA 82 (.bin .neq (.t 80) (.t 81)),
  kA 83 (.mv (.t 82)),
  (⟨(some 84), .mv (.t 1), (some (83, false))⟩, none),
  (⟨(some 85), .faddr (.t 3) 3, (some (83, false))⟩, (some [3, 7, 83, 84, 85])),
  (⟨(some 86), .load (.t 85) 1 false, (some (83, false))⟩, none),
  (⟨(some 87), .iaddr (.t 84) (.t 86) 1, (some (83, false))⟩, none),
  (⟨(some 88), .load (.t 87) 1 false, (some (83, false))⟩, none),
  (⟨(some 89), .mv (.t 7), (some (83, false))⟩, none),
  (⟨(some 90), .bin .neq (.t 88) (.t 89), (some (83, false))⟩, (some [3, 83, 90])),
  kA 91 (.pick (.t 83) (.c (.bool true)) (.t 90)),
  kA 92 (.mv (.t 91)),
  (⟨(some 93), .faddr (.t 3) 0, (some (92, false))⟩, none),
  (⟨(some 94), .load (.t 93) 1 false, (some (92, false))⟩, none),
  (⟨(some 95), .call (n_spec_l1One) [(.t 94)], (some (92, false))⟩, (some [3, 92, 95])),
  (⟨(some 96), .mv (.t 95), (some (92, false))⟩, none),
  (⟨(some 97), .faddr (.t 3) 3, (some (96, true))⟩, none),
  (⟨(some 98), .load (.t 97) 1 false, (some (96, true))⟩, none),
  (⟨(some 99), .faddr (.t 3) 2, (some (96, true))⟩, none),
  (⟨(some 100), .load (.t 99) 1 false, (some (96, true))⟩, (some [3, 92, 96, 98, 100])),
  (⟨(some 101), .bin .neq (.t 98) (.t 100), (some (96, true))⟩, none),
  (⟨(some 102), .pick (.t 96) (.t 101) (.c (.bool false)), (some (92, false))⟩, none),
  kB 103 (.pick (.t 92) (.c (.bool true)) (.t 102)) [3, 103]]
@[go_sem] def l152_18 (_ : Unit) : KL := [kB 6 (.mv (cI 0)) [6]]
@[go_sem] def s152_19 (_ : Unit) : IR := (sQ [(kT l152_18), .ret])
@[go_sem] def s152_20 (_ : Unit) : IR := (sQ [(kT l152_17), (.cond (.t 103) (tH s152_19) .skip)])
@[go_sem] def l152_21 (_ : Unit) : KL := [kA 104 (.faddr (.t 3) 0),
  kA 105 (.load (.t 104) 1 false),
  kB 106 (.bin .geq (.t 105) (.c (.int .i64 5))) [106]]
@[go_sem] def l152_22 (_ : Unit) : KL := [kB 6 (.mv (.c (.int .i64 2))) [6]]
@[go_sem] def s152_23 (_ : Unit) : IR := (sQ [(kT l152_22), .ret])
@[go_sem] def s152_24 (_ : Unit) : IR := (sQ [(kT l152_21), (.cond (.t 106) (tH s152_23) .skip)])
@[go_sem] def l152_25 (_ : Unit) : KL := [kB 6 (.mv (cI 1)) [6]]
@[go_sem] def s152_26 (_ : Unit) : IR := (sQ [(kT l152_0), (tH s152_4), (tH s152_8), (tH s152_12), (kT l152_13), (tH s152_16), (tH s152_20), (tH s152_24), (kT l152_25), .ret])
theorem c152 : compFn Tryz.prog [(0, [], [oN, oS [1, 2, 3]]), (1, [], [oN, oN, oN, oN, oS [1, 2, 3, 11, 12], oN, oN, oN, oN, oS [1, 2, 3, 16, 17], oN, oN, oN, oN, oS [1, 2, 3, 21, 22], oN, oN, oS [1, 2, 3, 25]]), (2, [], [oS [6]]), (3, [], [oN, oN, oN, oN, oS [1, 2, 3, 29, 30], oN, oN, oN, oN, oS [1, 3, 35], oN, oN, oN, oN, oS [1, 3, 40], oN, oN, oN, oN, oS [1, 3, 45]]), (4, [], [oS [6]]), (5, [], [oN, oN, oN, oN, oS [1, 3, 50], oN, oN, oN, oN, oS [1, 3, 55], oN, oN, oN, oN, oS [1, 3, 55, 57, 60], oN, oN, oN, oN, oS [1, 3, 64, 65], oN, oN, oN, oN, oS [1, 3, 64, 70], oN, oS [1, 3, 72]]), (6, [], [oS [6]]), (7, [], [oS [1, 3, 7]]), (8, [], [oN, oN, oS [1, 3, 7, 75]]), (9, [], [oS [1, 3, 7]]), (10, [], [oN, oN, oN, oN, oS [1, 3, 7, 80], oN, oN, oN, oN, oS [3, 7, 83, 84, 85], oN, oN, oN, oN, oS [3, 83, 90], oN, oN, oN, oN, oS [3, 92, 95], oN, oN, oN, oN, oS [3, 92, 96, 98, 100], oN, oN, oS [3, 103]]), (11, [], [oS [6]]), (12, [], [oN, oN, oS [106]]), (13, [], [oS [6]]), (14, [], [oS [6]])] Tryz.f152 = some ⟨3, 107, [.t 6], (tH s152_26)⟩ := by kernel_rfl
theorem v_spec_l1Kind (hl : vs.length = 3) (h : wpV Tryz.prog (tH s152_26) (postV [.t 6] RV) (envV vs) M) : VCall Tryz.prog n_spec_l1Kind vs M RV :=
  vcall_of_wp (fun _ _ _ hl h => acall_of_wp mixed Tryz.func152 c152 (by kernel_rfl) hl h) hl h
@[go_sem] def l130_0 (_ : Unit) : KL := [kB 4 (.mv (.c (.sl none 0 0 true 0))) [0, 1]]
@[go_sem] def l130_1 (_ : Unit) : KL := [kA 8 (.mv (.t 1)),
  kA 9 (.call (n_spec_l1In) [(.t 8), (cI 0), (.c (.int .i64 5))]),
  kA 10 (.un .not (.t 9)),
  kA 11 (.mv (.t 10)),
  (⟨(some 12), .mv (.t 0), (some (11, false))⟩, (some [0, 1, 11, 12])),
  (⟨(some 13), .len (.t 12), (some (11, false))⟩, none),
  (⟨(some 14), .call (n_spec_l1In) [(.t 13), (cI 1), (.c (.int .i64 40))], (some (11, false))⟩, none),
  (⟨(some 15), .un .not (.t 14), (some (11, false))⟩, none),
  kB 16 (.pick (.t 11) (.c (.bool true)) (.t 15)) [0, 1, 16]]
@[go_sem] def l130_2 (_ : Unit) : KL := [kB 4 (.mv (.c (.sl none 0 0 true 0))) [4]]
@[go_sem] def s130_3 (_ : Unit) : IR := (sQ [(kT l130_2), .ret])
@[go_sem] def s130_4 (_ : Unit) : IR := (sQ [(kT l130_1), (.cond (.t 16) (tH s130_3) .skip)])
@[go_sem] def l130_5 (_ : Unit) : KL := [kA 17 (.bslc 1 0 [(.int .i64 0)] []),
  kB 5 (.mv (.t 17)) [0, 1, 5]]
@[go_sem] def l130_6 (_ : Unit) : KL := [kB 6 (.mv (cI 0)) [0, 1, 5, 6]]
@[go_sem] def l130_7 (_ : Unit) : KL := [kA 18 (.mv (.t 6)),
  kA 19 (.mv (.t 0)),
  kA 20 (.len (.t 19)),
  kB 21 (.bin .lss (.t 18) (.t 20)) [0, 1, 5, 6, 21]]
@[go_sem] def s130_8 (_ : Unit) : IR := (sQ [(kT l130_7), (.cond (.t 21) .skip (.exit 0))])
@[go_sem] def l130_9 (_ : Unit) : KL := [kA 24 (.mv (.t 0)),
  kA 25 (.mv (.t 6)),
  kA 26 (.iaddr (.t 24) (.t 25) 4),
  kA 27 (.load (.t 26) 4 true),
  kB 28 (.mv (.t 5)) [0, 1, 5, 6, 27, 28],
  kA 29 (.mv (.t 1)),
  kA 30 (.call (n_spec_l1Kind) [(.t 27), (.t 28), (.t 29)]),
  kB 7 (.mv (.t 30)) [0, 1, 5, 6, 7]]
@[go_sem] def l130_10 (_ : Unit) : KL := [kA 31 (.mv (.t 7)),
  kB 32 (.bin .eql (.t 31) (cI 0)) [0, 1, 5, 6, 7, 32]]
@[go_sem] def l130_11 (_ : Unit) : KL := [kB 4 (.mv (.c (.sl none 0 0 true 0))) [4]]
@[go_sem] def s130_12 (_ : Unit) : IR := (sQ [(kT l130_11), .ret])
@[go_sem] def s130_13 (_ : Unit) : IR := (sQ [(kT l130_10), (.cond (.t 32) (tH s130_12) .skip)])
@[go_sem] def l130_14 (_ : Unit) : KL := [kA 33 (.mv (.t 5)),
  kA 34 (.mv (.t 7)),
  kA 35 (.bslc 1 1 [(.int .i64 0)] [(0, (.t 34))]),
  kA 36 (.app 1 8 (.t 33) (.t 35)),
  kB 5 (.mv (.t 36)) [0, 1, 5, 6]]
@[go_sem] def s130_15 (_ : Unit) : IR := (sQ [(kT l130_9), (tH s130_13), (kT l130_14)])
@[go_sem] def s130_16 (_ : Unit) : IR := (.block 1 (tH s130_15))
@[go_sem] def l130_17 (_ : Unit) : KL := [kA 22 (.mv (.t 6)),
  kA 23 (.bin .add (.t 22) (cI 1)),
  kB 6 (.mv (.t 23)) [0, 1, 5, 6]]
@[go_sem] def s130_18 (_ : Unit) : IR := (sQ [(tH s130_8), (tH s130_16), (kT l130_17)])
@[go_sem] def s130_19 (_ : Unit) : IR := (.loop (tH s130_18))
@[go_sem] def s130_20 (_ : Unit) : IR := (.block 0 (tH s130_19))
@[go_sem] def s130_21 (_ : Unit) : IR := (sQ [(kT l130_6), (tH s130_20)])
@[go_sem] def l130_22 (_ : Unit) : KL := [kA 37 (.mv (.t 5)),
  kB 4 (.mv (.t 37)) [4]]
@[go_sem] def s130_23 (_ : Unit) : IR := (sQ [(kT l130_0), (tH s130_4), (kT l130_5), (tH s130_21), (kT l130_22), .ret])
theorem c130 : compFn Tryz.prog [(0, [], [oS [0, 1]]), (1, [], [oN, oN, oN, oN, oS [0, 1, 11, 12], oN, oN, oN, oS [0, 1, 16]]), (2, [], [oS [4]]), (3, [], [oN, oS [0, 1, 5]]), (4, [], [oS [0, 1, 5, 6]]), (5, [], [oN, oN, oN, oS [0, 1, 5, 6, 21]]), (7, [], [oN, oN, oN, oN, oS [0, 1, 5, 6, 27, 28], oN, oN, oS [0, 1, 5, 6, 7]]), (8, [], [oN, oS [0, 1, 5, 6, 7, 32]]), (9, [], [oS [4]]), (10, [], [oN, oN, oN, oN, oS [0, 1, 5, 6]]), (6, [], [oN, oN, oS [0, 1, 5, 6]]), (11, [], [oN, oS [4]])] Tryz.f130 = some ⟨2, 38, [.t 4], (tH s130_23)⟩ := by kernel_rfl
theorem v_spec_KindsOf (hl : vs.length = 2) (h : wpV Tryz.prog (tH s130_23) (postV [.t 4] RV) (envV vs) M) : VCall Tryz.prog n_spec_KindsOf vs M RV :=
  vcall_of_wp (fun _ _ _ hl h => acall_of_wp mixed Tryz.func130 c130 (by kernel_rfl) hl h) hl h
@[go_sem] def l87_0 (_ : Unit) : KL := [kB 6 (.mv (.c (.bool false))) [0, 1, 2]]
@[go_sem] def l87_1 (_ : Unit) : KL := [kA 8 (.mv (.t 0)),
  kA 9 (.mv (.t 1)),
  kA 10 (.call (n_spec_KindsOf) [(.t 8), (.t 9)]),
  kB 7 (.mv (.t 10)) [2, 7]]
@[go_sem] def l87_2 (_ : Unit) : KL := [kA 11 (.mv (.t 7)),
  kA 12 (.len (.t 11)),
  kA 13 (.bin .gtr (.t 12) (cI 0)),
  kA 14 (.mv (.t 13)),
  (⟨(some 15), .mv (.t 7), (some (14, true))⟩, (some [2, 7, 14, 15])),
  (⟨(some 16), .mv (.t 7), (some (14, true))⟩, none),
  (⟨(some 17), .len (.t 16), (some (14, true))⟩, none),
  (⟨(some 18), .bin .sub (.t 17) (cI 1), (some (14, true))⟩, none),
  (⟨(some 19), .iaddr (.t 15) (.t 18) 1, (some (14, true))⟩, none),
  (⟨(some 20), .load (.t 19) 1 false, (some (14, true))⟩, (some [2, 14, 20])),
  (⟨(some 21), .mv (.t 2), (some (14, true))⟩, none),
  (⟨(some 22), .bin .eql (.t 20) (.t 21), (some (14, true))⟩, none),
  kA 23 (.pick (.t 14) (.t 22) (.c (.bool false))),
  kB 6 (.mv (.t 23)) [6]]
@[go_sem] def s87_3 (_ : Unit) : IR := (sQ [(kT l87_0), (kT l87_1), (kT l87_2), .ret])
theorem c87 : compFn Tryz.prog [(0, [], [oS [0, 1, 2]]), (1, [], [oN, oN, oN, oS [2, 7]]), (2, [], [oN, oN, oN, oN, oS [2, 7, 14, 15], oN, oN, oN, oN, oS [2, 14, 20], oN, oN, oN, oS [6]])] Tryz.f87 = some ⟨3, 24, [.t 6], (tH s87_3)⟩ := by kernel_rfl
theorem v_spec_l2Is (hl : vs.length = 3) (h : wpV Tryz.prog (tH s87_3) (postV [.t 6] RV) (envV vs) M) : VCall Tryz.prog n_spec_l2Is vs M RV :=
  vcall_of_wp (fun _ _ _ hl h => acall_of_wp mixed Tryz.func87 c87 (by kernel_rfl) hl h) hl h
@[go_sem] def l126_0 (_ : Unit) : KL := [kA 2 (.box (.t 0)),
  kB 4 (.mv (.c (.bool false))) [1, 2]]
@[go_sem] def l126_1 (_ : Unit) : KL := [kA 6 (.faddr (.t 2) 0),
  kA 7 (.load (.t 6) 1 false),
  kA 8 (.mv (.t 1)),
  kA 9 (.call (n_spec_l2Is) [(.t 7), (.t 8), (.c (.int .i64 2))]),
  kB 10 (.un .not (.t 9)) [1, 2, 10],
  kA 11 (.mv (.t 10)),
  (⟨(some 12), .faddr (.t 2) 1, (some (11, false))⟩, none),
  (⟨(some 13), .load (.t 12) 1 false, (some (11, false))⟩, none),
  (⟨(some 14), .len (.t 13), (some (11, false))⟩, none),
  (⟨(some 15), .faddr (.t 2) 2, (some (11, false))⟩, (some [1, 2, 11, 14, 15])),
  (⟨(some 16), .load (.t 15) 1 false, (some (11, false))⟩, none),
  (⟨(some 17), .len (.t 16), (some (11, false))⟩, none),
  (⟨(some 18), .bin .neq (.t 14) (.t 17), (some (11, false))⟩, none),
  kA 19 (.pick (.t 11) (.c (.bool true)) (.t 18)),
  kB 20 (.mv (.t 19)) [1, 2, 20],
  (⟨(some 21), .faddr (.t 2) 1, (some (20, false))⟩, none),
  (⟨(some 22), .load (.t 21) 1 false, (some (20, false))⟩, none),
  (⟨(some 23), .len (.t 22), (some (20, false))⟩, none),
  (⟨(some 24), .mv (.t 1), (some (20, false))⟩, none),
  (⟨(some 25), .bin .gtr (.t 23) (.t 24), (some (20, false))⟩, (some [1, 2, 20, 25])),
  kB 26 (.pick (.t 20) (.c (.bool true)) (.t 25)) [1, 2, 26]]
@[go_sem] def l126_2 (_ : Unit) : KL := [kB 4 (.mv (.c (.bool false))) [4]]
@[go_sem] def s126_3 (_ : Unit) : IR := (sQ [(kT l126_2), .ret])
@[go_sem] def s126_4 (_ : Unit) : IR := (sQ [(kT l126_1), (.cond (.t 26) (tH s126_3) .skip)])
@[go_sem] def l126_5 (_ : Unit) : KL := [kB 5 (.mv (cI 0)) [1, 2, 5]]
@[go_sem] def l126_6 (_ : Unit) : KL := [kA 27 (.mv (.t 5)),
  kA 28 (.faddr (.t 2) 1),
  kA 29 (.load (.t 28) 1 false),
  kA 30 (.len (.t 29)),
  kB 31 (.bin .lss (.t 27) (.t 30)) [1, 2, 5, 31]]
@[go_sem] def s126_7 (_ : Unit) : IR := (sQ [(kT l126_6), (.cond (.t 31) .skip (.exit 0))])
@[go_sem] def l126_8 : Nat → GOp
  | 0 => ⟨(some 34), .faddr (.t 2) 1, none⟩
  | 1 => ⟨(some 35), .load (.t 34) 1 false, none⟩
  | 2 => ⟨(some 36), .mv (.t 5), none⟩
  | 3 => ⟨(some 37), .iaddr (.t 35) (.t 36) 1, none⟩
  | 4 => ⟨(some 38), .load (.t 37) 1 false, none⟩
  | 5 => ⟨(some 39), .mv (.t 1), none⟩
  | 6 => ⟨(some 40), .bin .sub (.t 39) (cI 1), none⟩
  | 7 => ⟨(some 41), .call (n_spec_l1In) [(.t 38), (cI 0), (.t 40)], none⟩
  | 8 => ⟨(some 42), .un .not (.t 41), none⟩
  | 9 => ⟨(some 43), .mv (.t 42), none⟩
  | 10 => ⟨(some 44), .mv (.t 5), (some (43, false))⟩
  | 11 => ⟨(some 45), .bin .gtr (.t 44) (cI 0), (some (43, false))⟩
  | 12 => ⟨(some 46), .mv (.t 45), (some (43, false))⟩
  | 13 => ⟨(some 47), .faddr (.t 2) 1, (some (46, true))⟩
  | 14 => ⟨(some 48), .load (.t 47) 1 false, (some (46, true))⟩
  | 15 => ⟨(some 49), .mv (.t 5), (some (46, true))⟩
  | 16 => ⟨(some 50), .iaddr (.t 48) (.t 49) 1, (some (46, true))⟩
  | 17 => ⟨(some 51), .load (.t 50) 1 false, (some (46, true))⟩
  | 18 => ⟨(some 52), .faddr (.t 2) 1, (some (46, true))⟩
  | 19 => ⟨(some 53), .load (.t 52) 1 false, (some (46, true))⟩
  | 20 => ⟨(some 54), .mv (.t 5), (some (46, true))⟩
  | 21 => ⟨(some 55), .bin .sub (.t 54) (cI 1), (some (46, true))⟩
  | 22 => ⟨(some 56), .iaddr (.t 53) (.t 55) 1, (some (46, true))⟩
  | 23 => ⟨(some 57), .load (.t 56) 1 false, (some (46, true))⟩
  | 24 => ⟨(some 58), .bin .leq (.t 51) (.t 57), (some (46, true))⟩
  | 25 => ⟨(some 59), .pick (.t 46) (.t 58) (.c (.bool false)), (some (43, false))⟩
  | 26 => ⟨(some 60), .pick (.t 43) (.c (.bool true)) (.t 59), none⟩
  | 27 => ⟨(some 61), .mv (.t 60), none⟩
  | 28 => ⟨(some 62), .faddr (.t 2) 2, (some (61, false))⟩
  | 29 => ⟨(some 63), .load (.t 62) 1 false, (some (61, false))⟩
  | 30 => ⟨(some 64), .mv (.t 5), (some (61, false))⟩
  | 31 => ⟨(some 65), .iaddr (.t 63) (.t 64) 1, (some (61, false))⟩
  | 32 => ⟨(some 66), .load (.t 65) 1 false, (some (61, false))⟩
  | 33 => ⟨(some 67), .mv (.t 1), (some (61, false))⟩
  | 34 => ⟨(some 68), .call (n_spec_l2Is) [(.t 66), (.t 67), (cI 1)], (some (61, false))⟩
  | 35 => ⟨(some 69), .un .not (.t 68), (some (61, false))⟩
  | 36 => ⟨(some 70), .pick (.t 61) (.c (.bool true)) (.t 69), none⟩
  | _ => ⟨none, .mkmap, none⟩
@[go_sem] def l126_9 (_ : Unit) : KL := [kB 4 (.mv (.c (.bool false))) [4]]
@[go_sem] def s126_10 (_ : Unit) : IR := (sQ [(kT l126_9), .ret])
@[go_sem] def s126_11 (_ : Unit) : IR := (sQ [(.kd (oF l126_8 37) [(0, []), (1, []), (2, []), (3, []), (4, []), (5, []), (6, []), (7, []), (8, []), (9, []), (10, []), (11, []), (12, []), (13, []), (14, []), (15, []), (16, []), (17, []), (18, []), (19, []), (20, []), (21, []), (22, []), (23, []), (24, []), (25, []), (26, []), (27, []), (28, []), (29, []), (30, []), (31, []), (32, []), (33, []), (34, []), (35, []), (36, [])] [1, 2, 5, 70]), (.cond (.t 70) (tH s126_10) .skip)])
@[go_sem] def s126_12 (_ : Unit) : IR := (.block 1 (tH s126_11))
@[go_sem] def l126_13 (_ : Unit) : KL := [kA 32 (.mv (.t 5)),
  kA 33 (.bin .add (.t 32) (cI 1)),
  kB 5 (.mv (.t 33)) [1, 2, 5]]
@[go_sem] def s126_14 (_ : Unit) : IR := (sQ [(tH s126_7), (tH s126_12), (kT l126_13)])
@[go_sem] def s126_15 (_ : Unit) : IR := (.loop (tH s126_14))
@[go_sem] def s126_16 (_ : Unit) : IR := (.block 0 (tH s126_15))
@[go_sem] def s126_17 (_ : Unit) : IR := (sQ [(kT l126_5), (tH s126_16)])
@[go_sem] def l126_18 (_ : Unit) : KL := [kB 4 (.mv (.c (.bool true))) [4]]
@[go_sem] def s126_19 (_ : Unit) : IR := (sQ [(kT l126_0), (tH s126_4), (tH s126_17), (kT l126_18), .ret])
theorem c126 : compFn Tryz.prog [(0, [], [oN, oS [1, 2]]), (1, [], [oN, oN, oN, oN, oS [1, 2, 10], oN, oN, oN, oN, oS [1, 2, 11, 14, 15], oN, oN, oN, oN, oS [1, 2, 20], oN, oN, oN, oN, oS [1, 2, 20, 25], oS [1, 2, 26]]), (2, [], [oS [4]]), (3, [], [oS [1, 2, 5]]), (4, [], [oN, oN, oN, oN, oS [1, 2, 5, 31]]), (6, [(0, []), (1, []), (2, []), (3, []), (4, []), (5, []), (6, []), (7, []), (8, []), (9, []), (10, []), (11, []), (12, []), (13, []), (14, []), (15, []), (16, []), (17, []), (18, []), (19, []), (20, []), (21, []), (22, []), (23, []), (24, []), (25, []), (26, []), (27, []), (28, []), (29, []), (30, []), (31, []), (32, []), (33, []), (34, []), (35, []), (36, [])], [oS [1, 2, 5, 70]]), (7, [], [oS [4]]), (5, [], [oN, oN, oS [1, 2, 5]]), (8, [], [oS [4]])] Tryz.f126 = some ⟨2, 71, [.t 4], (tH s126_19)⟩ := by kernel_rfl
theorem v_spec_l2Rule (hl : vs.length = 2) (h : wpV Tryz.prog (tH s126_19) (postV [.t 4] RV) (envV vs) M) : VCall Tryz.prog n_spec_l2Rule vs M RV :=
  vcall_of_wp (fun _ _ _ hl h => acall_of_wp mixed Tryz.func126 c126 (by kernel_rfl) hl h) hl h
@[go_sem] def l75_0 (_ : Unit) : KL := [kA 1 (.box (.t 0)),
  kB 2 (.mv (.c (.bool false))) [1]]
@[go_sem] def l75_1 (_ : Unit) : KL := [kA 6 (.faddr (.t 1) 0),
  kA 7 (.load (.t 6) 1 false),
  kA 8 (.len (.t 7)),
  kA 9 (.call (n_spec_l1In) [(.t 8), (cI 1), (.c (.int .i64 5))]),
  kB 10 (.un .not (.t 9)) [1, 10],
  kA 11 (.mv (.t 10)),
  (⟨(some 12), .faddr (.t 1) 1, (some (11, false))⟩, none),
  (⟨(some 13), .load (.t 12) 1 false, (some (11, false))⟩, none),
  (⟨(some 14), .len (.t 13), (some (11, false))⟩, none),
  (⟨(some 15), .bin .gtr (.t 14) (.c (.int .i64 8)), (some (11, false))⟩, (some [1, 11, 15])),
  kB 16 (.pick (.t 11) (.c (.bool true)) (.t 15)) [1, 16]]
@[go_sem] def l75_2 (_ : Unit) : KL := [kB 2 (.mv (.c (.bool false))) [2]]
@[go_sem] def s75_3 (_ : Unit) : IR := (sQ [(kT l75_2), .ret])
@[go_sem] def s75_4 (_ : Unit) : IR := (sQ [(kT l75_1), (.cond (.t 16) (tH s75_3) .skip)])
@[go_sem] def l75_5 (_ : Unit) : KL := [kB 3 (.mv (cI 1)) [1, 3]]
@[go_sem] def l75_6 (_ : Unit) : KL := [kB 4 (.mv (cI 0)) [1, 3, 4]]
@[go_sem] def l75_7 (_ : Unit) : KL := [kA 17 (.mv (.t 4)),
  kA 18 (.faddr (.t 1) 0),
  kA 19 (.load (.t 18) 1 false),
  kA 20 (.len (.t 19)),
  kB 21 (.bin .lss (.t 17) (.t 20)) [1, 3, 4, 21]]
@[go_sem] def s75_8 (_ : Unit) : IR := (sQ [(kT l75_7), (.cond (.t 21) .skip (.exit 0))])
@[go_sem] def l75_9 (_ : Unit) : KL := [kA 24 (.faddr (.t 1) 0),
  kA 25 (.load (.t 24) 1 false),
  kA 26 (.mv (.t 4)),
  kA 27 (.iaddr (.t 25) (.t 26) 3),
  kB 28 (.load (.t 27) 3 true) [1, 3, 4, 28],
  kA 29 (.call (n_spec_l2Var) [(.t 28)]),
  kB 30 (.un .not (.t 29)) [1, 3, 4, 30]]
@[go_sem] def l75_10 (_ : Unit) : KL := [kB 2 (.mv (.c (.bool false))) [2]]
@[go_sem] def s75_11 (_ : Unit) : IR := (sQ [(kT l75_10), .ret])
@[go_sem] def s75_12 (_ : Unit) : IR := (sQ [(kT l75_9), (.cond (.t 30) (tH s75_11) .skip)])
@[go_sem] def l75_13 : Nat → GOp
  | 0 => ⟨(some 31), .mv (.t 3), none⟩
  | 1 => ⟨(some 32), .faddr (.t 1) 0, none⟩
  | 2 => ⟨(some 33), .load (.t 32) 1 false, none⟩
  | 3 => ⟨(some 34), .mv (.t 4), none⟩
  | 4 => ⟨(some 35), .iaddr (.t 33) (.t 34) 3, none⟩
  | 5 => ⟨(some 36), .faddr (.t 35) 1, none⟩
  | 6 => ⟨(some 37), .load (.t 36) 1 false, none⟩
  | 7 => ⟨(some 38), .faddr (.t 1) 0, none⟩
  | 8 => ⟨(some 39), .load (.t 38) 1 false, none⟩
  | 9 => ⟨(some 40), .mv (.t 4), none⟩
  | 10 => ⟨(some 41), .iaddr (.t 39) (.t 40) 3, none⟩
  | 11 => ⟨(some 42), .faddr (.t 41) 0, none⟩
  | 12 => ⟨(some 43), .load (.t 42) 1 false, none⟩
  | 13 => ⟨(some 44), .bin .sub (.t 37) (.t 43), none⟩
  | 14 => ⟨(some 45), .bin .add (.t 44) (cI 1), none⟩
  | 15 => ⟨(some 46), .bin .mul (.t 31) (.t 45), none⟩
  | 16 => ⟨(some 3), .mv (.t 46), none⟩
  | _ => ⟨none, .mkmap, none⟩
@[go_sem] def s75_14 (_ : Unit) : IR := (sQ [(tH s75_12), (.kd (oF l75_13 17) [(0, []), (1, []), (2, []), (3, []), (4, []), (5, []), (6, []), (7, []), (8, []), (9, []), (10, []), (11, []), (12, []), (13, []), (14, []), (15, []), (16, [])] [1, 3, 4])])
@[go_sem] def s75_15 (_ : Unit) : IR := (.block 1 (tH s75_14))
@[go_sem] def l75_16 (_ : Unit) : KL := [kA 22 (.mv (.t 4)),
  kA 23 (.bin .add (.t 22) (cI 1)),
  kB 4 (.mv (.t 23)) [1, 3, 4]]
@[go_sem] def s75_17 (_ : Unit) : IR := (sQ [(tH s75_8), (tH s75_15), (kT l75_16)])
@[go_sem] def s75_18 (_ : Unit) : IR := (.loop (tH s75_17))
@[go_sem] def s75_19 (_ : Unit) : IR := (.block 0 (tH s75_18))
@[go_sem] def s75_20 (_ : Unit) : IR := (sQ [(kT l75_6), (tH s75_19)])
@[go_sem] def l75_21 (_ : Unit) : KL := [kB 5 (.mv (cI 0)) [1, 3, 5]]
@[go_sem] def l75_22 (_ : Unit) : KL := [kA 47 (.mv (.t 5)),
  kA 48 (.faddr (.t 1) 1),
  kA 49 (.load (.t 48) 1 false),
  kA 50 (.len (.t 49)),
  kB 51 (.bin .lss (.t 47) (.t 50)) [1, 3, 5, 51]]
@[go_sem] def s75_23 (_ : Unit) : IR := (sQ [(kT l75_22), (.cond (.t 51) .skip (.exit 2))])
@[go_sem] def l75_24 : Nat → GOp
  | 0 => ⟨(some 54), .faddr (.t 1) 1, none⟩
  | 1 => ⟨(some 55), .load (.t 54) 1 false, none⟩
  | 2 => ⟨(some 56), .mv (.t 5), none⟩
  | 3 => ⟨(some 57), .iaddr (.t 55) (.t 56) 3, none⟩
  | 4 => ⟨(some 58), .load (.t 57) 3 true, none⟩
  | 5 => ⟨(some 59), .faddr (.t 1) 0, none⟩
  | 6 => ⟨(some 60), .load (.t 59) 1 false, none⟩
  | 7 => ⟨(some 61), .len (.t 60), none⟩
  | 8 => ⟨(some 62), .call (n_spec_l2Rule) [(.t 58), (.t 61)], none⟩
  | 9 => ⟨(some 63), .un .not (.t 62), none⟩
  | _ => ⟨none, .mkmap, none⟩
@[go_sem] def l75_25 (_ : Unit) : KL := [kB 2 (.mv (.c (.bool false))) [2]]
@[go_sem] def s75_26 (_ : Unit) : IR := (sQ [(kT l75_25), .ret])
@[go_sem] def s75_27 (_ : Unit) : IR := (sQ [(.kd (oF l75_24 10) [(0, []), (1, []), (2, []), (3, []), (4, []), (5, []), (6, []), (7, []), (8, []), (9, [])] [1, 3, 5, 63]), (.cond (.t 63) (tH s75_26) .skip)])
@[go_sem] def s75_28 (_ : Unit) : IR := (.block 3 (tH s75_27))
@[go_sem] def l75_29 (_ : Unit) : KL := [kA 52 (.mv (.t 5)),
  kA 53 (.bin .add (.t 52) (cI 1)),
  kB 5 (.mv (.t 53)) [1, 3, 5]]
@[go_sem] def s75_30 (_ : Unit) : IR := (sQ [(tH s75_23), (tH s75_28), (kT l75_29)])
@[go_sem] def s75_31 (_ : Unit) : IR := (.loop (tH s75_30))
@[go_sem] def s75_32 (_ : Unit) : IR := (.block 2 (tH s75_31))
@[go_sem] def s75_33 (_ : Unit) : IR := (sQ [(kT l75_21), (tH s75_32)])
@[go_sem] def l75_34 (_ : Unit) : KL := [kA 64 (.mv (.t 3)),
  kA 65 (.bin .leq (.t 64) (.c (.int .i64 400))),
  kB 2 (.mv (.t 65)) [2]]
@[go_sem] def s75_35 (_ : Unit) : IR := (sQ [(kT l75_0), (tH s75_4), (kT l75_5), (tH s75_20), (tH s75_33), (kT l75_34), .ret])
theorem c75 : compFn Tryz.prog [(0, [], [oN, oS [1]]), (1, [], [oN, oN, oN, oN, oS [1, 10], oN, oN, oN, oN, oS [1, 11, 15], oS [1, 16]]), (2, [], [oS [2]]), (3, [], [oS [1, 3]]), (4, [], [oS [1, 3, 4]]), (5, [], [oN, oN, oN, oN, oS [1, 3, 4, 21]]), (7, [], [oN, oN, oN, oN, oS [1, 3, 4, 28], oN, oS [1, 3, 4, 30]]), (8, [], [oS [2]]), (9, [(0, []), (1, []), (2, []), (3, []), (4, []), (5, []), (6, []), (7, []), (8, []), (9, []), (10, []), (11, []), (12, []), (13, []), (14, []), (15, []), (16, [])], [oS [1, 3, 4]]), (6, [], [oN, oN, oS [1, 3, 4]]), (10, [], [oS [1, 3, 5]]), (11, [], [oN, oN, oN, oN, oS [1, 3, 5, 51]]), (13, [(0, []), (1, []), (2, []), (3, []), (4, []), (5, []), (6, []), (7, []), (8, []), (9, [])], [oS [1, 3, 5, 63]]), (14, [], [oS [2]]), (12, [], [oN, oN, oS [1, 3, 5]]), (15, [], [oN, oN, oS [2]])] Tryz.f75 = some ⟨1, 66, [.t 2], (tH s75_35)⟩ := by kernel_rfl
theorem v_spec_SystemValid (hl : vs.length = 1) (h : wpV Tryz.prog (tH s75_35) (postV [.t 2] RV) (envV vs) M) : VCall Tryz.prog n_spec_SystemValid vs M RV :=
  vcall_of_wp (fun _ _ _ hl h => acall_of_wp mixed Tryz.func75 c75 (by kernel_rfl) hl h) hl h
@[go_sem] def l57_0 (_ : Unit) : KL := [kA 1 (.box (.t 0)),
  kB 2 (.mv (cI 0)) [1]]
@[go_sem] def l57_1 (_ : Unit) : KL := [kA 5 (.load (.t 1) 2 true),
  kA 6 (.call (n_spec_SystemValid) [(.t 5)]),
  kB 7 (.un .not (.t 6)) [1, 7]]
@[go_sem] def l57_2 (_ : Unit) : KL := [kB 2 (.mv (cI 0)) [2]]
@[go_sem] def s57_3 (_ : Unit) : IR := (sQ [(kT l57_2), .ret])
@[go_sem] def s57_4 (_ : Unit) : IR := (sQ [(kT l57_1), (.cond (.t 7) (tH s57_3) .skip)])
@[go_sem] def l57_5 (_ : Unit) : KL := [kB 3 (.mv (cI 1)) [1, 3]]
@[go_sem] def l57_6 (_ : Unit) : KL := [kB 4 (.mv (cI 0)) [1, 3, 4]]
@[go_sem] def l57_7 (_ : Unit) : KL := [kA 8 (.mv (.t 4)),
  kA 9 (.faddr (.t 1) 0),
  kA 10 (.load (.t 9) 1 false),
  kA 11 (.len (.t 10)),
  kB 12 (.bin .lss (.t 8) (.t 11)) [1, 3, 4, 12]]
@[go_sem] def s57_8 (_ : Unit) : IR := (sQ [(kT l57_7), (.cond (.t 12) .skip (.exit 0))])
@[go_sem] def l57_9 : Nat → GOp
  | 0 => ⟨(some 15), .mv (.t 3), none⟩
  | 1 => ⟨(some 16), .faddr (.t 1) 0, none⟩
  | 2 => ⟨(some 17), .load (.t 16) 1 false, none⟩
  | 3 => ⟨(some 18), .mv (.t 4), none⟩
  | 4 => ⟨(some 19), .iaddr (.t 17) (.t 18) 3, none⟩
  | 5 => ⟨(some 20), .faddr (.t 19) 1, none⟩
  | 6 => ⟨(some 21), .load (.t 20) 1 false, none⟩
  | 7 => ⟨(some 22), .faddr (.t 1) 0, none⟩
  | 8 => ⟨(some 23), .load (.t 22) 1 false, none⟩
  | 9 => ⟨(some 24), .mv (.t 4), none⟩
  | 10 => ⟨(some 25), .iaddr (.t 23) (.t 24) 3, none⟩
  | 11 => ⟨(some 26), .faddr (.t 25) 0, none⟩
  | 12 => ⟨(some 27), .load (.t 26) 1 false, none⟩
  | 13 => ⟨(some 28), .bin .sub (.t 21) (.t 27), none⟩
  | 14 => ⟨(some 29), .bin .add (.t 28) (cI 1), none⟩
  | 15 => ⟨(some 30), .bin .mul (.t 15) (.t 29), none⟩
  | 16 => ⟨(some 3), .mv (.t 30), none⟩
  | _ => ⟨none, .mkmap, none⟩
@[go_sem] def s57_10 (_ : Unit) : IR := (.block 1 (.kd (oF l57_9 17) [(0, []), (1, []), (2, []), (3, []), (4, []), (5, []), (6, []), (7, []), (8, []), (9, []), (10, []), (11, []), (12, []), (13, []), (14, []), (15, []), (16, [])] [1, 3, 4]))
@[go_sem] def l57_11 (_ : Unit) : KL := [kA 13 (.mv (.t 4)),
  kA 14 (.bin .add (.t 13) (cI 1)),
  kB 4 (.mv (.t 14)) [1, 3, 4]]
@[go_sem] def s57_12 (_ : Unit) : IR := (sQ [(tH s57_8), (tH s57_10), (kT l57_11)])
@[go_sem] def s57_13 (_ : Unit) : IR := (.loop (tH s57_12))
@[go_sem] def s57_14 (_ : Unit) : IR := (.block 0 (tH s57_13))
@[go_sem] def s57_15 (_ : Unit) : IR := (sQ [(kT l57_6), (tH s57_14)])
@[go_sem] def l57_16 (_ : Unit) : KL := [kA 31 (.mv (.t 3)),
  kB 2 (.mv (.t 31)) [2]]
@[go_sem] def s57_17 (_ : Unit) : IR := (sQ [(kT l57_0), (tH s57_4), (kT l57_5), (tH s57_15), (kT l57_16), .ret])
theorem c57 : compFn Tryz.prog [(0, [], [oN, oS [1]]), (1, [], [oN, oN, oS [1, 7]]), (2, [], [oS [2]]), (3, [], [oS [1, 3]]), (4, [], [oS [1, 3, 4]]), (5, [], [oN, oN, oN, oN, oS [1, 3, 4, 12]]), (7, [(0, []), (1, []), (2, []), (3, []), (4, []), (5, []), (6, []), (7, []), (8, []), (9, []), (10, []), (11, []), (12, []), (13, []), (14, []), (15, []), (16, [])], [oS [1, 3, 4]]), (6, [], [oN, oN, oS [1, 3, 4]]), (8, [], [oN, oS [2]])] Tryz.f57 = some ⟨1, 32, [.t 2], (tH s57_17)⟩ := by kernel_rfl
theorem v_spec_SizeOf (hl : vs.length = 1) (h : wpV Tryz.prog (tH s57_17) (postV [.t 2] RV) (envV vs) M) : VCall Tryz.prog n_spec_SizeOf vs M RV :=
  vcall_of_wp (fun _ _ _ hl h => acall_of_wp mixed Tryz.func57 c57 (by kernel_rfl) hl h) hl h
@[go_sem] def l84_0 (_ : Unit) : KL := [kA 1 (.box (.t 0)),
  kB 2 (.mv (.c (.sl none 0 0 true 0))) [1]]
@[go_sem] def l84_1 (_ : Unit) : KL := [kA 5 (.bslc 1 0 [(.int .i64 0)] []),
  kB 3 (.mv (.t 5)) [1, 3]]
@[go_sem] def l84_2 (_ : Unit) : KL := [kB 4 (.mv (cI 0)) [1, 3, 4]]
@[go_sem] def l84_3 (_ : Unit) : KL := [kA 6 (.mv (.t 4)),
  kA 7 (.faddr (.t 1) 0),
  kA 8 (.load (.t 7) 1 false),
  kA 9 (.len (.t 8)),
  kB 10 (.bin .lss (.t 6) (.t 9)) [1, 3, 4, 10],
  kA 11 (.mv (.t 10)),
  (⟨(some 12), .load (.t 1) 2 true, (some (11, true))⟩, none),
  (⟨(some 13), .call (n_spec_SystemValid) [(.t 12)], (some (11, true))⟩, none),
  kB 14 (.pick (.t 11) (.t 13) (.c (.bool false))) [1, 3, 4, 14]]
@[go_sem] def s84_4 (_ : Unit) : IR := (sQ [(kT l84_3), (.cond (.t 14) .skip (.exit 0))])
@[go_sem] def l84_5 (_ : Unit) : KL := [kA 17 (.mv (.t 3)),
  kA 18 (.faddr (.t 1) 0),
  kA 19 (.load (.t 18) 1 false),
  kA 20 (.mv (.t 4)),
  kB 21 (.iaddr (.t 19) (.t 20) 3) [1, 4, 17, 21],
  kA 22 (.faddr (.t 21) 2),
  kA 23 (.load (.t 22) 1 false),
  kA 24 (.bslc 1 1 [(.int .i64 0)] [(0, (.t 23))]),
  kA 25 (.app 1 8 (.t 17) (.t 24)),
  kB 3 (.mv (.t 25)) [1, 3, 4]]
@[go_sem] def s84_6 (_ : Unit) : IR := (.block 1 (kT l84_5))
@[go_sem] def l84_7 (_ : Unit) : KL := [kA 15 (.mv (.t 4)),
  kA 16 (.bin .add (.t 15) (cI 1)),
  kB 4 (.mv (.t 16)) [1, 3, 4]]
@[go_sem] def s84_8 (_ : Unit) : IR := (sQ [(tH s84_4), (tH s84_6), (kT l84_7)])
@[go_sem] def s84_9 (_ : Unit) : IR := (.loop (tH s84_8))
@[go_sem] def s84_10 (_ : Unit) : IR := (.block 0 (tH s84_9))
@[go_sem] def s84_11 (_ : Unit) : IR := (sQ [(kT l84_2), (tH s84_10)])
@[go_sem] def l84_12 (_ : Unit) : KL := [kA 26 (.mv (.t 3)),
  kB 2 (.mv (.t 26)) [2]]
@[go_sem] def s84_13 (_ : Unit) : IR := (sQ [(kT l84_0), (kT l84_1), (tH s84_11), (kT l84_12), .ret])
theorem c84 : compFn Tryz.prog [(0, [], [oN, oS [1]]), (1, [], [oN, oS [1, 3]]), (2, [], [oS [1, 3, 4]]), (3, [], [oN, oN, oN, oN, oS [1, 3, 4, 10], oN, oN, oN, oS [1, 3, 4, 14]]), (5, [], [oN, oN, oN, oN, oS [1, 4, 17, 21], oN, oN, oN, oN, oS [1, 3, 4]]), (4, [], [oN, oN, oS [1, 3, 4]]), (6, [], [oN, oS [2]])] Tryz.f84 = some ⟨1, 27, [.t 2], (tH s84_13)⟩ := by kernel_rfl
theorem v_spec_FirstState (hl : vs.length = 1) (h : wpV Tryz.prog (tH s84_13) (postV [.t 2] RV) (envV vs) M) : VCall Tryz.prog n_spec_FirstState vs M RV :=
  vcall_of_wp (fun _ _ _ hl h => acall_of_wp mixed Tryz.func84 c84 (by kernel_rfl) hl h) hl h
@[go_sem] def l117_0 (_ : Unit) : KL := [kB 2 (.mv (.c (.sl none 0 0 true 0))) [0]]
@[go_sem] def l117_1 (_ : Unit) : KL := [kA 5 (.bslc 1 0 [(.int .i64 0)] []),
  kB 3 (.mv (.t 5)) [0, 3]]
@[go_sem] def l117_2 (_ : Unit) : KL := [kB 4 (.mv (cI 0)) [0, 3, 4]]
@[go_sem] def l117_3 (_ : Unit) : KL := [kA 6 (.mv (.t 4)),
  kA 7 (.mv (.t 0)),
  kA 8 (.len (.t 7)),
  kB 9 (.bin .lss (.t 6) (.t 8)) [0, 3, 4, 9]]
@[go_sem] def s117_4 (_ : Unit) : IR := (sQ [(kT l117_3), (.cond (.t 9) .skip (.exit 0))])
@[go_sem] def l117_5 (_ : Unit) : KL := [kA 12 (.mv (.t 3)),
  kA 13 (.mv (.t 0)),
  kA 14 (.mv (.t 4)),
  kA 15 (.iaddr (.t 13) (.t 14) 1),
  kB 16 (.load (.t 15) 1 false) [0, 4, 12, 16],
  kA 17 (.bslc 1 1 [(.int .i64 0)] [(0, (.t 16))]),
  kA 18 (.app 1 8 (.t 12) (.t 17)),
  kB 3 (.mv (.t 18)) [0, 3, 4]]
@[go_sem] def s117_6 (_ : Unit) : IR := (.block 1 (kT l117_5))
@[go_sem] def l117_7 (_ : Unit) : KL := [kA 10 (.mv (.t 4)),
  kA 11 (.bin .add (.t 10) (cI 1)),
  kB 4 (.mv (.t 11)) [0, 3, 4]]
@[go_sem] def s117_8 (_ : Unit) : IR := (sQ [(tH s117_4), (tH s117_6), (kT l117_7)])
@[go_sem] def s117_9 (_ : Unit) : IR := (.loop (tH s117_8))
@[go_sem] def s117_10 (_ : Unit) : IR := (.block 0 (tH s117_9))
@[go_sem] def s117_11 (_ : Unit) : IR := (sQ [(kT l117_2), (tH s117_10)])
@[go_sem] def l117_12 (_ : Unit) : KL := [kA 19 (.mv (.t 3)),
  kB 2 (.mv (.t 19)) [2]]
@[go_sem] def s117_13 (_ : Unit) : IR := (sQ [(kT l117_0), (kT l117_1), (tH s117_11), (kT l117_12), .ret])
theorem c117 : compFn Tryz.prog [(0, [], [oS [0]]), (1, [], [oN, oS [0, 3]]), (2, [], [oS [0, 3, 4]]), (3, [], [oN, oN, oN, oS [0, 3, 4, 9]]), (5, [], [oN, oN, oN, oN, oS [0, 4, 12, 16], oN, oN, oS [0, 3, 4]]), (4, [], [oN, oN, oS [0, 3, 4]]), (6, [], [oN, oS [2]])] Tryz.f117 = some ⟨1, 20, [.t 2], (tH s117_13)⟩ := by kernel_rfl
theorem v_spec_l3Copy (hl : vs.length = 1) (h : wpV Tryz.prog (tH s117_13) (postV [.t 2] RV) (envV vs) M) : VCall Tryz.prog n_spec_l3Copy vs M RV :=
  vcall_of_wp (fun _ _ _ hl h => acall_of_wp mixed Tryz.func117 c117 (by kernel_rfl) hl h) hl h
@[go_sem] def l70_0 (_ : Unit) : KL := [kA 2 (.box (.t 0)),
  kB 4 (.mv (.c (.sl none 0 0 true 0))) [1, 2]]
@[go_sem] def l70_1 (_ : Unit) : KL := [kA 8 (.load (.t 2) 2 true),
  kA 9 (.call (n_spec_FirstState) [(.t 8)]),
  kA 10 (.call (n_spec_l3Copy) [(.t 9)]),
  kB 5 (.mv (.t 10)) [1, 2, 5]]
@[go_sem] def l70_2 (_ : Unit) : KL := [kA 11 (.faddr (.t 2) 0),
  kA 12 (.load (.t 11) 1 false),
  kA 13 (.len (.t 12)),
  kA 14 (.bin .sub (.t 13) (cI 1)),
  kB 6 (.mv (.t 14)) [1, 2, 5, 6]]
@[go_sem] def l70_3 (_ : Unit) : KL := [kA 15 (.mv (.t 6)),
  kB 16 (.bin .geq (.t 15) (cI 0)) [1, 2, 5, 6, 16]]
@[go_sem] def s70_4 (_ : Unit) : IR := (sQ [(kT l70_3), (.cond (.t 16) .skip (.exit 0))])
@[go_sem] def l70_5 : Nat → GOp
  | 0 => ⟨(some 19), .faddr (.t 2) 0, none⟩
  | 1 => ⟨(some 20), .load (.t 19) 1 false, none⟩
  | 2 => ⟨(some 21), .mv (.t 6), none⟩
  | 3 => ⟨(some 22), .iaddr (.t 20) (.t 21) 3, none⟩
  | 4 => ⟨(some 23), .faddr (.t 22) 1, none⟩
  | 5 => ⟨(some 24), .load (.t 23) 1 false, none⟩
  | 6 => ⟨(some 25), .faddr (.t 2) 0, none⟩
  | 7 => ⟨(some 26), .load (.t 25) 1 false, none⟩
  | 8 => ⟨(some 27), .mv (.t 6), none⟩
  | 9 => ⟨(some 28), .iaddr (.t 26) (.t 27) 3, none⟩
  | 10 => ⟨(some 29), .faddr (.t 28) 0, none⟩
  | 11 => ⟨(some 30), .load (.t 29) 1 false, none⟩
  | 12 => ⟨(some 31), .bin .sub (.t 24) (.t 30), none⟩
  | 13 => ⟨(some 32), .bin .add (.t 31) (cI 1), none⟩
  | 14 => ⟨(some 7), .mv (.t 32), none⟩
  | _ => ⟨none, .mkmap, none⟩
@[go_sem] def l70_6 : Nat → GOp
  | 0 => ⟨(some 33), .mv (.t 5), none⟩
  | 1 => ⟨(some 34), .mv (.t 6), none⟩
  | 2 => ⟨(some 35), .faddr (.t 2) 0, none⟩
  | 3 => ⟨(some 36), .load (.t 35) 1 false, none⟩
  | 4 => ⟨(some 37), .mv (.t 6), none⟩
  | 5 => ⟨(some 38), .iaddr (.t 36) (.t 37) 3, none⟩
  | 6 => ⟨(some 39), .faddr (.t 38) 0, none⟩
  | 7 => ⟨(some 40), .load (.t 39) 1 false, none⟩
  | 8 => ⟨(some 41), .mv (.t 1), none⟩
  | 9 => ⟨(some 42), .mv (.t 7), none⟩
  | 10 => ⟨(some 43), .bin .rem (.t 41) (.t 42), none⟩
  | 11 => ⟨(some 44), .bin .add (.t 40) (.t 43), none⟩
  | 12 => ⟨(some 45), .iaddr (.t 33) (.t 34) 1, none⟩
  | 13 => ⟨none, .store (.t 45) 1 (.t 44), none⟩
  | _ => ⟨none, .mkmap, none⟩
@[go_sem] def l70_7 (_ : Unit) : KL := [kA 46 (.mv (.t 1)),
  kA 47 (.mv (.t 7)),
  kA 48 (.bin .quo (.t 46) (.t 47)),
  kB 1 (.mv (.t 48)) [1, 2, 5, 6]]
@[go_sem] def s70_8 (_ : Unit) : IR := (sQ [(.kd (oF l70_5 15) [(0, []), (1, []), (2, []), (3, []), (4, []), (5, []), (6, []), (7, []), (8, []), (9, []), (10, []), (11, []), (12, []), (13, []), (14, [])] [1, 2, 5, 6, 7]), (.kd (oF l70_6 14) [(0, []), (1, []), (2, []), (3, []), (4, []), (5, []), (6, []), (7, []), (8, []), (9, []), (10, []), (11, []), (12, []), (13, [])] [1, 2, 5, 6, 7]), (kT l70_7)])
@[go_sem] def s70_9 (_ : Unit) : IR := (.block 1 (tH s70_8))
@[go_sem] def l70_10 (_ : Unit) : KL := [kA 17 (.mv (.t 6)),
  kA 18 (.bin .sub (.t 17) (cI 1)),
  kB 6 (.mv (.t 18)) [1, 2, 5, 6]]
@[go_sem] def s70_11 (_ : Unit) : IR := (sQ [(tH s70_4), (tH s70_9), (kT l70_10)])
@[go_sem] def s70_12 (_ : Unit) : IR := (.loop (tH s70_11))
@[go_sem] def s70_13 (_ : Unit) : IR := (.block 0 (tH s70_12))
@[go_sem] def s70_14 (_ : Unit) : IR := (sQ [(kT l70_2), (tH s70_13)])
@[go_sem] def l70_15 (_ : Unit) : KL := [kA 49 (.mv (.t 5)),
  kB 4 (.mv (.t 49)) [4]]
@[go_sem] def s70_16 (_ : Unit) : IR := (sQ [(kT l70_0), (kT l70_1), (tH s70_14), (kT l70_15), .ret])
theorem c70 : compFn Tryz.prog [(0, [], [oN, oS [1, 2]]), (1, [], [oN, oN, oN, oS [1, 2, 5]]), (2, [], [oN, oN, oN, oN, oS [1, 2, 5, 6]]), (3, [], [oN, oS [1, 2, 5, 6, 16]]), (5, [(0, []), (1, []), (2, []), (3, []), (4, []), (5, []), (6, []), (7, []), (8, []), (9, []), (10, []), (11, []), (12, []), (13, []), (14, [])], [oS [1, 2, 5, 6, 7]]), (6, [(0, []), (1, []), (2, []), (3, []), (4, []), (5, []), (6, []), (7, []), (8, []), (9, []), (10, []), (11, []), (12, []), (13, [])], [oS [1, 2, 5, 6, 7]]), (7, [], [oN, oN, oN, oS [1, 2, 5, 6]]), (4, [], [oN, oN, oS [1, 2, 5, 6]]), (8, [], [oN, oS [4]])] Tryz.f70 = some ⟨2, 50, [.t 4], (tH s70_16)⟩ := by kernel_rfl
theorem v_spec_l4State (hl : vs.length = 2) (h : wpV Tryz.prog (tH s70_16) (postV [.t 4] RV) (envV vs) M) : VCall Tryz.prog n_spec_l4State vs M RV :=
  vcall_of_wp (fun _ _ _ hl h => acall_of_wp mixed Tryz.func70 c70 (by kernel_rfl) hl h) hl h
@[go_sem] def l168_0 (_ : Unit) : KL := [kB 2 (.mv (cI 0)) [0]]
@[go_sem] def l168_1 (_ : Unit) : KL := [kA 3 (.mv (.t 0)),
  kB 4 (.bin .gtr (.t 3) (.c (.int .i64 9999))) [0, 4]]
@[go_sem] def l168_2 (_ : Unit) : KL := [kB 2 (.mv (.c (.int .i64 9999))) [2]]
@[go_sem] def s168_3 (_ : Unit) : IR := (sQ [(kT l168_2), .ret])
@[go_sem] def s168_4 (_ : Unit) : IR := (sQ [(kT l168_1), (.cond (.t 4) (tH s168_3) .skip)])
@[go_sem] def l168_5 (_ : Unit) : KL := [kA 5 (.mv (.t 0)),
  kB 6 (.bin .lss (.t 5) (.c (.int .i64 (-9999)))) [0, 6]]
@[go_sem] def l168_6 (_ : Unit) : KL := [kB 2 (.mv (.c (.int .i64 (-9999)))) [2]]
@[go_sem] def s168_7 (_ : Unit) : IR := (sQ [(kT l168_6), .ret])
@[go_sem] def s168_8 (_ : Unit) : IR := (sQ [(kT l168_5), (.cond (.t 6) (tH s168_7) .skip)])
@[go_sem] def l168_9 (_ : Unit) : KL := [kA 7 (.mv (.t 0)),
  kB 2 (.mv (.t 7)) [2]]
@[go_sem] def s168_10 (_ : Unit) : IR := (sQ [(kT l168_0), (tH s168_4), (tH s168_8), (kT l168_9), .ret])
theorem c168 : compFn Tryz.prog [(0, [], [oS [0]]), (1, [], [oN, oS [0, 4]]), (2, [], [oS [2]]), (3, [], [oN, oS [0, 6]]), (4, [], [oS [2]]), (5, [], [oN, oS [2]])] Tryz.f168 = some ⟨1, 8, [.t 2], (tH s168_10)⟩ := by kernel_rfl
theorem v_spec_l1Held (hl : vs.length = 1) (h : wpV Tryz.prog (tH s168_10) (postV [.t 2] RV) (envV vs) M) : VCall Tryz.prog n_spec_l1Held vs M RV :=
  vcall_of_wp (fun _ _ _ hl h => acall_of_wp mixed Tryz.func168 c168 (by kernel_rfl) hl h) hl h
@[go_sem] def l169_0 (_ : Unit) : KL := [kB 2 (.mv (cI 0)) [0]]
@[go_sem] def l169_1 (_ : Unit) : KL := [kB 3 (.mv (.t 0)) [3]]
@[go_sem] def l169_2 (_ : Unit) : KL := [kB 2 (.mv (cI 1)) [2]]
@[go_sem] def s169_3 (_ : Unit) : IR := (sQ [(kT l169_2), .ret])
@[go_sem] def s169_4 (_ : Unit) : IR := (sQ [(kT l169_1), (.cond (.t 3) (tH s169_3) .skip)])
@[go_sem] def l169_5 (_ : Unit) : KL := [kB 2 (.mv (cI 0)) [2]]
@[go_sem] def s169_6 (_ : Unit) : IR := (sQ [(kT l169_0), (tH s169_4), (kT l169_5), .ret])
theorem c169 : compFn Tryz.prog [(0, [], [oS [0]]), (1, [], [oS [3]]), (2, [], [oS [2]]), (3, [], [oS [2]])] Tryz.f169 = some ⟨1, 4, [.t 2], (tH s169_6)⟩ := by kernel_rfl
theorem v_spec_l1Truth (hl : vs.length = 1) (h : wpV Tryz.prog (tH s169_6) (postV [.t 2] RV) (envV vs) M) : VCall Tryz.prog n_spec_l1Truth vs M RV :=
  vcall_of_wp (fun _ _ _ hl h => acall_of_wp mixed Tryz.func169 c169 (by kernel_rfl) hl h) hl h
@[go_sem] def l163_0 (_ : Unit) : KL := [kB 6 (.mv (cI 0)) [0, 1, 2]]
@[go_sem] def l163_1 (_ : Unit) : KL := [kA 7 (.mv (.t 0)),
  kB 8 (.bin .eql (.t 7) (.c (.int .i64 2))) [0, 1, 2, 8]]
@[go_sem] def l163_2 (_ : Unit) : KL := [kA 9 (.mv (.t 1)),
  kA 10 (.mv (.t 2)),
  kA 11 (.bin .add (.t 9) (.t 10)),
  kA 12 (.call (n_spec_l1Held) [(.t 11)]),
  kB 6 (.mv (.t 12)) [6]]
@[go_sem] def s163_3 (_ : Unit) : IR := (sQ [(kT l163_2), .ret])
@[go_sem] def s163_4 (_ : Unit) : IR := (sQ [(kT l163_1), (.cond (.t 8) (tH s163_3) .skip)])
@[go_sem] def l163_5 (_ : Unit) : KL := [kA 13 (.mv (.t 0)),
  kB 14 (.bin .eql (.t 13) (.c (.int .i64 3))) [0, 1, 2, 14]]
@[go_sem] def l163_6 (_ : Unit) : KL := [kA 15 (.mv (.t 1)),
  kA 16 (.mv (.t 2)),
  kA 17 (.bin .sub (.t 15) (.t 16)),
  kA 18 (.call (n_spec_l1Held) [(.t 17)]),
  kB 6 (.mv (.t 18)) [6]]
@[go_sem] def s163_7 (_ : Unit) : IR := (sQ [(kT l163_6), .ret])
@[go_sem] def s163_8 (_ : Unit) : IR := (sQ [(kT l163_5), (.cond (.t 14) (tH s163_7) .skip)])
@[go_sem] def l163_9 (_ : Unit) : KL := [kA 19 (.mv (.t 0)),
  kB 20 (.bin .eql (.t 19) (.c (.int .i64 4))) [0, 1, 2, 20]]
@[go_sem] def l163_10 (_ : Unit) : KL := [kA 21 (.mv (.t 1)),
  kA 22 (.mv (.t 2)),
  kA 23 (.bin .mul (.t 21) (.t 22)),
  kA 24 (.call (n_spec_l1Held) [(.t 23)]),
  kB 6 (.mv (.t 24)) [6]]
@[go_sem] def s163_11 (_ : Unit) : IR := (sQ [(kT l163_10), .ret])
@[go_sem] def s163_12 (_ : Unit) : IR := (sQ [(kT l163_9), (.cond (.t 20) (tH s163_11) .skip)])
@[go_sem] def l163_13 (_ : Unit) : KL := [kA 25 (.mv (.t 0)),
  kB 26 (.bin .eql (.t 25) (.c (.int .i64 5))) [0, 1, 2, 26]]
@[go_sem] def l163_14 (_ : Unit) : KL := [kA 27 (.mv (.t 1)),
  kA 28 (.mv (.t 2)),
  kA 29 (.bin .lss (.t 27) (.t 28)),
  kA 30 (.call (n_spec_l1Truth) [(.t 29)]),
  kB 6 (.mv (.t 30)) [6]]
@[go_sem] def s163_15 (_ : Unit) : IR := (sQ [(kT l163_14), .ret])
@[go_sem] def s163_16 (_ : Unit) : IR := (sQ [(kT l163_13), (.cond (.t 26) (tH s163_15) .skip)])
@[go_sem] def l163_17 (_ : Unit) : KL := [kA 31 (.mv (.t 0)),
  kB 32 (.bin .eql (.t 31) (.c (.int .i64 6))) [0, 1, 2, 32]]
@[go_sem] def l163_18 (_ : Unit) : KL := [kA 33 (.mv (.t 1)),
  kA 34 (.mv (.t 2)),
  kA 35 (.bin .eql (.t 33) (.t 34)),
  kA 36 (.call (n_spec_l1Truth) [(.t 35)]),
  kB 6 (.mv (.t 36)) [6]]
@[go_sem] def s163_19 (_ : Unit) : IR := (sQ [(kT l163_18), .ret])
@[go_sem] def s163_20 (_ : Unit) : IR := (sQ [(kT l163_17), (.cond (.t 32) (tH s163_19) .skip)])
@[go_sem] def l163_21 (_ : Unit) : KL := [kA 37 (.mv (.t 0)),
  kB 38 (.bin .eql (.t 37) (.c (.int .i64 7))) [0, 1, 2, 38]]
@[go_sem] def l163_22 (_ : Unit) : KL := [kA 39 (.mv (.t 1)),
  kA 40 (.bin .sub (cI 1) (.t 39)),
  kB 6 (.mv (.t 40)) [6]]
@[go_sem] def s163_23 (_ : Unit) : IR := (sQ [(kT l163_22), .ret])
@[go_sem] def s163_24 (_ : Unit) : IR := (sQ [(kT l163_21), (.cond (.t 38) (tH s163_23) .skip)])
@[go_sem] def l163_25 (_ : Unit) : KL := [kA 41 (.mv (.t 0)),
  kB 42 (.bin .eql (.t 41) (.c (.int .i64 8))) [1, 2, 42]]
@[go_sem] def l163_26 (_ : Unit) : KL := [kA 43 (.mv (.t 1)),
  kA 44 (.mv (.t 2)),
  kA 45 (.bin .mul (.t 43) (.t 44)),
  kB 6 (.mv (.t 45)) [6]]
@[go_sem] def s163_27 (_ : Unit) : IR := (sQ [(kT l163_26), .ret])
@[go_sem] def s163_28 (_ : Unit) : IR := (sQ [(kT l163_25), (.cond (.t 42) (tH s163_27) .skip)])
@[go_sem] def l163_29 (_ : Unit) : KL := [kA 46 (.mv (.t 1)),
  kA 47 (.mv (.t 2)),
  kA 48 (.bin .add (.t 46) (.t 47)),
  kA 49 (.bin .gtr (.t 48) (cI 0)),
  kB 50 (.call (n_spec_l1Truth) [(.t 49)]) [50],
  kB 6 (.mv (.t 50)) [6]]
@[go_sem] def s163_30 (_ : Unit) : IR := (sQ [(kT l163_0), (tH s163_4), (tH s163_8), (tH s163_12), (tH s163_16), (tH s163_20), (tH s163_24), (tH s163_28), (kT l163_29), .ret])
theorem c163 : compFn Tryz.prog [(0, [], [oS [0, 1, 2]]), (1, [], [oN, oS [0, 1, 2, 8]]), (2, [], [oN, oN, oN, oN, oS [6]]), (3, [], [oN, oS [0, 1, 2, 14]]), (4, [], [oN, oN, oN, oN, oS [6]]), (5, [], [oN, oS [0, 1, 2, 20]]), (6, [], [oN, oN, oN, oN, oS [6]]), (7, [], [oN, oS [0, 1, 2, 26]]), (8, [], [oN, oN, oN, oN, oS [6]]), (9, [], [oN, oS [0, 1, 2, 32]]), (10, [], [oN, oN, oN, oN, oS [6]]), (11, [], [oN, oS [0, 1, 2, 38]]), (12, [], [oN, oN, oS [6]]), (13, [], [oN, oS [1, 2, 42]]), (14, [], [oN, oN, oN, oS [6]]), (15, [], [oN, oN, oN, oN, oS [50], oS [6]])] Tryz.f163 = some ⟨3, 51, [.t 6], (tH s163_30)⟩ := by kernel_rfl
theorem v_spec_l1Do (hl : vs.length = 3) (h : wpV Tryz.prog (tH s163_30) (postV [.t 6] RV) (envV vs) M) : VCall Tryz.prog n_spec_l1Do vs M RV :=
  vcall_of_wp (fun _ _ _ hl h => acall_of_wp mixed Tryz.func163 c163 (by kernel_rfl) hl h) hl h
@[go_sem] def l153_0 (_ : Unit) : KL := [kB 4 (.mv (.c (.sl none 0 0 true 0))) [0, 1]]
@[go_sem] def l153_1 (_ : Unit) : KL := [kA 8 (.bslc 1 0 [(.int .i64 0)] []),
  kB 5 (.mv (.t 8)) [0, 1, 5]]
@[go_sem] def l153_2 (_ : Unit) : KL := [kB 6 (.mv (cI 0)) [0, 1, 5, 6]]
@[go_sem] def l153_3 (_ : Unit) : KL := [kA 9 (.mv (.t 6)),
  kA 10 (.mv (.t 0)),
  kA 11 (.len (.t 10)),
  kB 12 (.bin .lss (.t 9) (.t 11)) [0, 1, 5, 6, 12]]
@[go_sem] def s153_4 (_ : Unit) : IR := (sQ [(kT l153_3), (.cond (.t 12) .skip (.exit 0))])
@[go_sem] def l153_5 (_ : Unit) : KL := [kA 15 (.mv (.t 0)),
  kA 16 (.mv (.t 6)),
  kA 17 (.iaddr (.t 15) (.t 16) 4),
  kA 18 (.load (.t 17) 4 true),
  kB 7 (.alloc [(.int .i64 0), (.int .i64 0), (.int .i64 0), (.int .i64 0)]) [0, 1, 5, 6, 7, 18],
  (⟨none, .store (.t 7) 4 (.t 18), none⟩, (some [0, 1, 5, 6, 7]))]
@[go_sem] def l153_6 (_ : Unit) : KL := [kA 19 (.faddr (.t 7) 0),
  kA 20 (.load (.t 19) 1 false),
  kB 21 (.bin .eql (.t 20) (cI 0)) [0, 1, 5, 6, 7, 21]]
@[go_sem] def l153_7 (_ : Unit) : KL := [kA 22 (.mv (.t 5)),
  kA 23 (.faddr (.t 7) 1),
  kA 24 (.load (.t 23) 1 false),
  kA 25 (.bslc 1 1 [(.int .i64 0)] [(0, (.t 24))]),
  kB 26 (.app 1 8 (.t 22) (.t 25)) [0, 1, 6, 26],
  kB 5 (.mv (.t 26)) [0, 1, 5, 6]]
@[go_sem] def l153_8 (_ : Unit) : KL := [kA 27 (.faddr (.t 7) 0),
  kA 28 (.load (.t 27) 1 false),
  kB 29 (.bin .eql (.t 28) (cI 1)) [0, 1, 5, 6, 7, 29]]
@[go_sem] def l153_9 (_ : Unit) : KL := [kA 30 (.mv (.t 5)),
  kA 31 (.mv (.t 1)),
  kA 32 (.faddr (.t 7) 1),
  kA 33 (.load (.t 32) 1 false),
  kB 34 (.iaddr (.t 31) (.t 33) 1) [0, 1, 6, 30, 34],
  kA 35 (.load (.t 34) 1 false),
  kA 36 (.bslc 1 1 [(.int .i64 0)] [(0, (.t 35))]),
  kA 37 (.app 1 8 (.t 30) (.t 36)),
  kB 5 (.mv (.t 37)) [0, 1, 5, 6]]
@[go_sem] def l153_10 : Nat → GOp
  | 0 => ⟨(some 38), .mv (.t 5), none⟩
  | 1 => ⟨(some 39), .faddr (.t 7) 0, none⟩
  | 2 => ⟨(some 40), .load (.t 39) 1 false, none⟩
  | 3 => ⟨(some 41), .mv (.t 5), none⟩
  | 4 => ⟨(some 42), .faddr (.t 7) 2, none⟩
  | 5 => ⟨(some 43), .load (.t 42) 1 false, none⟩
  | 6 => ⟨(some 44), .iaddr (.t 41) (.t 43) 1, none⟩
  | 7 => ⟨(some 45), .load (.t 44) 1 false, none⟩
  | 8 => ⟨(some 46), .mv (.t 5), none⟩
  | 9 => ⟨(some 47), .faddr (.t 7) 3, none⟩
  | 10 => ⟨(some 48), .load (.t 47) 1 false, none⟩
  | 11 => ⟨(some 49), .iaddr (.t 46) (.t 48) 1, none⟩
  | 12 => ⟨(some 50), .load (.t 49) 1 false, none⟩
  | 13 => ⟨(some 51), .call (n_spec_l1Do) [(.t 40), (.t 45), (.t 50)], none⟩
  | 14 => ⟨(some 52), .bslc 1 1 [(.int .i64 0)] [(0, (.t 51))], none⟩
  | 15 => ⟨(some 53), .app 1 8 (.t 38) (.t 52), none⟩
  | 16 => ⟨(some 5), .mv (.t 53), none⟩
  | _ => ⟨none, .mkmap, none⟩
@[go_sem] def s153_11 (_ : Unit) : IR := (sQ [(kT l153_8), (.cond (.t 29) (kT l153_9) (.kd (oF l153_10 17) [(0, []), (1, []), (2, []), (3, []), (4, []), (5, []), (6, []), (7, []), (8, []), (9, []), (10, []), (11, []), (12, []), (13, []), (14, []), (15, []), (16, [])] [0, 1, 5, 6]))])
@[go_sem] def s153_12 (_ : Unit) : IR := (sQ [(kT l153_5), (kT l153_6), (.cond (.t 21) (kT l153_7) (tH s153_11))])
@[go_sem] def s153_13 (_ : Unit) : IR := (.block 1 (tH s153_12))
@[go_sem] def l153_14 (_ : Unit) : KL := [kA 13 (.mv (.t 6)),
  kA 14 (.bin .add (.t 13) (cI 1)),
  kB 6 (.mv (.t 14)) [0, 1, 5, 6]]
@[go_sem] def s153_15 (_ : Unit) : IR := (sQ [(tH s153_4), (tH s153_13), (kT l153_14)])
@[go_sem] def s153_16 (_ : Unit) : IR := (.loop (tH s153_15))
@[go_sem] def s153_17 (_ : Unit) : IR := (.block 0 (tH s153_16))
@[go_sem] def s153_18 (_ : Unit) : IR := (sQ [(kT l153_2), (tH s153_17)])
@[go_sem] def l153_19 (_ : Unit) : KL := [kA 54 (.mv (.t 5)),
  kB 4 (.mv (.t 54)) [4]]
@[go_sem] def s153_20 (_ : Unit) : IR := (sQ [(kT l153_0), (kT l153_1), (tH s153_18), (kT l153_19), .ret])
theorem c153 : compFn Tryz.prog [(0, [], [oS [0, 1]]), (1, [], [oN, oS [0, 1, 5]]), (2, [], [oS [0, 1, 5, 6]]), (3, [], [oN, oN, oN, oS [0, 1, 5, 6, 12]]), (5, [], [oN, oN, oN, oN, oS [0, 1, 5, 6, 7, 18], oS [0, 1, 5, 6, 7]]), (6, [], [oN, oN, oS [0, 1, 5, 6, 7, 21]]), (7, [], [oN, oN, oN, oN, oS [0, 1, 6, 26], oS [0, 1, 5, 6]]), (8, [], [oN, oN, oS [0, 1, 5, 6, 7, 29]]), (9, [], [oN, oN, oN, oN, oS [0, 1, 6, 30, 34], oN, oN, oN, oS [0, 1, 5, 6]]), (10, [(0, []), (1, []), (2, []), (3, []), (4, []), (5, []), (6, []), (7, []), (8, []), (9, []), (10, []), (11, []), (12, []), (13, []), (14, []), (15, []), (16, [])], [oS [0, 1, 5, 6]]), (4, [], [oN, oN, oS [0, 1, 5, 6]]), (11, [], [oN, oS [4]])] Tryz.f153 = some ⟨2, 55, [.t 4], (tH s153_20)⟩ := by kernel_rfl
theorem v_spec_l1Values (hl : vs.length = 2) (h : wpV Tryz.prog (tH s153_20) (postV [.t 4] RV) (envV vs) M) : VCall Tryz.prog n_spec_l1Values vs M RV :=
  vcall_of_wp (fun _ _ _ hl h => acall_of_wp mixed Tryz.func153 c153 (by kernel_rfl) hl h) hl h
@[go_sem] def l131_0 (_ : Unit) : KL := [kB 4 (.mv (cI 0)) [0, 1]]
@[go_sem] def l131_1 (_ : Unit) : KL := [kA 5 (.mv (.t 0)),
  kA 6 (.mv (.t 1)),
  kA 7 (.call (n_spec_l1Values) [(.t 5), (.t 6)]),
  kA 8 (.mv (.t 0)),
  kB 9 (.len (.t 8)) [7, 9],
  kA 10 (.bin .sub (.t 9) (cI 1)),
  kA 11 (.iaddr (.t 7) (.t 10) 1),
  kA 12 (.load (.t 11) 1 false),
  kB 4 (.mv (.t 12)) [4]]
@[go_sem] def s131_2 (_ : Unit) : IR := (sQ [(kT l131_0), (kT l131_1), .ret])
theorem c131 : compFn Tryz.prog [(0, [], [oS [0, 1]]), (1, [], [oN, oN, oN, oN, oS [7, 9], oN, oN, oN, oS [4]])] Tryz.f131 = some ⟨2, 13, [.t 4], (tH s131_2)⟩ := by kernel_rfl
theorem v_spec_l2Last (hl : vs.length = 2) (h : wpV Tryz.prog (tH s131_2) (postV [.t 4] RV) (envV vs) M) : VCall Tryz.prog n_spec_l2Last vs M RV :=
  vcall_of_wp (fun _ _ _ hl h => acall_of_wp mixed Tryz.func131 c131 (by kernel_rfl) hl h) hl h
@[go_sem] def l145_0 (_ : Unit) : KL := [kA 2 (.box (.t 0)),
  kB 4 (.mv (.c (.bool false))) [1, 2]]
@[go_sem] def l145_1 (_ : Unit) : KL := [kA 6 (.mv (.t 1)),
  kA 7 (.len (.t 6)),
  kA 8 (.faddr (.t 2) 0),
  kA 9 (.load (.t 8) 1 false),
  kB 10 (.len (.t 9)) [1, 2, 7, 10],
  kB 11 (.bin .neq (.t 7) (.t 10)) [1, 2, 11]]
@[go_sem] def l145_2 (_ : Unit) : KL := [kB 4 (.mv (.c (.bool false))) [4]]
@[go_sem] def s145_3 (_ : Unit) : IR := (sQ [(kT l145_2), .ret])
@[go_sem] def s145_4 (_ : Unit) : IR := (sQ [(kT l145_1), (.cond (.t 11) (tH s145_3) .skip)])
@[go_sem] def l145_5 (_ : Unit) : KL := [kB 5 (.mv (cI 0)) [1, 2, 5]]
@[go_sem] def l145_6 (_ : Unit) : KL := [kA 12 (.mv (.t 5)),
  kA 13 (.mv (.t 1)),
  kA 14 (.len (.t 13)),
  kB 15 (.bin .lss (.t 12) (.t 14)) [1, 2, 5, 15]]
@[go_sem] def s145_7 (_ : Unit) : IR := (sQ [(kT l145_6), (.cond (.t 15) .skip (.exit 0))])
@[go_sem] def l145_8 : Nat → GOp
  | 0 => ⟨(some 18), .mv (.t 1), none⟩
  | 1 => ⟨(some 19), .mv (.t 5), none⟩
  | 2 => ⟨(some 20), .iaddr (.t 18) (.t 19) 1, none⟩
  | 3 => ⟨(some 21), .load (.t 20) 1 false, none⟩
  | 4 => ⟨(some 22), .faddr (.t 2) 0, none⟩
  | 5 => ⟨(some 23), .load (.t 22) 1 false, none⟩
  | 6 => ⟨(some 24), .mv (.t 5), none⟩
  | 7 => ⟨(some 25), .iaddr (.t 23) (.t 24) 3, none⟩
  | 8 => ⟨(some 26), .faddr (.t 25) 0, none⟩
  | 9 => ⟨(some 27), .load (.t 26) 1 false, none⟩
  | 10 => ⟨(some 28), .faddr (.t 2) 0, none⟩
  | 11 => ⟨(some 29), .load (.t 28) 1 false, none⟩
  | 12 => ⟨(some 30), .mv (.t 5), none⟩
  | 13 => ⟨(some 31), .iaddr (.t 29) (.t 30) 3, none⟩
  | 14 => ⟨(some 32), .faddr (.t 31) 1, none⟩
  | 15 => ⟨(some 33), .load (.t 32) 1 false, none⟩
  | 16 => ⟨(some 34), .call (n_spec_l1In) [(.t 21), (.t 27), (.t 33)], none⟩
  | 17 => ⟨(some 35), .un .not (.t 34), none⟩
  | _ => ⟨none, .mkmap, none⟩
@[go_sem] def l145_9 (_ : Unit) : KL := [kB 4 (.mv (.c (.bool false))) [4]]
@[go_sem] def s145_10 (_ : Unit) : IR := (sQ [(kT l145_9), .ret])
@[go_sem] def s145_11 (_ : Unit) : IR := (sQ [(.kd (oF l145_8 18) [(0, []), (1, []), (2, []), (3, []), (4, []), (5, []), (6, []), (7, []), (8, []), (9, []), (10, []), (11, []), (12, []), (13, []), (14, []), (15, []), (16, []), (17, [])] [1, 2, 5, 35]), (.cond (.t 35) (tH s145_10) .skip)])
@[go_sem] def s145_12 (_ : Unit) : IR := (.block 1 (tH s145_11))
@[go_sem] def l145_13 (_ : Unit) : KL := [kA 16 (.mv (.t 5)),
  kA 17 (.bin .add (.t 16) (cI 1)),
  kB 5 (.mv (.t 17)) [1, 2, 5]]
@[go_sem] def s145_14 (_ : Unit) : IR := (sQ [(tH s145_7), (tH s145_12), (kT l145_13)])
@[go_sem] def s145_15 (_ : Unit) : IR := (.loop (tH s145_14))
@[go_sem] def s145_16 (_ : Unit) : IR := (.block 0 (tH s145_15))
@[go_sem] def s145_17 (_ : Unit) : IR := (sQ [(kT l145_5), (tH s145_16)])
@[go_sem] def l145_18 (_ : Unit) : KL := [kB 4 (.mv (.c (.bool true))) [4]]
@[go_sem] def s145_19 (_ : Unit) : IR := (sQ [(kT l145_0), (tH s145_4), (tH s145_17), (kT l145_18), .ret])
theorem c145 : compFn Tryz.prog [(0, [], [oN, oS [1, 2]]), (1, [], [oN, oN, oN, oN, oS [1, 2, 7, 10], oS [1, 2, 11]]), (2, [], [oS [4]]), (3, [], [oS [1, 2, 5]]), (4, [], [oN, oN, oN, oS [1, 2, 5, 15]]), (6, [(0, []), (1, []), (2, []), (3, []), (4, []), (5, []), (6, []), (7, []), (8, []), (9, []), (10, []), (11, []), (12, []), (13, []), (14, []), (15, []), (16, []), (17, [])], [oS [1, 2, 5, 35]]), (7, [], [oS [4]]), (5, [], [oN, oN, oS [1, 2, 5]]), (8, [], [oS [4]])] Tryz.f145 = some ⟨2, 36, [.t 4], (tH s145_19)⟩ := by kernel_rfl
theorem v_spec_l2In (hl : vs.length = 2) (h : wpV Tryz.prog (tH s145_19) (postV [.t 4] RV) (envV vs) M) : VCall Tryz.prog n_spec_l2In vs M RV :=
  vcall_of_wp (fun _ _ _ hl h => acall_of_wp mixed Tryz.func145 c145 (by kernel_rfl) hl h) hl h
@[go_sem] def l115_0 (_ : Unit) : KL := [kA 3 (.box (.t 0)),
  kB 6 (.mv (.c (.sl none 0 0 true 0))) [1, 2, 3]]
@[go_sem] def l115_1 (_ : Unit) : KL := [kA 11 (.faddr (.t 3) 1),
  kA 12 (.load (.t 11) 1 false),
  kA 13 (.mv (.t 2)),
  kA 14 (.iaddr (.t 12) (.t 13) 3),
  kB 15 (.load (.t 14) 3 true) [1, 3, 15],
  kA 7 (.alloc [(.sl none 0 0 true 0), (.sl none 0 0 true 0), (.sl none 0 0 true 0)]),
  (⟨none, .store (.t 7) 3 (.t 15), none⟩, (some [1, 3, 7]))]
@[go_sem] def l115_2 (_ : Unit) : KL := [kA 16 (.faddr (.t 7) 0),
  kA 17 (.load (.t 16) 1 false),
  kA 18 (.mv (.t 1)),
  kA 19 (.call (n_spec_l2Last) [(.t 17), (.t 18)]),
  kB 20 (.bin .eql (.t 19) (cI 0)) [1, 3, 7, 20]]
@[go_sem] def l115_3 (_ : Unit) : KL := [kB 6 (.mv (.c (.sl none 0 0 true 0))) [6]]
@[go_sem] def s115_4 (_ : Unit) : IR := (sQ [(kT l115_3), .ret])
@[go_sem] def s115_5 (_ : Unit) : IR := (sQ [(kT l115_2), (.cond (.t 20) (tH s115_4) .skip)])
@[go_sem] def l115_6 (_ : Unit) : KL := [kA 21 (.bslc 1 0 [(.int .i64 0)] []),
  kB 8 (.mv (.t 21)) [1, 3, 7, 8]]
@[go_sem] def l115_7 (_ : Unit) : KL := [kB 9 (.mv (cI 0)) [1, 3, 7, 8, 9]]
@[go_sem] def l115_8 (_ : Unit) : KL := [kA 22 (.mv (.t 9)),
  kA 23 (.mv (.t 1)),
  kA 24 (.len (.t 23)),
  kB 25 (.bin .lss (.t 22) (.t 24)) [1, 3, 7, 8, 9, 25]]
@[go_sem] def s115_9 (_ : Unit) : IR := (sQ [(kT l115_8), (.cond (.t 25) .skip (.exit 0))])
@[go_sem] def l115_10 (_ : Unit) : KL := [kA 28 (.mv (.t 8)),
  kA 29 (.mv (.t 1)),
  kA 30 (.mv (.t 9)),
  kA 31 (.iaddr (.t 29) (.t 30) 1),
  kB 32 (.load (.t 31) 1 false) [1, 3, 7, 9, 28, 32],
  kA 33 (.bslc 1 1 [(.int .i64 0)] [(0, (.t 32))]),
  kA 34 (.app 1 8 (.t 28) (.t 33)),
  kB 8 (.mv (.t 34)) [1, 3, 7, 8, 9]]
@[go_sem] def s115_11 (_ : Unit) : IR := (.block 1 (kT l115_10))
@[go_sem] def l115_12 (_ : Unit) : KL := [kA 26 (.mv (.t 9)),
  kA 27 (.bin .add (.t 26) (cI 1)),
  kB 9 (.mv (.t 27)) [1, 3, 7, 8, 9]]
@[go_sem] def s115_13 (_ : Unit) : IR := (sQ [(tH s115_9), (tH s115_11), (kT l115_12)])
@[go_sem] def s115_14 (_ : Unit) : IR := (.loop (tH s115_13))
@[go_sem] def s115_15 (_ : Unit) : IR := (.block 0 (tH s115_14))
@[go_sem] def s115_16 (_ : Unit) : IR := (sQ [(kT l115_7), (tH s115_15)])
@[go_sem] def l115_17 (_ : Unit) : KL := [kB 10 (.mv (cI 0)) [1, 3, 7, 8, 10]]
@[go_sem] def l115_18 (_ : Unit) : KL := [kA 35 (.mv (.t 10)),
  kA 36 (.faddr (.t 7) 1),
  kA 37 (.load (.t 36) 1 false),
  kA 38 (.len (.t 37)),
  kB 39 (.bin .lss (.t 35) (.t 38)) [1, 3, 7, 8, 10, 39]]
@[go_sem] def s115_19 (_ : Unit) : IR := (sQ [(kT l115_18), (.cond (.t 39) .skip (.exit 2))])
@[go_sem] def l115_20 : Nat → GOp
  | 0 => ⟨(some 42), .mv (.t 8), none⟩
  | 1 => ⟨(some 43), .faddr (.t 7) 1, none⟩
  | 2 => ⟨(some 44), .load (.t 43) 1 false, none⟩
  | 3 => ⟨(some 45), .mv (.t 10), none⟩
  | 4 => ⟨(some 46), .iaddr (.t 44) (.t 45) 1, none⟩
  | 5 => ⟨(some 47), .load (.t 46) 1 false, none⟩
  | 6 => ⟨(some 48), .faddr (.t 7) 2, none⟩
  | 7 => ⟨(some 49), .load (.t 48) 1 false, none⟩
  | 8 => ⟨(some 50), .mv (.t 10), none⟩
  | 9 => ⟨(some 51), .iaddr (.t 49) (.t 50) 1, none⟩
  | 10 => ⟨(some 52), .load (.t 51) 1 false, none⟩
  | 11 => ⟨(some 53), .mv (.t 1), none⟩
  | 12 => ⟨(some 54), .call (n_spec_l2Last) [(.t 52), (.t 53)], none⟩
  | 13 => ⟨(some 55), .iaddr (.t 42) (.t 47) 1, none⟩
  | 14 => ⟨none, .store (.t 55) 1 (.t 54), none⟩
  | _ => ⟨none, .mkmap, none⟩
@[go_sem] def s115_21 (_ : Unit) : IR := (.block 3 (.kd (oF l115_20 15) [(0, []), (1, []), (2, []), (3, []), (4, []), (5, []), (6, []), (7, []), (8, []), (9, []), (10, []), (11, []), (12, [2, 5]), (13, []), (14, [])] [1, 3, 7, 8, 10]))
@[go_sem] def l115_22 (_ : Unit) : KL := [kA 40 (.mv (.t 10)),
  kA 41 (.bin .add (.t 40) (cI 1)),
  kB 10 (.mv (.t 41)) [1, 3, 7, 8, 10]]
@[go_sem] def s115_23 (_ : Unit) : IR := (sQ [(tH s115_19), (tH s115_21), (kT l115_22)])
@[go_sem] def s115_24 (_ : Unit) : IR := (.loop (tH s115_23))
@[go_sem] def s115_25 (_ : Unit) : IR := (.block 2 (tH s115_24))
@[go_sem] def s115_26 (_ : Unit) : IR := (sQ [(kT l115_17), (tH s115_25)])
@[go_sem] def l115_27 (_ : Unit) : KL := [kA 56 (.load (.t 3) 2 true),
  kA 57 (.mv (.t 8)),
  kA 58 (.call (n_spec_l2In) [(.t 56), (.t 57)]),
  kB 59 (.un .not (.t 58)) [8, 59]]
@[go_sem] def l115_28 (_ : Unit) : KL := [kB 6 (.mv (.c (.sl none 0 0 true 0))) [6]]
@[go_sem] def s115_29 (_ : Unit) : IR := (sQ [(kT l115_28), .ret])
@[go_sem] def s115_30 (_ : Unit) : IR := (sQ [(kT l115_27), (.cond (.t 59) (tH s115_29) .skip)])
@[go_sem] def l115_31 (_ : Unit) : KL := [kA 60 (.mv (.t 8)),
  kB 6 (.mv (.t 60)) [6]]
@[go_sem] def s115_32 (_ : Unit) : IR := (sQ [(kT l115_0), (kT l115_1), (tH s115_5), (kT l115_6), (tH s115_16), (tH s115_26), (tH s115_30), (kT l115_31), .ret])
theorem c115 : compFn Tryz.prog [(0, [], [oN, oS [1, 2, 3]]), (1, [], [oN, oN, oN, oN, oS [1, 3, 15], oN, oS [1, 3, 7]]), (2, [], [oN, oN, oN, oN, oS [1, 3, 7, 20]]), (3, [], [oS [6]]), (4, [], [oN, oS [1, 3, 7, 8]]), (5, [], [oS [1, 3, 7, 8, 9]]), (6, [], [oN, oN, oN, oS [1, 3, 7, 8, 9, 25]]), (8, [], [oN, oN, oN, oN, oS [1, 3, 7, 9, 28, 32], oN, oN, oS [1, 3, 7, 8, 9]]), (7, [], [oN, oN, oS [1, 3, 7, 8, 9]]), (9, [], [oS [1, 3, 7, 8, 10]]), (10, [], [oN, oN, oN, oN, oS [1, 3, 7, 8, 10, 39]]), (12, [(0, []), (1, []), (2, []), (3, []), (4, []), (5, []), (6, []), (7, []), (8, []), (9, []), (10, []), (11, []), (12, [2, 5]), (13, []), (14, [])], [oS [1, 3, 7, 8, 10]]), (11, [], [oN, oN, oS [1, 3, 7, 8, 10]]), (13, [], [oN, oN, oN, oS [8, 59]]), (14, [], [oS [6]]), (15, [], [oN, oS [6]])] Tryz.f115 = some ⟨3, 61, [.t 6], (tH s115_32)⟩ := by kernel_rfl
theorem v_spec_l2Use (hl : vs.length = 3) (h : wpV Tryz.prog (tH s115_32) (postV [.t 6] RV) (envV vs) M) : VCall Tryz.prog n_spec_l2Use vs M RV :=
  vcall_of_wp (fun _ _ _ hl h => acall_of_wp mixed Tryz.func115 c115 (by kernel_rfl) hl h) hl h
@[go_sem] def l100_0 (_ : Unit) : KL := [kB 4 (.mv (.c (.bool false))) [0, 1]]
@[go_sem] def l100_1 (_ : Unit) : KL := [kA 6 (.mv (.t 0)),
  kA 7 (.len (.t 6)),
  kA 8 (.mv (.t 1)),
  kA 9 (.len (.t 8)),
  kB 10 (.bin .neq (.t 7) (.t 9)) [0, 1, 10]]
@[go_sem] def l100_2 (_ : Unit) : KL := [kB 4 (.mv (.c (.bool false))) [4]]
@[go_sem] def s100_3 (_ : Unit) : IR := (sQ [(kT l100_2), .ret])
@[go_sem] def s100_4 (_ : Unit) : IR := (sQ [(kT l100_1), (.cond (.t 10) (tH s100_3) .skip)])
@[go_sem] def l100_5 (_ : Unit) : KL := [kB 5 (.mv (cI 0)) [0, 1, 5]]
@[go_sem] def l100_6 (_ : Unit) : KL := [kA 11 (.mv (.t 5)),
  kA 12 (.mv (.t 0)),
  kA 13 (.len (.t 12)),
  kB 14 (.bin .lss (.t 11) (.t 13)) [0, 1, 5, 14]]
@[go_sem] def s100_7 (_ : Unit) : IR := (sQ [(kT l100_6), (.cond (.t 14) .skip (.exit 0))])
@[go_sem] def l100_8 : Nat → GOp
  | 0 => ⟨(some 17), .mv (.t 0), none⟩
  | 1 => ⟨(some 18), .mv (.t 5), none⟩
  | 2 => ⟨(some 19), .iaddr (.t 17) (.t 18) 1, none⟩
  | 3 => ⟨(some 20), .load (.t 19) 1 false, none⟩
  | 4 => ⟨(some 21), .mv (.t 1), none⟩
  | 5 => ⟨(some 22), .mv (.t 5), none⟩
  | 6 => ⟨(some 23), .iaddr (.t 21) (.t 22) 1, none⟩
  | 7 => ⟨(some 24), .load (.t 23) 1 false, none⟩
  | 8 => ⟨(some 25), .bin .neq (.t 20) (.t 24), none⟩
  | _ => ⟨none, .mkmap, none⟩
@[go_sem] def l100_9 (_ : Unit) : KL := [kB 4 (.mv (.c (.bool false))) [4]]
@[go_sem] def s100_10 (_ : Unit) : IR := (sQ [(kT l100_9), .ret])
@[go_sem] def s100_11 (_ : Unit) : IR := (sQ [(.kd (oF l100_8 9) [(0, []), (1, []), (2, []), (3, []), (4, []), (5, []), (6, []), (7, []), (8, [])] [0, 1, 5, 25]), (.cond (.t 25) (tH s100_10) .skip)])
@[go_sem] def s100_12 (_ : Unit) : IR := (.block 1 (tH s100_11))
@[go_sem] def l100_13 (_ : Unit) : KL := [kA 15 (.mv (.t 5)),
  kA 16 (.bin .add (.t 15) (cI 1)),
  kB 5 (.mv (.t 16)) [0, 1, 5]]
@[go_sem] def s100_14 (_ : Unit) : IR := (sQ [(tH s100_7), (tH s100_12), (kT l100_13)])
@[go_sem] def s100_15 (_ : Unit) : IR := (.loop (tH s100_14))
@[go_sem] def s100_16 (_ : Unit) : IR := (.block 0 (tH s100_15))
@[go_sem] def s100_17 (_ : Unit) : IR := (sQ [(kT l100_5), (tH s100_16)])
@[go_sem] def l100_18 (_ : Unit) : KL := [kB 4 (.mv (.c (.bool true))) [4]]
@[go_sem] def s100_19 (_ : Unit) : IR := (sQ [(kT l100_0), (tH s100_4), (tH s100_17), (kT l100_18), .ret])
theorem c100 : compFn Tryz.prog [(0, [], [oS [0, 1]]), (1, [], [oN, oN, oN, oN, oS [0, 1, 10]]), (2, [], [oS [4]]), (3, [], [oS [0, 1, 5]]), (4, [], [oN, oN, oN, oS [0, 1, 5, 14]]), (6, [(0, []), (1, []), (2, []), (3, []), (4, []), (5, []), (6, []), (7, []), (8, [])], [oS [0, 1, 5, 25]]), (7, [], [oS [4]]), (5, [], [oN, oN, oS [0, 1, 5]]), (8, [], [oS [4]])] Tryz.f100 = some ⟨2, 26, [.t 4], (tH s100_19)⟩ := by kernel_rfl
theorem v_spec_l2Same (hl : vs.length = 2) (h : wpV Tryz.prog (tH s100_19) (postV [.t 4] RV) (envV vs) M) : VCall Tryz.prog n_spec_l2Same vs M RV :=
  vcall_of_wp (fun _ _ _ hl h => acall_of_wp mixed Tryz.func100 c100 (by kernel_rfl) hl h) hl h
@[go_sem] def l146_0 (_ : Unit) : KL := [kB 4 (.mv (.c (.bool false))) [0, 1]]
@[go_sem] def l146_1 (_ : Unit) : KL := [kB 5 (.mv (cI 0)) [0, 1, 5]]
@[go_sem] def l146_2 (_ : Unit) : KL := [kA 6 (.mv (.t 5)),
  kA 7 (.mv (.t 0)),
  kA 8 (.len (.t 7)),
  kA 9 (.bin .lss (.t 6) (.t 8)),
  kB 10 (.mv (.t 9)) [0, 1, 5, 10],
  (⟨(some 11), .mv (.t 5), (some (10, true))⟩, none),
  (⟨(some 12), .mv (.t 1), (some (10, true))⟩, none),
  (⟨(some 13), .len (.t 12), (some (10, true))⟩, none),
  (⟨(some 14), .bin .lss (.t 11) (.t 13), (some (10, true))⟩, none),
  kB 15 (.pick (.t 10) (.t 14) (.c (.bool false))) [0, 1, 5, 15]]
@[go_sem] def s146_3 (_ : Unit) : IR := (sQ [(kT l146_2), (.cond (.t 15) .skip (.exit 0))])
@[go_sem] def l146_4 : Nat → GOp
  | 0 => ⟨(some 18), .mv (.t 0), none⟩
  | 1 => ⟨(some 19), .mv (.t 5), none⟩
  | 2 => ⟨(some 20), .iaddr (.t 18) (.t 19) 1, none⟩
  | 3 => ⟨(some 21), .load (.t 20) 1 false, none⟩
  | 4 => ⟨(some 22), .mv (.t 1), none⟩
  | 5 => ⟨(some 23), .mv (.t 5), none⟩
  | 6 => ⟨(some 24), .iaddr (.t 22) (.t 23) 1, none⟩
  | 7 => ⟨(some 25), .load (.t 24) 1 false, none⟩
  | 8 => ⟨(some 26), .bin .neq (.t 21) (.t 25), none⟩
  | _ => ⟨none, .mkmap, none⟩
@[go_sem] def l146_5 : Nat → GOp
  | 0 => ⟨(some 27), .mv (.t 0), none⟩
  | 1 => ⟨(some 28), .mv (.t 5), none⟩
  | 2 => ⟨(some 29), .iaddr (.t 27) (.t 28) 1, none⟩
  | 3 => ⟨(some 30), .load (.t 29) 1 false, none⟩
  | 4 => ⟨(some 31), .mv (.t 1), none⟩
  | 5 => ⟨(some 32), .mv (.t 5), none⟩
  | 6 => ⟨(some 33), .iaddr (.t 31) (.t 32) 1, none⟩
  | 7 => ⟨(some 34), .load (.t 33) 1 false, none⟩
  | 8 => ⟨(some 35), .bin .lss (.t 30) (.t 34), none⟩
  | 9 => ⟨(some 4), .mv (.t 35), none⟩
  | _ => ⟨none, .mkmap, none⟩
@[go_sem] def s146_6 (_ : Unit) : IR := (sQ [(.kd (oF l146_5 10) [(0, []), (1, []), (2, []), (3, []), (4, []), (5, []), (6, []), (7, []), (8, []), (9, [])] [4]), .ret])
@[go_sem] def s146_7 (_ : Unit) : IR := (sQ [(.kd (oF l146_4 9) [(0, []), (1, []), (2, []), (3, []), (4, []), (5, []), (6, []), (7, []), (8, [])] [0, 1, 5, 26]), (.cond (.t 26) (tH s146_6) .skip)])
@[go_sem] def s146_8 (_ : Unit) : IR := (.block 1 (tH s146_7))
@[go_sem] def l146_9 (_ : Unit) : KL := [kA 16 (.mv (.t 5)),
  kA 17 (.bin .add (.t 16) (cI 1)),
  kB 5 (.mv (.t 17)) [0, 1, 5]]
@[go_sem] def s146_10 (_ : Unit) : IR := (sQ [(tH s146_3), (tH s146_8), (kT l146_9)])
@[go_sem] def s146_11 (_ : Unit) : IR := (.loop (tH s146_10))
@[go_sem] def s146_12 (_ : Unit) : IR := (.block 0 (tH s146_11))
@[go_sem] def s146_13 (_ : Unit) : IR := (sQ [(kT l146_1), (tH s146_12)])
@[go_sem] def l146_14 (_ : Unit) : KL := [kA 36 (.mv (.t 0)),
  kA 37 (.len (.t 36)),
  kA 38 (.mv (.t 1)),
  kA 39 (.len (.t 38)),
  kB 40 (.bin .lss (.t 37) (.t 39)) [40],
  kB 4 (.mv (.t 40)) [4]]
@[go_sem] def s146_15 (_ : Unit) : IR := (sQ [(kT l146_0), (tH s146_13), (kT l146_14), .ret])
theorem c146 : compFn Tryz.prog [(0, [], [oS [0, 1]]), (1, [], [oS [0, 1, 5]]), (2, [], [oN, oN, oN, oN, oS [0, 1, 5, 10], oN, oN, oN, oN, oS [0, 1, 5, 15]]), (4, [(0, []), (1, []), (2, []), (3, []), (4, []), (5, []), (6, []), (7, []), (8, [])], [oS [0, 1, 5, 26]]), (5, [(0, []), (1, []), (2, []), (3, []), (4, []), (5, []), (6, []), (7, []), (8, []), (9, [])], [oS [4]]), (3, [], [oN, oN, oS [0, 1, 5]]), (6, [], [oN, oN, oN, oN, oS [40], oS [4]])] Tryz.f146 = some ⟨2, 41, [.t 4], (tH s146_15)⟩ := by kernel_rfl
theorem v_spec_l2Less (hl : vs.length = 2) (h : wpV Tryz.prog (tH s146_15) (postV [.t 4] RV) (envV vs) M) : VCall Tryz.prog n_spec_l2Less vs M RV :=
  vcall_of_wp (fun _ _ _ hl h => acall_of_wp mixed Tryz.func146 c146 (by kernel_rfl) hl h) hl h
@[go_sem] def l116_0 (_ : Unit) : KL := [kB 4 (.mv (.c (.sl none 0 0 true 0))) [0, 1]]
@[go_sem] def l116_1 (_ : Unit) : KL := [kA 8 (.bslc 1 0 [(.sl none 0 0 true 0)] []),
  kB 5 (.mv (.t 8)) [0, 1, 5]]
@[go_sem] def l116_2 (_ : Unit) : KL := [kB 6 (.mv (.c (.bool false))) [0, 1, 5, 6]]
@[go_sem] def l116_3 (_ : Unit) : KL := [kB 7 (.mv (cI 0)) [0, 1, 5, 6, 7]]
@[go_sem] def l116_4 (_ : Unit) : KL := [kA 9 (.mv (.t 7)),
  kA 10 (.mv (.t 0)),
  kA 11 (.len (.t 10)),
  kB 12 (.bin .lss (.t 9) (.t 11)) [0, 1, 5, 6, 7, 12]]
@[go_sem] def s116_5 (_ : Unit) : IR := (sQ [(kT l116_4), (.cond (.t 12) .skip (.exit 0))])
@[go_sem] def l116_6 (_ : Unit) : KL := [kA 15 (.mv (.t 6)),
  kA 16 (.un .not (.t 15)),
  kA 17 (.mv (.t 16)),
  (⟨(some 18), .mv (.t 0), (some (17, true))⟩, none),
  (⟨(some 19), .mv (.t 7), (some (17, true))⟩, (some [0, 1, 5, 6, 7, 17, 18, 19])),
  (⟨(some 20), .iaddr (.t 18) (.t 19) 1, (some (17, true))⟩, none),
  (⟨(some 21), .load (.t 20) 1 false, (some (17, true))⟩, none),
  (⟨(some 22), .mv (.t 1), (some (17, true))⟩, none),
  (⟨(some 23), .call (n_spec_l2Same) [(.t 21), (.t 22)], (some (17, true))⟩, none),
  kB 24 (.pick (.t 17) (.t 23) (.c (.bool false))) [0, 1, 5, 6, 7, 24]]
@[go_sem] def l116_7 (_ : Unit) : KL := [kB 6 (.mv (.c (.bool true))) [0, 1, 5, 6, 7]]
@[go_sem] def s116_8 (_ : Unit) : IR := (sQ [(kT l116_6), (.cond (.t 24) (kT l116_7) .skip)])
@[go_sem] def l116_9 (_ : Unit) : KL := [kA 25 (.mv (.t 6)),
  kA 26 (.un .not (.t 25)),
  kA 27 (.mv (.t 26)),
  (⟨(some 28), .mv (.t 1), (some (27, true))⟩, none),
  (⟨(some 29), .mv (.t 0), (some (27, true))⟩, (some [0, 1, 5, 6, 7, 27, 28, 29])),
  (⟨(some 30), .mv (.t 7), (some (27, true))⟩, none),
  (⟨(some 31), .iaddr (.t 29) (.t 30) 1, (some (27, true))⟩, none),
  (⟨(some 32), .load (.t 31) 1 false, (some (27, true))⟩, none),
  (⟨(some 33), .call (n_spec_l2Less) [(.t 28), (.t 32)], (some (27, true))⟩, none),
  kB 34 (.pick (.t 27) (.t 33) (.c (.bool false))) [0, 1, 5, 6, 7, 34]]
@[go_sem] def l116_10 (_ : Unit) : KL := [kA 35 (.mv (.t 5)),
  kA 36 (.mv (.t 1)),
  kA 37 (.bslc 1 1 [(.sl none 0 0 true 0)] [(0, (.t 36))]),
  kA 38 (.app 1 24 (.t 35) (.t 37)),
  kB 5 (.mv (.t 38)) [0, 1, 5, 7]]
@[go_sem] def l116_11 (_ : Unit) : KL := [kB 6 (.mv (.c (.bool true))) [0, 1, 5, 6, 7]]
@[go_sem] def s116_12 (_ : Unit) : IR := (sQ [(kT l116_10), (kT l116_11)])
@[go_sem] def s116_13 (_ : Unit) : IR := (sQ [(kT l116_9), (.cond (.t 34) (tH s116_12) .skip)])
@[go_sem] def l116_14 (_ : Unit) : KL := [kA 39 (.mv (.t 5)),
  kA 40 (.mv (.t 0)),
  kA 41 (.mv (.t 7)),
  kA 42 (.iaddr (.t 40) (.t 41) 1),
  kB 43 (.load (.t 42) 1 false) [0, 1, 6, 7, 39, 43],
  kA 44 (.bslc 1 1 [(.sl none 0 0 true 0)] [(0, (.t 43))]),
  kA 45 (.app 1 24 (.t 39) (.t 44)),
  kB 5 (.mv (.t 45)) [0, 1, 5, 6, 7]]
@[go_sem] def s116_15 (_ : Unit) : IR := (sQ [(tH s116_8), (tH s116_13), (kT l116_14)])
@[go_sem] def s116_16 (_ : Unit) : IR := (.block 1 (tH s116_15))
@[go_sem] def l116_17 (_ : Unit) : KL := [kA 13 (.mv (.t 7)),
  kA 14 (.bin .add (.t 13) (cI 1)),
  kB 7 (.mv (.t 14)) [0, 1, 5, 6, 7]]
@[go_sem] def s116_18 (_ : Unit) : IR := (sQ [(tH s116_5), (tH s116_16), (kT l116_17)])
@[go_sem] def s116_19 (_ : Unit) : IR := (.loop (tH s116_18))
@[go_sem] def s116_20 (_ : Unit) : IR := (.block 0 (tH s116_19))
@[go_sem] def s116_21 (_ : Unit) : IR := (sQ [(kT l116_3), (tH s116_20)])
@[go_sem] def l116_22 (_ : Unit) : KL := [kA 46 (.mv (.t 6)),
  kB 47 (.un .not (.t 46)) [1, 5, 47]]
@[go_sem] def l116_23 (_ : Unit) : KL := [kA 48 (.mv (.t 5)),
  kA 49 (.mv (.t 1)),
  kA 50 (.bslc 1 1 [(.sl none 0 0 true 0)] [(0, (.t 49))]),
  kA 51 (.app 1 24 (.t 48) (.t 50)),
  kB 5 (.mv (.t 51)) [5]]
@[go_sem] def s116_24 (_ : Unit) : IR := (sQ [(kT l116_22), (.cond (.t 47) (kT l116_23) .skip)])
@[go_sem] def l116_25 (_ : Unit) : KL := [kA 52 (.mv (.t 5)),
  kB 4 (.mv (.t 52)) [4]]
@[go_sem] def s116_26 (_ : Unit) : IR := (sQ [(kT l116_0), (kT l116_1), (kT l116_2), (tH s116_21), (tH s116_24), (kT l116_25), .ret])
theorem c116 : compFn Tryz.prog [(0, [], [oS [0, 1]]), (1, [], [oN, oS [0, 1, 5]]), (2, [], [oS [0, 1, 5, 6]]), (3, [], [oS [0, 1, 5, 6, 7]]), (4, [], [oN, oN, oN, oS [0, 1, 5, 6, 7, 12]]), (6, [], [oN, oN, oN, oN, oS [0, 1, 5, 6, 7, 17, 18, 19], oN, oN, oN, oN, oS [0, 1, 5, 6, 7, 24]]), (7, [], [oS [0, 1, 5, 6, 7]]), (8, [], [oN, oN, oN, oN, oS [0, 1, 5, 6, 7, 27, 28, 29], oN, oN, oN, oN, oS [0, 1, 5, 6, 7, 34]]), (9, [], [oN, oN, oN, oN, oS [0, 1, 5, 7]]), (10, [], [oS [0, 1, 5, 6, 7]]), (11, [], [oN, oN, oN, oN, oS [0, 1, 6, 7, 39, 43], oN, oN, oS [0, 1, 5, 6, 7]]), (5, [], [oN, oN, oS [0, 1, 5, 6, 7]]), (12, [], [oN, oS [1, 5, 47]]), (13, [], [oN, oN, oN, oN, oS [5]]), (14, [], [oN, oS [4]])] Tryz.f116 = some ⟨2, 53, [.t 4], (tH s116_26)⟩ := by kernel_rfl
theorem v_spec_l2Put (hl : vs.length = 2) (h : wpV Tryz.prog (tH s116_26) (postV [.t 4] RV) (envV vs) M) : VCall Tryz.prog n_spec_l2Put vs M RV :=
  vcall_of_wp (fun _ _ _ hl h => acall_of_wp mixed Tryz.func116 c116 (by kernel_rfl) hl h) hl h
@[go_sem] def l69_0 (_ : Unit) : KL := [kA 2 (.box (.t 0)),
  kB 4 (.mv (.c (.sl none 0 0 true 0))) [1, 2]]
@[go_sem] def l69_1 (_ : Unit) : KL := [kA 8 (.bslc 1 0 [(.sl none 0 0 true 0)] []),
  kB 5 (.mv (.t 8)) [1, 2, 5]]
@[go_sem] def l69_2 (_ : Unit) : KL := [kB 6 (.mv (cI 0)) [1, 2, 5, 6]]
@[go_sem] def l69_3 (_ : Unit) : KL := [kA 9 (.mv (.t 6)),
  kA 10 (.faddr (.t 2) 1),
  kA 11 (.load (.t 10) 1 false),
  kA 12 (.len (.t 11)),
  kB 13 (.bin .lss (.t 9) (.t 12)) [1, 2, 5, 6, 13]]
@[go_sem] def s69_4 (_ : Unit) : IR := (sQ [(kT l69_3), (.cond (.t 13) .skip (.exit 0))])
@[go_sem] def l69_5 (_ : Unit) : KL := [kA 16 (.load (.t 2) 2 true),
  kA 17 (.mv (.t 1)),
  kA 18 (.mv (.t 6)),
  kA 19 (.call (n_spec_l2Use) [(.t 16), (.t 17), (.t 18)]),
  kB 7 (.mv (.t 19)) [1, 2, 5, 6, 7]]
@[go_sem] def l69_6 (_ : Unit) : KL := [kA 20 (.mv (.t 7)),
  kA 21 (.len (.t 20)),
  kB 22 (.bin .gtr (.t 21) (cI 0)) [1, 2, 5, 6, 7, 22]]
@[go_sem] def l69_7 (_ : Unit) : KL := [kA 23 (.mv (.t 5)),
  kA 24 (.mv (.t 7)),
  kA 25 (.call (n_spec_l2Put) [(.t 23), (.t 24)]),
  kB 5 (.mv (.t 25)) [1, 2, 5, 6]]
@[go_sem] def s69_8 (_ : Unit) : IR := (sQ [(kT l69_5), (kT l69_6), (.cond (.t 22) (kT l69_7) .skip)])
@[go_sem] def s69_9 (_ : Unit) : IR := (.block 1 (tH s69_8))
@[go_sem] def l69_10 (_ : Unit) : KL := [kA 14 (.mv (.t 6)),
  kA 15 (.bin .add (.t 14) (cI 1)),
  kB 6 (.mv (.t 15)) [1, 2, 5, 6]]
@[go_sem] def s69_11 (_ : Unit) : IR := (sQ [(tH s69_4), (tH s69_9), (kT l69_10)])
@[go_sem] def s69_12 (_ : Unit) : IR := (.loop (tH s69_11))
@[go_sem] def s69_13 (_ : Unit) : IR := (.block 0 (tH s69_12))
@[go_sem] def s69_14 (_ : Unit) : IR := (sQ [(kT l69_2), (tH s69_13)])
@[go_sem] def l69_15 (_ : Unit) : KL := [kA 26 (.mv (.t 5)),
  kB 4 (.mv (.t 26)) [4]]
@[go_sem] def s69_16 (_ : Unit) : IR := (sQ [(kT l69_0), (kT l69_1), (tH s69_14), (kT l69_15), .ret])
theorem c69 : compFn Tryz.prog [(0, [], [oN, oS [1, 2]]), (1, [], [oN, oS [1, 2, 5]]), (2, [], [oS [1, 2, 5, 6]]), (3, [], [oN, oN, oN, oN, oS [1, 2, 5, 6, 13]]), (5, [], [oN, oN, oN, oN, oS [1, 2, 5, 6, 7]]), (6, [], [oN, oN, oS [1, 2, 5, 6, 7, 22]]), (7, [], [oN, oN, oN, oS [1, 2, 5, 6]]), (4, [], [oN, oN, oS [1, 2, 5, 6]]), (8, [], [oN, oS [4]])] Tryz.f69 = some ⟨2, 27, [.t 4], (tH s69_16)⟩ := by kernel_rfl
theorem v_spec_l2Next (hl : vs.length = 2) (h : wpV Tryz.prog (tH s69_16) (postV [.t 4] RV) (envV vs) M) : VCall Tryz.prog n_spec_l2Next vs M RV :=
  vcall_of_wp (fun _ _ _ hl h => acall_of_wp mixed Tryz.func69 c69 (by kernel_rfl) hl h) hl h
@[go_sem] def l83_0 (_ : Unit) : KL := [kA 2 (.box (.t 0)),
  kB 4 (.mv (cI 0)) [1, 2]]
@[go_sem] def l83_1 (_ : Unit) : KL := [kB 5 (.mv (cI 0)) [1, 2, 5]]
@[go_sem] def l83_2 (_ : Unit) : KL := [kB 6 (.mv (cI 0)) [1, 2, 5, 6]]
@[go_sem] def l83_3 (_ : Unit) : KL := [kA 7 (.mv (.t 6)),
  kA 8 (.mv (.t 1)),
  kA 9 (.len (.t 8)),
  kB 10 (.bin .lss (.t 7) (.t 9)) [1, 2, 5, 6, 10]]
@[go_sem] def s83_4 (_ : Unit) : IR := (sQ [(kT l83_3), (.cond (.t 10) .skip (.exit 0))])
@[go_sem] def l83_5 : Nat → GOp
  | 0 => ⟨(some 13), .mv (.t 5), none⟩
  | 1 => ⟨(some 14), .faddr (.t 2) 0, none⟩
  | 2 => ⟨(some 15), .load (.t 14) 1 false, none⟩
  | 3 => ⟨(some 16), .mv (.t 6), none⟩
  | 4 => ⟨(some 17), .iaddr (.t 15) (.t 16) 3, none⟩
  | 5 => ⟨(some 18), .faddr (.t 17) 1, none⟩
  | 6 => ⟨(some 19), .load (.t 18) 1 false, none⟩
  | 7 => ⟨(some 20), .faddr (.t 2) 0, none⟩
  | 8 => ⟨(some 21), .load (.t 20) 1 false, none⟩
  | 9 => ⟨(some 22), .mv (.t 6), none⟩
  | 10 => ⟨(some 23), .iaddr (.t 21) (.t 22) 3, none⟩
  | 11 => ⟨(some 24), .faddr (.t 23) 0, none⟩
  | 12 => ⟨(some 25), .load (.t 24) 1 false, none⟩
  | 13 => ⟨(some 26), .bin .sub (.t 19) (.t 25), none⟩
  | 14 => ⟨(some 27), .bin .add (.t 26) (cI 1), none⟩
  | 15 => ⟨(some 28), .bin .mul (.t 13) (.t 27), none⟩
  | 16 => ⟨(some 29), .mv (.t 1), none⟩
  | 17 => ⟨(some 30), .mv (.t 6), none⟩
  | 18 => ⟨(some 31), .iaddr (.t 29) (.t 30) 1, none⟩
  | 19 => ⟨(some 32), .load (.t 31) 1 false, none⟩
  | 20 => ⟨(some 33), .bin .add (.t 28) (.t 32), none⟩
  | 21 => ⟨(some 34), .faddr (.t 2) 0, none⟩
  | 22 => ⟨(some 35), .load (.t 34) 1 false, none⟩
  | 23 => ⟨(some 36), .mv (.t 6), none⟩
  | 24 => ⟨(some 37), .iaddr (.t 35) (.t 36) 3, none⟩
  | 25 => ⟨(some 38), .faddr (.t 37) 0, none⟩
  | 26 => ⟨(some 39), .load (.t 38) 1 false, none⟩
  | 27 => ⟨(some 40), .bin .sub (.t 33) (.t 39), none⟩
  | 28 => ⟨(some 5), .mv (.t 40), none⟩
  | _ => ⟨none, .mkmap, none⟩
@[go_sem] def s83_6 (_ : Unit) : IR := (.block 1 (.kd (oF l83_5 29) [(0, []), (1, []), (2, []), (3, []), (4, []), (5, []), (6, []), (7, []), (8, []), (9, []), (10, []), (11, []), (12, []), (13, []), (14, []), (15, []), (16, []), (17, []), (18, []), (19, []), (20, []), (21, []), (22, []), (23, []), (24, []), (25, []), (26, []), (27, []), (28, [])] [1, 2, 5, 6]))
@[go_sem] def l83_7 (_ : Unit) : KL := [kA 11 (.mv (.t 6)),
  kA 12 (.bin .add (.t 11) (cI 1)),
  kB 6 (.mv (.t 12)) [1, 2, 5, 6]]
@[go_sem] def s83_8 (_ : Unit) : IR := (sQ [(tH s83_4), (tH s83_6), (kT l83_7)])
@[go_sem] def s83_9 (_ : Unit) : IR := (.loop (tH s83_8))
@[go_sem] def s83_10 (_ : Unit) : IR := (.block 0 (tH s83_9))
@[go_sem] def s83_11 (_ : Unit) : IR := (sQ [(kT l83_2), (tH s83_10)])
@[go_sem] def l83_12 (_ : Unit) : KL := [kA 41 (.mv (.t 5)),
  kB 4 (.mv (.t 41)) [4]]
@[go_sem] def s83_13 (_ : Unit) : IR := (sQ [(kT l83_0), (kT l83_1), (tH s83_11), (kT l83_12), .ret])
theorem c83 : compFn Tryz.prog [(0, [], [oN, oS [1, 2]]), (1, [], [oS [1, 2, 5]]), (2, [], [oS [1, 2, 5, 6]]), (3, [], [oN, oN, oN, oS [1, 2, 5, 6, 10]]), (5, [(0, []), (1, []), (2, []), (3, []), (4, []), (5, []), (6, []), (7, []), (8, []), (9, []), (10, []), (11, []), (12, []), (13, []), (14, []), (15, []), (16, []), (17, []), (18, []), (19, []), (20, []), (21, []), (22, []), (23, []), (24, []), (25, []), (26, []), (27, []), (28, [])], [oS [1, 2, 5, 6]]), (4, [], [oN, oN, oS [1, 2, 5, 6]]), (6, [], [oN, oS [4]])] Tryz.f83 = some ⟨2, 42, [.t 4], (tH s83_13)⟩ := by kernel_rfl
theorem v_spec_l4Number (hl : vs.length = 2) (h : wpV Tryz.prog (tH s83_13) (postV [.t 4] RV) (envV vs) M) : VCall Tryz.prog n_spec_l4Number vs M RV :=
  vcall_of_wp (fun _ _ _ hl h => acall_of_wp mixed Tryz.func83 c83 (by kernel_rfl) hl h) hl h
@[go_sem] def l55_0 (_ : Unit) : KL := [kA 1 (.box (.t 0)),
  kB 2 (.mv (.c (.sl none 0 0 true 0))) [1]]
@[go_sem] def l55_1 (_ : Unit) : KL := [kA 8 (.bslc 1 0 [(.sl none 0 0 true 0)] []),
  kB 3 (.mv (.t 8)) [1, 3]]
@[go_sem] def l55_2 (_ : Unit) : KL := [kB 4 (.mv (cI 0)) [1, 3, 4]]
@[go_sem] def l55_3 (_ : Unit) : KL := [kA 9 (.mv (.t 4)),
  kA 10 (.load (.t 1) 2 true),
  kA 11 (.call (n_spec_SizeOf) [(.t 10)]),
  kB 12 (.bin .lss (.t 9) (.t 11)) [1, 3, 4, 12]]
@[go_sem] def s55_4 (_ : Unit) : IR := (sQ [(kT l55_3), (.cond (.t 12) .skip (.exit 0))])
@[go_sem] def l55_5 : Nat → GOp
  | 0 => ⟨(some 15), .load (.t 1) 2 true, none⟩
  | 1 => ⟨(some 16), .load (.t 1) 2 true, none⟩
  | 2 => ⟨(some 17), .mv (.t 4), none⟩
  | 3 => ⟨(some 18), .call (n_spec_l4State) [(.t 16), (.t 17)], none⟩
  | 4 => ⟨(some 19), .call (n_spec_l2Next) [(.t 15), (.t 18)], none⟩
  | 5 => ⟨(some 5), .mv (.t 19), none⟩
  | _ => ⟨none, .mkmap, none⟩
@[go_sem] def l55_6 (_ : Unit) : KL := [kA 20 (.bslc 1 0 [(.int .i64 0)] []),
  kB 6 (.mv (.t 20)) [1, 3, 4, 5, 6]]
@[go_sem] def l55_7 (_ : Unit) : KL := [kB 7 (.mv (cI 0)) [1, 3, 4, 5, 6, 7]]
@[go_sem] def l55_8 (_ : Unit) : KL := [kA 21 (.mv (.t 7)),
  kA 22 (.mv (.t 5)),
  kA 23 (.len (.t 22)),
  kB 24 (.bin .lss (.t 21) (.t 23)) [1, 3, 4, 5, 6, 7, 24]]
@[go_sem] def s55_9 (_ : Unit) : IR := (sQ [(kT l55_8), (.cond (.t 24) .skip (.exit 2))])
@[go_sem] def l55_10 : Nat → GOp
  | 0 => ⟨(some 27), .mv (.t 6), none⟩
  | 1 => ⟨(some 28), .load (.t 1) 2 true, none⟩
  | 2 => ⟨(some 29), .mv (.t 5), none⟩
  | 3 => ⟨(some 30), .mv (.t 7), none⟩
  | 4 => ⟨(some 31), .iaddr (.t 29) (.t 30) 1, none⟩
  | 5 => ⟨(some 32), .load (.t 31) 1 false, none⟩
  | 6 => ⟨(some 33), .call (n_spec_l4Number) [(.t 28), (.t 32)], none⟩
  | 7 => ⟨(some 34), .bslc 1 1 [(.int .i64 0)] [(0, (.t 33))], none⟩
  | 8 => ⟨(some 35), .app 1 8 (.t 27) (.t 34), none⟩
  | 9 => ⟨(some 6), .mv (.t 35), none⟩
  | _ => ⟨none, .mkmap, none⟩
@[go_sem] def s55_11 (_ : Unit) : IR := (.block 3 (.kd (oF l55_10 10) [(0, []), (1, []), (2, []), (3, []), (4, []), (5, []), (6, []), (7, []), (8, []), (9, [])] [1, 3, 4, 5, 6, 7]))
@[go_sem] def l55_12 (_ : Unit) : KL := [kA 25 (.mv (.t 7)),
  kA 26 (.bin .add (.t 25) (cI 1)),
  kB 7 (.mv (.t 26)) [1, 3, 4, 5, 6, 7]]
@[go_sem] def s55_13 (_ : Unit) : IR := (sQ [(tH s55_9), (tH s55_11), (kT l55_12)])
@[go_sem] def s55_14 (_ : Unit) : IR := (.loop (tH s55_13))
@[go_sem] def s55_15 (_ : Unit) : IR := (.block 2 (tH s55_14))
@[go_sem] def s55_16 (_ : Unit) : IR := (sQ [(kT l55_7), (tH s55_15)])
@[go_sem] def l55_17 (_ : Unit) : KL := [kA 36 (.mv (.t 3)),
  kA 37 (.mv (.t 6)),
  kA 38 (.bslc 1 1 [(.sl none 0 0 true 0)] [(0, (.t 37))]),
  kA 39 (.app 1 24 (.t 36) (.t 38)),
  kB 3 (.mv (.t 39)) [1, 3, 4]]
@[go_sem] def s55_18 (_ : Unit) : IR := (sQ [(.kd (oF l55_5 6) [(0, []), (1, []), (2, []), (3, [0]), (4, []), (5, [])] [1, 3, 4, 5]), (kT l55_6), (tH s55_16), (kT l55_17)])
@[go_sem] def s55_19 (_ : Unit) : IR := (.block 1 (tH s55_18))
@[go_sem] def l55_20 (_ : Unit) : KL := [kA 13 (.mv (.t 4)),
  kA 14 (.bin .add (.t 13) (cI 1)),
  kB 4 (.mv (.t 14)) [1, 3, 4]]
@[go_sem] def s55_21 (_ : Unit) : IR := (sQ [(tH s55_4), (tH s55_19), (kT l55_20)])
@[go_sem] def s55_22 (_ : Unit) : IR := (.loop (tH s55_21))
@[go_sem] def s55_23 (_ : Unit) : IR := (.block 0 (tH s55_22))
@[go_sem] def s55_24 (_ : Unit) : IR := (sQ [(kT l55_2), (tH s55_23)])
@[go_sem] def l55_25 (_ : Unit) : KL := [kA 40 (.mv (.t 3)),
  kB 2 (.mv (.t 40)) [2]]
@[go_sem] def s55_26 (_ : Unit) : IR := (sQ [(kT l55_0), (kT l55_1), (tH s55_24), (kT l55_25), .ret])
theorem c55 : compFn Tryz.prog [(0, [], [oN, oS [1]]), (1, [], [oN, oS [1, 3]]), (2, [], [oS [1, 3, 4]]), (3, [], [oN, oN, oN, oS [1, 3, 4, 12]]), (5, [(0, []), (1, []), (2, []), (3, [0]), (4, []), (5, [])], [oS [1, 3, 4, 5]]), (6, [], [oN, oS [1, 3, 4, 5, 6]]), (7, [], [oS [1, 3, 4, 5, 6, 7]]), (8, [], [oN, oN, oN, oS [1, 3, 4, 5, 6, 7, 24]]), (10, [(0, []), (1, []), (2, []), (3, []), (4, []), (5, []), (6, []), (7, []), (8, []), (9, [])], [oS [1, 3, 4, 5, 6, 7]]), (9, [], [oN, oN, oS [1, 3, 4, 5, 6, 7]]), (11, [], [oN, oN, oN, oN, oS [1, 3, 4]]), (4, [], [oN, oN, oS [1, 3, 4]]), (12, [], [oN, oS [2]])] Tryz.f55 = some ⟨1, 41, [.t 2], (tH s55_26)⟩ := by kernel_rfl
theorem v_spec_l4Steps (hl : vs.length = 1) (h : wpV Tryz.prog (tH s55_26) (postV [.t 2] RV) (envV vs) M) : VCall Tryz.prog n_spec_l4Steps vs M RV :=
  vcall_of_wp (fun _ _ _ hl h => acall_of_wp mixed Tryz.func55 c55 (by kernel_rfl) hl h) hl h
@[go_sem] def l56_0 (_ : Unit) : KL := [kB 4 (.mv (.c (.sl none 0 0 true 0))) [0, 1]]
@[go_sem] def l56_1 (_ : Unit) : KL := [kA 7 (.mv (.t 1)),
  kA 8 (.mks [(.bool false)] 1 (.t 7)),
  kB 5 (.mv (.t 8)) [0, 5]]
@[go_sem] def l56_2 (_ : Unit) : KL := [kB 6 (.mv (cI 0)) [0, 5, 6]]
@[go_sem] def l56_3 (_ : Unit) : KL := [kA 9 (.mv (.t 6)),
  kA 10 (.mv (.t 0)),
  kA 11 (.len (.t 10)),
  kB 12 (.bin .lss (.t 9) (.t 11)) [0, 5, 6, 12]]
@[go_sem] def s56_4 (_ : Unit) : IR := (sQ [(kT l56_3), (.cond (.t 12) .skip (.exit 0))])
@[go_sem] def l56_5 (_ : Unit) : KL := [kA 15 (.mv (.t 5)),
  kA 16 (.mv (.t 0)),
  kA 17 (.mv (.t 6)),
  kA 18 (.iaddr (.t 16) (.t 17) 1),
  kB 19 (.load (.t 18) 1 false) [0, 5, 6, 15, 19],
  kA 20 (.iaddr (.t 15) (.t 19) 1),
  (⟨none, .store (.t 20) 1 (.c (.bool true)), none⟩, (some [0, 5, 6]))]
@[go_sem] def s56_6 (_ : Unit) : IR := (.block 1 (kT l56_5))
@[go_sem] def l56_7 (_ : Unit) : KL := [kA 13 (.mv (.t 6)),
  kA 14 (.bin .add (.t 13) (cI 1)),
  kB 6 (.mv (.t 14)) [0, 5, 6]]
@[go_sem] def s56_8 (_ : Unit) : IR := (sQ [(tH s56_4), (tH s56_6), (kT l56_7)])
@[go_sem] def s56_9 (_ : Unit) : IR := (.loop (tH s56_8))
@[go_sem] def s56_10 (_ : Unit) : IR := (.block 0 (tH s56_9))
@[go_sem] def s56_11 (_ : Unit) : IR := (sQ [(kT l56_2), (tH s56_10)])
@[go_sem] def l56_12 (_ : Unit) : KL := [kA 21 (.mv (.t 5)),
  kB 4 (.mv (.t 21)) [4]]
@[go_sem] def s56_13 (_ : Unit) : IR := (sQ [(kT l56_0), (kT l56_1), (tH s56_11), (kT l56_12), .ret])
theorem c56 : compFn Tryz.prog [(0, [], [oS [0, 1]]), (1, [], [oN, oN, oS [0, 5]]), (2, [], [oS [0, 5, 6]]), (3, [], [oN, oN, oN, oS [0, 5, 6, 12]]), (5, [], [oN, oN, oN, oN, oS [0, 5, 6, 15, 19], oN, oS [0, 5, 6]]), (4, [], [oN, oN, oS [0, 5, 6]]), (6, [], [oN, oS [4]])] Tryz.f56 = some ⟨2, 22, [.t 4], (tH s56_13)⟩ := by kernel_rfl
theorem v_spec_l4Marks (hl : vs.length = 2) (h : wpV Tryz.prog (tH s56_13) (postV [.t 4] RV) (envV vs) M) : VCall Tryz.prog n_spec_l4Marks vs M RV :=
  vcall_of_wp (fun _ _ _ hl h => acall_of_wp mixed Tryz.func56 c56 (by kernel_rfl) hl h) hl h
@[go_sem] def l77_0 (_ : Unit) : KL := [kA 1 (.box (.t 0)),
  kB 2 (.mv (.c (.sl none 0 0 true 0))) [1]]
@[go_sem] def l77_1 : Nat → GOp
  | 0 => ⟨(some 3), .load (.t 1) 2 true, none⟩
  | 1 => ⟨(some 4), .load (.t 1) 2 true, none⟩
  | 2 => ⟨(some 5), .call (n_spec_FirstState) [(.t 4)], none⟩
  | 3 => ⟨(some 6), .call (n_spec_l4Number) [(.t 3), (.t 5)], none⟩
  | 4 => ⟨(some 7), .bslc 1 1 [(.int .i64 0)] [(0, (.t 6))], none⟩
  | 5 => ⟨(some 8), .load (.t 1) 2 true, none⟩
  | 6 => ⟨(some 9), .call (n_spec_SizeOf) [(.t 8)], none⟩
  | 7 => ⟨(some 10), .call (n_spec_l4Marks) [(.t 7), (.t 9)], none⟩
  | 8 => ⟨(some 2), .mv (.t 10), none⟩
  | _ => ⟨none, .mkmap, none⟩
@[go_sem] def s77_2 (_ : Unit) : IR := (sQ [(kT l77_0), (.kd (oF l77_1 9) [(0, []), (1, []), (5, []), (2, [0, 5]), (3, [5]), (6, [4]), (4, []), (7, []), (8, [])] [2]), .ret])
theorem c77 : compFn Tryz.prog [(0, [], [oN, oS [1]]), (1, [(0, []), (1, []), (5, []), (2, [0, 5]), (3, [5]), (6, [4]), (4, []), (7, []), (8, [])], [oS [2]])] Tryz.f77 = some ⟨1, 11, [.t 2], (tH s77_2)⟩ := by kernel_rfl
theorem v_spec_l5First (hl : vs.length = 1) (h : wpV Tryz.prog (tH s77_2) (postV [.t 2] RV) (envV vs) M) : VCall Tryz.prog n_spec_l5First vs M RV :=
  vcall_of_wp (fun _ _ _ hl h => acall_of_wp mixed Tryz.func77 c77 (by kernel_rfl) hl h) hl h
@[go_sem] def l76_0 (_ : Unit) : KL := [kB 4 (.mv (.c (.sl none 0 0 true 0))) [0, 1]]
@[go_sem] def l76_1 (_ : Unit) : KL := [kA 11 (.bslc 1 0 [(.int .i64 0)] []),
  kB 5 (.mv (.t 11)) [0, 1, 5]]
@[go_sem] def l76_2 (_ : Unit) : KL := [kB 6 (.mv (cI 0)) [0, 1, 5, 6]]
@[go_sem] def l76_3 (_ : Unit) : KL := [kA 12 (.mv (.t 6)),
  kA 13 (.mv (.t 0)),
  kA 14 (.len (.t 13)),
  kB 15 (.bin .lss (.t 12) (.t 14)) [0, 1, 5, 6, 15]]
@[go_sem] def s76_4 (_ : Unit) : IR := (sQ [(kT l76_3), (.cond (.t 15) .skip (.exit 0))])
@[go_sem] def l76_5 (_ : Unit) : KL := [kA 18 (.mv (.t 1)),
  kA 19 (.mv (.t 6)),
  kA 20 (.iaddr (.t 18) (.t 19) 1),
  kB 21 (.load (.t 20) 1 false) [0, 1, 5, 6, 21]]
@[go_sem] def l76_6 (_ : Unit) : KL := [kA 22 (.mv (.t 5)),
  kA 23 (.bslc 1 1 [(.int .i64 0)] [(0, (cI 0))]),
  kA 24 (.app 1 8 (.t 22) (.t 23)),
  kB 5 (.mv (.t 24)) [0, 1, 5, 6]]
@[go_sem] def l76_7 (_ : Unit) : KL := [kA 25 (.mv (.t 5)),
  kA 26 (.bslc 1 1 [(.int .i64 0)] [(0, (.c (.int .i64 (-1))))]),
  kA 27 (.app 1 8 (.t 25) (.t 26)),
  kB 5 (.mv (.t 27)) [0, 1, 5, 6]]
@[go_sem] def s76_8 (_ : Unit) : IR := (sQ [(kT l76_5), (.cond (.t 21) (kT l76_6) (kT l76_7))])
@[go_sem] def s76_9 (_ : Unit) : IR := (.block 1 (tH s76_8))
@[go_sem] def l76_10 (_ : Unit) : KL := [kA 16 (.mv (.t 6)),
  kA 17 (.bin .add (.t 16) (cI 1)),
  kB 6 (.mv (.t 17)) [0, 1, 5, 6]]
@[go_sem] def s76_11 (_ : Unit) : IR := (sQ [(tH s76_4), (tH s76_9), (kT l76_10)])
@[go_sem] def s76_12 (_ : Unit) : IR := (.loop (tH s76_11))
@[go_sem] def s76_13 (_ : Unit) : IR := (.block 0 (tH s76_12))
@[go_sem] def s76_14 (_ : Unit) : IR := (sQ [(kT l76_2), (tH s76_13)])
@[go_sem] def l76_15 (_ : Unit) : KL := [kB 7 (.mv (.c (.bool true))) [0, 5, 7]]
@[go_sem] def l76_16 (_ : Unit) : KL := [kB 8 (.mv (cI 0)) [0, 5, 7, 8]]
@[go_sem] def l76_17 (_ : Unit) : KL := [kB 28 (.mv (.t 7)) [0, 5, 8, 28]]
@[go_sem] def s76_18 (_ : Unit) : IR := (sQ [(kT l76_17), (.cond (.t 28) .skip (.exit 2))])
@[go_sem] def l76_19 (_ : Unit) : KL := [kB 7 (.mv (.c (.bool false))) [0, 5, 7, 8]]
@[go_sem] def l76_20 (_ : Unit) : KL := [kB 9 (.mv (cI 0)) [0, 5, 7, 8, 9]]
@[go_sem] def l76_21 (_ : Unit) : KL := [kA 31 (.mv (.t 9)),
  kA 32 (.mv (.t 0)),
  kA 33 (.len (.t 32)),
  kB 34 (.bin .lss (.t 31) (.t 33)) [0, 5, 7, 8, 9, 34]]
@[go_sem] def s76_22 (_ : Unit) : IR := (sQ [(kT l76_21), (.cond (.t 34) .skip (.exit 4))])
@[go_sem] def l76_23 (_ : Unit) : KL := [kB 10 (.mv (cI 0)) [0, 5, 7, 8, 9, 10]]
@[go_sem] def l76_24 (_ : Unit) : KL := [kA 37 (.mv (.t 10)),
  kA 38 (.mv (.t 0)),
  kA 39 (.mv (.t 9)),
  kA 40 (.iaddr (.t 38) (.t 39) 1),
  kB 41 (.load (.t 40) 1 false) [0, 5, 7, 8, 9, 10, 37, 41],
  kA 42 (.len (.t 41)),
  kA 43 (.bin .lss (.t 37) (.t 42)),
  kA 44 (.mv (.t 43)),
  (⟨(some 45), .mv (.t 5), (some (44, true))⟩, none),
  (⟨(some 46), .mv (.t 9), (some (44, true))⟩, (some [0, 5, 7, 8, 9, 10, 44, 45, 46])),
  (⟨(some 47), .iaddr (.t 45) (.t 46) 1, (some (44, true))⟩, none),
  (⟨(some 48), .load (.t 47) 1 false, (some (44, true))⟩, none),
  (⟨(some 49), .mv (.t 8), (some (44, true))⟩, none),
  (⟨(some 50), .bin .eql (.t 48) (.t 49), (some (44, true))⟩, none),
  kB 51 (.pick (.t 44) (.t 50) (.c (.bool false))) [0, 5, 7, 8, 9, 10, 51]]
@[go_sem] def s76_25 (_ : Unit) : IR := (sQ [(kT l76_24), (.cond (.t 51) .skip (.exit 6))])
@[go_sem] def l76_26 (_ : Unit) : KL := [kA 54 (.mv (.t 5)),
  kA 55 (.mv (.t 0)),
  kA 56 (.mv (.t 9)),
  kA 57 (.iaddr (.t 55) (.t 56) 1),
  kB 58 (.load (.t 57) 1 false) [0, 5, 7, 8, 9, 10, 54, 58],
  kA 59 (.mv (.t 10)),
  kA 60 (.iaddr (.t 58) (.t 59) 1),
  kA 61 (.load (.t 60) 1 false),
  kA 62 (.iaddr (.t 54) (.t 61) 1),
  kB 63 (.load (.t 62) 1 false) [0, 5, 7, 8, 9, 10, 63],
  kB 64 (.bin .lss (.t 63) (cI 0)) [0, 5, 7, 8, 9, 10, 64]]
@[go_sem] def l76_27 (_ : Unit) : KL := [kA 65 (.mv (.t 5)),
  kA 66 (.mv (.t 0)),
  kA 67 (.mv (.t 9)),
  kA 68 (.iaddr (.t 66) (.t 67) 1),
  kB 69 (.load (.t 68) 1 false) [0, 5, 8, 9, 10, 65, 69],
  kA 70 (.mv (.t 10)),
  kA 71 (.iaddr (.t 69) (.t 70) 1),
  kA 72 (.load (.t 71) 1 false),
  kA 73 (.mv (.t 8)),
  kB 74 (.bin .add (.t 73) (cI 1)) [0, 5, 8, 9, 10, 65, 72, 74],
  kA 75 (.iaddr (.t 65) (.t 72) 1),
  (⟨none, .store (.t 75) 1 (.t 74), none⟩, (some [0, 5, 8, 9, 10]))]
@[go_sem] def l76_28 (_ : Unit) : KL := [kB 7 (.mv (.c (.bool true))) [0, 5, 7, 8, 9, 10]]
@[go_sem] def s76_29 (_ : Unit) : IR := (sQ [(kT l76_27), (kT l76_28)])
@[go_sem] def s76_30 (_ : Unit) : IR := (sQ [(kT l76_26), (.cond (.t 64) (tH s76_29) .skip)])
@[go_sem] def s76_31 (_ : Unit) : IR := (.block 7 (tH s76_30))
@[go_sem] def l76_32 (_ : Unit) : KL := [kA 52 (.mv (.t 10)),
  kA 53 (.bin .add (.t 52) (cI 1)),
  kB 10 (.mv (.t 53)) [0, 5, 7, 8, 9, 10]]
@[go_sem] def s76_33 (_ : Unit) : IR := (sQ [(tH s76_25), (tH s76_31), (kT l76_32)])
@[go_sem] def s76_34 (_ : Unit) : IR := (.loop (tH s76_33))
@[go_sem] def s76_35 (_ : Unit) : IR := (.block 6 (tH s76_34))
@[go_sem] def s76_36 (_ : Unit) : IR := (sQ [(kT l76_23), (tH s76_35)])
@[go_sem] def s76_37 (_ : Unit) : IR := (.block 5 (tH s76_36))
@[go_sem] def l76_38 (_ : Unit) : KL := [kA 35 (.mv (.t 9)),
  kA 36 (.bin .add (.t 35) (cI 1)),
  kB 9 (.mv (.t 36)) [0, 5, 7, 8, 9]]
@[go_sem] def s76_39 (_ : Unit) : IR := (sQ [(tH s76_22), (tH s76_37), (kT l76_38)])
@[go_sem] def s76_40 (_ : Unit) : IR := (.loop (tH s76_39))
@[go_sem] def s76_41 (_ : Unit) : IR := (.block 4 (tH s76_40))
@[go_sem] def s76_42 (_ : Unit) : IR := (sQ [(kT l76_19), (kT l76_20), (tH s76_41)])
@[go_sem] def s76_43 (_ : Unit) : IR := (.block 3 (tH s76_42))
@[go_sem] def l76_44 (_ : Unit) : KL := [kA 29 (.mv (.t 8)),
  kA 30 (.bin .add (.t 29) (cI 1)),
  kB 8 (.mv (.t 30)) [0, 5, 7, 8]]
@[go_sem] def s76_45 (_ : Unit) : IR := (sQ [(tH s76_18), (tH s76_43), (kT l76_44)])
@[go_sem] def s76_46 (_ : Unit) : IR := (.loop (tH s76_45))
@[go_sem] def s76_47 (_ : Unit) : IR := (.block 2 (tH s76_46))
@[go_sem] def s76_48 (_ : Unit) : IR := (sQ [(kT l76_16), (tH s76_47)])
@[go_sem] def l76_49 (_ : Unit) : KL := [kA 76 (.mv (.t 5)),
  kB 4 (.mv (.t 76)) [4]]
@[go_sem] def s76_50 (_ : Unit) : IR := (sQ [(kT l76_0), (kT l76_1), (tH s76_14), (kT l76_15), (tH s76_48), (kT l76_49), .ret])
theorem c76 : compFn Tryz.prog [(0, [], [oS [0, 1]]), (1, [], [oN, oS [0, 1, 5]]), (2, [], [oS [0, 1, 5, 6]]), (3, [], [oN, oN, oN, oS [0, 1, 5, 6, 15]]), (5, [], [oN, oN, oN, oS [0, 1, 5, 6, 21]]), (6, [], [oN, oN, oN, oS [0, 1, 5, 6]]), (7, [], [oN, oN, oN, oS [0, 1, 5, 6]]), (4, [], [oN, oN, oS [0, 1, 5, 6]]), (8, [], [oS [0, 5, 7]]), (9, [], [oS [0, 5, 7, 8]]), (10, [], [oS [0, 5, 8, 28]]), (12, [], [oS [0, 5, 7, 8]]), (13, [], [oS [0, 5, 7, 8, 9]]), (14, [], [oN, oN, oN, oS [0, 5, 7, 8, 9, 34]]), (16, [], [oS [0, 5, 7, 8, 9, 10]]), (17, [], [oN, oN, oN, oN, oS [0, 5, 7, 8, 9, 10, 37, 41], oN, oN, oN, oN, oS [0, 5, 7, 8, 9, 10, 44, 45, 46], oN, oN, oN, oN, oS [0, 5, 7, 8, 9, 10, 51]]), (19, [], [oN, oN, oN, oN, oS [0, 5, 7, 8, 9, 10, 54, 58], oN, oN, oN, oN, oS [0, 5, 7, 8, 9, 10, 63], oS [0, 5, 7, 8, 9, 10, 64]]), (20, [], [oN, oN, oN, oN, oS [0, 5, 8, 9, 10, 65, 69], oN, oN, oN, oN, oS [0, 5, 8, 9, 10, 65, 72, 74], oN, oS [0, 5, 8, 9, 10]]), (21, [], [oS [0, 5, 7, 8, 9, 10]]), (18, [], [oN, oN, oS [0, 5, 7, 8, 9, 10]]), (15, [], [oN, oN, oS [0, 5, 7, 8, 9]]), (11, [], [oN, oN, oS [0, 5, 7, 8]]), (22, [], [oN, oS [4]])] Tryz.f76 = some ⟨2, 77, [.t 4], (tH s76_50)⟩ := by kernel_rfl
theorem v_spec_l5Steps (hl : vs.length = 2) (h : wpV Tryz.prog (tH s76_50) (postV [.t 4] RV) (envV vs) M) : VCall Tryz.prog n_spec_l5Steps vs M RV :=
  vcall_of_wp (fun _ _ _ hl h => acall_of_wp mixed Tryz.func76 c76 (by kernel_rfl) hl h) hl h
@[go_sem] def l30_0 (_ : Unit) : KL := [kA 1 (.box (.t 0)),
  kB 2 (.mv (.c (.sl none 0 0 true 0))) [1]]
@[go_sem] def l30_1 (_ : Unit) : KL := [kA 3 (.load (.t 1) 2 true),
  kA 4 (.call (n_spec_SystemValid) [(.t 3)]),
  kB 5 (.un .not (.t 4)) [1, 5]]
@[go_sem] def l30_2 (_ : Unit) : KL := [kB 2 (.mv (.c (.sl none 0 0 true 0))) [2]]
@[go_sem] def s30_3 (_ : Unit) : IR := (sQ [(kT l30_2), .ret])
@[go_sem] def s30_4 (_ : Unit) : IR := (sQ [(kT l30_1), (.cond (.t 5) (tH s30_3) .skip)])
@[go_sem] def l30_5 : Nat → GOp
  | 0 => ⟨(some 6), .load (.t 1) 2 true, none⟩
  | 1 => ⟨(some 7), .call (n_spec_l4Steps) [(.t 6)], none⟩
  | 2 => ⟨(some 8), .load (.t 1) 2 true, none⟩
  | 3 => ⟨(some 9), .call (n_spec_l5First) [(.t 8)], none⟩
  | 4 => ⟨(some 10), .call (n_spec_l5Steps) [(.t 7), (.t 9)], none⟩
  | 5 => ⟨(some 2), .mv (.t 10), none⟩
  | _ => ⟨none, .mkmap, none⟩
@[go_sem] def s30_6 (_ : Unit) : IR := (sQ [(kT l30_0), (tH s30_4), (.kd (oF l30_5 6) [(0, []), (2, []), (1, [2]), (3, []), (4, []), (5, [])] [2]), .ret])
theorem c30 : compFn Tryz.prog [(0, [], [oN, oS [1]]), (1, [], [oN, oN, oS [1, 5]]), (2, [], [oS [2]]), (3, [(0, []), (2, []), (1, [2]), (3, []), (4, []), (5, [])], [oS [2]])] Tryz.f30 = some ⟨1, 11, [.t 2], (tH s30_6)⟩ := by kernel_rfl
theorem v_spec_StepsTo (hl : vs.length = 1) (h : wpV Tryz.prog (tH s30_6) (postV [.t 2] RV) (envV vs) M) : VCall Tryz.prog n_spec_StepsTo vs M RV :=
  vcall_of_wp (fun _ _ _ hl h => acall_of_wp mixed Tryz.func30 c30 (by kernel_rfl) hl h) hl h
@[go_sem] def l101_0 (_ : Unit) : KL := [kB 6 (.mv (.c (.bool false))) [0, 1, 2]]
@[go_sem] def l101_1 (_ : Unit) : KL := [kA 7 (.mv (.t 0)),
  kA 8 (.mv (.t 1)),
  kA 9 (.bin .geq (.t 7) (.t 8)),
  kA 10 (.mv (.t 9)),
  (⟨(some 11), .mv (.t 0), (some (10, true))⟩, (some [2, 10, 11])),
  (⟨(some 12), .mv (.t 2), (some (10, true))⟩, none),
  (⟨(some 13), .bin .leq (.t 11) (.t 12), (some (10, true))⟩, none),
  kA 14 (.pick (.t 10) (.t 13) (.c (.bool false))),
  kB 6 (.mv (.t 14)) [6]]
@[go_sem] def s101_2 (_ : Unit) : IR := (sQ [(kT l101_0), (kT l101_1), .ret])
theorem c101 : compFn Tryz.prog [(0, [], [oS [0, 1, 2]]), (1, [], [oN, oN, oN, oN, oS [2, 10, 11], oN, oN, oN, oS [6]])] Tryz.f101 = some ⟨3, 15, [.t 6], (tH s101_2)⟩ := by kernel_rfl
theorem v_impl_in (hl : vs.length = 3) (h : wpV Tryz.prog (tH s101_2) (postV [.t 6] RV) (envV vs) M) : VCall Tryz.prog n_impl_in vs M RV :=
  vcall_of_wp (fun _ _ _ hl h => acall_of_wp mixed Tryz.func101 c101 (by kernel_rfl) hl h) hl h
@[go_sem] def l147_0 (_ : Unit) : KL := [kB 4 (.mv (cI 0)) [0, 1]]
@[go_sem] def l147_1 (_ : Unit) : KL := [kA 6 (.mv (.t 0)),
  kA 7 (.len (.t 6)),
  kB 8 (.mv (cI 0)) [0, 1, 7, 8]]
@[go_sem] def l147_2 (_ : Unit) : KL := [kB 9 (.bin .lss (.t 8) (.t 7)) [0, 1, 7, 8, 9]]
@[go_sem] def l147_3 (_ : Unit) : KL := [kA 10 (.mv (.t 8)),
  kB 5 (.mv (.t 10)) [0, 1, 5, 7, 8]]
@[go_sem] def l147_4 (_ : Unit) : KL := [kA 11 (.mv (.t 1)),
  kA 12 (.mv (.t 0)),
  kA 13 (.mv (.t 5)),
  kA 14 (.iaddr (.t 12) (.t 13) 3),
  kB 15 (.load (.t 14) 3 true) [0, 1, 5, 7, 8, 11, 15],
  kB 16 (.callv (.t 11) [(.t 15)]) [0, 1, 5, 7, 8, 16]]
@[go_sem] def l147_5 (_ : Unit) : KL := [kA 17 (.mv (.t 5)),
  kB 4 (.mv (.t 17)) [4]]
@[go_sem] def s147_6 (_ : Unit) : IR := (sQ [(kT l147_5), .ret])
@[go_sem] def s147_7 (_ : Unit) : IR := (sQ [(kT l147_3), (kT l147_4), (.cond (.t 16) (tH s147_6) .skip)])
@[go_sem] def s147_8 (_ : Unit) : IR := (.block 1 (tH s147_7))
@[go_sem] def l147_9 (_ : Unit) : KL := [kA 18 (.bin .add (.t 8) (cI 1)),
  kB 8 (.mv (.t 18)) [0, 1, 7, 8]]
@[go_sem] def s147_10 (_ : Unit) : IR := (sQ [(kT l147_2), (.cond (.t 9) .skip (.exit 0)), (tH s147_8), (kT l147_9)])
@[go_sem] def s147_11 (_ : Unit) : IR := (.loop (tH s147_10))
@[go_sem] def s147_12 (_ : Unit) : IR := (.block 0 (tH s147_11))
@[go_sem] def s147_13 (_ : Unit) : IR := (sQ [(kT l147_1), (tH s147_12)])
@[go_sem] def l147_14 (_ : Unit) : KL := [kB 4 (.mv (.c (.int .i64 (-1)))) [4]]
@[go_sem] def s147_15 (_ : Unit) : IR := (sQ [(kT l147_0), (tH s147_13), (kT l147_14), .ret])
theorem c147 : compFn Tryz.prog [(0, [], [oS [0, 1]]), (1, [], [oN, oN, oS [0, 1, 7, 8]]), (2, [], [oS [0, 1, 7, 8, 9]]), (3, [], [oN, oS [0, 1, 5, 7, 8]]), (4, [], [oN, oN, oN, oN, oS [0, 1, 5, 7, 8, 11, 15], oS [0, 1, 5, 7, 8, 16]]), (5, [], [oN, oS [4]]), (6, [], [oN, oS [0, 1, 7, 8]]), (7, [], [oS [4]])] Tryz.f147 = some ⟨2, 19, [.t 4], (tH s147_15)⟩ := by kernel_rfl
theorem v_slices_IndexFunc_Simpl_Var_impl_Var (hl : vs.length = 2) (h : wpV Tryz.prog (tH s147_15) (postV [.t 4] RV) (envV vs) M) : VCall Tryz.prog n_slices_IndexFunc_Simpl_Var_impl_Var vs M RV :=
  vcall_of_wp (fun _ _ _ hl h => acall_of_wp mixed Tryz.func147 c147 (by kernel_rfl) hl h) hl h
@[go_sem] def l118_0 (_ : Unit) : KL := [kB 4 (.mv (.c (.bool false))) [0, 1]]
@[go_sem] def l118_1 (_ : Unit) : KL := [kA 5 (.mv (.t 0)),
  kA 6 (.mv (.t 1)),
  kA 7 (.call (n_slices_IndexFunc_Simpl_Var_impl_Var) [(.t 5), (.t 6)]),
  kA 8 (.bin .geq (.t 7) (cI 0)),
  kB 4 (.mv (.t 8)) [4]]
@[go_sem] def s118_2 (_ : Unit) : IR := (sQ [(kT l118_0), (kT l118_1), .ret])
theorem c118 : compFn Tryz.prog [(0, [], [oS [0, 1]]), (1, [], [oN, oN, oN, oN, oS [4]])] Tryz.f118 = some ⟨2, 9, [.t 4], (tH s118_2)⟩ := by kernel_rfl
theorem v_slices_ContainsFunc_Simpl_Var_impl_Var (hl : vs.length = 2) (h : wpV Tryz.prog (tH s118_2) (postV [.t 4] RV) (envV vs) M) : VCall Tryz.prog n_slices_ContainsFunc_Simpl_Var_impl_Var vs M RV :=
  vcall_of_wp (fun _ _ _ hl h => acall_of_wp mixed Tryz.func118 c118 (by kernel_rfl) hl h) hl h
@[go_sem] def l120_0 (_ : Unit) : KL := [kA 1 (.box (.t 0)),
  kB 2 (.mv (.c (.bool false))) [1]]
@[go_sem] def l120_1 (_ : Unit) : KL := [kA 3 (.faddr (.t 1) 0),
  kA 4 (.load (.t 3) 1 false),
  kA 5 (.call (n_impl_in) [(.t 4), (.c (.int .i64 (-9999))), (.c (.int .i64 9999))]),
  kA 6 (.mv (.t 5)),
  (⟨(some 7), .faddr (.t 1) 1, (some (6, true))⟩, (some [1, 6, 7])),
  (⟨(some 8), .load (.t 7) 1 false, (some (6, true))⟩, none),
  (⟨(some 9), .faddr (.t 1) 0, (some (6, true))⟩, none),
  (⟨(some 10), .load (.t 9) 1 false, (some (6, true))⟩, none),
  (⟨(some 11), .call (n_impl_in) [(.t 8), (.t 10), (.c (.int .i64 9999))], (some (6, true))⟩, none),
  kB 12 (.pick (.t 6) (.t 11) (.c (.bool false))) [1, 12],
  kA 13 (.mv (.t 12)),
  (⟨(some 14), .faddr (.t 1) 1, (some (13, true))⟩, none),
  (⟨(some 15), .load (.t 14) 1 false, (some (13, true))⟩, none),
  (⟨(some 16), .faddr (.t 1) 0, (some (13, true))⟩, none),
  (⟨(some 17), .load (.t 16) 1 false, (some (13, true))⟩, (some [1, 13, 15, 17])),
  (⟨(some 18), .bin .sub (.t 15) (.t 17), (some (13, true))⟩, none),
  (⟨(some 19), .bin .lss (.t 18) (.c (.int .i64 20)), (some (13, true))⟩, none),
  kA 20 (.pick (.t 13) (.t 19) (.c (.bool false))),
  kA 21 (.mv (.t 20)),
  (⟨(some 22), .faddr (.t 1) 2, (some (21, true))⟩, (some [1, 21, 22])),
  (⟨(some 23), .load (.t 22) 1 false, (some (21, true))⟩, none),
  (⟨(some 24), .faddr (.t 1) 0, (some (21, true))⟩, none),
  (⟨(some 25), .load (.t 24) 1 false, (some (21, true))⟩, none),
  (⟨(some 26), .faddr (.t 1) 1, (some (21, true))⟩, none),
  (⟨(some 27), .load (.t 26) 1 false, (some (21, true))⟩, (some [21, 23, 25, 27])),
  (⟨(some 28), .call (n_impl_in) [(.t 23), (.t 25), (.t 27)], (some (21, true))⟩, none),
  kA 29 (.pick (.t 21) (.t 28) (.c (.bool false))),
  kB 2 (.mv (.t 29)) [2]]
@[go_sem] def s120_2 (_ : Unit) : IR := (sQ [(kT l120_0), (kT l120_1), .ret])
theorem c120 : compFn Tryz.prog [(0, [], [oN, oS [1]]), (1, [], [oN, oN, oN, oN, oS [1, 6, 7], oN, oN, oN, oN, oS [1, 12], oN, oN, oN, oN, oS [1, 13, 15, 17], oN, oN, oN, oN, oS [1, 21, 22], oN, oN, oN, oN, oS [21, 23, 25, 27], oN, oN, oS [2]])] Tryz.f120 = some ⟨1, 30, [.t 2], (tH s120_2)⟩ := by kernel_rfl
theorem v_impl_varOk (hl : vs.length = 1) (h : wpV Tryz.prog (tH s120_2) (postV [.t 2] RV) (envV vs) M) : VCall Tryz.prog n_impl_varOk vs M RV :=
  vcall_of_wp (fun _ _ _ hl h => acall_of_wp mixed Tryz.func120 c120 (by kernel_rfl) hl h) hl h
@[go_sem] def l119_0 (_ : Unit) : KL := [kA 1 (.box (.t 0)),
  kB 2 (.mv (.c (.bool false))) [1]]
@[go_sem] def l119_1 (_ : Unit) : KL := [kA 3 (.load (.t 1) 3 true),
  kA 4 (.call (n_impl_varOk) [(.t 3)]),
  kA 5 (.un .not (.t 4)),
  kB 2 (.mv (.t 5)) [2]]
@[go_sem] def s119_2 (_ : Unit) : IR := (sQ [(kT l119_0), (kT l119_1), .ret])
theorem c119 : compFn Tryz.prog [(0, [], [oN, oS [1]]), (1, [], [oN, oN, oN, oS [2]])] Tryz.f119 = some ⟨1, 6, [.t 2], (tH s119_2)⟩ := by kernel_rfl
theorem v_impl_SystemValid_1 (hl : vs.length = 1) (h : wpV Tryz.prog (tH s119_2) (postV [.t 2] RV) (envV vs) M) : VCall Tryz.prog n_impl_SystemValid_1 vs M RV :=
  vcall_of_wp (fun _ _ _ hl h => acall_of_wp mixed Tryz.func119 c119 (by kernel_rfl) hl h) hl h
@[go_sem] def l94_0 (_ : Unit) : KL := [kB 2 (.mv (cI 0)) [0]]
@[go_sem] def l94_1 (_ : Unit) : KL := [kB 3 (.mv (cI 1)) [0, 3]]
@[go_sem] def l94_2 (_ : Unit) : KL := [kA 6 (.mv (.t 0)),
  kA 7 (.len (.t 6)),
  kB 8 (.mv (cI 0)) [3, 6, 7, 8]]
@[go_sem] def l94_3 (_ : Unit) : KL := [kB 9 (.bin .lss (.t 8) (.t 7)) [3, 6, 7, 8, 9]]
@[go_sem] def l94_4 (_ : Unit) : KL := [kA 10 (.iaddr (.t 6) (.t 8) 3),
  kA 11 (.load (.t 10) 3 true),
  kA 5 (.alloc [(.int .i64 0), (.int .i64 0), (.int .i64 0)]),
  (⟨none, .store (.t 5) 3 (.t 11), none⟩, (some [3, 5, 6, 7, 8]))]
@[go_sem] def l94_5 (_ : Unit) : KL := [kA 12 (.mv (.t 3)),
  kA 13 (.faddr (.t 5) 1),
  kA 14 (.load (.t 13) 1 false),
  kA 15 (.faddr (.t 5) 0),
  kB 16 (.load (.t 15) 1 false) [6, 7, 8, 12, 14, 16],
  kA 17 (.bin .sub (.t 14) (.t 16)),
  kA 18 (.bin .add (.t 17) (cI 1)),
  kA 19 (.bin .mul (.t 12) (.t 18)),
  kB 3 (.mv (.t 19)) [3, 6, 7, 8]]
@[go_sem] def s94_6 (_ : Unit) : IR := (sQ [(kT l94_4), (kT l94_5)])
@[go_sem] def s94_7 (_ : Unit) : IR := (.block 1 (tH s94_6))
@[go_sem] def l94_8 (_ : Unit) : KL := [kA 20 (.bin .add (.t 8) (cI 1)),
  kB 8 (.mv (.t 20)) [3, 6, 7, 8]]
@[go_sem] def s94_9 (_ : Unit) : IR := (sQ [(kT l94_3), (.cond (.t 9) .skip (.exit 0)), (tH s94_7), (kT l94_8)])
@[go_sem] def s94_10 (_ : Unit) : IR := (.loop (tH s94_9))
@[go_sem] def s94_11 (_ : Unit) : IR := (.block 0 (tH s94_10))
@[go_sem] def s94_12 (_ : Unit) : IR := (sQ [(kT l94_2), (tH s94_11)])
@[go_sem] def l94_13 (_ : Unit) : KL := [kA 21 (.mv (.t 3)),
  kB 2 (.mv (.t 21)) [2]]
@[go_sem] def s94_14 (_ : Unit) : IR := (sQ [(kT l94_0), (kT l94_1), (tH s94_12), (kT l94_13), .ret])
theorem c94 : compFn Tryz.prog [(0, [], [oS [0]]), (1, [], [oS [0, 3]]), (2, [], [oN, oN, oS [3, 6, 7, 8]]), (3, [], [oS [3, 6, 7, 8, 9]]), (4, [], [oN, oN, oN, oS [3, 5, 6, 7, 8]]), (5, [], [oN, oN, oN, oN, oS [6, 7, 8, 12, 14, 16], oN, oN, oN, oS [3, 6, 7, 8]]), (6, [], [oN, oS [3, 6, 7, 8]]), (7, [], [oN, oS [2]])] Tryz.f94 = some ⟨1, 22, [.t 2], (tH s94_14)⟩ := by kernel_rfl
theorem v_impl_size (hl : vs.length = 1) (h : wpV Tryz.prog (tH s94_14) (postV [.t 2] RV) (envV vs) M) : VCall Tryz.prog n_impl_size vs M RV :=
  vcall_of_wp (fun _ _ _ hl h => acall_of_wp mixed Tryz.func94 c94 (by kernel_rfl) hl h) hl h
@[go_sem] def l164_0 (_ : Unit) : KL := [kA 2 (.mv (cI 0)),
  kA 3 (.mv (cI 0)),
  kB 4 (.mv (cI 0)) [0]]
@[go_sem] def l164_1 (_ : Unit) : KL := [kB 5 (.mv (.t 0)) [5]]
@[go_sem] def l164_2 (_ : Unit) : KL := [kA 7 (.bin .eql (.t 5) (.c (.int .i64 2))),
  kB 6 (.mv (.t 7)) [5, 6]]
@[go_sem] def l164_3 (_ : Unit) : KL := [kA 8 (.bin .eql (.t 5) (.c (.int .i64 3))),
  kB 6 (.mv (.t 8)) [5, 6]]
@[go_sem] def l164_4 (_ : Unit) : KL := [kA 9 (.bin .eql (.t 5) (.c (.int .i64 4))),
  kB 6 (.mv (.t 9)) [5, 6]]
@[go_sem] def s164_5 (_ : Unit) : IR := (sQ [(kT l164_3), (.cond (.t 6) .skip (kT l164_4))])
@[go_sem] def s164_6 (_ : Unit) : IR := (sQ [(kT l164_2), (.cond (.t 6) .skip (tH s164_5))])
@[go_sem] def l164_7 (_ : Unit) : KL := [kA 2 (.mv (.c (.int .i64 2))),
  kA 3 (.mv (cI 1)),
  kB 4 (.mv (cI 1)) [2, 3, 4]]
@[go_sem] def s164_8 (_ : Unit) : IR := (sQ [(kT l164_7), .ret])
@[go_sem] def l164_9 (_ : Unit) : KL := [kA 11 (.bin .eql (.t 5) (.c (.int .i64 5))),
  kB 10 (.mv (.t 11)) [5, 10]]
@[go_sem] def l164_10 (_ : Unit) : KL := [kA 12 (.bin .eql (.t 5) (.c (.int .i64 6))),
  kB 10 (.mv (.t 12)) [5, 10]]
@[go_sem] def s164_11 (_ : Unit) : IR := (sQ [(kT l164_9), (.cond (.t 10) .skip (kT l164_10))])
@[go_sem] def l164_12 (_ : Unit) : KL := [kA 2 (.mv (.c (.int .i64 2))),
  kA 3 (.mv (cI 1)),
  kB 4 (.mv (.c (.int .i64 2))) [2, 3, 4]]
@[go_sem] def s164_13 (_ : Unit) : IR := (sQ [(kT l164_12), .ret])
@[go_sem] def l164_14 (_ : Unit) : KL := [kA 14 (.bin .eql (.t 5) (.c (.int .i64 7))),
  kB 13 (.mv (.t 14)) [5, 13]]
@[go_sem] def l164_15 (_ : Unit) : KL := [kA 2 (.mv (cI 1)),
  kA 3 (.mv (.c (.int .i64 2))),
  kB 4 (.mv (.c (.int .i64 2))) [2, 3, 4]]
@[go_sem] def s164_16 (_ : Unit) : IR := (sQ [(kT l164_15), .ret])
@[go_sem] def l164_17 (_ : Unit) : KL := [kA 16 (.bin .eql (.t 5) (.c (.int .i64 8))),
  kB 15 (.mv (.t 16)) [5, 15]]
@[go_sem] def l164_18 (_ : Unit) : KL := [kA 17 (.bin .eql (.t 5) (.c (.int .i64 9))),
  kB 15 (.mv (.t 17)) [15]]
@[go_sem] def s164_19 (_ : Unit) : IR := (sQ [(kT l164_17), (.cond (.t 15) .skip (kT l164_18))])
@[go_sem] def l164_20 (_ : Unit) : KL := [kA 2 (.mv (.c (.int .i64 2))),
  kA 3 (.mv (.c (.int .i64 2))),
  kB 4 (.mv (.c (.int .i64 2))) [2, 3, 4]]
@[go_sem] def s164_21 (_ : Unit) : IR := (sQ [(kT l164_20), .ret])
@[go_sem] def s164_22 (_ : Unit) : IR := (sQ [(tH s164_19), (.cond (.t 15) (tH s164_21) .skip)])
@[go_sem] def s164_23 (_ : Unit) : IR := (sQ [(kT l164_14), (.cond (.t 13) (tH s164_16) (tH s164_22))])
@[go_sem] def s164_24 (_ : Unit) : IR := (sQ [(tH s164_11), (.cond (.t 10) (tH s164_13) (tH s164_23))])
@[go_sem] def s164_25 (_ : Unit) : IR := (sQ [(tH s164_6), (.cond (.t 6) (tH s164_8) (tH s164_24))])
@[go_sem] def s164_26 (_ : Unit) : IR := (.block 0 (tH s164_25))
@[go_sem] def s164_27 (_ : Unit) : IR := (sQ [(kT l164_1), (tH s164_26)])
@[go_sem] def l164_28 (_ : Unit) : KL := [kA 2 (.mv (cI 0)),
  kA 3 (.mv (cI 0)),
  kB 4 (.mv (cI 1)) [2, 3, 4]]
@[go_sem] def s164_29 (_ : Unit) : IR := (sQ [(kT l164_0), (tH s164_27), (kT l164_28), .ret])
theorem c164 : compFn Tryz.prog [(0, [], [oN, oN, oS [0]]), (1, [], [oS [5]]), (2, [], [oN, oS [5, 6]]), (3, [], [oN, oS [5, 6]]), (4, [], [oN, oS [5, 6]]), (5, [], [oN, oN, oS [2, 3, 4]]), (6, [], [oN, oS [5, 10]]), (7, [], [oN, oS [5, 10]]), (8, [], [oN, oN, oS [2, 3, 4]]), (9, [], [oN, oS [5, 13]]), (10, [], [oN, oN, oS [2, 3, 4]]), (11, [], [oN, oS [5, 15]]), (12, [], [oN, oS [15]]), (13, [], [oN, oN, oS [2, 3, 4]]), (14, [], [oN, oN, oS [2, 3, 4]])] Tryz.f164 = some ⟨1, 18, [.t 2, .t 3, .t 4], (tH s164_29)⟩ := by kernel_rfl
theorem v_impl_parts (hl : vs.length = 1) (h : wpV Tryz.prog (tH s164_29) (postV [.t 2, .t 3, .t 4] RV) (envV vs) M) : VCall Tryz.prog n_impl_parts vs M RV :=
  vcall_of_wp (fun _ _ _ hl h => acall_of_wp mixed Tryz.func164 c164 (by kernel_rfl) hl h) hl h
@[go_sem] def l154_0 (_ : Unit) : KL := [kB 4 (.mv (.c (.sl none 0 0 true 0))) [0, 1]]
@[go_sem] def l154_1 (_ : Unit) : KL := [kA 12 (.mv (.t 1)),
  kA 13 (.call (n_impl_in) [(.t 12), (cI 0), (.c (.int .i64 5))]),
  kA 14 (.un .not (.t 13)),
  kA 15 (.mv (.t 14)),
  (⟨(some 16), .mv (.t 0), (some (15, false))⟩, (some [0, 1, 15, 16])),
  (⟨(some 17), .len (.t 16), (some (15, false))⟩, none),
  (⟨(some 18), .call (n_impl_in) [(.t 17), (cI 1), (.c (.int .i64 40))], (some (15, false))⟩, none),
  (⟨(some 19), .un .not (.t 18), (some (15, false))⟩, none),
  kB 20 (.pick (.t 15) (.c (.bool true)) (.t 19)) [0, 1, 20]]
@[go_sem] def l154_2 (_ : Unit) : KL := [kB 4 (.mv (.c (.sl none 0 0 true 0))) [4]]
@[go_sem] def s154_3 (_ : Unit) : IR := (sQ [(kT l154_2), .ret])
@[go_sem] def s154_4 (_ : Unit) : IR := (sQ [(kT l154_1), (.cond (.t 20) (tH s154_3) .skip)])
@[go_sem] def l154_5 (_ : Unit) : KL := [kA 21 (.mv (.t 0)),
  kA 22 (.len (.t 21)),
  kA 23 (.mkc [(.int .i64 0)] 8 (cI 0) (.t 22)),
  kB 5 (.mv (.t 23)) [0, 1, 5]]
@[go_sem] def l154_6 (_ : Unit) : KL := [kA 24 (.mv (.t 0)),
  kA 25 (.len (.t 24)),
  kB 26 (.mv (cI 0)) [1, 5, 24, 25, 26]]
@[go_sem] def l154_7 (_ : Unit) : KL := [kB 27 (.bin .lss (.t 26) (.t 25)) [1, 5, 24, 25, 26, 27]]
@[go_sem] def l154_8 (_ : Unit) : KL := [kA 28 (.mv (.t 26)),
  kA 29 (.iaddr (.t 24) (.t 26) 4),
  kA 30 (.load (.t 29) 4 true),
  kA 7 (.alloc [(.int .i64 0), (.int .i64 0), (.int .i64 0), (.int .i64 0)]),
  kB 6 (.mv (.t 28)) [1, 5, 6, 7, 24, 25, 26, 30],
  (⟨none, .store (.t 7) 4 (.t 30), none⟩, (some [1, 5, 6, 7, 24, 25, 26]))]
@[go_sem] def l154_9 (_ : Unit) : KL := [kA 32 (.faddr (.t 7) 0),
  kA 33 (.load (.t 32) 1 false),
  kA 34 (.call (n_impl_parts) [(.t 33)]),
  kA 31 (.mv (.t 34)),
  kB 35 (.ext (.t 31) 0) [1, 5, 6, 7, 24, 25, 26, 31, 35],
  kA 36 (.ext (.t 31) 1),
  kA 37 (.ext (.t 31) 2),
  kA 8 (.mv (.t 35)),
  kA 9 (.mv (.t 36)),
  kB 10 (.mv (.t 37)) [1, 5, 6, 7, 8, 9, 10, 24, 25, 26]]
@[go_sem] def l154_10 (_ : Unit) : KL := [kA 38 (.faddr (.t 7) 0),
  kA 39 (.load (.t 38) 1 false),
  kA 40 (.call (n_impl_in) [(.t 39), (cI 0), (.c (.int .i64 9))]),
  kB 11 (.mv (.t 40)) [1, 5, 6, 7, 8, 9, 10, 11, 24, 25, 26]]
@[go_sem] def l154_11 (_ : Unit) : KL := [kA 42 (.faddr (.t 7) 0),
  kA 43 (.load (.t 42) 1 false),
  kA 44 (.bin .eql (.t 43) (cI 0)),
  kB 41 (.mv (.t 44)) [1, 5, 6, 7, 8, 9, 10, 11, 24, 25, 26, 41]]
@[go_sem] def l154_12 (_ : Unit) : KL := [kA 45 (.faddr (.t 7) 1),
  kA 46 (.load (.t 45) 1 false),
  kA 47 (.call (n_impl_in) [(.t 46), (.c (.int .i64 (-9999))), (.c (.int .i64 9999))]),
  kA 48 (.mv (.t 47)),
  (⟨(some 49), .faddr (.t 7) 2, (some (48, true))⟩, (some [1, 5, 7, 10, 24, 25, 26, 48, 49])),
  (⟨(some 50), .load (.t 49) 1 false, (some (48, true))⟩, none),
  (⟨(some 51), .bin .eql (.t 50) (cI 0), (some (48, true))⟩, none),
  kA 52 (.pick (.t 48) (.t 51) (.c (.bool false))),
  kA 53 (.mv (.t 52)),
  (⟨(some 54), .faddr (.t 7) 3, (some (53, true))⟩, (some [1, 5, 10, 24, 25, 26, 53, 54])),
  (⟨(some 55), .load (.t 54) 1 false, (some (53, true))⟩, none),
  (⟨(some 56), .bin .eql (.t 55) (cI 0), (some (53, true))⟩, none),
  kA 57 (.pick (.t 53) (.t 56) (.c (.bool false))),
  kB 11 (.mv (.t 57)) [1, 5, 10, 11, 24, 25, 26]]
@[go_sem] def l154_13 (_ : Unit) : KL := [kA 59 (.faddr (.t 7) 0),
  kA 60 (.load (.t 59) 1 false),
  kA 61 (.bin .eql (.t 60) (cI 1)),
  kB 58 (.mv (.t 61)) [1, 5, 6, 7, 8, 9, 10, 11, 24, 25, 26, 58]]
@[go_sem] def l154_14 (_ : Unit) : KL := [kA 62 (.faddr (.t 7) 1),
  kA 63 (.load (.t 62) 1 false),
  kA 64 (.mv (.t 1)),
  kA 65 (.bin .sub (.t 64) (cI 1)),
  kB 66 (.call (n_impl_in) [(.t 63), (cI 0), (.t 65)]) [1, 5, 7, 10, 24, 25, 26, 66],
  kA 67 (.mv (.t 66)),
  (⟨(some 68), .faddr (.t 7) 2, (some (67, true))⟩, none),
  (⟨(some 69), .load (.t 68) 1 false, (some (67, true))⟩, none),
  (⟨(some 70), .bin .eql (.t 69) (cI 0), (some (67, true))⟩, none),
  kB 71 (.pick (.t 67) (.t 70) (.c (.bool false))) [1, 5, 7, 10, 24, 25, 26, 71],
  kA 72 (.mv (.t 71)),
  (⟨(some 73), .faddr (.t 7) 3, (some (72, true))⟩, none),
  (⟨(some 74), .load (.t 73) 1 false, (some (72, true))⟩, none),
  (⟨(some 75), .bin .eql (.t 74) (cI 0), (some (72, true))⟩, none),
  kB 76 (.pick (.t 72) (.t 75) (.c (.bool false))) [1, 5, 10, 24, 25, 26, 76],
  kB 11 (.mv (.t 76)) [1, 5, 10, 11, 24, 25, 26]]
@[go_sem] def l154_15 (_ : Unit) : KL := [kA 78 (.mv (.t 11)),
  kB 77 (.mv (.t 78)) [1, 5, 6, 7, 8, 9, 10, 11, 24, 25, 26, 77]]
@[go_sem] def l154_16 (_ : Unit) : KL := [kA 79 (.faddr (.t 7) 1),
  kA 80 (.load (.t 79) 1 false),
  kA 81 (.bin .eql (.t 80) (cI 0)),
  kA 82 (.mv (.t 81)),
  (⟨(some 83), .faddr (.t 7) 2, (some (82, true))⟩, (some [1, 5, 6, 7, 8, 9, 10, 24, 25, 26, 82, 83])),
  (⟨(some 84), .load (.t 83) 1 false, (some (82, true))⟩, none),
  (⟨(some 85), .mv (.t 6), (some (82, true))⟩, none),
  (⟨(some 86), .bin .sub (.t 85) (cI 1), (some (82, true))⟩, none),
  (⟨(some 87), .call (n_impl_in) [(.t 84), (cI 0), (.t 86)], (some (82, true))⟩, none),
  kB 88 (.pick (.t 82) (.t 87) (.c (.bool false))) [1, 5, 6, 7, 8, 9, 10, 24, 25, 26, 88],
  kA 89 (.mv (.t 88)),
  (⟨(some 90), .faddr (.t 7) 3, (some (89, true))⟩, none),
  (⟨(some 91), .load (.t 90) 1 false, (some (89, true))⟩, none),
  (⟨(some 92), .mv (.t 6), (some (89, true))⟩, none),
  (⟨(some 93), .bin .sub (.t 92) (cI 1), (some (89, true))⟩, (some [1, 5, 7, 8, 9, 10, 24, 25, 26, 89, 91, 93])),
  (⟨(some 94), .call (n_impl_in) [(.t 91), (cI 0), (.t 93)], (some (89, true))⟩, none),
  kA 95 (.pick (.t 89) (.t 94) (.c (.bool false))),
  kA 96 (.mv (.t 95)),
  (⟨(some 97), .mv (.t 5), (some (96, true))⟩, none),
  (⟨(some 98), .faddr (.t 7) 2, (some (96, true))⟩, (some [1, 5, 7, 8, 9, 10, 24, 25, 26, 96, 97, 98])),
  (⟨(some 99), .load (.t 98) 1 false, (some (96, true))⟩, none),
  (⟨(some 100), .iaddr (.t 97) (.t 99) 1, (some (96, true))⟩, none),
  (⟨(some 101), .load (.t 100) 1 false, (some (96, true))⟩, none),
  (⟨(some 102), .mv (.t 9), (some (96, true))⟩, none),
  (⟨(some 103), .bin .eql (.t 101) (.t 102), (some (96, true))⟩, (some [1, 5, 7, 8, 9, 10, 24, 25, 26, 96, 103])),
  kA 104 (.pick (.t 96) (.t 103) (.c (.bool false))),
  kA 105 (.mv (.t 104)),
  (⟨(some 106), .mv (.t 5), (some (105, true))⟩, none),
  (⟨(some 107), .faddr (.t 7) 3, (some (105, true))⟩, none),
  (⟨(some 108), .load (.t 107) 1 false, (some (105, true))⟩, (some [1, 5, 7, 8, 9, 10, 24, 25, 26, 105, 106, 108])),
  (⟨(some 109), .iaddr (.t 106) (.t 108) 1, (some (105, true))⟩, none),
  (⟨(some 110), .load (.t 109) 1 false, (some (105, true))⟩, none),
  (⟨(some 111), .mv (.t 9), (some (105, true))⟩, none),
  (⟨(some 112), .bin .eql (.t 110) (.t 111), (some (105, true))⟩, none),
  kB 113 (.pick (.t 105) (.t 112) (.c (.bool false))) [1, 5, 7, 8, 10, 24, 25, 26, 113],
  kA 114 (.mv (.t 113)),
  (⟨(some 115), .mv (.t 8), (some (114, true))⟩, none),
  (⟨(some 116), .bin .eql (.t 115) (.c (.int .i64 2)), (some (114, true))⟩, none),
  (⟨(some 117), .mv (.t 116), (some (114, true))⟩, none),
  (⟨(some 118), .faddr (.t 7) 2, (some (117, false))⟩, (some [1, 5, 7, 10, 24, 25, 26, 114, 117, 118])),
  (⟨(some 119), .load (.t 118) 1 false, (some (117, false))⟩, none),
  (⟨(some 120), .faddr (.t 7) 3, (some (117, false))⟩, none),
  (⟨(some 121), .load (.t 120) 1 false, (some (117, false))⟩, none),
  (⟨(some 122), .bin .eql (.t 119) (.t 121), (some (117, false))⟩, none),
  (⟨(some 123), .pick (.t 117) (.c (.bool true)) (.t 122), (some (114, true))⟩, (some [1, 5, 10, 24, 25, 26, 114, 123])),
  kA 124 (.pick (.t 114) (.t 123) (.c (.bool false))),
  kB 11 (.mv (.t 124)) [1, 5, 10, 11, 24, 25, 26]]
@[go_sem] def s154_17 (_ : Unit) : IR := (sQ [(kT l154_15), (.cond (.t 77) (kT l154_16) .skip)])
@[go_sem] def s154_18 (_ : Unit) : IR := (sQ [(kT l154_13), (.cond (.t 58) (kT l154_14) (tH s154_17))])
@[go_sem] def s154_19 (_ : Unit) : IR := (sQ [(kT l154_11), (.cond (.t 41) (kT l154_12) (tH s154_18))])
@[go_sem] def s154_20 (_ : Unit) : IR := (.block 2 (tH s154_19))
@[go_sem] def l154_21 (_ : Unit) : KL := [kA 125 (.mv (.t 11)),
  kB 126 (.un .not (.t 125)) [1, 5, 10, 24, 25, 26, 126]]
@[go_sem] def l154_22 (_ : Unit) : KL := [kB 4 (.mv (.c (.sl none 0 0 true 0))) [4]]
@[go_sem] def s154_23 (_ : Unit) : IR := (sQ [(kT l154_22), .ret])
@[go_sem] def s154_24 (_ : Unit) : IR := (sQ [(kT l154_21), (.cond (.t 126) (tH s154_23) .skip)])
@[go_sem] def l154_25 (_ : Unit) : KL := [kA 127 (.mv (.t 5)),
  kA 128 (.mv (.t 10)),
  kA 129 (.bslc 1 1 [(.int .i64 0)] [(0, (.t 128))]),
  kA 130 (.app 1 8 (.t 127) (.t 129)),
  kB 5 (.mv (.t 130)) [1, 5, 24, 25, 26]]
@[go_sem] def s154_26 (_ : Unit) : IR := (sQ [(kT l154_8), (kT l154_9), (kT l154_10), (tH s154_20), (tH s154_24), (kT l154_25)])
@[go_sem] def s154_27 (_ : Unit) : IR := (.block 1 (tH s154_26))
@[go_sem] def l154_28 (_ : Unit) : KL := [kA 131 (.bin .add (.t 26) (cI 1)),
  kB 26 (.mv (.t 131)) [1, 5, 24, 25, 26]]
@[go_sem] def s154_29 (_ : Unit) : IR := (sQ [(kT l154_7), (.cond (.t 27) .skip (.exit 0)), (tH s154_27), (kT l154_28)])
@[go_sem] def s154_30 (_ : Unit) : IR := (.loop (tH s154_29))
@[go_sem] def s154_31 (_ : Unit) : IR := (.block 0 (tH s154_30))
@[go_sem] def s154_32 (_ : Unit) : IR := (sQ [(kT l154_6), (tH s154_31)])
@[go_sem] def l154_33 (_ : Unit) : KL := [kA 132 (.mv (.t 5)),
  kB 4 (.mv (.t 132)) [4]]
@[go_sem] def s154_34 (_ : Unit) : IR := (sQ [(kT l154_0), (tH s154_4), (kT l154_5), (tH s154_32), (kT l154_33), .ret])
theorem c154 : compFn Tryz.prog [(0, [], [oS [0, 1]]), (1, [], [oN, oN, oN, oN, oS [0, 1, 15, 16], oN, oN, oN, oS [0, 1, 20]]), (2, [], [oS [4]]), (3, [], [oN, oN, oN, oS [0, 1, 5]]), (4, [], [oN, oN, oS [1, 5, 24, 25, 26]]), (5, [], [oS [1, 5, 24, 25, 26, 27]]), (6, [], [oN, oN, oN, oN, oS [1, 5, 6, 7, 24, 25, 26, 30], oS [1, 5, 6, 7, 24, 25, 26]]), (7, [], [oN, oN, oN, oN, oS [1, 5, 6, 7, 24, 25, 26, 31, 35], oN, oN, oN, oN, oS [1, 5, 6, 7, 8, 9, 10, 24, 25, 26]]), (8, [], [oN, oN, oN, oS [1, 5, 6, 7, 8, 9, 10, 11, 24, 25, 26]]), (9, [], [oN, oN, oN, oS [1, 5, 6, 7, 8, 9, 10, 11, 24, 25, 26, 41]]), (10, [], [oN, oN, oN, oN, oS [1, 5, 7, 10, 24, 25, 26, 48, 49], oN, oN, oN, oN, oS [1, 5, 10, 24, 25, 26, 53, 54], oN, oN, oN, oS [1, 5, 10, 11, 24, 25, 26]]), (11, [], [oN, oN, oN, oS [1, 5, 6, 7, 8, 9, 10, 11, 24, 25, 26, 58]]), (12, [], [oN, oN, oN, oN, oS [1, 5, 7, 10, 24, 25, 26, 66], oN, oN, oN, oN, oS [1, 5, 7, 10, 24, 25, 26, 71], oN, oN, oN, oN, oS [1, 5, 10, 24, 25, 26, 76], oS [1, 5, 10, 11, 24, 25, 26]]), (13, [], [oN, oS [1, 5, 6, 7, 8, 9, 10, 11, 24, 25, 26, 77]]), (14, [], [oN, oN, oN, oN, oS [1, 5, 6, 7, 8, 9, 10, 24, 25, 26, 82, 83], oN, oN, oN, oN, oS [1, 5, 6, 7, 8, 9, 10, 24, 25, 26, 88], oN, oN, oN, oN, oS [1, 5, 7, 8, 9, 10, 24, 25, 26, 89, 91, 93], oN, oN, oN, oN, oS [1, 5, 7, 8, 9, 10, 24, 25, 26, 96, 97, 98], oN, oN, oN, oN, oS [1, 5, 7, 8, 9, 10, 24, 25, 26, 96, 103], oN, oN, oN, oN, oS [1, 5, 7, 8, 9, 10, 24, 25, 26, 105, 106, 108], oN, oN, oN, oN, oS [1, 5, 7, 8, 10, 24, 25, 26, 113], oN, oN, oN, oN, oS [1, 5, 7, 10, 24, 25, 26, 114, 117, 118], oN, oN, oN, oN, oS [1, 5, 10, 24, 25, 26, 114, 123], oN, oS [1, 5, 10, 11, 24, 25, 26]]), (15, [], [oN, oS [1, 5, 10, 24, 25, 26, 126]]), (16, [], [oS [4]]), (17, [], [oN, oN, oN, oN, oS [1, 5, 24, 25, 26]]), (18, [], [oN, oS [1, 5, 24, 25, 26]]), (19, [], [oN, oS [4]])] Tryz.f154 = some ⟨2, 133, [.t 4], (tH s154_34)⟩ := by kernel_rfl
theorem v_impl_kindsOf (hl : vs.length = 2) (h : wpV Tryz.prog (tH s154_34) (postV [.t 4] RV) (envV vs) M) : VCall Tryz.prog n_impl_kindsOf vs M RV :=
  vcall_of_wp (fun _ _ _ hl h => acall_of_wp mixed Tryz.func154 c154 (by kernel_rfl) hl h) hl h
@[go_sem] def l132_0 (_ : Unit) : KL := [kB 4 (.mv (cI 0)) [0, 1]]
@[go_sem] def l132_1 (_ : Unit) : KL := [kA 6 (.mv (.t 0)),
  kA 7 (.mv (.t 1)),
  kA 8 (.call (n_impl_kindsOf) [(.t 6), (.t 7)]),
  kB 5 (.mv (.t 8)) [5]]
@[go_sem] def l132_2 (_ : Unit) : KL := [kA 9 (.mv (.t 5)),
  kB 10 (.eqn false .sl (.t 9)) [5, 10]]
@[go_sem] def l132_3 (_ : Unit) : KL := [kB 4 (.mv (cI 0)) [4]]
@[go_sem] def s132_4 (_ : Unit) : IR := (sQ [(kT l132_3), .ret])
@[go_sem] def s132_5 (_ : Unit) : IR := (sQ [(kT l132_2), (.cond (.t 10) (tH s132_4) .skip)])
@[go_sem] def l132_6 (_ : Unit) : KL := [kA 11 (.mv (.t 5)),
  kA 12 (.mv (.t 5)),
  kA 13 (.len (.t 12)),
  kA 14 (.bin .sub (.t 13) (cI 1)),
  kB 15 (.iaddr (.t 11) (.t 14) 1) [15],
  kA 16 (.load (.t 15) 1 false),
  kB 4 (.mv (.t 16)) [4]]
@[go_sem] def s132_7 (_ : Unit) : IR := (sQ [(kT l132_0), (kT l132_1), (tH s132_5), (kT l132_6), .ret])
theorem c132 : compFn Tryz.prog [(0, [], [oS [0, 1]]), (1, [], [oN, oN, oN, oS [5]]), (2, [], [oN, oS [5, 10]]), (3, [], [oS [4]]), (4, [], [oN, oN, oN, oN, oS [15], oN, oS [4]])] Tryz.f132 = some ⟨2, 17, [.t 4], (tH s132_7)⟩ := by kernel_rfl
theorem v_impl_kindOf (hl : vs.length = 2) (h : wpV Tryz.prog (tH s132_7) (postV [.t 4] RV) (envV vs) M) : VCall Tryz.prog n_impl_kindOf vs M RV :=
  vcall_of_wp (fun _ _ _ hl h => acall_of_wp mixed Tryz.func132 c132 (by kernel_rfl) hl h) hl h
@[go_sem] def l123_0 (_ : Unit) : KL := [kA 2 (.box (.t 0)),
  kB 4 (.mv (.c (.bool false))) [1, 2]]
@[go_sem] def l123_1 (_ : Unit) : KL := [kA 7 (.faddr (.t 2) 0),
  kA 8 (.load (.t 7) 1 false),
  kA 9 (.mv (.t 1)),
  kA 10 (.call (n_impl_kindOf) [(.t 8), (.t 9)]),
  kB 11 (.bin .neq (.t 10) (.c (.int .i64 2))) [1, 2, 11],
  kA 12 (.mv (.t 11)),
  (⟨(some 13), .faddr (.t 2) 1, (some (12, false))⟩, none),
  (⟨(some 14), .load (.t 13) 1 false, (some (12, false))⟩, none),
  (⟨(some 15), .len (.t 14), (some (12, false))⟩, none),
  (⟨(some 16), .faddr (.t 2) 2, (some (12, false))⟩, (some [1, 2, 12, 15, 16])),
  (⟨(some 17), .load (.t 16) 1 false, (some (12, false))⟩, none),
  (⟨(some 18), .len (.t 17), (some (12, false))⟩, none),
  (⟨(some 19), .bin .neq (.t 15) (.t 18), (some (12, false))⟩, none),
  kB 20 (.pick (.t 12) (.c (.bool true)) (.t 19)) [1, 2, 20]]
@[go_sem] def l123_2 (_ : Unit) : KL := [kB 4 (.mv (.c (.bool false))) [4]]
@[go_sem] def s123_3 (_ : Unit) : IR := (sQ [(kT l123_2), .ret])
@[go_sem] def s123_4 (_ : Unit) : IR := (sQ [(kT l123_1), (.cond (.t 20) (tH s123_3) .skip)])
@[go_sem] def l123_5 (_ : Unit) : KL := [kA 21 (.faddr (.t 2) 1),
  kA 22 (.load (.t 21) 1 false),
  kA 23 (.len (.t 22)),
  kB 24 (.mv (cI 0)) [1, 2, 22, 23, 24]]
@[go_sem] def l123_6 (_ : Unit) : KL := [kB 25 (.bin .lss (.t 24) (.t 23)) [1, 2, 22, 23, 24, 25]]
@[go_sem] def l123_7 (_ : Unit) : KL := [kA 26 (.mv (.t 24)),
  kA 27 (.iaddr (.t 22) (.t 24) 1),
  kA 28 (.load (.t 27) 1 false),
  kA 5 (.mv (.t 26)),
  kB 6 (.mv (.t 28)) [1, 2, 5, 6, 22, 23, 24]]
@[go_sem] def l123_8 (_ : Unit) : KL := [kA 29 (.mv (.t 6)),
  kA 30 (.mv (.t 1)),
  kA 31 (.bin .sub (.t 30) (cI 1)),
  kA 32 (.call (n_impl_in) [(.t 29), (cI 0), (.t 31)]),
  kB 33 (.un .not (.t 32)) [1, 2, 5, 6, 22, 23, 24, 33],
  kA 34 (.mv (.t 33)),
  (⟨(some 35), .mv (.t 5), (some (34, false))⟩, none),
  (⟨(some 36), .bin .gtr (.t 35) (cI 0), (some (34, false))⟩, none),
  (⟨(some 37), .mv (.t 36), (some (34, false))⟩, none),
  (⟨(some 38), .faddr (.t 2) 1, (some (37, true))⟩, (some [1, 2, 5, 6, 22, 23, 24, 34, 37, 38])),
  (⟨(some 39), .load (.t 38) 1 false, (some (37, true))⟩, none),
  (⟨(some 40), .mv (.t 5), (some (37, true))⟩, none),
  (⟨(some 41), .bin .sub (.t 40) (cI 1), (some (37, true))⟩, none),
  (⟨(some 42), .iaddr (.t 39) (.t 41) 1, (some (37, true))⟩, none),
  (⟨(some 43), .load (.t 42) 1 false, (some (37, true))⟩, (some [1, 2, 5, 6, 22, 23, 24, 34, 37, 43])),
  (⟨(some 44), .mv (.t 6), (some (37, true))⟩, none),
  (⟨(some 45), .bin .geq (.t 43) (.t 44), (some (37, true))⟩, none),
  (⟨(some 46), .pick (.t 37) (.t 45) (.c (.bool false)), (some (34, false))⟩, none),
  kA 47 (.pick (.t 34) (.c (.bool true)) (.t 46)),
  kB 48 (.mv (.t 47)) [1, 2, 5, 22, 23, 24, 48],
  (⟨(some 49), .faddr (.t 2) 2, (some (48, false))⟩, none),
  (⟨(some 50), .load (.t 49) 1 false, (some (48, false))⟩, none),
  (⟨(some 51), .mv (.t 5), (some (48, false))⟩, none),
  (⟨(some 52), .iaddr (.t 50) (.t 51) 1, (some (48, false))⟩, none),
  (⟨(some 53), .load (.t 52) 1 false, (some (48, false))⟩, (some [1, 2, 22, 23, 24, 48, 53])),
  (⟨(some 54), .mv (.t 1), (some (48, false))⟩, none),
  (⟨(some 55), .call (n_impl_kindOf) [(.t 53), (.t 54)], (some (48, false))⟩, none),
  (⟨(some 56), .bin .neq (.t 55) (cI 1), (some (48, false))⟩, none),
  kB 57 (.pick (.t 48) (.c (.bool true)) (.t 56)) [1, 2, 22, 23, 24, 57]]
@[go_sem] def l123_9 (_ : Unit) : KL := [kB 4 (.mv (.c (.bool false))) [4]]
@[go_sem] def s123_10 (_ : Unit) : IR := (sQ [(kT l123_9), .ret])
@[go_sem] def s123_11 (_ : Unit) : IR := (sQ [(kT l123_7), (kT l123_8), (.cond (.t 57) (tH s123_10) .skip)])
@[go_sem] def s123_12 (_ : Unit) : IR := (.block 1 (tH s123_11))
@[go_sem] def l123_13 (_ : Unit) : KL := [kA 58 (.bin .add (.t 24) (cI 1)),
  kB 24 (.mv (.t 58)) [1, 2, 22, 23, 24]]
@[go_sem] def s123_14 (_ : Unit) : IR := (sQ [(kT l123_6), (.cond (.t 25) .skip (.exit 0)), (tH s123_12), (kT l123_13)])
@[go_sem] def s123_15 (_ : Unit) : IR := (.loop (tH s123_14))
@[go_sem] def s123_16 (_ : Unit) : IR := (.block 0 (tH s123_15))
@[go_sem] def s123_17 (_ : Unit) : IR := (sQ [(kT l123_5), (tH s123_16)])
@[go_sem] def l123_18 (_ : Unit) : KL := [kB 4 (.mv (.c (.bool true))) [4]]
@[go_sem] def s123_19 (_ : Unit) : IR := (sQ [(kT l123_0), (tH s123_4), (tH s123_17), (kT l123_18), .ret])
theorem c123 : compFn Tryz.prog [(0, [], [oN, oS [1, 2]]), (1, [], [oN, oN, oN, oN, oS [1, 2, 11], oN, oN, oN, oN, oS [1, 2, 12, 15, 16], oN, oN, oN, oS [1, 2, 20]]), (2, [], [oS [4]]), (3, [], [oN, oN, oN, oS [1, 2, 22, 23, 24]]), (4, [], [oS [1, 2, 22, 23, 24, 25]]), (5, [], [oN, oN, oN, oN, oS [1, 2, 5, 6, 22, 23, 24]]), (6, [], [oN, oN, oN, oN, oS [1, 2, 5, 6, 22, 23, 24, 33], oN, oN, oN, oN, oS [1, 2, 5, 6, 22, 23, 24, 34, 37, 38], oN, oN, oN, oN, oS [1, 2, 5, 6, 22, 23, 24, 34, 37, 43], oN, oN, oN, oN, oS [1, 2, 5, 22, 23, 24, 48], oN, oN, oN, oN, oS [1, 2, 22, 23, 24, 48, 53], oN, oN, oN, oS [1, 2, 22, 23, 24, 57]]), (7, [], [oS [4]]), (8, [], [oN, oS [1, 2, 22, 23, 24]]), (9, [], [oS [4]])] Tryz.f123 = some ⟨2, 59, [.t 4], (tH s123_19)⟩ := by kernel_rfl
theorem v_impl_ruleOk (hl : vs.length = 2) (h : wpV Tryz.prog (tH s123_19) (postV [.t 4] RV) (envV vs) M) : VCall Tryz.prog n_impl_ruleOk vs M RV :=
  vcall_of_wp (fun _ _ _ hl h => acall_of_wp mixed Tryz.func123 c123 (by kernel_rfl) hl h) hl h
@[go_sem] def l122_0 (_ : Unit) : KL := [kA 2 (.box (.t 0)),
  kB 3 (.mv (.c (.bool false))) [1, 2]]
@[go_sem] def l122_1 (_ : Unit) : KL := [kA 4 (.load (.t 2) 3 true),
  kA 5 (.faddr (.t 1) 0),
  kA 6 (.load (.t 5) 1 false),
  kA 7 (.len (.t 6)),
  kB 8 (.call (n_impl_ruleOk) [(.t 4), (.t 7)]) [8],
  kA 9 (.un .not (.t 8)),
  kB 3 (.mv (.t 9)) [3]]
@[go_sem] def s122_2 (_ : Unit) : IR := (sQ [(kT l122_0), (kT l122_1), .ret])
theorem c122 : compFn Tryz.prog [(0, [], [oN, oS [1, 2]]), (1, [], [oN, oN, oN, oN, oS [8], oN, oS [3]])] Tryz.f122 = some ⟨2, 10, [.t 3], (tH s122_2)⟩ := by kernel_rfl
theorem v_impl_SystemValid_2 (hl : vs.length = 2) (h : wpV Tryz.prog (tH s122_2) (postV [.t 3] RV) (envV vs) M) : VCall Tryz.prog n_impl_SystemValid_2 vs M RV :=
  vcall_of_wp (fun _ _ _ hl h => acall_of_wp mixed Tryz.func122 c122 (by kernel_rfl) hl h) hl h
@[go_sem] def l148_0 (_ : Unit) : KL := [kB 4 (.mv (cI 0)) [0, 1]]
@[go_sem] def l148_1 (_ : Unit) : KL := [kA 6 (.mv (.t 0)),
  kA 7 (.len (.t 6)),
  kB 8 (.mv (cI 0)) [0, 1, 7, 8]]
@[go_sem] def l148_2 (_ : Unit) : KL := [kB 9 (.bin .lss (.t 8) (.t 7)) [0, 1, 7, 8, 9]]
@[go_sem] def l148_3 (_ : Unit) : KL := [kA 10 (.mv (.t 8)),
  kB 5 (.mv (.t 10)) [0, 1, 5, 7, 8]]
@[go_sem] def l148_4 (_ : Unit) : KL := [kA 11 (.mv (.t 1)),
  kA 12 (.mv (.t 0)),
  kA 13 (.mv (.t 5)),
  kA 14 (.iaddr (.t 12) (.t 13) 3),
  kB 15 (.load (.t 14) 3 true) [0, 1, 5, 7, 8, 11, 15],
  kB 16 (.callv (.t 11) [(.t 15)]) [0, 1, 5, 7, 8, 16]]
@[go_sem] def l148_5 (_ : Unit) : KL := [kA 17 (.mv (.t 5)),
  kB 4 (.mv (.t 17)) [4]]
@[go_sem] def s148_6 (_ : Unit) : IR := (sQ [(kT l148_5), .ret])
@[go_sem] def s148_7 (_ : Unit) : IR := (sQ [(kT l148_3), (kT l148_4), (.cond (.t 16) (tH s148_6) .skip)])
@[go_sem] def s148_8 (_ : Unit) : IR := (.block 1 (tH s148_7))
@[go_sem] def l148_9 (_ : Unit) : KL := [kA 18 (.bin .add (.t 8) (cI 1)),
  kB 8 (.mv (.t 18)) [0, 1, 7, 8]]
@[go_sem] def s148_10 (_ : Unit) : IR := (sQ [(kT l148_2), (.cond (.t 9) .skip (.exit 0)), (tH s148_8), (kT l148_9)])
@[go_sem] def s148_11 (_ : Unit) : IR := (.loop (tH s148_10))
@[go_sem] def s148_12 (_ : Unit) : IR := (.block 0 (tH s148_11))
@[go_sem] def s148_13 (_ : Unit) : IR := (sQ [(kT l148_1), (tH s148_12)])
@[go_sem] def l148_14 (_ : Unit) : KL := [kB 4 (.mv (.c (.int .i64 (-1)))) [4]]
@[go_sem] def s148_15 (_ : Unit) : IR := (sQ [(kT l148_0), (tH s148_13), (kT l148_14), .ret])
theorem c148 : compFn Tryz.prog [(0, [], [oS [0, 1]]), (1, [], [oN, oN, oS [0, 1, 7, 8]]), (2, [], [oS [0, 1, 7, 8, 9]]), (3, [], [oN, oS [0, 1, 5, 7, 8]]), (4, [], [oN, oN, oN, oN, oS [0, 1, 5, 7, 8, 11, 15], oS [0, 1, 5, 7, 8, 16]]), (5, [], [oN, oS [4]]), (6, [], [oN, oS [0, 1, 7, 8]]), (7, [], [oS [4]])] Tryz.f148 = some ⟨2, 19, [.t 4], (tH s148_15)⟩ := by kernel_rfl
theorem v_slices_IndexFunc_Simpl_Rule_impl_Rule (hl : vs.length = 2) (h : wpV Tryz.prog (tH s148_15) (postV [.t 4] RV) (envV vs) M) : VCall Tryz.prog n_slices_IndexFunc_Simpl_Rule_impl_Rule vs M RV :=
  vcall_of_wp (fun _ _ _ hl h => acall_of_wp mixed Tryz.func148 c148 (by kernel_rfl) hl h) hl h
@[go_sem] def l121_0 (_ : Unit) : KL := [kB 4 (.mv (.c (.bool false))) [0, 1]]
@[go_sem] def l121_1 (_ : Unit) : KL := [kA 5 (.mv (.t 0)),
  kA 6 (.mv (.t 1)),
  kA 7 (.call (n_slices_IndexFunc_Simpl_Rule_impl_Rule) [(.t 5), (.t 6)]),
  kA 8 (.bin .geq (.t 7) (cI 0)),
  kB 4 (.mv (.t 8)) [4]]
@[go_sem] def s121_2 (_ : Unit) : IR := (sQ [(kT l121_0), (kT l121_1), .ret])
theorem c121 : compFn Tryz.prog [(0, [], [oS [0, 1]]), (1, [], [oN, oN, oN, oN, oS [4]])] Tryz.f121 = some ⟨2, 9, [.t 4], (tH s121_2)⟩ := by kernel_rfl
theorem v_slices_ContainsFunc_Simpl_Rule_impl_Rule (hl : vs.length = 2) (h : wpV Tryz.prog (tH s121_2) (postV [.t 4] RV) (envV vs) M) : VCall Tryz.prog n_slices_ContainsFunc_Simpl_Rule_impl_Rule vs M RV :=
  vcall_of_wp (fun _ _ _ hl h => acall_of_wp mixed Tryz.func121 c121 (by kernel_rfl) hl h) hl h
@[go_sem] def l71_0 (_ : Unit) : KL := [kA 1 (.box (.t 0)),
  kB 2 (.mv (.c (.bool false))) [1]]
@[go_sem] def l71_1 (_ : Unit) : KL := [kA 3 (.faddr (.t 1) 0),
  kA 4 (.load (.t 3) 1 false),
  kA 5 (.len (.t 4)),
  kA 6 (.call (n_impl_in) [(.t 5), (cI 1), (.c (.int .i64 5))]),
  kB 7 (.un .not (.t 6)) [1, 7],
  kA 8 (.mv (.t 7)),
  (⟨(some 9), .faddr (.t 1) 1, (some (8, false))⟩, none),
  (⟨(some 10), .load (.t 9) 1 false, (some (8, false))⟩, none),
  (⟨(some 11), .len (.t 10), (some (8, false))⟩, none),
  (⟨(some 12), .bin .gtr (.t 11) (.c (.int .i64 8)), (some (8, false))⟩, (some [1, 8, 12])),
  kA 13 (.pick (.t 8) (.c (.bool true)) (.t 12)),
  kA 14 (.mv (.t 13)),
  (⟨(some 15), .faddr (.t 1) 0, (some (14, false))⟩, none),
  (⟨(some 16), .load (.t 15) 1 false, (some (14, false))⟩, none),
  (⟨(some 17), .call (n_slices_ContainsFunc_Simpl_Var_impl_Var) [(.t 16), (.c (.fn (n_impl_SystemValid_1) []))], (some (14, false))⟩, (some [1, 14, 17])),
  kA 18 (.pick (.t 14) (.c (.bool true)) (.t 17)),
  kA 19 (.mv (.t 18)),
  (⟨(some 20), .faddr (.t 1) 0, (some (19, false))⟩, none),
  (⟨(some 21), .load (.t 20) 1 false, (some (19, false))⟩, none),
  (⟨(some 22), .call (n_impl_size) [(.t 21)], (some (19, false))⟩, (some [1, 19, 22])),
  (⟨(some 23), .bin .gtr (.t 22) (.c (.int .i64 400)), (some (19, false))⟩, none),
  kB 24 (.pick (.t 19) (.c (.bool true)) (.t 23)) [1, 24]]
@[go_sem] def l71_2 (_ : Unit) : KL := [kB 2 (.mv (.c (.bool false))) [2]]
@[go_sem] def s71_3 (_ : Unit) : IR := (sQ [(kT l71_2), .ret])
@[go_sem] def s71_4 (_ : Unit) : IR := (sQ [(kT l71_1), (.cond (.t 24) (tH s71_3) .skip)])
@[go_sem] def l71_5 (_ : Unit) : KL := [kA 25 (.faddr (.t 1) 1),
  kA 26 (.load (.t 25) 1 false),
  kA 27 (.mkfn (n_impl_SystemValid_2) [(.t 1)]),
  kA 28 (.call (n_slices_ContainsFunc_Simpl_Rule_impl_Rule) [(.t 26), (.t 27)]),
  kB 29 (.un .not (.t 28)) [29],
  kB 2 (.mv (.t 29)) [2]]
@[go_sem] def s71_6 (_ : Unit) : IR := (sQ [(kT l71_0), (tH s71_4), (kT l71_5), .ret])
theorem c71 : compFn Tryz.prog [(0, [], [oN, oS [1]]), (1, [], [oN, oN, oN, oN, oS [1, 7], oN, oN, oN, oN, oS [1, 8, 12], oN, oN, oN, oN, oS [1, 14, 17], oN, oN, oN, oN, oS [1, 19, 22], oN, oS [1, 24]]), (2, [], [oS [2]]), (3, [], [oN, oN, oN, oN, oS [29], oS [2]])] Tryz.f71 = some ⟨1, 30, [.t 2], (tH s71_6)⟩ := by kernel_rfl
theorem v_impl_SystemValid (hl : vs.length = 1) (h : wpV Tryz.prog (tH s71_6) (postV [.t 2] RV) (envV vs) M) : VCall Tryz.prog n_impl_SystemValid vs M RV :=
  vcall_of_wp (fun _ _ _ hl h => acall_of_wp mixed Tryz.func71 c71 (by kernel_rfl) hl h) hl h
@[go_sem] def l110_0 (_ : Unit) : KL := [kA 2 (.box (.t 0)),
  kB 4 (.mv (.c (.sl none 0 0 true 0))) [1, 2]]
@[go_sem] def l110_1 (_ : Unit) : KL := [kA 9 (.faddr (.t 2) 0),
  kA 10 (.load (.t 9) 1 false),
  kA 11 (.len (.t 10)),
  kA 12 (.mks [(.int .i64 0)] 8 (.t 11)),
  kB 5 (.mv (.t 12)) [1, 2, 5]]
@[go_sem] def l110_2 (_ : Unit) : KL := [kA 13 (.mv (.t 5)),
  kA 14 (.len (.t 13)),
  kA 15 (.bin .sub (.t 14) (cI 1)),
  kB 6 (.mv (.t 15)) [1, 2, 5, 6]]
@[go_sem] def l110_3 (_ : Unit) : KL := [kA 16 (.mv (.t 6)),
  kB 17 (.bin .geq (.t 16) (cI 0)) [1, 2, 5, 6, 17]]
@[go_sem] def s110_4 (_ : Unit) : IR := (sQ [(kT l110_3), (.cond (.t 17) .skip (.exit 0))])
@[go_sem] def l110_5 (_ : Unit) : KL := [kA 20 (.faddr (.t 2) 0),
  kA 21 (.load (.t 20) 1 false),
  kA 22 (.mv (.t 6)),
  kA 23 (.iaddr (.t 21) (.t 22) 3),
  kB 24 (.load (.t 23) 3 true) [1, 2, 5, 6, 24],
  kA 7 (.alloc [(.int .i64 0), (.int .i64 0), (.int .i64 0)]),
  (⟨none, .store (.t 7) 3 (.t 24), none⟩, (some [1, 2, 5, 6, 7]))]
@[go_sem] def l110_6 (_ : Unit) : KL := [kA 25 (.faddr (.t 7) 1),
  kA 26 (.load (.t 25) 1 false),
  kA 27 (.faddr (.t 7) 0),
  kA 28 (.load (.t 27) 1 false),
  kB 29 (.bin .sub (.t 26) (.t 28)) [1, 2, 5, 6, 7, 29],
  kA 30 (.bin .add (.t 29) (cI 1)),
  kB 8 (.mv (.t 30)) [1, 2, 5, 6, 7, 8]]
@[go_sem] def l110_7 : Nat → GOp
  | 0 => ⟨(some 31), .mv (.t 5), none⟩
  | 1 => ⟨(some 32), .mv (.t 6), none⟩
  | 2 => ⟨(some 33), .faddr (.t 7) 0, none⟩
  | 3 => ⟨(some 34), .load (.t 33) 1 false, none⟩
  | 4 => ⟨(some 35), .mv (.t 1), none⟩
  | 5 => ⟨(some 36), .mv (.t 8), none⟩
  | 6 => ⟨(some 37), .bin .rem (.t 35) (.t 36), none⟩
  | 7 => ⟨(some 38), .bin .add (.t 34) (.t 37), none⟩
  | 8 => ⟨(some 39), .iaddr (.t 31) (.t 32) 1, none⟩
  | 9 => ⟨none, .store (.t 39) 1 (.t 38), none⟩
  | _ => ⟨none, .mkmap, none⟩
@[go_sem] def l110_8 (_ : Unit) : KL := [kA 40 (.mv (.t 1)),
  kA 41 (.mv (.t 8)),
  kA 42 (.bin .quo (.t 40) (.t 41)),
  kB 1 (.mv (.t 42)) [1, 2, 5, 6]]
@[go_sem] def s110_9 (_ : Unit) : IR := (sQ [(kT l110_5), (kT l110_6), (.kd (oF l110_7 10) [(0, []), (1, []), (2, []), (3, []), (4, []), (5, []), (6, []), (7, []), (8, []), (9, [])] [1, 2, 5, 6, 8]), (kT l110_8)])
@[go_sem] def s110_10 (_ : Unit) : IR := (.block 1 (tH s110_9))
@[go_sem] def l110_11 (_ : Unit) : KL := [kA 18 (.mv (.t 6)),
  kA 19 (.bin .sub (.t 18) (cI 1)),
  kB 6 (.mv (.t 19)) [1, 2, 5, 6]]
@[go_sem] def s110_12 (_ : Unit) : IR := (sQ [(tH s110_4), (tH s110_10), (kT l110_11)])
@[go_sem] def s110_13 (_ : Unit) : IR := (.loop (tH s110_12))
@[go_sem] def s110_14 (_ : Unit) : IR := (.block 0 (tH s110_13))
@[go_sem] def s110_15 (_ : Unit) : IR := (sQ [(kT l110_2), (tH s110_14)])
@[go_sem] def l110_16 (_ : Unit) : KL := [kA 43 (.mv (.t 5)),
  kB 4 (.mv (.t 43)) [4]]
@[go_sem] def s110_17 (_ : Unit) : IR := (sQ [(kT l110_0), (kT l110_1), (tH s110_15), (kT l110_16), .ret])
theorem c110 : compFn Tryz.prog [(0, [], [oN, oS [1, 2]]), (1, [], [oN, oN, oN, oN, oS [1, 2, 5]]), (2, [], [oN, oN, oN, oS [1, 2, 5, 6]]), (3, [], [oN, oS [1, 2, 5, 6, 17]]), (5, [], [oN, oN, oN, oN, oS [1, 2, 5, 6, 24], oN, oS [1, 2, 5, 6, 7]]), (6, [], [oN, oN, oN, oN, oS [1, 2, 5, 6, 7, 29], oN, oS [1, 2, 5, 6, 7, 8]]), (7, [(0, []), (1, []), (2, []), (3, []), (4, []), (5, []), (6, []), (7, []), (8, []), (9, [])], [oS [1, 2, 5, 6, 8]]), (8, [], [oN, oN, oN, oS [1, 2, 5, 6]]), (4, [], [oN, oN, oS [1, 2, 5, 6]]), (9, [], [oN, oS [4]])] Tryz.f110 = some ⟨2, 44, [.t 4], (tH s110_17)⟩ := by kernel_rfl
theorem v_impl_stateAt (hl : vs.length = 2) (h : wpV Tryz.prog (tH s110_17) (postV [.t 4] RV) (envV vs) M) : VCall Tryz.prog n_impl_stateAt vs M RV :=
  vcall_of_wp (fun _ _ _ hl h => acall_of_wp mixed Tryz.func110 c110 (by kernel_rfl) hl h) hl h
@[go_sem] def l170_0 (_ : Unit) : KL := [kB 2 (.mv (cI 0)) [0]]
@[go_sem] def l170_1 (_ : Unit) : KL := [kA 3 (.mv (.t 0)),
  kA 4 (.mnx false (.c (.int .i64 9999)) (.t 3)),
  kA 5 (.mnx true (.c (.int .i64 (-9999))) (.t 4)),
  kB 2 (.mv (.t 5)) [2]]
@[go_sem] def s170_2 (_ : Unit) : IR := (sQ [(kT l170_0), (kT l170_1), .ret])
theorem c170 : compFn Tryz.prog [(0, [], [oS [0]]), (1, [], [oN, oN, oN, oS [2]])] Tryz.f170 = some ⟨1, 6, [.t 2], (tH s170_2)⟩ := by kernel_rfl
theorem v_impl_held (hl : vs.length = 1) (h : wpV Tryz.prog (tH s170_2) (postV [.t 2] RV) (envV vs) M) : VCall Tryz.prog n_impl_held vs M RV :=
  vcall_of_wp (fun _ _ _ hl h => acall_of_wp mixed Tryz.func170 c170 (by kernel_rfl) hl h) hl h
@[go_sem] def l171_0 (_ : Unit) : KL := [kB 2 (.mv (cI 0)) [0]]
@[go_sem] def l171_1 (_ : Unit) : KL := [kB 3 (.mv (.t 0)) [3]]
@[go_sem] def l171_2 (_ : Unit) : KL := [kB 2 (.mv (cI 1)) [2]]
@[go_sem] def s171_3 (_ : Unit) : IR := (sQ [(kT l171_2), .ret])
@[go_sem] def s171_4 (_ : Unit) : IR := (sQ [(kT l171_1), (.cond (.t 3) (tH s171_3) .skip)])
@[go_sem] def l171_5 (_ : Unit) : KL := [kB 2 (.mv (cI 0)) [2]]
@[go_sem] def s171_6 (_ : Unit) : IR := (sQ [(kT l171_0), (tH s171_4), (kT l171_5), .ret])
theorem c171 : compFn Tryz.prog [(0, [], [oS [0]]), (1, [], [oS [3]]), (2, [], [oS [2]]), (3, [], [oS [2]])] Tryz.f171 = some ⟨1, 4, [.t 2], (tH s171_6)⟩ := by kernel_rfl
theorem v_impl_bit (hl : vs.length = 1) (h : wpV Tryz.prog (tH s171_6) (postV [.t 2] RV) (envV vs) M) : VCall Tryz.prog n_impl_bit vs M RV :=
  vcall_of_wp (fun _ _ _ hl h => acall_of_wp mixed Tryz.func171 c171 (by kernel_rfl) hl h) hl h
@[go_sem] def l165_0 (_ : Unit) : KL := [kB 6 (.mv (cI 0)) [0, 1, 2]]
@[go_sem] def l165_1 (_ : Unit) : KL := [kB 7 (.mv (.t 0)) [1, 2, 7]]
@[go_sem] def l165_2 (_ : Unit) : KL := [kA 9 (.bin .eql (.t 7) (.c (.int .i64 2))),
  kB 8 (.mv (.t 9)) [1, 2, 7, 8]]
@[go_sem] def l165_3 (_ : Unit) : KL := [kA 10 (.mv (.t 1)),
  kA 11 (.mv (.t 2)),
  kA 12 (.bin .add (.t 10) (.t 11)),
  kA 13 (.call (n_impl_held) [(.t 12)]),
  kB 6 (.mv (.t 13)) [6]]
@[go_sem] def s165_4 (_ : Unit) : IR := (sQ [(kT l165_3), .ret])
@[go_sem] def l165_5 (_ : Unit) : KL := [kA 15 (.bin .eql (.t 7) (.c (.int .i64 3))),
  kB 14 (.mv (.t 15)) [1, 2, 7, 14]]
@[go_sem] def l165_6 (_ : Unit) : KL := [kA 16 (.mv (.t 1)),
  kA 17 (.mv (.t 2)),
  kA 18 (.bin .sub (.t 16) (.t 17)),
  kA 19 (.call (n_impl_held) [(.t 18)]),
  kB 6 (.mv (.t 19)) [6]]
@[go_sem] def s165_7 (_ : Unit) : IR := (sQ [(kT l165_6), .ret])
@[go_sem] def l165_8 (_ : Unit) : KL := [kA 21 (.bin .eql (.t 7) (.c (.int .i64 4))),
  kB 20 (.mv (.t 21)) [1, 2, 7, 20]]
@[go_sem] def l165_9 (_ : Unit) : KL := [kA 22 (.mv (.t 1)),
  kA 23 (.mv (.t 2)),
  kA 24 (.bin .mul (.t 22) (.t 23)),
  kA 25 (.call (n_impl_held) [(.t 24)]),
  kB 6 (.mv (.t 25)) [6]]
@[go_sem] def s165_10 (_ : Unit) : IR := (sQ [(kT l165_9), .ret])
@[go_sem] def l165_11 (_ : Unit) : KL := [kA 27 (.bin .eql (.t 7) (.c (.int .i64 5))),
  kB 26 (.mv (.t 27)) [1, 2, 7, 26]]
@[go_sem] def l165_12 (_ : Unit) : KL := [kA 28 (.mv (.t 1)),
  kA 29 (.mv (.t 2)),
  kA 30 (.bin .lss (.t 28) (.t 29)),
  kA 31 (.call (n_impl_bit) [(.t 30)]),
  kB 6 (.mv (.t 31)) [6]]
@[go_sem] def s165_13 (_ : Unit) : IR := (sQ [(kT l165_12), .ret])
@[go_sem] def l165_14 (_ : Unit) : KL := [kA 33 (.bin .eql (.t 7) (.c (.int .i64 6))),
  kB 32 (.mv (.t 33)) [1, 2, 7, 32]]
@[go_sem] def l165_15 (_ : Unit) : KL := [kA 34 (.mv (.t 1)),
  kA 35 (.mv (.t 2)),
  kA 36 (.bin .eql (.t 34) (.t 35)),
  kA 37 (.call (n_impl_bit) [(.t 36)]),
  kB 6 (.mv (.t 37)) [6]]
@[go_sem] def s165_16 (_ : Unit) : IR := (sQ [(kT l165_15), .ret])
@[go_sem] def l165_17 (_ : Unit) : KL := [kA 39 (.bin .eql (.t 7) (.c (.int .i64 7))),
  kB 38 (.mv (.t 39)) [1, 2, 7, 38]]
@[go_sem] def l165_18 (_ : Unit) : KL := [kA 40 (.mv (.t 1)),
  kA 41 (.bin .sub (cI 1) (.t 40)),
  kB 6 (.mv (.t 41)) [6]]
@[go_sem] def s165_19 (_ : Unit) : IR := (sQ [(kT l165_18), .ret])
@[go_sem] def l165_20 (_ : Unit) : KL := [kA 43 (.bin .eql (.t 7) (.c (.int .i64 8))),
  kB 42 (.mv (.t 43)) [1, 2, 42]]
@[go_sem] def l165_21 (_ : Unit) : KL := [kA 44 (.mv (.t 1)),
  kA 45 (.mv (.t 2)),
  kA 46 (.mnx false (.t 44) (.t 45)),
  kB 6 (.mv (.t 46)) [6]]
@[go_sem] def s165_22 (_ : Unit) : IR := (sQ [(kT l165_21), .ret])
@[go_sem] def s165_23 (_ : Unit) : IR := (sQ [(kT l165_20), (.cond (.t 42) (tH s165_22) .skip)])
@[go_sem] def s165_24 (_ : Unit) : IR := (sQ [(kT l165_17), (.cond (.t 38) (tH s165_19) (tH s165_23))])
@[go_sem] def s165_25 (_ : Unit) : IR := (sQ [(kT l165_14), (.cond (.t 32) (tH s165_16) (tH s165_24))])
@[go_sem] def s165_26 (_ : Unit) : IR := (sQ [(kT l165_11), (.cond (.t 26) (tH s165_13) (tH s165_25))])
@[go_sem] def s165_27 (_ : Unit) : IR := (sQ [(kT l165_8), (.cond (.t 20) (tH s165_10) (tH s165_26))])
@[go_sem] def s165_28 (_ : Unit) : IR := (sQ [(kT l165_5), (.cond (.t 14) (tH s165_7) (tH s165_27))])
@[go_sem] def s165_29 (_ : Unit) : IR := (sQ [(kT l165_2), (.cond (.t 8) (tH s165_4) (tH s165_28))])
@[go_sem] def s165_30 (_ : Unit) : IR := (.block 0 (tH s165_29))
@[go_sem] def s165_31 (_ : Unit) : IR := (sQ [(kT l165_1), (tH s165_30)])
@[go_sem] def l165_32 (_ : Unit) : KL := [kA 47 (.mv (.t 1)),
  kA 48 (.mv (.t 2)),
  kA 49 (.mnx true (.t 47) (.t 48)),
  kB 6 (.mv (.t 49)) [6]]
@[go_sem] def s165_33 (_ : Unit) : IR := (sQ [(kT l165_0), (tH s165_31), (kT l165_32), .ret])
theorem c165 : compFn Tryz.prog [(0, [], [oS [0, 1, 2]]), (1, [], [oS [1, 2, 7]]), (2, [], [oN, oS [1, 2, 7, 8]]), (3, [], [oN, oN, oN, oN, oS [6]]), (4, [], [oN, oS [1, 2, 7, 14]]), (5, [], [oN, oN, oN, oN, oS [6]]), (6, [], [oN, oS [1, 2, 7, 20]]), (7, [], [oN, oN, oN, oN, oS [6]]), (8, [], [oN, oS [1, 2, 7, 26]]), (9, [], [oN, oN, oN, oN, oS [6]]), (10, [], [oN, oS [1, 2, 7, 32]]), (11, [], [oN, oN, oN, oN, oS [6]]), (12, [], [oN, oS [1, 2, 7, 38]]), (13, [], [oN, oN, oS [6]]), (14, [], [oN, oS [1, 2, 42]]), (15, [], [oN, oN, oN, oS [6]]), (16, [], [oN, oN, oN, oS [6]])] Tryz.f165 = some ⟨3, 50, [.t 6], (tH s165_33)⟩ := by kernel_rfl
theorem v_impl_do (hl : vs.length = 3) (h : wpV Tryz.prog (tH s165_33) (postV [.t 6] RV) (envV vs) M) : VCall Tryz.prog n_impl_do vs M RV :=
  vcall_of_wp (fun _ _ _ hl h => acall_of_wp mixed Tryz.func165 c165 (by kernel_rfl) hl h) hl h
@[go_sem] def l155_0 (_ : Unit) : KL := [kB 4 (.mv (cI 0)) [0, 1]]
@[go_sem] def l155_1 (_ : Unit) : KL := [kA 8 (.mv (.t 0)),
  kA 9 (.len (.t 8)),
  kA 10 (.mks [(.int .i64 0)] 8 (.t 9)),
  kB 5 (.mv (.t 10)) [0, 1, 5]]
@[go_sem] def l155_2 (_ : Unit) : KL := [kA 11 (.mv (.t 0)),
  kA 12 (.len (.t 11)),
  kB 13 (.mv (cI 0)) [1, 5, 11, 12, 13]]
@[go_sem] def l155_3 (_ : Unit) : KL := [kB 14 (.bin .lss (.t 13) (.t 12)) [1, 5, 11, 12, 13, 14]]
@[go_sem] def l155_4 (_ : Unit) : KL := [kA 15 (.mv (.t 13)),
  kA 16 (.iaddr (.t 11) (.t 13) 4),
  kA 17 (.load (.t 16) 4 true),
  kA 7 (.alloc [(.int .i64 0), (.int .i64 0), (.int .i64 0), (.int .i64 0)]),
  kB 6 (.mv (.t 15)) [1, 5, 6, 7, 11, 12, 13, 17],
  (⟨none, .store (.t 7) 4 (.t 17), none⟩, (some [1, 5, 6, 7, 11, 12, 13]))]
@[go_sem] def l155_5 (_ : Unit) : KL := [kA 18 (.faddr (.t 7) 0),
  kB 19 (.load (.t 18) 1 false) [1, 5, 6, 7, 11, 12, 13, 19]]
@[go_sem] def l155_6 (_ : Unit) : KL := [kA 37 (.bin .eql (.t 19) (cI 0)),
  kB 36 (.mv (.t 37)) [1, 5, 6, 7, 11, 12, 13, 19, 36]]
@[go_sem] def l155_7 (_ : Unit) : KL := [kA 38 (.mv (.t 5)),
  kA 39 (.mv (.t 6)),
  kA 40 (.faddr (.t 7) 1),
  kA 41 (.load (.t 40) 1 false),
  kB 42 (.iaddr (.t 38) (.t 39) 1) [1, 5, 11, 12, 13, 41, 42],
  (⟨none, .store (.t 42) 1 (.t 41), none⟩, (some [1, 5, 11, 12, 13]))]
@[go_sem] def l155_8 (_ : Unit) : KL := [kA 44 (.bin .eql (.t 19) (cI 1)),
  kB 43 (.mv (.t 44)) [1, 5, 6, 7, 11, 12, 13, 43]]
@[go_sem] def l155_9 (_ : Unit) : KL := [kA 45 (.mv (.t 5)),
  kA 46 (.mv (.t 6)),
  kA 47 (.mv (.t 1)),
  kA 48 (.faddr (.t 7) 1),
  kB 49 (.load (.t 48) 1 false) [1, 5, 11, 12, 13, 45, 46, 47, 49],
  kA 50 (.iaddr (.t 47) (.t 49) 1),
  kA 51 (.load (.t 50) 1 false),
  kA 52 (.iaddr (.t 45) (.t 46) 1),
  (⟨none, .store (.t 52) 1 (.t 51), none⟩, (some [1, 5, 11, 12, 13]))]
@[go_sem] def l155_10 : Nat → GOp
  | 0 => ⟨(some 20), .mv (.t 5), none⟩
  | 1 => ⟨(some 21), .mv (.t 6), none⟩
  | 2 => ⟨(some 22), .faddr (.t 7) 0, none⟩
  | 3 => ⟨(some 23), .load (.t 22) 1 false, none⟩
  | 4 => ⟨(some 24), .mv (.t 5), none⟩
  | 5 => ⟨(some 25), .faddr (.t 7) 2, none⟩
  | 6 => ⟨(some 26), .load (.t 25) 1 false, none⟩
  | 7 => ⟨(some 27), .iaddr (.t 24) (.t 26) 1, none⟩
  | 8 => ⟨(some 28), .load (.t 27) 1 false, none⟩
  | 9 => ⟨(some 29), .mv (.t 5), none⟩
  | 10 => ⟨(some 30), .faddr (.t 7) 3, none⟩
  | 11 => ⟨(some 31), .load (.t 30) 1 false, none⟩
  | 12 => ⟨(some 32), .iaddr (.t 29) (.t 31) 1, none⟩
  | 13 => ⟨(some 33), .load (.t 32) 1 false, none⟩
  | 14 => ⟨(some 34), .call (n_impl_do) [(.t 23), (.t 28), (.t 33)], none⟩
  | 15 => ⟨(some 35), .iaddr (.t 20) (.t 21) 1, none⟩
  | 16 => ⟨none, .store (.t 35) 1 (.t 34), none⟩
  | _ => ⟨none, .mkmap, none⟩
@[go_sem] def s155_11 (_ : Unit) : IR := (sQ [(kT l155_8), (.cond (.t 43) (kT l155_9) (.kd (oF l155_10 17) [(0, []), (1, []), (2, []), (3, []), (4, []), (5, []), (6, []), (7, []), (8, []), (9, []), (10, []), (11, []), (12, []), (13, []), (14, []), (15, []), (16, [])] [1, 5, 11, 12, 13]))])
@[go_sem] def s155_12 (_ : Unit) : IR := (sQ [(kT l155_6), (.cond (.t 36) (kT l155_7) (tH s155_11))])
@[go_sem] def s155_13 (_ : Unit) : IR := (.block 2 (tH s155_12))
@[go_sem] def s155_14 (_ : Unit) : IR := (sQ [(kT l155_4), (kT l155_5), (tH s155_13)])
@[go_sem] def s155_15 (_ : Unit) : IR := (.block 1 (tH s155_14))
@[go_sem] def l155_16 (_ : Unit) : KL := [kA 53 (.bin .add (.t 13) (cI 1)),
  kB 13 (.mv (.t 53)) [1, 5, 11, 12, 13]]
@[go_sem] def s155_17 (_ : Unit) : IR := (sQ [(kT l155_3), (.cond (.t 14) .skip (.exit 0)), (tH s155_15), (kT l155_16)])
@[go_sem] def s155_18 (_ : Unit) : IR := (.loop (tH s155_17))
@[go_sem] def s155_19 (_ : Unit) : IR := (.block 0 (tH s155_18))
@[go_sem] def s155_20 (_ : Unit) : IR := (sQ [(kT l155_2), (tH s155_19)])
@[go_sem] def l155_21 (_ : Unit) : KL := [kA 54 (.mv (.t 5)),
  kA 55 (.mv (.t 5)),
  kA 56 (.len (.t 55)),
  kA 57 (.bin .sub (.t 56) (cI 1)),
  kB 58 (.iaddr (.t 54) (.t 57) 1) [58],
  kA 59 (.load (.t 58) 1 false),
  kB 4 (.mv (.t 59)) [4]]
@[go_sem] def s155_22 (_ : Unit) : IR := (sQ [(kT l155_0), (kT l155_1), (tH s155_20), (kT l155_21), .ret])
theorem c155 : compFn Tryz.prog [(0, [], [oS [0, 1]]), (1, [], [oN, oN, oN, oS [0, 1, 5]]), (2, [], [oN, oN, oS [1, 5, 11, 12, 13]]), (3, [], [oS [1, 5, 11, 12, 13, 14]]), (4, [], [oN, oN, oN, oN, oS [1, 5, 6, 7, 11, 12, 13, 17], oS [1, 5, 6, 7, 11, 12, 13]]), (5, [], [oN, oS [1, 5, 6, 7, 11, 12, 13, 19]]), (7, [], [oN, oS [1, 5, 6, 7, 11, 12, 13, 19, 36]]), (8, [], [oN, oN, oN, oN, oS [1, 5, 11, 12, 13, 41, 42], oS [1, 5, 11, 12, 13]]), (9, [], [oN, oS [1, 5, 6, 7, 11, 12, 13, 43]]), (10, [], [oN, oN, oN, oN, oS [1, 5, 11, 12, 13, 45, 46, 47, 49], oN, oN, oN, oS [1, 5, 11, 12, 13]]), (6, [(0, []), (1, []), (2, []), (3, []), (4, []), (5, []), (6, []), (7, []), (8, []), (9, []), (10, []), (11, []), (12, []), (13, []), (14, []), (15, []), (16, [])], [oS [1, 5, 11, 12, 13]]), (11, [], [oN, oS [1, 5, 11, 12, 13]]), (12, [], [oN, oN, oN, oN, oS [58], oN, oS [4]])] Tryz.f155 = some ⟨2, 60, [.t 4], (tH s155_22)⟩ := by kernel_rfl
theorem v_impl_eval (hl : vs.length = 2) (h : wpV Tryz.prog (tH s155_22) (postV [.t 4] RV) (envV vs) M) : VCall Tryz.prog n_impl_eval vs M RV :=
  vcall_of_wp (fun _ _ _ hl h => acall_of_wp mixed Tryz.func155 c155 (by kernel_rfl) hl h) hl h
@[go_sem] def l78_0 (_ : Unit) : KL := [kB 2 (.mv (.c (.sl none 0 0 true 0))) [0]]
@[go_sem] def l78_1 (_ : Unit) : KL := [kA 4 (.mv (.t 0)),
  kA 5 (.len (.t 4)),
  kB 6 (.bin .eql (.t 5) (cI 0)) [0, 6]]
@[go_sem] def l78_2 (_ : Unit) : KL := [kB 2 (.mv (.c (.sl none 0 0 true 0))) [2]]
@[go_sem] def s78_3 (_ : Unit) : IR := (sQ [(kT l78_2), .ret])
@[go_sem] def s78_4 (_ : Unit) : IR := (sQ [(kT l78_1), (.cond (.t 6) (tH s78_3) .skip)])
@[go_sem] def l78_5 (_ : Unit) : KL := [kA 7 (.mv (.t 0)),
  kA 8 (.len (.t 7)),
  kA 9 (.mks [(.int .i64 0)] 8 (.t 8)),
  kB 3 (.mv (.t 9)) [0, 3]]
@[go_sem] def l78_6 (_ : Unit) : KL := [kA 10 (.mv (.t 3)),
  kA 11 (.mv (.t 0)),
  kB 12 (.copy 1 (.t 10) (.t 11)) [3]]
@[go_sem] def l78_7 (_ : Unit) : KL := [kA 13 (.mv (.t 3)),
  kB 2 (.mv (.t 13)) [2]]
@[go_sem] def s78_8 (_ : Unit) : IR := (sQ [(kT l78_0), (tH s78_4), (kT l78_5), (kT l78_6), (kT l78_7), .ret])
theorem c78 : compFn Tryz.prog [(0, [], [oS [0]]), (1, [], [oN, oN, oS [0, 6]]), (2, [], [oS [2]]), (3, [], [oN, oN, oN, oS [0, 3]]), (4, [], [oN, oN, oS [3]]), (5, [], [oN, oS [2]])] Tryz.f78 = some ⟨1, 14, [.t 2], (tH s78_8)⟩ := by kernel_rfl
theorem v_impl_clone_int (hl : vs.length = 1) (h : wpV Tryz.prog (tH s78_8) (postV [.t 2] RV) (envV vs) M) : VCall Tryz.prog n_impl_clone_int vs M RV :=
  vcall_of_wp (fun _ _ _ hl h => acall_of_wp mixed Tryz.func78 c78 (by kernel_rfl) hl h) hl h
@[go_sem] def l156_0 (_ : Unit) : KL := [kA 2 (.box (.t 0)),
  kB 4 (.mv (.c (.bool false))) [1, 2]]
@[go_sem] def l156_1 (_ : Unit) : KL := [kA 7 (.mv (.t 1)),
  kA 8 (.len (.t 7)),
  kA 9 (.faddr (.t 2) 0),
  kA 10 (.load (.t 9) 1 false),
  kB 11 (.len (.t 10)) [1, 2, 8, 11],
  kB 12 (.bin .neq (.t 8) (.t 11)) [1, 2, 12]]
@[go_sem] def l156_2 (_ : Unit) : KL := [kB 4 (.mv (.c (.bool false))) [4]]
@[go_sem] def s156_3 (_ : Unit) : IR := (sQ [(kT l156_2), .ret])
@[go_sem] def s156_4 (_ : Unit) : IR := (sQ [(kT l156_1), (.cond (.t 12) (tH s156_3) .skip)])
@[go_sem] def l156_5 (_ : Unit) : KL := [kA 13 (.faddr (.t 2) 0),
  kA 14 (.load (.t 13) 1 false),
  kA 15 (.len (.t 14)),
  kB 16 (.mv (cI 0)) [1, 14, 15, 16]]
@[go_sem] def l156_6 (_ : Unit) : KL := [kB 17 (.bin .lss (.t 16) (.t 15)) [1, 14, 15, 16, 17]]
@[go_sem] def l156_7 (_ : Unit) : KL := [kA 18 (.mv (.t 16)),
  kA 19 (.iaddr (.t 14) (.t 16) 3),
  kA 20 (.load (.t 19) 3 true),
  kA 6 (.alloc [(.int .i64 0), (.int .i64 0), (.int .i64 0)]),
  kB 5 (.mv (.t 18)) [1, 5, 6, 14, 15, 16, 20],
  (⟨none, .store (.t 6) 3 (.t 20), none⟩, (some [1, 5, 6, 14, 15, 16]))]
@[go_sem] def l156_8 : Nat → GOp
  | 0 => ⟨(some 21), .mv (.t 1), none⟩
  | 1 => ⟨(some 22), .mv (.t 5), none⟩
  | 2 => ⟨(some 23), .iaddr (.t 21) (.t 22) 1, none⟩
  | 3 => ⟨(some 24), .load (.t 23) 1 false, none⟩
  | 4 => ⟨(some 25), .faddr (.t 6) 0, none⟩
  | 5 => ⟨(some 26), .load (.t 25) 1 false, none⟩
  | 6 => ⟨(some 27), .faddr (.t 6) 1, none⟩
  | 7 => ⟨(some 28), .load (.t 27) 1 false, none⟩
  | 8 => ⟨(some 29), .call (n_impl_in) [(.t 24), (.t 26), (.t 28)], none⟩
  | 9 => ⟨(some 30), .un .not (.t 29), none⟩
  | _ => ⟨none, .mkmap, none⟩
@[go_sem] def l156_9 (_ : Unit) : KL := [kB 4 (.mv (.c (.bool false))) [4]]
@[go_sem] def s156_10 (_ : Unit) : IR := (sQ [(kT l156_9), .ret])
@[go_sem] def s156_11 (_ : Unit) : IR := (sQ [(kT l156_7), (.kd (oF l156_8 10) [(0, []), (1, []), (2, []), (3, []), (4, []), (5, []), (6, []), (7, []), (8, []), (9, [])] [1, 14, 15, 16, 30]), (.cond (.t 30) (tH s156_10) .skip)])
@[go_sem] def s156_12 (_ : Unit) : IR := (.block 1 (tH s156_11))
@[go_sem] def l156_13 (_ : Unit) : KL := [kA 31 (.bin .add (.t 16) (cI 1)),
  kB 16 (.mv (.t 31)) [1, 14, 15, 16]]
@[go_sem] def s156_14 (_ : Unit) : IR := (sQ [(kT l156_6), (.cond (.t 17) .skip (.exit 0)), (tH s156_12), (kT l156_13)])
@[go_sem] def s156_15 (_ : Unit) : IR := (.loop (tH s156_14))
@[go_sem] def s156_16 (_ : Unit) : IR := (.block 0 (tH s156_15))
@[go_sem] def s156_17 (_ : Unit) : IR := (sQ [(kT l156_5), (tH s156_16)])
@[go_sem] def l156_18 (_ : Unit) : KL := [kB 4 (.mv (.c (.bool true))) [4]]
@[go_sem] def s156_19 (_ : Unit) : IR := (sQ [(kT l156_0), (tH s156_4), (tH s156_17), (kT l156_18), .ret])
theorem c156 : compFn Tryz.prog [(0, [], [oN, oS [1, 2]]), (1, [], [oN, oN, oN, oN, oS [1, 2, 8, 11], oS [1, 2, 12]]), (2, [], [oS [4]]), (3, [], [oN, oN, oN, oS [1, 14, 15, 16]]), (4, [], [oS [1, 14, 15, 16, 17]]), (5, [], [oN, oN, oN, oN, oS [1, 5, 6, 14, 15, 16, 20], oS [1, 5, 6, 14, 15, 16]]), (6, [(0, []), (1, []), (2, []), (3, []), (4, []), (5, []), (6, []), (7, []), (8, []), (9, [])], [oS [1, 14, 15, 16, 30]]), (7, [], [oS [4]]), (8, [], [oN, oS [1, 14, 15, 16]]), (9, [], [oS [4]])] Tryz.f156 = some ⟨2, 32, [.t 4], (tH s156_19)⟩ := by kernel_rfl
theorem v_impl_inRange (hl : vs.length = 2) (h : wpV Tryz.prog (tH s156_19) (postV [.t 4] RV) (envV vs) M) : VCall Tryz.prog n_impl_inRange vs M RV :=
  vcall_of_wp (fun _ _ _ hl h => acall_of_wp mixed Tryz.func156 c156 (by kernel_rfl) hl h) hl h
@[go_sem] def l139_0 (_ : Unit) : KL := [kA 3 (.box (.t 0)),
  kA 6 (.mv (.c (.sl none 0 0 true 0))),
  kB 7 (.mv (.c (.bool false))) [1, 2, 3]]
@[go_sem] def l139_1 (_ : Unit) : KL := [kA 12 (.faddr (.t 3) 1),
  kA 13 (.load (.t 12) 1 false),
  kA 14 (.mv (.t 2)),
  kA 15 (.iaddr (.t 13) (.t 14) 3),
  kB 16 (.load (.t 15) 3 true) [1, 3, 16],
  kA 8 (.alloc [(.sl none 0 0 true 0), (.sl none 0 0 true 0), (.sl none 0 0 true 0)]),
  (⟨none, .store (.t 8) 3 (.t 16), none⟩, (some [1, 3, 8]))]
@[go_sem] def l139_2 (_ : Unit) : KL := [kA 17 (.faddr (.t 8) 0),
  kA 18 (.load (.t 17) 1 false),
  kA 19 (.mv (.t 1)),
  kA 20 (.call (n_impl_eval) [(.t 18), (.t 19)]),
  kB 21 (.bin .eql (.t 20) (cI 0)) [1, 3, 8, 21]]
@[go_sem] def l139_3 (_ : Unit) : KL := [kA 6 (.mv (.c (.sl none 0 0 true 0))),
  kB 7 (.mv (.c (.bool false))) [6, 7]]
@[go_sem] def s139_4 (_ : Unit) : IR := (sQ [(kT l139_3), .ret])
@[go_sem] def s139_5 (_ : Unit) : IR := (sQ [(kT l139_2), (.cond (.t 21) (tH s139_4) .skip)])
@[go_sem] def l139_6 (_ : Unit) : KL := [kA 22 (.mv (.t 1)),
  kA 23 (.call (n_impl_clone_int) [(.t 22)]),
  kB 9 (.mv (.t 23)) [1, 3, 8, 9]]
@[go_sem] def l139_7 (_ : Unit) : KL := [kA 24 (.faddr (.t 8) 1),
  kA 25 (.load (.t 24) 1 false),
  kA 26 (.len (.t 25)),
  kB 27 (.mv (cI 0)) [1, 3, 8, 9, 25, 26, 27]]
@[go_sem] def l139_8 (_ : Unit) : KL := [kB 28 (.bin .lss (.t 27) (.t 26)) [1, 3, 8, 9, 25, 26, 27, 28]]
@[go_sem] def l139_9 (_ : Unit) : KL := [kA 29 (.mv (.t 27)),
  kA 30 (.iaddr (.t 25) (.t 27) 1),
  kA 31 (.load (.t 30) 1 false),
  kA 10 (.mv (.t 29)),
  kB 11 (.mv (.t 31)) [1, 3, 8, 9, 10, 11, 25, 26, 27]]
@[go_sem] def l139_10 (_ : Unit) : KL := [kA 32 (.mv (.t 9)),
  kA 33 (.mv (.t 11)),
  kA 34 (.faddr (.t 8) 2),
  kA 35 (.load (.t 34) 1 false),
  kB 36 (.mv (.t 10)) [1, 3, 8, 9, 25, 26, 27, 32, 33, 35, 36],
  kA 37 (.iaddr (.t 35) (.t 36) 1),
  kA 38 (.load (.t 37) 1 false),
  kA 39 (.mv (.t 1)),
  kA 40 (.call (n_impl_eval) [(.t 38), (.t 39)]),
  kB 41 (.iaddr (.t 32) (.t 33) 1) [1, 3, 8, 9, 25, 26, 27, 40, 41],
  (⟨none, .store (.t 41) 1 (.t 40), none⟩, (some [1, 3, 8, 9, 25, 26, 27]))]
@[go_sem] def s139_11 (_ : Unit) : IR := (sQ [(kT l139_9), (kT l139_10)])
@[go_sem] def s139_12 (_ : Unit) : IR := (.block 1 (tH s139_11))
@[go_sem] def l139_13 (_ : Unit) : KL := [kA 42 (.bin .add (.t 27) (cI 1)),
  kB 27 (.mv (.t 42)) [1, 3, 8, 9, 25, 26, 27]]
@[go_sem] def s139_14 (_ : Unit) : IR := (sQ [(kT l139_8), (.cond (.t 28) .skip (.exit 0)), (tH s139_12), (kT l139_13)])
@[go_sem] def s139_15 (_ : Unit) : IR := (.loop (tH s139_14))
@[go_sem] def s139_16 (_ : Unit) : IR := (.block 0 (tH s139_15))
@[go_sem] def s139_17 (_ : Unit) : IR := (sQ [(kT l139_7), (tH s139_16)])
@[go_sem] def l139_18 (_ : Unit) : KL := [kA 43 (.load (.t 3) 2 true),
  kA 44 (.mv (.t 9)),
  kA 45 (.call (n_impl_inRange) [(.t 43), (.t 44)]),
  kB 46 (.un .not (.t 45)) [9, 46]]
@[go_sem] def l139_19 (_ : Unit) : KL := [kA 6 (.mv (.c (.sl none 0 0 true 0))),
  kB 7 (.mv (.c (.bool false))) [6, 7]]
@[go_sem] def s139_20 (_ : Unit) : IR := (sQ [(kT l139_19), .ret])
@[go_sem] def s139_21 (_ : Unit) : IR := (sQ [(kT l139_18), (.cond (.t 46) (tH s139_20) .skip)])
@[go_sem] def l139_22 (_ : Unit) : KL := [kA 47 (.mv (.t 9)),
  kA 6 (.mv (.t 47)),
  kB 7 (.mv (.c (.bool true))) [6, 7]]
@[go_sem] def s139_23 (_ : Unit) : IR := (sQ [(kT l139_0), (kT l139_1), (tH s139_5), (kT l139_6), (tH s139_17), (tH s139_21), (kT l139_22), .ret])
theorem c139 : compFn Tryz.prog [(0, [], [oN, oN, oS [1, 2, 3]]), (1, [], [oN, oN, oN, oN, oS [1, 3, 16], oN, oS [1, 3, 8]]), (2, [], [oN, oN, oN, oN, oS [1, 3, 8, 21]]), (3, [], [oN, oS [6, 7]]), (4, [], [oN, oN, oS [1, 3, 8, 9]]), (5, [], [oN, oN, oN, oS [1, 3, 8, 9, 25, 26, 27]]), (6, [], [oS [1, 3, 8, 9, 25, 26, 27, 28]]), (7, [], [oN, oN, oN, oN, oS [1, 3, 8, 9, 10, 11, 25, 26, 27]]), (8, [], [oN, oN, oN, oN, oS [1, 3, 8, 9, 25, 26, 27, 32, 33, 35, 36], oN, oN, oN, oN, oS [1, 3, 8, 9, 25, 26, 27, 40, 41], oS [1, 3, 8, 9, 25, 26, 27]]), (9, [], [oN, oS [1, 3, 8, 9, 25, 26, 27]]), (10, [], [oN, oN, oN, oS [9, 46]]), (11, [], [oN, oS [6, 7]]), (12, [], [oN, oN, oS [6, 7]])] Tryz.f139 = some ⟨3, 48, [.t 6, .t 7], (tH s139_23)⟩ := by kernel_rfl
theorem v_impl_use (hl : vs.length = 3) (h : wpV Tryz.prog (tH s139_23) (postV [.t 6, .t 7] RV) (envV vs) M) : VCall Tryz.prog n_impl_use vs M RV :=
  vcall_of_wp (fun _ _ _ hl h => acall_of_wp mixed Tryz.func139 c139 (by kernel_rfl) hl h) hl h
@[go_sem] def l140_0 (_ : Unit) : KL := [kA 6 (.mv (cI 0)),
  kB 7 (.mv (.c (.bool false))) [0, 1, 2]]
@[go_sem] def l140_1 (_ : Unit) : KL := [kA 12 (.mv (.t 0)),
  kA 13 (.len (.t 12)),
  kB 8 (.mv (.t 13)) [0, 1, 2, 8]]
@[go_sem] def l140_2 (_ : Unit) : KL := [kA 14 (.mv (.t 8)),
  kA 9 (.mv (cI 0)),
  kB 10 (.mv (.t 14)) [0, 1, 2, 8, 9, 10]]
@[go_sem] def l140_3 (_ : Unit) : KL := [kA 15 (.mv (.t 9)),
  kA 16 (.mv (.t 10)),
  kB 17 (.bin .lss (.t 15) (.t 16)) [0, 1, 2, 8, 9, 10, 17]]
@[go_sem] def s140_4 (_ : Unit) : IR := (sQ [(kT l140_3), (.cond (.t 17) .skip (.exit 0))])
@[go_sem] def l140_5 (_ : Unit) : KL := [kA 18 (.mv (.t 9)),
  kA 19 (.mv (.t 10)),
  kA 20 (.bin .add (.t 18) (.t 19)),
  kA 21 (.cvi .u64 (.t 20)),
  kB 22 (.bin .shr (.t 21) (.c (.int .u64 1))) [0, 1, 2, 8, 9, 10, 22],
  kA 23 (.cvi .i64 (.t 22)),
  kB 11 (.mv (.t 23)) [0, 1, 2, 8, 9, 10, 11]]
@[go_sem] def l140_6 (_ : Unit) : KL := [kA 24 (.mv (.t 2)),
  kA 25 (.mv (.t 0)),
  kA 26 (.mv (.t 11)),
  kA 27 (.iaddr (.t 25) (.t 26) 1),
  kB 28 (.load (.t 27) 1 false) [0, 1, 2, 8, 9, 10, 11, 24, 28],
  kA 29 (.mv (.t 1)),
  kA 30 (.callv (.t 24) [(.t 28), (.t 29)]),
  kB 31 (.bin .lss (.t 30) (cI 0)) [0, 1, 2, 8, 9, 10, 11, 31]]
@[go_sem] def l140_7 (_ : Unit) : KL := [kA 32 (.mv (.t 11)),
  kA 33 (.bin .add (.t 32) (cI 1)),
  kB 9 (.mv (.t 33)) [0, 1, 2, 8, 9, 10]]
@[go_sem] def l140_8 (_ : Unit) : KL := [kA 34 (.mv (.t 11)),
  kB 10 (.mv (.t 34)) [0, 1, 2, 8, 9, 10]]
@[go_sem] def s140_9 (_ : Unit) : IR := (sQ [(kT l140_5), (kT l140_6), (.cond (.t 31) (kT l140_7) (kT l140_8))])
@[go_sem] def s140_10 (_ : Unit) : IR := (.block 1 (tH s140_9))
@[go_sem] def s140_11 (_ : Unit) : IR := (sQ [(tH s140_4), (tH s140_10)])
@[go_sem] def s140_12 (_ : Unit) : IR := (.loop (tH s140_11))
@[go_sem] def s140_13 (_ : Unit) : IR := (.block 0 (tH s140_12))
@[go_sem] def l140_14 (_ : Unit) : KL := [kA 35 (.mv (.t 9)),
  kA 36 (.mv (.t 9)),
  kA 37 (.mv (.t 8)),
  kA 38 (.bin .lss (.t 36) (.t 37)),
  kB 39 (.mv (.t 38)) [0, 1, 2, 9, 35, 39],
  (⟨(some 40), .mv (.t 2), (some (39, true))⟩, none),
  (⟨(some 41), .mv (.t 0), (some (39, true))⟩, none),
  (⟨(some 42), .mv (.t 9), (some (39, true))⟩, none),
  (⟨(some 43), .iaddr (.t 41) (.t 42) 1, (some (39, true))⟩, none),
  (⟨(some 44), .load (.t 43) 1 false, (some (39, true))⟩, (some [1, 35, 39, 40, 44])),
  (⟨(some 45), .mv (.t 1), (some (39, true))⟩, none),
  (⟨(some 46), .callv (.t 40) [(.t 44), (.t 45)], (some (39, true))⟩, none),
  (⟨(some 47), .bin .eql (.t 46) (cI 0), (some (39, true))⟩, none),
  kA 48 (.pick (.t 39) (.t 47) (.c (.bool false))),
  kB 6 (.mv (.t 35)) [6, 48],
  kB 7 (.mv (.t 48)) [6, 7]]
@[go_sem] def s140_15 (_ : Unit) : IR := (sQ [(kT l140_0), (kT l140_1), (kT l140_2), (tH s140_13), (kT l140_14), .ret])
theorem c140 : compFn Tryz.prog [(0, [], [oN, oS [0, 1, 2]]), (1, [], [oN, oN, oS [0, 1, 2, 8]]), (2, [], [oN, oN, oS [0, 1, 2, 8, 9, 10]]), (3, [], [oN, oN, oS [0, 1, 2, 8, 9, 10, 17]]), (4, [], [oN, oN, oN, oN, oS [0, 1, 2, 8, 9, 10, 22], oN, oS [0, 1, 2, 8, 9, 10, 11]]), (5, [], [oN, oN, oN, oN, oS [0, 1, 2, 8, 9, 10, 11, 24, 28], oN, oN, oS [0, 1, 2, 8, 9, 10, 11, 31]]), (6, [], [oN, oN, oS [0, 1, 2, 8, 9, 10]]), (7, [], [oN, oS [0, 1, 2, 8, 9, 10]]), (8, [], [oN, oN, oN, oN, oS [0, 1, 2, 9, 35, 39], oN, oN, oN, oN, oS [1, 35, 39, 40, 44], oN, oN, oN, oN, oS [6, 48], oS [6, 7]])] Tryz.f140 = some ⟨3, 49, [.t 6, .t 7], (tH s140_15)⟩ := by kernel_rfl
theorem v_slices_BinarySearchFunc_SSint_Sint_Sint (hl : vs.length = 3) (h : wpV Tryz.prog (tH s140_15) (postV [.t 6, .t 7] RV) (envV vs) M) : VCall Tryz.prog n_slices_BinarySearchFunc_SSint_Sint_Sint vs M RV :=
  vcall_of_wp (fun _ _ _ hl h => acall_of_wp mixed Tryz.func140 c140 (by kernel_rfl) hl h) hl h
@[go_sem] def l166_0 (_ : Unit) : KL := [kB 2 (.mv (.c (.bool false))) [0]]
@[go_sem] def l166_1 (_ : Unit) : KL := [kA 3 (.mv (.t 0)),
  kA 4 (.mv (.t 0)),
  kA 5 (.bin .neq (.t 3) (.t 4)),
  kB 2 (.mv (.t 5)) [2]]
@[go_sem] def s166_2 (_ : Unit) : IR := (sQ [(kT l166_0), (kT l166_1), .ret])
theorem c166 : compFn Tryz.prog [(0, [], [oS [0]]), (1, [], [oN, oN, oN, oS [2]])] Tryz.f166 = some ⟨1, 6, [.t 2], (tH s166_2)⟩ := by kernel_rfl
theorem v_cmp_isNaN_int (hl : vs.length = 1) (h : wpV Tryz.prog (tH s166_2) (postV [.t 2] RV) (envV vs) M) : VCall Tryz.prog n_cmp_isNaN_int vs M RV :=
  vcall_of_wp (fun _ _ _ hl h => acall_of_wp mixed Tryz.func166 c166 (by kernel_rfl) hl h) hl h
@[go_sem] def l157_0 (_ : Unit) : KL := [kB 4 (.mv (cI 0)) [0, 1]]
@[go_sem] def l157_1 (_ : Unit) : KL := [kA 7 (.mv (.t 0)),
  kA 8 (.call (n_cmp_isNaN_int) [(.t 7)]),
  kB 5 (.mv (.t 8)) [0, 1, 5]]
@[go_sem] def l157_2 (_ : Unit) : KL := [kA 9 (.mv (.t 1)),
  kA 10 (.call (n_cmp_isNaN_int) [(.t 9)]),
  kB 6 (.mv (.t 10)) [0, 1, 5, 6]]
@[go_sem] def l157_3 (_ : Unit) : KL := [kB 11 (.mv (.t 5)) [0, 1, 6, 11]]
@[go_sem] def l157_4 (_ : Unit) : KL := [kB 12 (.mv (.t 6)) [12]]
@[go_sem] def l157_5 (_ : Unit) : KL := [kB 4 (.mv (cI 0)) [4]]
@[go_sem] def s157_6 (_ : Unit) : IR := (sQ [(kT l157_5), .ret])
@[go_sem] def s157_7 (_ : Unit) : IR := (sQ [(kT l157_4), (.cond (.t 12) (tH s157_6) .skip)])
@[go_sem] def l157_8 (_ : Unit) : KL := [kB 4 (.mv (.c (.int .i64 (-1)))) [4]]
@[go_sem] def s157_9 (_ : Unit) : IR := (sQ [(tH s157_7), (kT l157_8), .ret])
@[go_sem] def s157_10 (_ : Unit) : IR := (sQ [(kT l157_3), (.cond (.t 11) (tH s157_9) .skip)])
@[go_sem] def l157_11 (_ : Unit) : KL := [kB 13 (.mv (.t 6)) [0, 1, 13]]
@[go_sem] def l157_12 (_ : Unit) : KL := [kB 4 (.mv (cI 1)) [4]]
@[go_sem] def s157_13 (_ : Unit) : IR := (sQ [(kT l157_12), .ret])
@[go_sem] def s157_14 (_ : Unit) : IR := (sQ [(kT l157_11), (.cond (.t 13) (tH s157_13) .skip)])
@[go_sem] def l157_15 (_ : Unit) : KL := [kA 14 (.mv (.t 0)),
  kA 15 (.mv (.t 1)),
  kB 16 (.bin .lss (.t 14) (.t 15)) [0, 1, 16]]
@[go_sem] def l157_16 (_ : Unit) : KL := [kB 4 (.mv (.c (.int .i64 (-1)))) [4]]
@[go_sem] def s157_17 (_ : Unit) : IR := (sQ [(kT l157_16), .ret])
@[go_sem] def s157_18 (_ : Unit) : IR := (sQ [(kT l157_15), (.cond (.t 16) (tH s157_17) .skip)])
@[go_sem] def l157_19 (_ : Unit) : KL := [kA 17 (.mv (.t 0)),
  kA 18 (.mv (.t 1)),
  kB 19 (.bin .gtr (.t 17) (.t 18)) [19]]
@[go_sem] def l157_20 (_ : Unit) : KL := [kB 4 (.mv (cI 1)) [4]]
@[go_sem] def s157_21 (_ : Unit) : IR := (sQ [(kT l157_20), .ret])
@[go_sem] def s157_22 (_ : Unit) : IR := (sQ [(kT l157_19), (.cond (.t 19) (tH s157_21) .skip)])
@[go_sem] def l157_23 (_ : Unit) : KL := [kB 4 (.mv (cI 0)) [4]]
@[go_sem] def s157_24 (_ : Unit) : IR := (sQ [(kT l157_0), (kT l157_1), (kT l157_2), (tH s157_10), (tH s157_14), (tH s157_18), (tH s157_22), (kT l157_23), .ret])
theorem c157 : compFn Tryz.prog [(0, [], [oS [0, 1]]), (1, [], [oN, oN, oS [0, 1, 5]]), (2, [], [oN, oN, oS [0, 1, 5, 6]]), (3, [], [oS [0, 1, 6, 11]]), (4, [], [oS [12]]), (5, [], [oS [4]]), (6, [], [oS [4]]), (7, [], [oS [0, 1, 13]]), (8, [], [oS [4]]), (9, [], [oN, oN, oS [0, 1, 16]]), (10, [], [oS [4]]), (11, [], [oN, oN, oS [19]]), (12, [], [oS [4]]), (13, [], [oS [4]])] Tryz.f157 = some ⟨2, 20, [.t 4], (tH s157_24)⟩ := by kernel_rfl
theorem v_cmp_Compare_int (hl : vs.length = 2) (h : wpV Tryz.prog (tH s157_24) (postV [.t 4] RV) (envV vs) M) : VCall Tryz.prog n_cmp_Compare_int vs M RV :=
  vcall_of_wp (fun _ _ _ hl h => acall_of_wp mixed Tryz.func157 c157 (by kernel_rfl) hl h) hl h
@[go_sem] def l141_0 (_ : Unit) : KL := [kB 4 (.mv (cI 0)) [0, 1]]
@[go_sem] def l141_1 (_ : Unit) : KL := [kA 9 (.mv (.t 0)),
  kA 10 (.len (.t 9)),
  kB 11 (.mv (cI 0)) [0, 1, 9, 10, 11]]
@[go_sem] def l141_2 (_ : Unit) : KL := [kB 12 (.bin .lss (.t 11) (.t 10)) [0, 1, 9, 10, 11, 12]]
@[go_sem] def l141_3 (_ : Unit) : KL := [kA 13 (.mv (.t 11)),
  kA 14 (.iaddr (.t 9) (.t 11) 1),
  kA 15 (.load (.t 14) 1 false),
  kA 5 (.mv (.t 13)),
  kB 6 (.mv (.t 15)) [0, 1, 5, 6, 9, 10, 11]]
@[go_sem] def l141_4 (_ : Unit) : KL := [kA 16 (.mv (.t 5)),
  kA 17 (.mv (.t 1)),
  kA 18 (.len (.t 17)),
  kB 19 (.bin .geq (.t 16) (.t 18)) [0, 1, 5, 6, 9, 10, 11, 19]]
@[go_sem] def l141_5 (_ : Unit) : KL := [kB 4 (.mv (cI 1)) [4]]
@[go_sem] def s141_6 (_ : Unit) : IR := (sQ [(kT l141_5), .ret])
@[go_sem] def s141_7 (_ : Unit) : IR := (sQ [(kT l141_4), (.cond (.t 19) (tH s141_6) .skip)])
@[go_sem] def l141_8 (_ : Unit) : KL := [kA 20 (.mv (.t 1)),
  kA 21 (.mv (.t 5)),
  kA 22 (.iaddr (.t 20) (.t 21) 1),
  kA 23 (.load (.t 22) 1 false),
  kB 7 (.mv (.t 23)) [0, 1, 6, 7, 9, 10, 11]]
@[go_sem] def l141_9 (_ : Unit) : KL := [kA 24 (.mv (.t 6)),
  kA 25 (.mv (.t 7)),
  kA 26 (.call (n_cmp_Compare_int) [(.t 24), (.t 25)]),
  kB 8 (.mv (.t 26)) [0, 1, 8, 9, 10, 11]]
@[go_sem] def l141_10 (_ : Unit) : KL := [kA 27 (.mv (.t 8)),
  kB 28 (.bin .neq (.t 27) (cI 0)) [0, 1, 8, 9, 10, 11, 28]]
@[go_sem] def l141_11 (_ : Unit) : KL := [kA 29 (.mv (.t 8)),
  kB 4 (.mv (.t 29)) [4]]
@[go_sem] def s141_12 (_ : Unit) : IR := (sQ [(kT l141_11), .ret])
@[go_sem] def s141_13 (_ : Unit) : IR := (sQ [(kT l141_3), (tH s141_7), (kT l141_8), (kT l141_9), (kT l141_10), (.cond (.t 28) (tH s141_12) .skip)])
@[go_sem] def s141_14 (_ : Unit) : IR := (.block 1 (tH s141_13))
@[go_sem] def l141_15 (_ : Unit) : KL := [kA 30 (.bin .add (.t 11) (cI 1)),
  kB 11 (.mv (.t 30)) [0, 1, 9, 10, 11]]
@[go_sem] def s141_16 (_ : Unit) : IR := (sQ [(kT l141_2), (.cond (.t 12) .skip (.exit 0)), (tH s141_14), (kT l141_15)])
@[go_sem] def s141_17 (_ : Unit) : IR := (.loop (tH s141_16))
@[go_sem] def s141_18 (_ : Unit) : IR := (.block 0 (tH s141_17))
@[go_sem] def s141_19 (_ : Unit) : IR := (sQ [(kT l141_1), (tH s141_18)])
@[go_sem] def l141_20 (_ : Unit) : KL := [kA 31 (.mv (.t 0)),
  kA 32 (.len (.t 31)),
  kA 33 (.mv (.t 1)),
  kA 34 (.len (.t 33)),
  kB 35 (.bin .lss (.t 32) (.t 34)) [35]]
@[go_sem] def l141_21 (_ : Unit) : KL := [kB 4 (.mv (.c (.int .i64 (-1)))) [4]]
@[go_sem] def s141_22 (_ : Unit) : IR := (sQ [(kT l141_21), .ret])
@[go_sem] def s141_23 (_ : Unit) : IR := (sQ [(kT l141_20), (.cond (.t 35) (tH s141_22) .skip)])
@[go_sem] def l141_24 (_ : Unit) : KL := [kB 4 (.mv (cI 0)) [4]]
@[go_sem] def s141_25 (_ : Unit) : IR := (sQ [(kT l141_0), (tH s141_19), (tH s141_23), (kT l141_24), .ret])
theorem c141 : compFn Tryz.prog [(0, [], [oS [0, 1]]), (1, [], [oN, oN, oS [0, 1, 9, 10, 11]]), (2, [], [oS [0, 1, 9, 10, 11, 12]]), (3, [], [oN, oN, oN, oN, oS [0, 1, 5, 6, 9, 10, 11]]), (4, [], [oN, oN, oN, oS [0, 1, 5, 6, 9, 10, 11, 19]]), (5, [], [oS [4]]), (6, [], [oN, oN, oN, oN, oS [0, 1, 6, 7, 9, 10, 11]]), (7, [], [oN, oN, oN, oS [0, 1, 8, 9, 10, 11]]), (8, [], [oN, oS [0, 1, 8, 9, 10, 11, 28]]), (9, [], [oN, oS [4]]), (10, [], [oN, oS [0, 1, 9, 10, 11]]), (11, [], [oN, oN, oN, oN, oS [35]]), (12, [], [oS [4]]), (13, [], [oS [4]])] Tryz.f141 = some ⟨2, 36, [.t 4], (tH s141_25)⟩ := by kernel_rfl
theorem v_slices_Compare_Sint_int (hl : vs.length = 2) (h : wpV Tryz.prog (tH s141_25) (postV [.t 4] RV) (envV vs) M) : VCall Tryz.prog n_slices_Compare_Sint_int vs M RV :=
  vcall_of_wp (fun _ _ _ hl h => acall_of_wp mixed Tryz.func141 c141 (by kernel_rfl) hl h) hl h
@[go_sem] def l172_0 (_ : Unit) : KL := [kA 4 (.mv (.t 0)),
  kA 5 (.len (.t 4)),
  kA 6 (.bin .sub (.t 5) (cI 1)),
  kA 2 (.mv (cI 0)),
  kB 3 (.mv (.t 6)) [0, 2, 3]]
@[go_sem] def l172_1 (_ : Unit) : KL := [kA 7 (.mv (.t 2)),
  kA 8 (.mv (.t 3)),
  kB 9 (.bin .lss (.t 7) (.t 8)) [0, 2, 3, 9]]
@[go_sem] def s172_2 (_ : Unit) : IR := (sQ [(kT l172_1), (.cond (.t 9) .skip (.exit 0))])
@[go_sem] def l172_3 : Nat → GOp
  | 0 => ⟨(some 14), .mv (.t 0), none⟩
  | 1 => ⟨(some 15), .mv (.t 2), none⟩
  | 2 => ⟨(some 16), .mv (.t 0), none⟩
  | 3 => ⟨(some 17), .mv (.t 3), none⟩
  | 4 => ⟨(some 18), .mv (.t 0), none⟩
  | 5 => ⟨(some 19), .mv (.t 3), none⟩
  | 6 => ⟨(some 20), .iaddr (.t 18) (.t 19) 1, none⟩
  | 7 => ⟨(some 21), .load (.t 20) 1 false, none⟩
  | 8 => ⟨(some 22), .mv (.t 0), none⟩
  | 9 => ⟨(some 23), .mv (.t 2), none⟩
  | 10 => ⟨(some 24), .iaddr (.t 22) (.t 23) 1, none⟩
  | 11 => ⟨(some 25), .load (.t 24) 1 false, none⟩
  | 12 => ⟨(some 26), .iaddr (.t 14) (.t 15) 1, none⟩
  | 13 => ⟨none, .store (.t 26) 1 (.t 21), none⟩
  | 14 => ⟨(some 27), .iaddr (.t 16) (.t 17) 1, none⟩
  | 15 => ⟨none, .store (.t 27) 1 (.t 25), none⟩
  | _ => ⟨none, .mkmap, none⟩
@[go_sem] def s172_4 (_ : Unit) : IR := (.block 1 (.kd (oF l172_3 16) [(0, []), (1, []), (2, []), (3, []), (4, []), (5, []), (6, []), (7, []), (8, []), (9, []), (10, []), (11, []), (12, []), (13, []), (14, []), (15, [])] [0, 2, 3]))
@[go_sem] def l172_5 (_ : Unit) : KL := [kA 10 (.mv (.t 2)),
  kA 11 (.bin .add (.t 10) (cI 1)),
  kA 12 (.mv (.t 3)),
  kA 13 (.bin .sub (.t 12) (cI 1)),
  kB 2 (.mv (.t 11)) [0, 2, 13],
  kB 3 (.mv (.t 13)) [0, 2, 3]]
@[go_sem] def s172_6 (_ : Unit) : IR := (sQ [(tH s172_2), (tH s172_4), (kT l172_5)])
@[go_sem] def s172_7 (_ : Unit) : IR := (.loop (tH s172_6))
@[go_sem] def s172_8 (_ : Unit) : IR := (.block 0 (tH s172_7))
@[go_sem] def s172_9 (_ : Unit) : IR := (sQ [(kT l172_0), (tH s172_8)])
@[go_sem] def l167_0 (_ : Unit) : KL := [kA 4 (.mv (.t 0)),
  kA 5 (.mv (.t 1)),
  kA 6 (.slc 1 (.t 4) none (some (.t 5)) none),
  kB 7 (.call (n_slices_Reverse_SSint_Sint) [(.t 6)]) [0, 1]]
@[go_sem] def l167_1 (_ : Unit) : KL := [kA 8 (.mv (.t 0)),
  kA 9 (.mv (.t 1)),
  kA 10 (.slc 1 (.t 8) (some (.t 9)) none none),
  kB 11 (.call (n_slices_Reverse_SSint_Sint) [(.t 10)]) [0]]
@[go_sem] def l167_2 (_ : Unit) : KL := [kA 12 (.mv (.t 0)),
  kB 13 (.call (n_slices_Reverse_SSint_Sint) [(.t 12)]) []]
@[go_sem] def s167_3 (_ : Unit) : IR := (sQ [(kT l167_0), (kT l167_1), (kT l167_2)])
@[go_sem] def l159_0 (_ : Unit) : KL := [kA 4 (.mv (.t 0)),
  kA 5 (.mv (.t 0)),
  kA 6 (.len (.t 5)),
  kA 7 (.mv (.t 1)),
  kB 8 (.bin .sub (.t 6) (.t 7)) [4, 8],
  kB 9 (.call (n_slices_rotateLeft_Sint) [(.t 4), (.t 8)]) []]
@[go_sem] def l142_0 (_ : Unit) : KL := [kB 6 (.mv (.c (.sl none 0 0 true 0))) [0, 1, 2]]
@[go_sem] def l142_1 (_ : Unit) : KL := [kA 10 (.mv (.t 0)),
  kA 11 (.mv (.t 1)),
  kB 12 (.slc 1 (.t 10) (some (.t 11)) none none) [0, 1, 2]]
@[go_sem] def l142_2 (_ : Unit) : KL := [kA 13 (.mv (.t 2)),
  kA 14 (.len (.t 13)),
  kB 7 (.mv (.t 14)) [0, 1, 2, 7]]
@[go_sem] def l142_3 (_ : Unit) : KL := [kA 15 (.mv (.t 7)),
  kB 16 (.bin .eql (.t 15) (cI 0)) [0, 1, 2, 7, 16]]
@[go_sem] def l142_4 (_ : Unit) : KL := [kA 17 (.mv (.t 0)),
  kB 6 (.mv (.t 17)) [6]]
@[go_sem] def s142_5 (_ : Unit) : IR := (sQ [(kT l142_4), .ret])
@[go_sem] def s142_6 (_ : Unit) : IR := (sQ [(kT l142_3), (.cond (.t 16) (tH s142_5) .skip)])
@[go_sem] def l142_7 (_ : Unit) : KL := [kA 18 (.mv (.t 0)),
  kA 19 (.len (.t 18)),
  kB 8 (.mv (.t 19)) [0, 1, 2, 7, 8]]
@[go_sem] def l142_8 (_ : Unit) : KL := [kA 20 (.mv (.t 1)),
  kA 21 (.mv (.t 8)),
  kB 22 (.bin .eql (.t 20) (.t 21)) [0, 1, 2, 7, 8, 22]]
@[go_sem] def l142_9 (_ : Unit) : KL := [kA 23 (.mv (.t 0)),
  kA 24 (.mv (.t 2)),
  kA 25 (.app 1 24 (.t 23) (.t 24)),
  kB 6 (.mv (.t 25)) [6]]
@[go_sem] def s142_10 (_ : Unit) : IR := (sQ [(kT l142_9), .ret])
@[go_sem] def s142_11 (_ : Unit) : IR := (sQ [(kT l142_8), (.cond (.t 22) (tH s142_10) .skip)])
@[go_sem] def l142_12 (_ : Unit) : KL := [kA 26 (.mv (.t 8)),
  kA 27 (.mv (.t 7)),
  kA 28 (.bin .add (.t 26) (.t 27)),
  kA 29 (.mv (.t 0)),
  kB 30 (.cap (.t 29)) [0, 1, 2, 7, 8, 28, 30],
  kB 31 (.bin .gtr (.t 28) (.t 30)) [0, 1, 2, 7, 8, 31]]
@[go_sem] def l142_13 (_ : Unit) : KL := [kA 32 (.mv (.t 0)),
  kA 33 (.mv (.t 1)),
  kA 34 (.slc 1 (.t 32) none (some (.t 33)) none),
  kA 35 (.mv (.t 8)),
  kB 36 (.mv (.t 7)) [0, 1, 2, 7, 34, 35, 36],
  kA 37 (.bin .add (.t 35) (.t 36)),
  kA 38 (.mv (.t 1)),
  kA 39 (.bin .sub (.t 37) (.t 38)),
  kA 40 (.appz [(.sl none 0 0 true 0)] 24 (.t 34) (.t 39)),
  kB 9 (.mv (.t 40)) [0, 1, 2, 7, 9]]
@[go_sem] def l142_14 (_ : Unit) : KL := [kA 41 (.mv (.t 9)),
  kA 42 (.mv (.t 1)),
  kA 43 (.slc 1 (.t 41) (some (.t 42)) none none),
  kA 44 (.mv (.t 2)),
  kB 45 (.copy 1 (.t 43) (.t 44)) [0, 1, 7, 9]]
@[go_sem] def l142_15 : Nat → GOp
  | 0 => ⟨(some 46), .mv (.t 9), none⟩
  | 1 => ⟨(some 47), .mv (.t 1), none⟩
  | 2 => ⟨(some 48), .mv (.t 7), none⟩
  | 3 => ⟨(some 49), .bin .add (.t 47) (.t 48), none⟩
  | 4 => ⟨(some 50), .slc 1 (.t 46) (some (.t 49)) none none, none⟩
  | 5 => ⟨(some 51), .mv (.t 0), none⟩
  | 6 => ⟨(some 52), .mv (.t 1), none⟩
  | 7 => ⟨(some 53), .slc 1 (.t 51) (some (.t 52)) none none, none⟩
  | 8 => ⟨(some 54), .copy 1 (.t 50) (.t 53), none⟩
  | _ => ⟨none, .mkmap, none⟩
@[go_sem] def l142_16 (_ : Unit) : KL := [kA 55 (.mv (.t 9)),
  kB 6 (.mv (.t 55)) [6]]
@[go_sem] def s142_17 (_ : Unit) : IR := (sQ [(kT l142_13), (kT l142_14), (.kd (oF l142_15 9) [(0, []), (1, []), (2, []), (3, []), (4, []), (5, []), (6, []), (7, []), (8, [])] [9]), (kT l142_16), .ret])
@[go_sem] def s142_18 (_ : Unit) : IR := (sQ [(kT l142_12), (.cond (.t 31) (tH s142_17) .skip)])
@[go_sem] def l142_19 (_ : Unit) : KL := [kA 56 (.mv (.t 0)),
  kA 57 (.mv (.t 8)),
  kA 58 (.mv (.t 7)),
  kA 59 (.bin .add (.t 57) (.t 58)),
  kB 60 (.slc 1 (.t 56) none (some (.t 59)) none) [1, 2, 7, 8, 60],
  kB 0 (.mv (.t 60)) [0, 1, 2, 7, 8]]
@[go_sem] def l142_20 (_ : Unit) : KL := [kA 61 (.mv (.t 2)),
  kA 62 (.mv (.t 0)),
  kA 63 (.mv (.t 1)),
  kA 64 (.mv (.t 7)),
  kB 65 (.bin .add (.t 63) (.t 64)) [0, 1, 2, 7, 8, 61, 62, 65],
  kA 66 (.slc 1 (.t 62) (some (.t 65)) none none),
  kA 67 (.ovl (.t 61) (.t 66)),
  kB 68 (.un .not (.t 67)) [0, 1, 2, 7, 8, 68]]
@[go_sem] def l142_21 : Nat → GOp
  | 0 => ⟨(some 69), .mv (.t 0), none⟩
  | 1 => ⟨(some 70), .mv (.t 1), none⟩
  | 2 => ⟨(some 71), .mv (.t 7), none⟩
  | 3 => ⟨(some 72), .bin .add (.t 70) (.t 71), none⟩
  | 4 => ⟨(some 73), .slc 1 (.t 69) (some (.t 72)) none none, none⟩
  | 5 => ⟨(some 74), .mv (.t 0), none⟩
  | 6 => ⟨(some 75), .mv (.t 1), none⟩
  | 7 => ⟨(some 76), .slc 1 (.t 74) (some (.t 75)) none none, none⟩
  | 8 => ⟨(some 77), .copy 1 (.t 73) (.t 76), none⟩
  | _ => ⟨none, .mkmap, none⟩
@[go_sem] def l142_22 (_ : Unit) : KL := [kA 78 (.mv (.t 0)),
  kA 79 (.mv (.t 1)),
  kA 80 (.slc 1 (.t 78) (some (.t 79)) none none),
  kA 81 (.mv (.t 2)),
  kB 82 (.copy 1 (.t 80) (.t 81)) [0]]
@[go_sem] def l142_23 (_ : Unit) : KL := [kA 83 (.mv (.t 0)),
  kB 6 (.mv (.t 83)) [6]]
@[go_sem] def s142_24 (_ : Unit) : IR := (sQ [(.kd (oF l142_21 9) [(0, []), (1, []), (2, []), (3, []), (4, []), (5, []), (6, []), (7, []), (8, [])] [0, 1, 2]), (kT l142_22), (kT l142_23), .ret])
@[go_sem] def s142_25 (_ : Unit) : IR := (sQ [(kT l142_20), (.cond (.t 68) (tH s142_24) .skip)])
@[go_sem] def l142_26 (_ : Unit) : KL := [kA 84 (.mv (.t 0)),
  kA 85 (.mv (.t 8)),
  kA 86 (.slc 1 (.t 84) (some (.t 85)) none none),
  kA 87 (.mv (.t 2)),
  kB 88 (.copy 1 (.t 86) (.t 87)) [0, 1, 7]]
@[go_sem] def l142_27 (_ : Unit) : KL := [kA 89 (.mv (.t 0)),
  kA 90 (.mv (.t 1)),
  kA 91 (.slc 1 (.t 89) (some (.t 90)) none none),
  kA 92 (.mv (.t 7)),
  kB 93 (.call (n_slices_rotateRight_Sint) [(.t 91), (.t 92)]) [0]]
@[go_sem] def l142_28 (_ : Unit) : KL := [kA 94 (.mv (.t 0)),
  kB 6 (.mv (.t 94)) [6]]
@[go_sem] def s142_29 (_ : Unit) : IR := (sQ [(kT l142_0), (kT l142_1), (kT l142_2), (tH s142_6), (kT l142_7), (tH s142_11), (tH s142_18), (kT l142_19), (tH s142_25), (kT l142_26), (kT l142_27), (kT l142_28), .ret])
theorem c142 : compFn Tryz.prog [(0, [], [oS [0, 1, 2]]), (1, [], [oN, oN, oS [0, 1, 2]]), (2, [], [oN, oN, oS [0, 1, 2, 7]]), (3, [], [oN, oS [0, 1, 2, 7, 16]]), (4, [], [oN, oS [6]]), (5, [], [oN, oN, oS [0, 1, 2, 7, 8]]), (6, [], [oN, oN, oS [0, 1, 2, 7, 8, 22]]), (7, [], [oN, oN, oN, oS [6]]), (8, [], [oN, oN, oN, oN, oS [0, 1, 2, 7, 8, 28, 30], oS [0, 1, 2, 7, 8, 31]]), (9, [], [oN, oN, oN, oN, oS [0, 1, 2, 7, 34, 35, 36], oN, oN, oN, oN, oS [0, 1, 2, 7, 9]]), (10, [], [oN, oN, oN, oN, oS [0, 1, 7, 9]]), (11, [(0, []), (1, []), (2, []), (3, []), (4, []), (5, []), (6, []), (7, []), (8, [])], [oS [9]]), (12, [], [oN, oS [6]]), (13, [], [oN, oN, oN, oN, oS [1, 2, 7, 8, 60], oS [0, 1, 2, 7, 8]]), (14, [], [oN, oN, oN, oN, oS [0, 1, 2, 7, 8, 61, 62, 65], oN, oN, oS [0, 1, 2, 7, 8, 68]]), (15, [(0, []), (1, []), (2, []), (3, []), (4, []), (5, []), (6, []), (7, []), (8, [])], [oS [0, 1, 2]]), (16, [], [oN, oN, oN, oN, oS [0]]), (17, [], [oN, oS [6]]), (18, [], [oN, oN, oN, oN, oS [0, 1, 7]]), (19, [], [oN, oN, oN, oN, oS [0]]), (20, [], [oN, oS [6]])] Tryz.f142 = some ⟨3, 95, [.t 6], (tH s142_29)⟩ := by kernel_rfl
theorem v_slices_Insert_SSint_Sint (hl : vs.length = 3) (h : wpV Tryz.prog (tH s142_29) (postV [.t 6] RV) (envV vs) M) : VCall Tryz.prog n_slices_Insert_SSint_Sint vs M RV :=
  vcall_of_wp (fun _ _ _ hl h => acall_of_wp mixed Tryz.func142 c142 (by kernel_rfl) hl h) hl h
@[go_sem] def l143_0 (_ : Unit) : KL := [kB 2 (.mv (.c (.sl none 0 0 true 0))) [0]]
@[go_sem] def l143_1 (_ : Unit) : KL := [kA 4 (.mv (.t 0)),
  kA 5 (.len (.t 4)),
  kB 6 (.bin .eql (.t 5) (cI 0)) [0, 6]]
@[go_sem] def l143_2 (_ : Unit) : KL := [kB 2 (.mv (.c (.sl none 0 0 true 0))) [2]]
@[go_sem] def s143_3 (_ : Unit) : IR := (sQ [(kT l143_2), .ret])
@[go_sem] def s143_4 (_ : Unit) : IR := (sQ [(kT l143_1), (.cond (.t 6) (tH s143_3) .skip)])
@[go_sem] def l143_5 (_ : Unit) : KL := [kA 7 (.mv (.t 0)),
  kA 8 (.len (.t 7)),
  kA 9 (.mks [(.sl none 0 0 true 0)] 24 (.t 8)),
  kB 3 (.mv (.t 9)) [0, 3]]
@[go_sem] def l143_6 (_ : Unit) : KL := [kA 10 (.mv (.t 3)),
  kA 11 (.mv (.t 0)),
  kB 12 (.copy 1 (.t 10) (.t 11)) [3]]
@[go_sem] def l143_7 (_ : Unit) : KL := [kA 13 (.mv (.t 3)),
  kB 2 (.mv (.t 13)) [2]]
@[go_sem] def s143_8 (_ : Unit) : IR := (sQ [(kT l143_0), (tH s143_4), (kT l143_5), (kT l143_6), (kT l143_7), .ret])
theorem c143 : compFn Tryz.prog [(0, [], [oS [0]]), (1, [], [oN, oN, oS [0, 6]]), (2, [], [oS [2]]), (3, [], [oN, oN, oN, oS [0, 3]]), (4, [], [oN, oN, oS [3]]), (5, [], [oN, oS [2]])] Tryz.f143 = some ⟨1, 14, [.t 2], (tH s143_8)⟩ := by kernel_rfl
theorem v_impl_clone_Sint (hl : vs.length = 1) (h : wpV Tryz.prog (tH s143_8) (postV [.t 2] RV) (envV vs) M) : VCall Tryz.prog n_impl_clone_Sint vs M RV :=
  vcall_of_wp (fun _ _ _ hl h => acall_of_wp mixed Tryz.func143 c143 (by kernel_rfl) hl h) hl h
@[go_sem] def l109_0 (_ : Unit) : KL := [kA 2 (.box (.t 0)),
  kB 4 (.mv (.c (.sl none 0 0 true 0))) [1, 2]]
@[go_sem] def l109_1 (_ : Unit) : KL := [kB 5 (.mv (.c (.sl none 0 0 true 0))) [1, 2, 5]]
@[go_sem] def l109_2 (_ : Unit) : KL := [kA 11 (.faddr (.t 2) 1),
  kA 12 (.load (.t 11) 1 false),
  kA 13 (.len (.t 12)),
  kB 14 (.mv (cI 0)) [1, 2, 5, 13, 14]]
@[go_sem] def l109_3 (_ : Unit) : KL := [kB 15 (.bin .lss (.t 14) (.t 13)) [1, 2, 5, 13, 14, 15]]
@[go_sem] def l109_4 (_ : Unit) : KL := [kA 16 (.mv (.t 14)),
  kB 6 (.mv (.t 16)) [1, 2, 5, 6, 13, 14]]
@[go_sem] def l109_5 (_ : Unit) : KL := [kA 18 (.load (.t 2) 2 true),
  kA 19 (.mv (.t 1)),
  kA 20 (.mv (.t 6)),
  kA 21 (.call (n_impl_use) [(.t 18), (.t 19), (.t 20)]),
  kB 17 (.mv (.t 21)) [1, 2, 5, 13, 14, 17],
  kA 22 (.ext (.t 17) 0),
  kA 23 (.ext (.t 17) 1),
  kA 7 (.mv (.t 22)),
  kB 8 (.mv (.t 23)) [1, 2, 5, 7, 8, 13, 14]]
@[go_sem] def l109_6 (_ : Unit) : KL := [kB 24 (.mv (.t 8)) [1, 2, 5, 7, 13, 14, 24]]
@[go_sem] def l109_7 (_ : Unit) : KL := [kA 26 (.mv (.t 5)),
  kA 27 (.mv (.t 7)),
  kA 28 (.call (n_slices_BinarySearchFunc_SSint_Sint_Sint) [(.t 26), (.t 27), (.c (.fn (n_slices_Compare_Sint_int) []))]),
  kA 25 (.mv (.t 28)),
  kB 29 (.ext (.t 25) 0) [1, 2, 5, 7, 13, 14, 25, 29],
  kA 30 (.ext (.t 25) 1),
  kA 9 (.mv (.t 29)),
  kB 10 (.mv (.t 30)) [1, 2, 5, 7, 9, 10, 13, 14]]
@[go_sem] def l109_8 (_ : Unit) : KL := [kA 31 (.mv (.t 10)),
  kB 32 (.un .not (.t 31)) [1, 2, 5, 7, 9, 13, 14, 32]]
@[go_sem] def l109_9 (_ : Unit) : KL := [kA 33 (.mv (.t 5)),
  kA 34 (.mv (.t 9)),
  kA 35 (.mv (.t 7)),
  kA 36 (.bslc 1 1 [(.sl none 0 0 true 0)] [(0, (.t 35))]),
  kB 37 (.call (n_slices_Insert_SSint_Sint) [(.t 33), (.t 34), (.t 36)]) [1, 2, 13, 14, 37],
  kB 5 (.mv (.t 37)) [1, 2, 5, 13, 14]]
@[go_sem] def s109_10 (_ : Unit) : IR := (sQ [(kT l109_7), (kT l109_8), (.cond (.t 32) (kT l109_9) .skip)])
@[go_sem] def s109_11 (_ : Unit) : IR := (sQ [(kT l109_4), (kT l109_5), (kT l109_6), (.cond (.t 24) (tH s109_10) .skip)])
@[go_sem] def s109_12 (_ : Unit) : IR := (.block 1 (tH s109_11))
@[go_sem] def l109_13 (_ : Unit) : KL := [kA 38 (.bin .add (.t 14) (cI 1)),
  kB 14 (.mv (.t 38)) [1, 2, 5, 13, 14]]
@[go_sem] def s109_14 (_ : Unit) : IR := (sQ [(kT l109_3), (.cond (.t 15) .skip (.exit 0)), (tH s109_12), (kT l109_13)])
@[go_sem] def s109_15 (_ : Unit) : IR := (.loop (tH s109_14))
@[go_sem] def s109_16 (_ : Unit) : IR := (.block 0 (tH s109_15))
@[go_sem] def s109_17 (_ : Unit) : IR := (sQ [(kT l109_2), (tH s109_16)])
@[go_sem] def l109_18 (_ : Unit) : KL := [kA 39 (.mv (.t 5)),
  kA 40 (.call (n_impl_clone_Sint) [(.t 39)]),
  kB 4 (.mv (.t 40)) [4]]
@[go_sem] def s109_19 (_ : Unit) : IR := (sQ [(kT l109_0), (kT l109_1), (tH s109_17), (kT l109_18), .ret])
theorem c109 : compFn Tryz.prog [(0, [], [oN, oS [1, 2]]), (1, [], [oS [1, 2, 5]]), (2, [], [oN, oN, oN, oS [1, 2, 5, 13, 14]]), (3, [], [oS [1, 2, 5, 13, 14, 15]]), (4, [], [oN, oS [1, 2, 5, 6, 13, 14]]), (5, [], [oN, oN, oN, oN, oS [1, 2, 5, 13, 14, 17], oN, oN, oN, oS [1, 2, 5, 7, 8, 13, 14]]), (6, [], [oS [1, 2, 5, 7, 13, 14, 24]]), (7, [], [oN, oN, oN, oN, oS [1, 2, 5, 7, 13, 14, 25, 29], oN, oN, oS [1, 2, 5, 7, 9, 10, 13, 14]]), (8, [], [oN, oS [1, 2, 5, 7, 9, 13, 14, 32]]), (9, [], [oN, oN, oN, oN, oS [1, 2, 13, 14, 37], oS [1, 2, 5, 13, 14]]), (10, [], [oN, oS [1, 2, 5, 13, 14]]), (11, [], [oN, oN, oS [4]])] Tryz.f109 = some ⟨2, 41, [.t 4], (tH s109_19)⟩ := by kernel_rfl
theorem v_impl_nextStates (hl : vs.length = 2) (h : wpV Tryz.prog (tH s109_19) (postV [.t 4] RV) (envV vs) M) : VCall Tryz.prog n_impl_nextStates vs M RV :=
  vcall_of_wp (fun _ _ _ hl h => acall_of_wp mixed Tryz.func109 c109 (by kernel_rfl) hl h) hl h
@[go_sem] def l80_0 (_ : Unit) : KL := [kA 2 (.box (.t 0)),
  kB 4 (.mv (cI 0)) [1, 2]]
@[go_sem] def l80_1 (_ : Unit) : KL := [kB 5 (.mv (cI 0)) [1, 2, 5]]
@[go_sem] def l80_2 (_ : Unit) : KL := [kA 8 (.faddr (.t 2) 0),
  kA 9 (.load (.t 8) 1 false),
  kA 10 (.len (.t 9)),
  kB 11 (.mv (cI 0)) [1, 5, 9, 10, 11]]
@[go_sem] def l80_3 (_ : Unit) : KL := [kB 12 (.bin .lss (.t 11) (.t 10)) [1, 5, 9, 10, 11, 12]]
@[go_sem] def l80_4 (_ : Unit) : KL := [kA 13 (.mv (.t 11)),
  kA 14 (.iaddr (.t 9) (.t 11) 3),
  kA 15 (.load (.t 14) 3 true),
  kA 7 (.alloc [(.int .i64 0), (.int .i64 0), (.int .i64 0)]),
  kB 6 (.mv (.t 13)) [1, 5, 6, 7, 9, 10, 11, 15],
  (⟨none, .store (.t 7) 3 (.t 15), none⟩, (some [1, 5, 6, 7, 9, 10, 11]))]
@[go_sem] def l80_5 : Nat → GOp
  | 0 => ⟨(some 16), .mv (.t 5), none⟩
  | 1 => ⟨(some 17), .faddr (.t 7) 1, none⟩
  | 2 => ⟨(some 18), .load (.t 17) 1 false, none⟩
  | 3 => ⟨(some 19), .faddr (.t 7) 0, none⟩
  | 4 => ⟨(some 20), .load (.t 19) 1 false, none⟩
  | 5 => ⟨(some 21), .bin .sub (.t 18) (.t 20), none⟩
  | 6 => ⟨(some 22), .bin .add (.t 21) (cI 1), none⟩
  | 7 => ⟨(some 23), .bin .mul (.t 16) (.t 22), none⟩
  | 8 => ⟨(some 24), .mv (.t 1), none⟩
  | 9 => ⟨(some 25), .mv (.t 6), none⟩
  | 10 => ⟨(some 26), .iaddr (.t 24) (.t 25) 1, none⟩
  | 11 => ⟨(some 27), .load (.t 26) 1 false, none⟩
  | 12 => ⟨(some 28), .bin .add (.t 23) (.t 27), none⟩
  | 13 => ⟨(some 29), .faddr (.t 7) 0, none⟩
  | 14 => ⟨(some 30), .load (.t 29) 1 false, none⟩
  | 15 => ⟨(some 31), .bin .sub (.t 28) (.t 30), none⟩
  | 16 => ⟨(some 5), .mv (.t 31), none⟩
  | _ => ⟨none, .mkmap, none⟩
@[go_sem] def s80_6 (_ : Unit) : IR := (sQ [(kT l80_4), (.kd (oF l80_5 17) [(0, []), (1, []), (2, []), (3, []), (4, []), (5, []), (6, []), (7, []), (8, []), (9, []), (10, []), (11, []), (12, []), (13, []), (14, []), (15, []), (16, [])] [1, 5, 9, 10, 11])])
@[go_sem] def s80_7 (_ : Unit) : IR := (.block 1 (tH s80_6))
@[go_sem] def l80_8 (_ : Unit) : KL := [kA 32 (.bin .add (.t 11) (cI 1)),
  kB 11 (.mv (.t 32)) [1, 5, 9, 10, 11]]
@[go_sem] def s80_9 (_ : Unit) : IR := (sQ [(kT l80_3), (.cond (.t 12) .skip (.exit 0)), (tH s80_7), (kT l80_8)])
@[go_sem] def s80_10 (_ : Unit) : IR := (.loop (tH s80_9))
@[go_sem] def s80_11 (_ : Unit) : IR := (.block 0 (tH s80_10))
@[go_sem] def s80_12 (_ : Unit) : IR := (sQ [(kT l80_2), (tH s80_11)])
@[go_sem] def l80_13 (_ : Unit) : KL := [kA 33 (.mv (.t 5)),
  kB 4 (.mv (.t 33)) [4]]
@[go_sem] def s80_14 (_ : Unit) : IR := (sQ [(kT l80_0), (kT l80_1), (tH s80_12), (kT l80_13), .ret])
theorem c80 : compFn Tryz.prog [(0, [], [oN, oS [1, 2]]), (1, [], [oS [1, 2, 5]]), (2, [], [oN, oN, oN, oS [1, 5, 9, 10, 11]]), (3, [], [oS [1, 5, 9, 10, 11, 12]]), (4, [], [oN, oN, oN, oN, oS [1, 5, 6, 7, 9, 10, 11, 15], oS [1, 5, 6, 7, 9, 10, 11]]), (5, [(0, []), (1, []), (2, []), (3, []), (4, []), (5, []), (6, []), (7, []), (8, []), (9, []), (10, []), (11, []), (12, []), (13, []), (14, []), (15, []), (16, [])], [oS [1, 5, 9, 10, 11]]), (6, [], [oN, oS [1, 5, 9, 10, 11]]), (7, [], [oN, oS [4]])] Tryz.f80 = some ⟨2, 34, [.t 4], (tH s80_14)⟩ := by kernel_rfl
theorem v_impl_number (hl : vs.length = 2) (h : wpV Tryz.prog (tH s80_14) (postV [.t 4] RV) (envV vs) M) : VCall Tryz.prog n_impl_number vs M RV :=
  vcall_of_wp (fun _ _ _ hl h => acall_of_wp mixed Tryz.func80 c80 (by kernel_rfl) hl h) hl h
@[go_sem] def l62_0 (_ : Unit) : KL := [kA 1 (.box (.t 0)),
  kB 2 (.mv (.c (.sl none 0 0 true 0))) [1]]
@[go_sem] def l62_1 (_ : Unit) : KL := [kA 7 (.faddr (.t 1) 0),
  kA 8 (.load (.t 7) 1 false),
  kA 9 (.call (n_impl_size) [(.t 8)]),
  kA 10 (.mks [(.sl none 0 0 true 0)] 24 (.t 9)),
  kB 3 (.mv (.t 10)) [1, 3]]
@[go_sem] def l62_2 (_ : Unit) : KL := [kA 11 (.mv (.t 3)),
  kA 12 (.len (.t 11)),
  kB 13 (.mv (cI 0)) [1, 3, 12, 13]]
@[go_sem] def l62_3 (_ : Unit) : KL := [kB 14 (.bin .lss (.t 13) (.t 12)) [1, 3, 12, 13, 14]]
@[go_sem] def l62_4 (_ : Unit) : KL := [kA 15 (.mv (.t 13)),
  kB 4 (.mv (.t 15)) [1, 3, 4, 12, 13]]
@[go_sem] def l62_5 : Nat → GOp
  | 0 => ⟨(some 16), .load (.t 1) 2 true, none⟩
  | 1 => ⟨(some 17), .load (.t 1) 2 true, none⟩
  | 2 => ⟨(some 18), .mv (.t 4), none⟩
  | 3 => ⟨(some 19), .call (n_impl_stateAt) [(.t 17), (.t 18)], none⟩
  | 4 => ⟨(some 20), .call (n_impl_nextStates) [(.t 16), (.t 19)], none⟩
  | 5 => ⟨(some 21), .len (.t 20), none⟩
  | 6 => ⟨(some 22), .mv (cI 0), none⟩
  | _ => ⟨none, .mkmap, none⟩
@[go_sem] def l62_6 (_ : Unit) : KL := [kB 23 (.bin .lss (.t 22) (.t 21)) [1, 3, 4, 12, 13, 20, 21, 22, 23]]
@[go_sem] def l62_7 (_ : Unit) : KL := [kA 24 (.iaddr (.t 20) (.t 22) 1),
  kA 25 (.load (.t 24) 1 false),
  kB 6 (.mv (.t 25)) [1, 3, 4, 6, 12, 13, 20, 21, 22]]
@[go_sem] def l62_8 : Nat → GOp
  | 0 => ⟨(some 26), .mv (.t 3), none⟩
  | 1 => ⟨(some 27), .mv (.t 4), none⟩
  | 2 => ⟨(some 28), .mv (.t 3), none⟩
  | 3 => ⟨(some 29), .mv (.t 4), none⟩
  | 4 => ⟨(some 30), .iaddr (.t 28) (.t 29) 1, none⟩
  | 5 => ⟨(some 31), .load (.t 30) 1 false, none⟩
  | 6 => ⟨(some 32), .load (.t 1) 2 true, none⟩
  | 7 => ⟨(some 33), .mv (.t 6), none⟩
  | 8 => ⟨(some 34), .call (n_impl_number) [(.t 32), (.t 33)], none⟩
  | 9 => ⟨(some 35), .bslc 1 1 [(.int .i64 0)] [(0, (.t 34))], none⟩
  | 10 => ⟨(some 36), .app 1 8 (.t 31) (.t 35), none⟩
  | 11 => ⟨(some 37), .iaddr (.t 26) (.t 27) 1, none⟩
  | 12 => ⟨none, .store (.t 37) 1 (.t 36), none⟩
  | _ => ⟨none, .mkmap, none⟩
@[go_sem] def s62_9 (_ : Unit) : IR := (sQ [(kT l62_7), (.kd (oF l62_8 13) [(0, []), (1, []), (2, []), (3, []), (4, []), (5, []), (6, []), (7, []), (8, [5]), (9, []), (10, []), (11, []), (12, [])] [1, 3, 4, 12, 13, 20, 21, 22])])
@[go_sem] def s62_10 (_ : Unit) : IR := (.block 3 (tH s62_9))
@[go_sem] def l62_11 (_ : Unit) : KL := [kA 38 (.bin .add (.t 22) (cI 1)),
  kB 22 (.mv (.t 38)) [1, 3, 4, 12, 13, 20, 21, 22]]
@[go_sem] def s62_12 (_ : Unit) : IR := (sQ [(kT l62_6), (.cond (.t 23) .skip (.exit 2)), (tH s62_10), (kT l62_11)])
@[go_sem] def s62_13 (_ : Unit) : IR := (.loop (tH s62_12))
@[go_sem] def s62_14 (_ : Unit) : IR := (.block 2 (tH s62_13))
@[go_sem] def s62_15 (_ : Unit) : IR := (sQ [(kT l62_4), (.kd (oF l62_5 7) [(0, []), (1, []), (2, []), (6, []), (3, [0]), (4, []), (5, [])] [1, 3, 4, 12, 13, 20, 21, 22]), (tH s62_14)])
@[go_sem] def s62_16 (_ : Unit) : IR := (.block 1 (tH s62_15))
@[go_sem] def l62_17 (_ : Unit) : KL := [kA 39 (.bin .add (.t 13) (cI 1)),
  kB 13 (.mv (.t 39)) [1, 3, 12, 13]]
@[go_sem] def s62_18 (_ : Unit) : IR := (sQ [(kT l62_3), (.cond (.t 14) .skip (.exit 0)), (tH s62_16), (kT l62_17)])
@[go_sem] def s62_19 (_ : Unit) : IR := (.loop (tH s62_18))
@[go_sem] def s62_20 (_ : Unit) : IR := (.block 0 (tH s62_19))
@[go_sem] def s62_21 (_ : Unit) : IR := (sQ [(kT l62_2), (tH s62_20)])
@[go_sem] def l62_22 (_ : Unit) : KL := [kA 40 (.mv (.t 3)),
  kB 2 (.mv (.t 40)) [2]]
@[go_sem] def s62_23 (_ : Unit) : IR := (sQ [(kT l62_0), (kT l62_1), (tH s62_21), (kT l62_22), .ret])
theorem c62 : compFn Tryz.prog [(0, [], [oN, oS [1]]), (1, [], [oN, oN, oN, oN, oS [1, 3]]), (2, [], [oN, oN, oS [1, 3, 12, 13]]), (3, [], [oS [1, 3, 12, 13, 14]]), (4, [], [oN, oS [1, 3, 4, 12, 13]]), (5, [(0, []), (1, []), (2, []), (6, []), (3, [0]), (4, []), (5, [])], [oS [1, 3, 4, 12, 13, 20, 21, 22]]), (6, [], [oS [1, 3, 4, 12, 13, 20, 21, 22, 23]]), (7, [], [oN, oN, oS [1, 3, 4, 6, 12, 13, 20, 21, 22]]), (8, [(0, []), (1, []), (2, []), (3, []), (4, []), (5, []), (6, []), (7, []), (8, [5]), (9, []), (10, []), (11, []), (12, [])], [oS [1, 3, 4, 12, 13, 20, 21, 22]]), (9, [], [oN, oS [1, 3, 4, 12, 13, 20, 21, 22]]), (10, [], [oN, oS [1, 3, 12, 13]]), (11, [], [oN, oS [2]])] Tryz.f62 = some ⟨1, 41, [.t 2], (tH s62_23)⟩ := by kernel_rfl
theorem v_impl_nexts (hl : vs.length = 1) (h : wpV Tryz.prog (tH s62_23) (postV [.t 2] RV) (envV vs) M) : VCall Tryz.prog n_impl_nexts vs M RV :=
  vcall_of_wp (fun _ _ _ hl h => acall_of_wp mixed Tryz.func62 c62 (by kernel_rfl) hl h) hl h
@[go_sem] def l81_0 (_ : Unit) : KL := [kA 1 (.box (.t 0)),
  kB 2 (.mv (.c (.sl none 0 0 true 0))) [1]]
@[go_sem] def l81_1 (_ : Unit) : KL := [kB 3 (.mv (.c (.sl none 0 0 true 0))) [1, 3]]
@[go_sem] def l81_2 (_ : Unit) : KL := [kA 6 (.faddr (.t 1) 0),
  kA 7 (.load (.t 6) 1 false),
  kA 8 (.len (.t 7)),
  kB 9 (.mv (cI 0)) [3, 7, 8, 9]]
@[go_sem] def l81_3 (_ : Unit) : KL := [kB 10 (.bin .lss (.t 9) (.t 8)) [3, 7, 8, 9, 10]]
@[go_sem] def l81_4 (_ : Unit) : KL := [kA 11 (.iaddr (.t 7) (.t 9) 3),
  kA 12 (.load (.t 11) 3 true),
  kA 5 (.alloc [(.int .i64 0), (.int .i64 0), (.int .i64 0)]),
  (⟨none, .store (.t 5) 3 (.t 12), none⟩, (some [3, 5, 7, 8, 9]))]
@[go_sem] def l81_5 (_ : Unit) : KL := [kA 13 (.mv (.t 3)),
  kA 14 (.faddr (.t 5) 2),
  kA 15 (.load (.t 14) 1 false),
  kA 16 (.bslc 1 1 [(.int .i64 0)] [(0, (.t 15))]),
  kB 17 (.app 1 8 (.t 13) (.t 16)) [7, 8, 9, 17],
  kB 3 (.mv (.t 17)) [3, 7, 8, 9]]
@[go_sem] def s81_6 (_ : Unit) : IR := (sQ [(kT l81_4), (kT l81_5)])
@[go_sem] def s81_7 (_ : Unit) : IR := (.block 1 (tH s81_6))
@[go_sem] def l81_8 (_ : Unit) : KL := [kA 18 (.bin .add (.t 9) (cI 1)),
  kB 9 (.mv (.t 18)) [3, 7, 8, 9]]
@[go_sem] def s81_9 (_ : Unit) : IR := (sQ [(kT l81_3), (.cond (.t 10) .skip (.exit 0)), (tH s81_7), (kT l81_8)])
@[go_sem] def s81_10 (_ : Unit) : IR := (.loop (tH s81_9))
@[go_sem] def s81_11 (_ : Unit) : IR := (.block 0 (tH s81_10))
@[go_sem] def s81_12 (_ : Unit) : IR := (sQ [(kT l81_2), (tH s81_11)])
@[go_sem] def l81_13 (_ : Unit) : KL := [kA 19 (.mv (.t 3)),
  kA 20 (.call (n_impl_clone_int) [(.t 19)]),
  kB 2 (.mv (.t 20)) [2]]
@[go_sem] def s81_14 (_ : Unit) : IR := (sQ [(kT l81_0), (kT l81_1), (tH s81_12), (kT l81_13), .ret])
theorem c81 : compFn Tryz.prog [(0, [], [oN, oS [1]]), (1, [], [oS [1, 3]]), (2, [], [oN, oN, oN, oS [3, 7, 8, 9]]), (3, [], [oS [3, 7, 8, 9, 10]]), (4, [], [oN, oN, oN, oS [3, 5, 7, 8, 9]]), (5, [], [oN, oN, oN, oN, oS [7, 8, 9, 17], oS [3, 7, 8, 9]]), (6, [], [oN, oS [3, 7, 8, 9]]), (7, [], [oN, oN, oS [2]])] Tryz.f81 = some ⟨1, 21, [.t 2], (tH s81_14)⟩ := by kernel_rfl
theorem v_impl_first (hl : vs.length = 1) (h : wpV Tryz.prog (tH s81_14) (postV [.t 2] RV) (envV vs) M) : VCall Tryz.prog n_impl_first vs M RV :=
  vcall_of_wp (fun _ _ _ hl h => acall_of_wp mixed Tryz.func81 c81 (by kernel_rfl) hl h) hl h
@[go_sem] def l160_0 (_ : Unit) : KL := [kA 4 (.mv (.c (.int .u32 0))),
  kB 5 (.mv (.c (.int .u32 0))) [0, 1]]
@[go_sem] def l160_1 (_ : Unit) : KL := [kA 7 (.mv (.t 0)),
  kA 8 (.cvi .u64 (.t 7)),
  kA 9 (.mv (.t 1)),
  kA 10 (.cvi .u64 (.t 9)),
  kB 11 (.bin .mul (.t 8) (.t 10)) [11],
  kB 6 (.mv (.t 11)) [6]]
@[go_sem] def l160_2 (_ : Unit) : KL := [kA 12 (.mv (.t 6)),
  kA 13 (.bin .shr (.t 12) (.c (.int .u64 32))),
  kA 14 (.cvi .u32 (.t 13)),
  kA 15 (.mv (.t 6)),
  kB 16 (.cvi .u32 (.t 15)) [14, 16],
  kA 4 (.mv (.t 14)),
  kB 5 (.mv (.t 16)) [4, 5]]
@[go_sem] def s160_3 (_ : Unit) : IR := (sQ [(kT l160_0), (kT l160_1), (kT l160_2), .ret])
@[go_sem] def l161_0 (_ : Unit) : KL := [kA 4 (.mv (.c (.int .u64 0))),
  kB 5 (.mv (.c (.int .u64 0))) [0, 1]]
@[go_sem] def l161_1 (_ : Unit) : KL := [kA 14 (.mv (.t 0)),
  kA 15 (.bin .and (.t 14) (.c (.int .u64 4294967295))),
  kB 6 (.mv (.t 15)) [0, 1, 6]]
@[go_sem] def l161_2 (_ : Unit) : KL := [kA 16 (.mv (.t 0)),
  kA 17 (.bin .shr (.t 16) (.c (.int .u64 32))),
  kB 7 (.mv (.t 17)) [0, 1, 6, 7]]
@[go_sem] def l161_3 (_ : Unit) : KL := [kA 18 (.mv (.t 1)),
  kA 19 (.bin .and (.t 18) (.c (.int .u64 4294967295))),
  kB 8 (.mv (.t 19)) [0, 1, 6, 7, 8]]
@[go_sem] def l161_4 (_ : Unit) : KL := [kA 20 (.mv (.t 1)),
  kA 21 (.bin .shr (.t 20) (.c (.int .u64 32))),
  kB 9 (.mv (.t 21)) [0, 1, 6, 7, 8, 9]]
@[go_sem] def l161_5 (_ : Unit) : KL := [kA 22 (.mv (.t 6)),
  kA 23 (.mv (.t 8)),
  kA 24 (.bin .mul (.t 22) (.t 23)),
  kB 10 (.mv (.t 24)) [0, 1, 6, 7, 8, 9, 10]]
@[go_sem] def l161_6 (_ : Unit) : KL := [kA 25 (.mv (.t 7)),
  kA 26 (.mv (.t 8)),
  kA 27 (.bin .mul (.t 25) (.t 26)),
  kA 28 (.mv (.t 10)),
  kB 29 (.bin .shr (.t 28) (.c (.int .u64 32))) [0, 1, 6, 7, 9, 27, 29],
  kA 30 (.bin .add (.t 27) (.t 29)),
  kB 11 (.mv (.t 30)) [0, 1, 6, 7, 9, 11]]
@[go_sem] def l161_7 (_ : Unit) : KL := [kA 31 (.mv (.t 11)),
  kA 32 (.bin .and (.t 31) (.c (.int .u64 4294967295))),
  kB 12 (.mv (.t 32)) [0, 1, 6, 7, 9, 11, 12]]
@[go_sem] def l161_8 (_ : Unit) : KL := [kA 33 (.mv (.t 11)),
  kA 34 (.bin .shr (.t 33) (.c (.int .u64 32))),
  kB 13 (.mv (.t 34)) [0, 1, 6, 7, 9, 12, 13]]
@[go_sem] def l161_9 (_ : Unit) : KL := [kA 35 (.mv (.t 12)),
  kA 36 (.mv (.t 6)),
  kA 37 (.mv (.t 9)),
  kA 38 (.bin .mul (.t 36) (.t 37)),
  kB 39 (.bin .add (.t 35) (.t 38)) [0, 1, 7, 9, 13, 39],
  kB 12 (.mv (.t 39)) [0, 1, 7, 9, 12, 13]]
@[go_sem] def l161_10 (_ : Unit) : KL := [kA 40 (.mv (.t 7)),
  kA 41 (.mv (.t 9)),
  kA 42 (.bin .mul (.t 40) (.t 41)),
  kA 43 (.mv (.t 13)),
  kB 44 (.bin .add (.t 42) (.t 43)) [0, 1, 12, 44],
  kA 45 (.mv (.t 12)),
  kA 46 (.bin .shr (.t 45) (.c (.int .u64 32))),
  kA 47 (.bin .add (.t 44) (.t 46)),
  kB 4 (.mv (.t 47)) [0, 1, 4]]
@[go_sem] def l161_11 (_ : Unit) : KL := [kA 48 (.mv (.t 0)),
  kA 49 (.mv (.t 1)),
  kA 50 (.bin .mul (.t 48) (.t 49)),
  kB 5 (.mv (.t 50)) [4, 5]]
@[go_sem] def s161_12 (_ : Unit) : IR := (sQ [(kT l161_0), (kT l161_1), (kT l161_2), (kT l161_3), (kT l161_4), (kT l161_5), (kT l161_6), (kT l161_7), (kT l161_8), (kT l161_9), (kT l161_10), (kT l161_11), .ret])
theorem c161 : compFn Tryz.prog [(0, [], [oN, oS [0, 1]]), (1, [], [oN, oN, oS [0, 1, 6]]), (2, [], [oN, oN, oS [0, 1, 6, 7]]), (3, [], [oN, oN, oS [0, 1, 6, 7, 8]]), (4, [], [oN, oN, oS [0, 1, 6, 7, 8, 9]]), (5, [], [oN, oN, oN, oS [0, 1, 6, 7, 8, 9, 10]]), (6, [], [oN, oN, oN, oN, oS [0, 1, 6, 7, 9, 27, 29], oN, oS [0, 1, 6, 7, 9, 11]]), (7, [], [oN, oN, oS [0, 1, 6, 7, 9, 11, 12]]), (8, [], [oN, oN, oS [0, 1, 6, 7, 9, 12, 13]]), (9, [], [oN, oN, oN, oN, oS [0, 1, 7, 9, 13, 39], oS [0, 1, 7, 9, 12, 13]]), (10, [], [oN, oN, oN, oN, oS [0, 1, 12, 44], oN, oN, oN, oS [0, 1, 4]]), (11, [], [oN, oN, oN, oS [4, 5]])] Tryz.f161 = some ⟨2, 51, [.t 4, .t 5], (tH s161_12)⟩ := by kernel_rfl
theorem v_math_bits_Mul64 (hl : vs.length = 2) (h : wpV Tryz.prog (tH s161_12) (postV [.t 4, .t 5] RV) (envV vs) M) : VCall Tryz.prog n_math_bits_Mul64 vs M RV :=
  vcall_of_wp (fun _ _ _ hl h => acall_of_wp mixed Tryz.func161 c161 (by kernel_rfl) hl h) hl h
@[go_sem] def l150_0 (_ : Unit) : KL := [kA 4 (.mv (.c (.int .u64 0))),
  kB 5 (.mv (.c (.int .u64 0))) [0, 1]]
@[go_sem] def l150_1 (_ : Unit) : KL := [kA 11 (.mv (.t 0)),
  kA 12 (.cvi .u32 (.t 11)),
  kA 13 (.mv (.t 1)),
  kA 14 (.cvi .u32 (.t 13)),
  kB 15 (.call (n_math_bits_Mul32) [(.t 12), (.t 14)]) [15],
  kA 10 (.mv (.t 15)),
  kA 16 (.ext (.t 10) 0),
  kA 17 (.ext (.t 10) 1),
  kA 6 (.mv (.t 16)),
  kB 7 (.mv (.t 17)) [6, 7]]
@[go_sem] def l150_2 (_ : Unit) : KL := [kA 18 (.mv (.t 6)),
  kA 19 (.cvi .u64 (.t 18)),
  kA 20 (.mv (.t 7)),
  kA 21 (.cvi .u64 (.t 20)),
  kB 4 (.mv (.t 19)) [4, 21],
  kB 5 (.mv (.t 21)) [4, 5]]
@[go_sem] def s150_3 (_ : Unit) : IR := (sQ [(kT l150_1), (kT l150_2), .ret])
@[go_sem] def l150_4 (_ : Unit) : KL := [kA 23 (.mv (.t 0)),
  kA 24 (.mv (.t 1)),
  kA 25 (.call (n_math_bits_Mul64) [(.t 23), (.t 24)]),
  kA 22 (.mv (.t 25)),
  kB 26 (.ext (.t 22) 0) [22, 26],
  kA 27 (.ext (.t 22) 1),
  kA 8 (.mv (.t 26)),
  kB 9 (.mv (.t 27)) [8, 9]]
@[go_sem] def l150_5 (_ : Unit) : KL := [kA 28 (.mv (.t 8)),
  kA 29 (.mv (.t 9)),
  kA 4 (.mv (.t 28)),
  kB 5 (.mv (.t 29)) [4, 5]]
@[go_sem] def s150_6 (_ : Unit) : IR := (sQ [(kT l150_0), (.cond (.c (.bool false)) (tH s150_3) .skip), (kT l150_4), (kT l150_5), .ret])
theorem c150 : compFn Tryz.prog [(0, [], [oN, oS [0, 1]]), (1, [], [oN, oN, oN, oN, oS [15], oN, oN, oN, oN, oS [6, 7]]), (2, [], [oN, oN, oN, oN, oS [4, 21], oS [4, 5]]), (3, [], [oN, oN, oN, oN, oS [22, 26], oN, oN, oS [8, 9]]), (4, [], [oN, oN, oN, oS [4, 5]])] Tryz.f150 = some ⟨2, 30, [.t 4, .t 5], (tH s150_6)⟩ := by kernel_rfl
theorem v_math_bits_Mul (hl : vs.length = 2) (h : wpV Tryz.prog (tH s150_6) (postV [.t 4, .t 5] RV) (envV vs) M) : VCall Tryz.prog n_math_bits_Mul vs M RV :=
  vcall_of_wp (fun _ _ _ hl h => acall_of_wp mixed Tryz.func150 c150 (by kernel_rfl) hl h) hl h
@[go_sem] def l127_0 (_ : Unit) : KL := [kB 4 (.mv (.c (.sl none 0 0 true 0))) [0, 1]]
@[go_sem] def l127_1 (_ : Unit) : KL := [kA 9 (.mv (.t 1)),
  kB 10 (.bin .lss (.t 9) (cI 0)) [0, 1, 10]]
@[go_sem] def l127_2 (_ : Unit) : KL := [kA 11 (.bad),
  (⟨none, .bad, none⟩, (some [0, 1]))]
@[go_sem] def s127_3 (_ : Unit) : IR := (sQ [(kT l127_1), (.cond (.t 10) (kT l127_2) .skip)])
@[go_sem] def l127_4 (_ : Unit) : KL := [kA 13 (.mv (.t 0)),
  kA 14 (.len (.t 13)),
  kA 15 (.cvi .u64 (.t 14)),
  kA 16 (.mv (.t 1)),
  kB 17 (.cvi .u64 (.t 16)) [0, 15, 17],
  kA 18 (.call (n_math_bits_Mul) [(.t 15), (.t 17)]),
  kA 12 (.mv (.t 18)),
  kA 19 (.ext (.t 12) 0),
  kA 20 (.ext (.t 12) 1),
  kB 5 (.mv (.t 19)) [0, 5, 20],
  kB 6 (.mv (.t 20)) [0, 5, 6]]
@[go_sem] def l127_5 (_ : Unit) : KL := [kA 21 (.mv (.t 5)),
  kA 22 (.bin .gtr (.t 21) (.c (.int .u64 0))),
  kA 23 (.mv (.t 22)),
  (⟨(some 24), .mv (.t 6), (some (23, false))⟩, none),
  (⟨(some 25), .bin .gtr (.t 24) (.c (.int .u64 9223372036854775807)), (some (23, false))⟩, (some [0, 6, 23, 25])),
  kB 26 (.pick (.t 23) (.c (.bool true)) (.t 25)) [0, 6, 26]]
@[go_sem] def l127_6 (_ : Unit) : KL := [kA 27 (.bad),
  (⟨none, .bad, none⟩, (some [0, 6]))]
@[go_sem] def s127_7 (_ : Unit) : IR := (sQ [(kT l127_5), (.cond (.t 26) (kT l127_6) .skip)])
@[go_sem] def l127_8 (_ : Unit) : KL := [kA 28 (.mv (.t 6)),
  kA 29 (.cvi .i64 (.t 28)),
  kA 30 (.mks [(.int .i64 0)] 8 (.t 29)),
  kB 7 (.mv (.t 30)) [0, 7]]
@[go_sem] def l127_9 (_ : Unit) : KL := [kA 31 (.mv (.t 7)),
  kA 32 (.mv (.t 0)),
  kA 33 (.copy 1 (.t 31) (.t 32)),
  kB 8 (.mv (.t 33)) [7, 8]]
@[go_sem] def l127_10 (_ : Unit) : KL := [kA 34 (.mv (.t 8)),
  kA 35 (.mv (.t 7)),
  kA 36 (.len (.t 35)),
  kB 37 (.bin .lss (.t 34) (.t 36)) [7, 8, 37]]
@[go_sem] def s127_11 (_ : Unit) : IR := (sQ [(kT l127_10), (.cond (.t 37) .skip (.exit 0))])
@[go_sem] def l127_12 : Nat → GOp
  | 0 => ⟨(some 38), .mv (.t 8), none⟩
  | 1 => ⟨(some 39), .mv (.t 7), none⟩
  | 2 => ⟨(some 40), .mv (.t 8), none⟩
  | 3 => ⟨(some 41), .slc 1 (.t 39) (some (.t 40)) none none, none⟩
  | 4 => ⟨(some 42), .mv (.t 7), none⟩
  | 5 => ⟨(some 43), .mv (.t 8), none⟩
  | 6 => ⟨(some 44), .slc 1 (.t 42) none (some (.t 43)) none, none⟩
  | 7 => ⟨(some 45), .copy 1 (.t 41) (.t 44), none⟩
  | 8 => ⟨(some 46), .bin .add (.t 38) (.t 45), none⟩
  | 9 => ⟨(some 8), .mv (.t 46), none⟩
  | _ => ⟨none, .mkmap, none⟩
@[go_sem] def s127_13 (_ : Unit) : IR := (.block 1 (.kd (oF l127_12 10) [(0, []), (1, []), (2, []), (3, []), (4, []), (5, []), (6, []), (7, []), (8, []), (9, [])] [7, 8]))
@[go_sem] def s127_14 (_ : Unit) : IR := (sQ [(tH s127_11), (tH s127_13)])
@[go_sem] def s127_15 (_ : Unit) : IR := (.loop (tH s127_14))
@[go_sem] def s127_16 (_ : Unit) : IR := (.block 0 (tH s127_15))
@[go_sem] def l127_17 (_ : Unit) : KL := [kA 47 (.mv (.t 7)),
  kB 4 (.mv (.t 47)) [4]]
@[go_sem] def s127_18 (_ : Unit) : IR := (sQ [(kT l127_0), (tH s127_3), (kT l127_4), (tH s127_7), (kT l127_8), (kT l127_9), (tH s127_16), (kT l127_17), .ret])
theorem c127 : compFn Tryz.prog [(0, [], [oS [0, 1]]), (1, [], [oN, oS [0, 1, 10]]), (2, [], [oN, oS [0, 1]]), (3, [], [oN, oN, oN, oN, oS [0, 15, 17], oN, oN, oN, oN, oS [0, 5, 20], oS [0, 5, 6]]), (4, [], [oN, oN, oN, oN, oS [0, 6, 23, 25], oS [0, 6, 26]]), (5, [], [oN, oS [0, 6]]), (6, [], [oN, oN, oN, oS [0, 7]]), (7, [], [oN, oN, oN, oS [7, 8]]), (8, [], [oN, oN, oN, oS [7, 8, 37]]), (9, [(0, []), (1, []), (2, []), (3, []), (4, []), (5, []), (6, []), (7, []), (8, []), (9, [])], [oS [7, 8]]), (10, [], [oN, oS [4]])] Tryz.f127 = some ⟨2, 48, [.t 4], (tH s127_18)⟩ := by kernel_rfl
theorem v_slices_Repeat_Sint_int (hl : vs.length = 2) (h : wpV Tryz.prog (tH s127_18) (postV [.t 4] RV) (envV vs) M) : VCall Tryz.prog n_slices_Repeat_Sint_int vs M RV :=
  vcall_of_wp (fun _ _ _ hl h => acall_of_wp mixed Tryz.func127 c127 (by kernel_rfl) hl h) hl h
@[go_sem] def l79_0 (_ : Unit) : KL := [kB 4 (.mv (.c (.sl none 0 0 true 0))) [0, 1]]
@[go_sem] def l79_1 (_ : Unit) : KL := [kA 10 (.bslc 1 1 [(.int .i64 0)] [(0, (.c (.int .i64 (-1))))]),
  kA 11 (.mv (.t 0)),
  kA 12 (.len (.t 11)),
  kA 13 (.call (n_slices_Repeat_Sint_int) [(.t 10), (.t 12)]),
  kB 5 (.mv (.t 13)) [0, 1, 5]]
@[go_sem] def l79_2 (_ : Unit) : KL := [kA 14 (.mv (.t 5)),
  kA 15 (.mv (.t 1)),
  kA 16 (.iaddr (.t 14) (.t 15) 1),
  (⟨none, .store (.t 16) 1 (cI 0), none⟩, (some [0, 1, 5]))]
@[go_sem] def l79_3 (_ : Unit) : KL := [kA 17 (.mv (.t 1)),
  kA 18 (.bslc 1 1 [(.int .i64 0)] [(0, (.t 17))]),
  kB 6 (.mv (.t 18)) [0, 5, 6]]
@[go_sem] def l79_4 (_ : Unit) : KL := [kA 19 (.mv (.t 6)),
  kA 20 (.len (.t 19)),
  kB 21 (.bin .gtr (.t 20) (cI 0)) [0, 5, 6, 21]]
@[go_sem] def s79_5 (_ : Unit) : IR := (sQ [(kT l79_4), (.cond (.t 21) .skip (.exit 0))])
@[go_sem] def l79_6 (_ : Unit) : KL := [kA 22 (.mv (.t 6)),
  kA 23 (.iaddr (.t 22) (cI 0) 1),
  kA 24 (.load (.t 23) 1 false),
  kB 7 (.mv (.t 24)) [0, 5, 6, 7]]
@[go_sem] def l79_7 (_ : Unit) : KL := [kA 25 (.mv (.t 6)),
  kA 26 (.slcd 1 (.t 25)),
  kB 6 (.mv (.t 26)) [0, 5, 6, 7]]
@[go_sem] def l79_8 (_ : Unit) : KL := [kA 27 (.mv (.t 0)),
  kA 28 (.mv (.t 7)),
  kA 29 (.iaddr (.t 27) (.t 28) 1),
  kA 30 (.load (.t 29) 1 false),
  kB 31 (.len (.t 30)) [0, 5, 6, 7, 30, 31],
  kB 32 (.mv (cI 0)) [0, 5, 6, 7, 30, 31, 32]]
@[go_sem] def l79_9 (_ : Unit) : KL := [kB 33 (.bin .lss (.t 32) (.t 31)) [0, 5, 6, 7, 30, 31, 32, 33]]
@[go_sem] def l79_10 (_ : Unit) : KL := [kA 34 (.iaddr (.t 30) (.t 32) 1),
  kA 35 (.load (.t 34) 1 false),
  kB 9 (.mv (.t 35)) [0, 5, 6, 7, 9, 30, 31, 32]]
@[go_sem] def l79_11 (_ : Unit) : KL := [kA 36 (.mv (.t 5)),
  kA 37 (.mv (.t 9)),
  kA 38 (.iaddr (.t 36) (.t 37) 1),
  kA 39 (.load (.t 38) 1 false),
  kB 40 (.bin .lss (.t 39) (cI 0)) [0, 5, 6, 7, 9, 30, 31, 32, 40]]
@[go_sem] def l79_12 (_ : Unit) : KL := [kA 41 (.mv (.t 5)),
  kA 42 (.mv (.t 9)),
  kA 43 (.mv (.t 5)),
  kA 44 (.mv (.t 7)),
  kB 45 (.iaddr (.t 43) (.t 44) 1) [0, 5, 6, 7, 9, 30, 31, 32, 41, 42, 45],
  kA 46 (.load (.t 45) 1 false),
  kA 47 (.bin .add (.t 46) (cI 1)),
  kA 48 (.iaddr (.t 41) (.t 42) 1),
  (⟨none, .store (.t 48) 1 (.t 47), none⟩, (some [0, 5, 6, 7, 9, 30, 31, 32]))]
@[go_sem] def l79_13 (_ : Unit) : KL := [kA 49 (.mv (.t 6)),
  kA 50 (.mv (.t 9)),
  kA 51 (.bslc 1 1 [(.int .i64 0)] [(0, (.t 50))]),
  kA 52 (.app 1 8 (.t 49) (.t 51)),
  kB 6 (.mv (.t 52)) [0, 5, 6, 7, 30, 31, 32]]
@[go_sem] def s79_14 (_ : Unit) : IR := (sQ [(kT l79_12), (kT l79_13)])
@[go_sem] def s79_15 (_ : Unit) : IR := (sQ [(kT l79_10), (kT l79_11), (.cond (.t 40) (tH s79_14) .skip)])
@[go_sem] def s79_16 (_ : Unit) : IR := (.block 3 (tH s79_15))
@[go_sem] def l79_17 (_ : Unit) : KL := [kA 53 (.bin .add (.t 32) (cI 1)),
  kB 32 (.mv (.t 53)) [0, 5, 6, 7, 30, 31, 32]]
@[go_sem] def s79_18 (_ : Unit) : IR := (sQ [(kT l79_9), (.cond (.t 33) .skip (.exit 2)), (tH s79_16), (kT l79_17)])
@[go_sem] def s79_19 (_ : Unit) : IR := (.loop (tH s79_18))
@[go_sem] def s79_20 (_ : Unit) : IR := (.block 2 (tH s79_19))
@[go_sem] def s79_21 (_ : Unit) : IR := (sQ [(kT l79_6), (kT l79_7), (kT l79_8), (tH s79_20)])
@[go_sem] def s79_22 (_ : Unit) : IR := (.block 1 (tH s79_21))
@[go_sem] def s79_23 (_ : Unit) : IR := (sQ [(tH s79_5), (tH s79_22)])
@[go_sem] def s79_24 (_ : Unit) : IR := (.loop (tH s79_23))
@[go_sem] def s79_25 (_ : Unit) : IR := (.block 0 (tH s79_24))
@[go_sem] def s79_26 (_ : Unit) : IR := (sQ [(kT l79_3), (tH s79_25)])
@[go_sem] def l79_27 (_ : Unit) : KL := [kA 54 (.mv (.t 5)),
  kB 4 (.mv (.t 54)) [4]]
@[go_sem] def s79_28 (_ : Unit) : IR := (sQ [(kT l79_0), (kT l79_1), (kT l79_2), (tH s79_26), (kT l79_27), .ret])
theorem c79 : compFn Tryz.prog [(0, [], [oS [0, 1]]), (1, [], [oN, oN, oN, oN, oS [0, 1, 5]]), (2, [], [oN, oN, oN, oS [0, 1, 5]]), (3, [], [oN, oN, oS [0, 5, 6]]), (4, [], [oN, oN, oS [0, 5, 6, 21]]), (5, [], [oN, oN, oN, oS [0, 5, 6, 7]]), (6, [], [oN, oN, oS [0, 5, 6, 7]]), (7, [], [oN, oN, oN, oN, oS [0, 5, 6, 7, 30, 31], oS [0, 5, 6, 7, 30, 31, 32]]), (8, [], [oS [0, 5, 6, 7, 30, 31, 32, 33]]), (9, [], [oN, oN, oS [0, 5, 6, 7, 9, 30, 31, 32]]), (10, [], [oN, oN, oN, oN, oS [0, 5, 6, 7, 9, 30, 31, 32, 40]]), (11, [], [oN, oN, oN, oN, oS [0, 5, 6, 7, 9, 30, 31, 32, 41, 42, 45], oN, oN, oN, oS [0, 5, 6, 7, 9, 30, 31, 32]]), (12, [], [oN, oN, oN, oN, oS [0, 5, 6, 7, 30, 31, 32]]), (13, [], [oN, oS [0, 5, 6, 7, 30, 31, 32]]), (14, [], [oN, oS [4]])] Tryz.f79 = some ⟨2, 55, [.t 4], (tH s79_28)⟩ := by kernel_rfl
theorem v_impl_steps (hl : vs.length = 2) (h : wpV Tryz.prog (tH s79_28) (postV [.t 4] RV) (envV vs) M) : VCall Tryz.prog n_impl_steps vs M RV :=
  vcall_of_wp (fun _ _ _ hl h => acall_of_wp mixed Tryz.func79 c79 (by kernel_rfl) hl h) hl h
@[go_sem] def l31_0 (_ : Unit) : KL := [kA 1 (.box (.t 0)),
  kB 2 (.mv (.c (.sl none 0 0 true 0))) [1]]
@[go_sem] def l31_1 (_ : Unit) : KL := [kA 3 (.load (.t 1) 2 true),
  kA 4 (.call (n_impl_SystemValid) [(.t 3)]),
  kB 5 (.un .not (.t 4)) [1, 5]]
@[go_sem] def l31_2 (_ : Unit) : KL := [kB 2 (.mv (.c (.sl none 0 0 true 0))) [2]]
@[go_sem] def s31_3 (_ : Unit) : IR := (sQ [(kT l31_2), .ret])
@[go_sem] def s31_4 (_ : Unit) : IR := (sQ [(kT l31_1), (.cond (.t 5) (tH s31_3) .skip)])
@[go_sem] def l31_5 : Nat → GOp
  | 0 => ⟨(some 6), .load (.t 1) 2 true, none⟩
  | 1 => ⟨(some 7), .call (n_impl_nexts) [(.t 6)], none⟩
  | 2 => ⟨(some 8), .load (.t 1) 2 true, none⟩
  | 3 => ⟨(some 9), .load (.t 1) 2 true, none⟩
  | 4 => ⟨(some 10), .call (n_impl_first) [(.t 9)], none⟩
  | 5 => ⟨(some 11), .call (n_impl_number) [(.t 8), (.t 10)], none⟩
  | 6 => ⟨(some 12), .call (n_impl_steps) [(.t 7), (.t 11)], none⟩
  | 7 => ⟨(some 13), .call (n_impl_clone_int) [(.t 12)], none⟩
  | 8 => ⟨(some 2), .mv (.t 13), none⟩
  | _ => ⟨none, .mkmap, none⟩
@[go_sem] def s31_6 (_ : Unit) : IR := (sQ [(kT l31_0), (tH s31_4), (.kd (oF l31_5 9) [(0, []), (2, []), (3, []), (1, [2, 3]), (4, [2]), (5, []), (6, []), (7, []), (8, [])] [2]), .ret])
theorem c31 : compFn Tryz.prog [(0, [], [oN, oS [1]]), (1, [], [oN, oN, oS [1, 5]]), (2, [], [oS [2]]), (3, [(0, []), (2, []), (3, []), (1, [2, 3]), (4, [2]), (5, []), (6, []), (7, []), (8, [])], [oS [2]])] Tryz.f31 = some ⟨1, 14, [.t 2], (tH s31_6)⟩ := by kernel_rfl
theorem v_impl_StepsTo (hl : vs.length = 1) (h : wpV Tryz.prog (tH s31_6) (postV [.t 2] RV) (envV vs) M) : VCall Tryz.prog n_impl_StepsTo vs M RV :=
  vcall_of_wp (fun _ _ _ hl h => acall_of_wp mixed Tryz.func31 c31 (by kernel_rfl) hl h) hl h
@[go_sem] def l19_0 (_ : Unit) : KL := [kB 4 (.mv (.c (.bool false))) [0, 1]]
@[go_sem] def l19_1 (_ : Unit) : KL := [kA 6 (.mv (.t 0)),
  kA 7 (.len (.t 6)),
  kA 8 (.mv (.t 1)),
  kA 9 (.len (.t 8)),
  kB 10 (.bin .neq (.t 7) (.t 9)) [0, 1, 10]]
@[go_sem] def l19_2 (_ : Unit) : KL := [kB 4 (.mv (.c (.bool false))) [4]]
@[go_sem] def s19_3 (_ : Unit) : IR := (sQ [(kT l19_2), .ret])
@[go_sem] def s19_4 (_ : Unit) : IR := (sQ [(kT l19_1), (.cond (.t 10) (tH s19_3) .skip)])
@[go_sem] def l19_5 (_ : Unit) : KL := [kB 5 (.mv (cI 0)) [0, 1, 5]]
@[go_sem] def l19_6 (_ : Unit) : KL := [kA 11 (.mv (.t 5)),
  kA 12 (.mv (.t 0)),
  kA 13 (.len (.t 12)),
  kB 14 (.bin .lss (.t 11) (.t 13)) [0, 1, 5, 14]]
@[go_sem] def s19_7 (_ : Unit) : IR := (sQ [(kT l19_6), (.cond (.t 14) .skip (.exit 0))])
@[go_sem] def l19_8 : Nat → GOp
  | 0 => ⟨(some 17), .mv (.t 0), none⟩
  | 1 => ⟨(some 18), .mv (.t 5), none⟩
  | 2 => ⟨(some 19), .iaddr (.t 17) (.t 18) 1, none⟩
  | 3 => ⟨(some 20), .load (.t 19) 1 false, none⟩
  | 4 => ⟨(some 21), .mv (.t 1), none⟩
  | 5 => ⟨(some 22), .mv (.t 5), none⟩
  | 6 => ⟨(some 23), .iaddr (.t 21) (.t 22) 1, none⟩
  | 7 => ⟨(some 24), .load (.t 23) 1 false, none⟩
  | 8 => ⟨(some 25), .bin .neq (.t 20) (.t 24), none⟩
  | _ => ⟨none, .mkmap, none⟩
@[go_sem] def l19_9 (_ : Unit) : KL := [kB 4 (.mv (.c (.bool false))) [4]]
@[go_sem] def s19_10 (_ : Unit) : IR := (sQ [(kT l19_9), .ret])
@[go_sem] def s19_11 (_ : Unit) : IR := (sQ [(.kd (oF l19_8 9) [(0, []), (1, []), (2, []), (3, []), (4, []), (5, []), (6, []), (7, []), (8, [])] [0, 1, 5, 25]), (.cond (.t 25) (tH s19_10) .skip)])
@[go_sem] def s19_12 (_ : Unit) : IR := (.block 1 (tH s19_11))
@[go_sem] def l19_13 (_ : Unit) : KL := [kA 15 (.mv (.t 5)),
  kA 16 (.bin .add (.t 15) (cI 1)),
  kB 5 (.mv (.t 16)) [0, 1, 5]]
@[go_sem] def s19_14 (_ : Unit) : IR := (sQ [(tH s19_7), (tH s19_12), (kT l19_13)])
@[go_sem] def s19_15 (_ : Unit) : IR := (.loop (tH s19_14))
@[go_sem] def s19_16 (_ : Unit) : IR := (.block 0 (tH s19_15))
@[go_sem] def s19_17 (_ : Unit) : IR := (sQ [(kT l19_5), (tH s19_16)])
@[go_sem] def l19_18 (_ : Unit) : KL := [kB 4 (.mv (.c (.bool true))) [4]]
@[go_sem] def s19_19 (_ : Unit) : IR := (sQ [(kT l19_0), (tH s19_4), (tH s19_17), (kT l19_18), .ret])
theorem c19 : compFn Tryz.prog [(0, [], [oS [0, 1]]), (1, [], [oN, oN, oN, oN, oS [0, 1, 10]]), (2, [], [oS [4]]), (3, [], [oS [0, 1, 5]]), (4, [], [oN, oN, oN, oS [0, 1, 5, 14]]), (6, [(0, []), (1, []), (2, []), (3, []), (4, []), (5, []), (6, []), (7, []), (8, [])], [oS [0, 1, 5, 25]]), (7, [], [oS [4]]), (5, [], [oN, oN, oS [0, 1, 5]]), (8, [], [oS [4]])] Tryz.f19 = some ⟨2, 26, [.t 4], (tH s19_19)⟩ := by kernel_rfl
theorem v_laws_eqIntS (hl : vs.length = 2) (h : wpV Tryz.prog (tH s19_19) (postV [.t 4] RV) (envV vs) M) : VCall Tryz.prog n_laws_eqIntS vs M RV :=
  vcall_of_wp (fun _ _ _ hl h => acall_of_wp mixed Tryz.func19 c19 (by kernel_rfl) hl h) hl h
@[go_sem] def l111_0 (_ : Unit) : KL := [kA 2 (.box (.t 0)),
  kA 3 (.box (.t 1)),
  kB 4 (.mv (.c (.bool false))) [2, 3]]
@[go_sem] def l111_1 (_ : Unit) : KL := [kA 5 (.faddr (.t 2) 0),
  kA 6 (.load (.t 5) 1 false),
  kA 7 (.faddr (.t 3) 0),
  kA 8 (.load (.t 7) 1 false),
  kB 9 (.bin .neq (.t 6) (.t 8)) [2, 3, 9]]
@[go_sem] def l111_2 (_ : Unit) : KL := [kB 4 (.mv (.c (.bool false))) [4]]
@[go_sem] def s111_3 (_ : Unit) : IR := (sQ [(kT l111_2), .ret])
@[go_sem] def s111_4 (_ : Unit) : IR := (sQ [(kT l111_1), (.cond (.t 9) (tH s111_3) .skip)])
@[go_sem] def l111_5 (_ : Unit) : KL := [kA 10 (.faddr (.t 2) 1),
  kA 11 (.load (.t 10) 1 false),
  kA 12 (.faddr (.t 3) 1),
  kA 13 (.load (.t 12) 1 false),
  kB 14 (.bin .neq (.t 11) (.t 13)) [2, 3, 14]]
@[go_sem] def l111_6 (_ : Unit) : KL := [kB 4 (.mv (.c (.bool false))) [4]]
@[go_sem] def s111_7 (_ : Unit) : IR := (sQ [(kT l111_6), .ret])
@[go_sem] def s111_8 (_ : Unit) : IR := (sQ [(kT l111_5), (.cond (.t 14) (tH s111_7) .skip)])
@[go_sem] def l111_9 (_ : Unit) : KL := [kA 15 (.faddr (.t 2) 2),
  kA 16 (.load (.t 15) 1 false),
  kA 17 (.faddr (.t 3) 2),
  kA 18 (.load (.t 17) 1 false),
  kB 19 (.bin .neq (.t 16) (.t 18)) [19]]
@[go_sem] def l111_10 (_ : Unit) : KL := [kB 4 (.mv (.c (.bool false))) [4]]
@[go_sem] def s111_11 (_ : Unit) : IR := (sQ [(kT l111_10), .ret])
@[go_sem] def s111_12 (_ : Unit) : IR := (sQ [(kT l111_9), (.cond (.t 19) (tH s111_11) .skip)])
@[go_sem] def l111_13 (_ : Unit) : KL := [kB 4 (.mv (.c (.bool true))) [4]]
@[go_sem] def s111_14 (_ : Unit) : IR := (sQ [(kT l111_0), (tH s111_4), (tH s111_8), (tH s111_12), (kT l111_13), .ret])
theorem c111 : compFn Tryz.prog [(0, [], [oN, oN, oS [2, 3]]), (1, [], [oN, oN, oN, oN, oS [2, 3, 9]]), (2, [], [oS [4]]), (3, [], [oN, oN, oN, oN, oS [2, 3, 14]]), (4, [], [oS [4]]), (5, [], [oN, oN, oN, oN, oS [19]]), (6, [], [oS [4]]), (7, [], [oS [4]])] Tryz.f111 = some ⟨2, 20, [.t 4], (tH s111_14)⟩ := by kernel_rfl
theorem v_laws_eqVar (hl : vs.length = 2) (h : wpV Tryz.prog (tH s111_14) (postV [.t 4] RV) (envV vs) M) : VCall Tryz.prog n_laws_eqVar vs M RV :=
  vcall_of_wp (fun _ _ _ hl h => acall_of_wp mixed Tryz.func111 c111 (by kernel_rfl) hl h) hl h
end Go.M2
