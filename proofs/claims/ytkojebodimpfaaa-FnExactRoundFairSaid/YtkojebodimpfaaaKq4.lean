/- The functions, turned: printed by program. -/
import Derived.Test.YtkojebodimpfaaaKq3
import Derived.Test.YtkojebodimpfaaaProg
import Derived.KernelRfl
set_option linter.unusedVariables false
set_option linter.unusedSimpArgs false
set_option maxRecDepth 10000
set_option maxHeartbeats 4000000
namespace Go.M2
open Go.Proofs
variable {M : MH} {vs : List V} {RV : V → MH → Prop}
theorem mixed : Try.prog.follows .mixedOrders = true := by kernel_rfl
def n_laws_szVarS : Nat := 35
def n_laws_szTermS : Nat := 110
def n_laws_szIntS : Nat := 52
def n_laws_szTermSS : Nat := 111
def n_laws_szRule : Nat := 78
def n_laws_szRuleS : Nat := 36
def n_laws_szSystem : Nat := 8
def n_laws_toVar : Nat := 80
def n_laws_toVarS : Nat := 39
def n_laws_toTerm : Nat := 126
def n_laws_toTermS : Nat := 113
def n_laws_toIntS : Nat := 11
def n_laws_toTermSS : Nat := 114
def n_laws_toRule : Nat := 81
def n_laws_toRuleS : Nat := 40
def n_laws_toSystem : Nat := 10
def n_spec_l1In : Nat := 48
def n_spec_l2Var : Nat := 93
def n_spec_l1One : Nat := 141
def n_spec_l1Kind : Nat := 139
def n_spec_KindsOf : Nat := 132
def n_spec_l2Is : Nat := 122
def n_spec_l2Rule : Nat := 94
def n_spec_SystemValid : Nat := 53
def n_spec_l2In : Nat := 56
def n_spec_InRange : Nat := 37
def n_spec_l1Held : Nat := 137
def n_spec_l1Truth : Nat := 138
def n_spec_l1Do : Nat := 131
def n_spec_l1Values : Nat := 121
def n_spec_l2Last : Nat := 91
def n_spec_l2Use : Nat := 49
def n_spec_l2Same : Nat := 50
def n_spec_l2Less : Nat := 112
def n_spec_l2Put : Nat := 79
def n_spec_l2Next : Nat := 38
def n_spec_RoundFrom : Nat := 20
def n_spec_RulesSet : Nat := 103
def n_spec_l23Asked : Nat := 68
def n_spec_SizeOf : Nat := 104
def n_spec_FirstState : Nat := 54
def n_spec_l3Copy : Nat := 55
def n_spec_l4State : Nat := 105
def n_spec_l23Usable : Nat := 69
def n_spec_l2Has : Nat := 70
def n_spec_l4Number : Nat := 106
def n_spec_l23Often : Nat := 71
def n_spec_RoundFair : Nat := 33
def n_impl_in : Nat := 59
def n_slices_IndexFunc_Simpl_Var_impl_Var : Nat := 123
def n_slices_ContainsFunc_Simpl_Var_impl_Var : Nat := 95
def n_impl_varOk : Nat := 97
def n_impl_SystemValid_1 : Nat := 96
def n_impl_size : Nat := 98
def n_impl_parts : Nat := 140
def n_impl_kindsOf : Nat := 133
def n_impl_kindOf : Nat := 125
def n_impl_ruleOk : Nat := 101
def n_impl_SystemValid_2 : Nat := 100
def n_slices_IndexFunc_Simpl_Rule_impl_Rule : Nat := 124
def n_slices_ContainsFunc_Simpl_Rule_impl_Rule : Nat := 99
def n_impl_SystemValid : Nat := 58
def n_impl_inRange : Nat := 82
def n_impl_InRange : Nat := 41
def n_impl_held : Nat := 134
def n_impl_bit : Nat := 135
def n_impl_do : Nat := 127
def n_impl_eval : Nat := 115
def n_impl_clone_int : Nat := 64
def n_impl_use : Nat := 83
def n_impl_usableIn : Nat := 92
def n_slices_Equal_Sint_int : Nat := 60
def n_impl_clone_Sint : Nat := 67
def n_impl_roundFrom : Nat := 51
def n_impl_RoundFrom : Nat := 21
def n_impl_setOk : Nat := 107
def n_impl_rulesOk : Nat := 72
def n_slices_Index_Sint_int : Nat := 108
def n_slices_Contains_Sint_int : Nat := 73
def n_impl_usable : Nat := 76
def n_impl_RoundFair_1 : Nat := 75
def n_slices_IndexFunc_SSint_Sint : Nat := 109
def n_slices_ContainsFunc_SSint_Sint : Nat := 74
def n_impl_RoundFair_2 : Nat := 77
def n_impl_RoundFair : Nat := 34
def n_laws_eqVar : Nat := 87
def n_laws_eqVarS : Nat := 43
def n_laws_eqTerm : Nat := 130
def n_laws_eqTermS : Nat := 119
def n_laws_eqIntS : Nat := 15
def n_laws_eqTermSS : Nat := 120
def n_laws_eqRule : Nat := 88
def n_laws_eqRuleS : Nat := 44
def n_laws_eqSystem : Nat := 14
def n_laws_FnExactRoundFair : Nat := 7
@[go_sem] def l35_0 (_ : Unit) : KL := [kB 4 (.mv (cI 0)) [0, 1]]
@[go_sem] def l35_1 (_ : Unit) : KL := [kA 5 (.mv (.t 1)),
  kA 6 (.mv (.t 0)),
  kA 7 (.len (.t 6)),
  kA 8 (.bin .sub (.t 5) (.t 7)),
  kB 1 (.mv (.t 8)) [1]]
@[go_sem] def l35_2 (_ : Unit) : KL := [kA 9 (.mv (.t 1)),
  kB 10 (.bin .lss (.t 9) (cI 0)) [1, 10]]
@[go_sem] def l35_3 (_ : Unit) : KL := [kB 4 (.mv (.c (.int .i64 (-1)))) [4]]
@[go_sem] def s35_4 (_ : Unit) : IR := (sQ [(kT l35_3), .ret])
@[go_sem] def s35_5 (_ : Unit) : IR := (sQ [(kT l35_2), (.cond (.t 10) (tH s35_4) .skip)])
@[go_sem] def l35_6 (_ : Unit) : KL := [kA 11 (.mv (.t 1)),
  kB 4 (.mv (.t 11)) [4]]
@[go_sem] def s35_7 (_ : Unit) : IR := (sQ [(kT l35_0), (kT l35_1), (tH s35_5), (kT l35_6), .ret])
theorem c35 : compFn Try.prog [(0, [], [oS [0, 1]]), (1, [], [oN, oN, oN, oN, oS [1]]), (2, [], [oN, oS [1, 10]]), (3, [], [oS [4]]), (4, [], [oN, oS [4]])] Try.f35 = some ⟨2, 12, [.t 4], (tH s35_7)⟩ := by kernel_rfl
theorem v_laws_szVarS (hl : vs.length = 2) (h : wpV Try.prog (tH s35_7) (postV [.t 4] RV) (envV vs) M) : VCall Try.prog n_laws_szVarS vs M RV :=
  vcall_of_wp (fun _ _ _ hl h => acall_of_wp mixed Try.func35 c35 (by kernel_rfl) hl h) hl h
@[go_sem] def l110_0 (_ : Unit) : KL := [kB 4 (.mv (cI 0)) [0, 1]]
@[go_sem] def l110_1 (_ : Unit) : KL := [kA 5 (.mv (.t 1)),
  kA 6 (.mv (.t 0)),
  kA 7 (.len (.t 6)),
  kA 8 (.bin .sub (.t 5) (.t 7)),
  kB 1 (.mv (.t 8)) [1]]
@[go_sem] def l110_2 (_ : Unit) : KL := [kA 9 (.mv (.t 1)),
  kB 10 (.bin .lss (.t 9) (cI 0)) [1, 10]]
@[go_sem] def l110_3 (_ : Unit) : KL := [kB 4 (.mv (.c (.int .i64 (-1)))) [4]]
@[go_sem] def s110_4 (_ : Unit) : IR := (sQ [(kT l110_3), .ret])
@[go_sem] def s110_5 (_ : Unit) : IR := (sQ [(kT l110_2), (.cond (.t 10) (tH s110_4) .skip)])
@[go_sem] def l110_6 (_ : Unit) : KL := [kA 11 (.mv (.t 1)),
  kB 4 (.mv (.t 11)) [4]]
@[go_sem] def s110_7 (_ : Unit) : IR := (sQ [(kT l110_0), (kT l110_1), (tH s110_5), (kT l110_6), .ret])
theorem c110 : compFn Try.prog [(0, [], [oS [0, 1]]), (1, [], [oN, oN, oN, oN, oS [1]]), (2, [], [oN, oS [1, 10]]), (3, [], [oS [4]]), (4, [], [oN, oS [4]])] Try.f110 = some ⟨2, 12, [.t 4], (tH s110_7)⟩ := by kernel_rfl
theorem v_laws_szTermS (hl : vs.length = 2) (h : wpV Try.prog (tH s110_7) (postV [.t 4] RV) (envV vs) M) : VCall Try.prog n_laws_szTermS vs M RV :=
  vcall_of_wp (fun _ _ _ hl h => acall_of_wp mixed Try.func110 c110 (by kernel_rfl) hl h) hl h
@[go_sem] def l52_0 (_ : Unit) : KL := [kB 4 (.mv (cI 0)) [0, 1]]
@[go_sem] def l52_1 (_ : Unit) : KL := [kA 5 (.mv (.t 1)),
  kA 6 (.mv (.t 0)),
  kA 7 (.len (.t 6)),
  kA 8 (.bin .sub (.t 5) (.t 7)),
  kB 1 (.mv (.t 8)) [1]]
@[go_sem] def l52_2 (_ : Unit) : KL := [kA 9 (.mv (.t 1)),
  kB 10 (.bin .lss (.t 9) (cI 0)) [1, 10]]
@[go_sem] def l52_3 (_ : Unit) : KL := [kB 4 (.mv (.c (.int .i64 (-1)))) [4]]
@[go_sem] def s52_4 (_ : Unit) : IR := (sQ [(kT l52_3), .ret])
@[go_sem] def s52_5 (_ : Unit) : IR := (sQ [(kT l52_2), (.cond (.t 10) (tH s52_4) .skip)])
@[go_sem] def l52_6 (_ : Unit) : KL := [kA 11 (.mv (.t 1)),
  kB 4 (.mv (.t 11)) [4]]
@[go_sem] def s52_7 (_ : Unit) : IR := (sQ [(kT l52_0), (kT l52_1), (tH s52_5), (kT l52_6), .ret])
theorem c52 : compFn Try.prog [(0, [], [oS [0, 1]]), (1, [], [oN, oN, oN, oN, oS [1]]), (2, [], [oN, oS [1, 10]]), (3, [], [oS [4]]), (4, [], [oN, oS [4]])] Try.f52 = some ⟨2, 12, [.t 4], (tH s52_7)⟩ := by kernel_rfl
theorem v_laws_szIntS (hl : vs.length = 2) (h : wpV Try.prog (tH s52_7) (postV [.t 4] RV) (envV vs) M) : VCall Try.prog n_laws_szIntS vs M RV :=
  vcall_of_wp (fun _ _ _ hl h => acall_of_wp mixed Try.func52 c52 (by kernel_rfl) hl h) hl h
@[go_sem] def l111_0 (_ : Unit) : KL := [kB 4 (.mv (cI 0)) [0, 1]]
@[go_sem] def l111_1 (_ : Unit) : KL := [kA 6 (.mv (.t 1)),
  kA 7 (.mv (.t 0)),
  kA 8 (.len (.t 7)),
  kA 9 (.bin .sub (.t 6) (.t 8)),
  kB 1 (.mv (.t 9)) [0, 1]]
@[go_sem] def l111_2 (_ : Unit) : KL := [kA 10 (.mv (.t 1)),
  kB 11 (.bin .lss (.t 10) (cI 0)) [0, 1, 11]]
@[go_sem] def l111_3 (_ : Unit) : KL := [kB 4 (.mv (.c (.int .i64 (-1)))) [4]]
@[go_sem] def s111_4 (_ : Unit) : IR := (sQ [(kT l111_3), .ret])
@[go_sem] def s111_5 (_ : Unit) : IR := (sQ [(kT l111_2), (.cond (.t 11) (tH s111_4) .skip)])
@[go_sem] def l111_6 (_ : Unit) : KL := [kB 5 (.mv (cI 0)) [0, 1, 5]]
@[go_sem] def l111_7 (_ : Unit) : KL := [kA 12 (.mv (.t 5)),
  kA 13 (.mv (.t 0)),
  kA 14 (.len (.t 13)),
  kB 15 (.bin .lss (.t 12) (.t 14)) [0, 1, 5, 15]]
@[go_sem] def s111_8 (_ : Unit) : IR := (sQ [(kT l111_7), (.cond (.t 15) .skip (.exit 0))])
@[go_sem] def l111_9 (_ : Unit) : KL := [kA 18 (.mv (.t 0)),
  kA 19 (.mv (.t 5)),
  kA 20 (.iaddr (.t 18) (.t 19) 1),
  kA 21 (.load (.t 20) 1 false),
  kB 22 (.mv (.t 1)) [0, 5, 21, 22],
  kA 23 (.call (n_laws_szTermS) [(.t 21), (.t 22)]),
  kB 1 (.mv (.t 23)) [0, 1, 5]]
@[go_sem] def l111_10 (_ : Unit) : KL := [kA 24 (.mv (.t 1)),
  kB 25 (.bin .lss (.t 24) (cI 0)) [0, 1, 5, 25]]
@[go_sem] def l111_11 (_ : Unit) : KL := [kB 4 (.mv (.c (.int .i64 (-1)))) [4]]
@[go_sem] def s111_12 (_ : Unit) : IR := (sQ [(kT l111_11), .ret])
@[go_sem] def s111_13 (_ : Unit) : IR := (sQ [(kT l111_9), (kT l111_10), (.cond (.t 25) (tH s111_12) .skip)])
@[go_sem] def s111_14 (_ : Unit) : IR := (.block 1 (tH s111_13))
@[go_sem] def l111_15 (_ : Unit) : KL := [kA 16 (.mv (.t 5)),
  kA 17 (.bin .add (.t 16) (cI 1)),
  kB 5 (.mv (.t 17)) [0, 1, 5]]
@[go_sem] def s111_16 (_ : Unit) : IR := (sQ [(tH s111_8), (tH s111_14), (kT l111_15)])
@[go_sem] def s111_17 (_ : Unit) : IR := (.loop (tH s111_16))
@[go_sem] def s111_18 (_ : Unit) : IR := (.block 0 (tH s111_17))
@[go_sem] def s111_19 (_ : Unit) : IR := (sQ [(kT l111_6), (tH s111_18)])
@[go_sem] def l111_20 (_ : Unit) : KL := [kA 26 (.mv (.t 1)),
  kB 4 (.mv (.t 26)) [4]]
@[go_sem] def s111_21 (_ : Unit) : IR := (sQ [(kT l111_0), (kT l111_1), (tH s111_5), (tH s111_19), (kT l111_20), .ret])
theorem c111 : compFn Try.prog [(0, [], [oS [0, 1]]), (1, [], [oN, oN, oN, oN, oS [0, 1]]), (2, [], [oN, oS [0, 1, 11]]), (3, [], [oS [4]]), (4, [], [oS [0, 1, 5]]), (5, [], [oN, oN, oN, oS [0, 1, 5, 15]]), (7, [], [oN, oN, oN, oN, oS [0, 5, 21, 22], oN, oS [0, 1, 5]]), (8, [], [oN, oS [0, 1, 5, 25]]), (9, [], [oS [4]]), (6, [], [oN, oN, oS [0, 1, 5]]), (10, [], [oN, oS [4]])] Try.f111 = some ⟨2, 27, [.t 4], (tH s111_21)⟩ := by kernel_rfl
theorem v_laws_szTermSS (hl : vs.length = 2) (h : wpV Try.prog (tH s111_21) (postV [.t 4] RV) (envV vs) M) : VCall Try.prog n_laws_szTermSS vs M RV :=
  vcall_of_wp (fun _ _ _ hl h => acall_of_wp mixed Try.func111 c111 (by kernel_rfl) hl h) hl h
@[go_sem] def l78_0 (_ : Unit) : KL := [kA 2 (.box (.t 0)),
  kB 4 (.mv (cI 0)) [1, 2]]
@[go_sem] def l78_1 (_ : Unit) : KL := [kA 5 (.faddr (.t 2) 0),
  kA 6 (.load (.t 5) 1 false),
  kA 7 (.mv (.t 1)),
  kA 8 (.call (n_laws_szTermS) [(.t 6), (.t 7)]),
  kB 1 (.mv (.t 8)) [1, 2]]
@[go_sem] def l78_2 (_ : Unit) : KL := [kA 9 (.mv (.t 1)),
  kB 10 (.bin .lss (.t 9) (cI 0)) [1, 2, 10]]
@[go_sem] def l78_3 (_ : Unit) : KL := [kB 4 (.mv (.c (.int .i64 (-1)))) [4]]
@[go_sem] def s78_4 (_ : Unit) : IR := (sQ [(kT l78_3), .ret])
@[go_sem] def s78_5 (_ : Unit) : IR := (sQ [(kT l78_2), (.cond (.t 10) (tH s78_4) .skip)])
@[go_sem] def l78_6 (_ : Unit) : KL := [kA 11 (.faddr (.t 2) 1),
  kA 12 (.load (.t 11) 1 false),
  kA 13 (.mv (.t 1)),
  kA 14 (.call (n_laws_szIntS) [(.t 12), (.t 13)]),
  kB 1 (.mv (.t 14)) [1, 2]]
@[go_sem] def l78_7 (_ : Unit) : KL := [kA 15 (.mv (.t 1)),
  kB 16 (.bin .lss (.t 15) (cI 0)) [1, 2, 16]]
@[go_sem] def l78_8 (_ : Unit) : KL := [kB 4 (.mv (.c (.int .i64 (-1)))) [4]]
@[go_sem] def s78_9 (_ : Unit) : IR := (sQ [(kT l78_8), .ret])
@[go_sem] def s78_10 (_ : Unit) : IR := (sQ [(kT l78_7), (.cond (.t 16) (tH s78_9) .skip)])
@[go_sem] def l78_11 (_ : Unit) : KL := [kA 17 (.faddr (.t 2) 2),
  kA 18 (.load (.t 17) 1 false),
  kA 19 (.mv (.t 1)),
  kA 20 (.call (n_laws_szTermSS) [(.t 18), (.t 19)]),
  kB 1 (.mv (.t 20)) [1]]
@[go_sem] def l78_12 (_ : Unit) : KL := [kA 21 (.mv (.t 1)),
  kB 22 (.bin .lss (.t 21) (cI 0)) [1, 22]]
@[go_sem] def l78_13 (_ : Unit) : KL := [kB 4 (.mv (.c (.int .i64 (-1)))) [4]]
@[go_sem] def s78_14 (_ : Unit) : IR := (sQ [(kT l78_13), .ret])
@[go_sem] def s78_15 (_ : Unit) : IR := (sQ [(kT l78_12), (.cond (.t 22) (tH s78_14) .skip)])
@[go_sem] def l78_16 (_ : Unit) : KL := [kA 23 (.mv (.t 1)),
  kB 4 (.mv (.t 23)) [4]]
@[go_sem] def s78_17 (_ : Unit) : IR := (sQ [(kT l78_0), (kT l78_1), (tH s78_5), (kT l78_6), (tH s78_10), (kT l78_11), (tH s78_15), (kT l78_16), .ret])
theorem c78 : compFn Try.prog [(0, [], [oN, oS [1, 2]]), (1, [], [oN, oN, oN, oN, oS [1, 2]]), (2, [], [oN, oS [1, 2, 10]]), (3, [], [oS [4]]), (4, [], [oN, oN, oN, oN, oS [1, 2]]), (5, [], [oN, oS [1, 2, 16]]), (6, [], [oS [4]]), (7, [], [oN, oN, oN, oN, oS [1]]), (8, [], [oN, oS [1, 22]]), (9, [], [oS [4]]), (10, [], [oN, oS [4]])] Try.f78 = some ⟨2, 24, [.t 4], (tH s78_17)⟩ := by kernel_rfl
theorem v_laws_szRule (hl : vs.length = 2) (h : wpV Try.prog (tH s78_17) (postV [.t 4] RV) (envV vs) M) : VCall Try.prog n_laws_szRule vs M RV :=
  vcall_of_wp (fun _ _ _ hl h => acall_of_wp mixed Try.func78 c78 (by kernel_rfl) hl h) hl h
@[go_sem] def l36_0 (_ : Unit) : KL := [kB 4 (.mv (cI 0)) [0, 1]]
@[go_sem] def l36_1 (_ : Unit) : KL := [kA 6 (.mv (.t 1)),
  kA 7 (.mv (.t 0)),
  kA 8 (.len (.t 7)),
  kA 9 (.bin .sub (.t 6) (.t 8)),
  kB 1 (.mv (.t 9)) [0, 1]]
@[go_sem] def l36_2 (_ : Unit) : KL := [kA 10 (.mv (.t 1)),
  kB 11 (.bin .lss (.t 10) (cI 0)) [0, 1, 11]]
@[go_sem] def l36_3 (_ : Unit) : KL := [kB 4 (.mv (.c (.int .i64 (-1)))) [4]]
@[go_sem] def s36_4 (_ : Unit) : IR := (sQ [(kT l36_3), .ret])
@[go_sem] def s36_5 (_ : Unit) : IR := (sQ [(kT l36_2), (.cond (.t 11) (tH s36_4) .skip)])
@[go_sem] def l36_6 (_ : Unit) : KL := [kB 5 (.mv (cI 0)) [0, 1, 5]]
@[go_sem] def l36_7 (_ : Unit) : KL := [kA 12 (.mv (.t 5)),
  kA 13 (.mv (.t 0)),
  kA 14 (.len (.t 13)),
  kB 15 (.bin .lss (.t 12) (.t 14)) [0, 1, 5, 15]]
@[go_sem] def s36_8 (_ : Unit) : IR := (sQ [(kT l36_7), (.cond (.t 15) .skip (.exit 0))])
@[go_sem] def l36_9 (_ : Unit) : KL := [kA 18 (.mv (.t 0)),
  kA 19 (.mv (.t 5)),
  kA 20 (.iaddr (.t 18) (.t 19) 3),
  kA 21 (.load (.t 20) 3 true),
  kB 22 (.mv (.t 1)) [0, 5, 21, 22],
  kA 23 (.call (n_laws_szRule) [(.t 21), (.t 22)]),
  kB 1 (.mv (.t 23)) [0, 1, 5]]
@[go_sem] def l36_10 (_ : Unit) : KL := [kA 24 (.mv (.t 1)),
  kB 25 (.bin .lss (.t 24) (cI 0)) [0, 1, 5, 25]]
@[go_sem] def l36_11 (_ : Unit) : KL := [kB 4 (.mv (.c (.int .i64 (-1)))) [4]]
@[go_sem] def s36_12 (_ : Unit) : IR := (sQ [(kT l36_11), .ret])
@[go_sem] def s36_13 (_ : Unit) : IR := (sQ [(kT l36_9), (kT l36_10), (.cond (.t 25) (tH s36_12) .skip)])
@[go_sem] def s36_14 (_ : Unit) : IR := (.block 1 (tH s36_13))
@[go_sem] def l36_15 (_ : Unit) : KL := [kA 16 (.mv (.t 5)),
  kA 17 (.bin .add (.t 16) (cI 1)),
  kB 5 (.mv (.t 17)) [0, 1, 5]]
@[go_sem] def s36_16 (_ : Unit) : IR := (sQ [(tH s36_8), (tH s36_14), (kT l36_15)])
@[go_sem] def s36_17 (_ : Unit) : IR := (.loop (tH s36_16))
@[go_sem] def s36_18 (_ : Unit) : IR := (.block 0 (tH s36_17))
@[go_sem] def s36_19 (_ : Unit) : IR := (sQ [(kT l36_6), (tH s36_18)])
@[go_sem] def l36_20 (_ : Unit) : KL := [kA 26 (.mv (.t 1)),
  kB 4 (.mv (.t 26)) [4]]
@[go_sem] def s36_21 (_ : Unit) : IR := (sQ [(kT l36_0), (kT l36_1), (tH s36_5), (tH s36_19), (kT l36_20), .ret])
theorem c36 : compFn Try.prog [(0, [], [oS [0, 1]]), (1, [], [oN, oN, oN, oN, oS [0, 1]]), (2, [], [oN, oS [0, 1, 11]]), (3, [], [oS [4]]), (4, [], [oS [0, 1, 5]]), (5, [], [oN, oN, oN, oS [0, 1, 5, 15]]), (7, [], [oN, oN, oN, oN, oS [0, 5, 21, 22], oN, oS [0, 1, 5]]), (8, [], [oN, oS [0, 1, 5, 25]]), (9, [], [oS [4]]), (6, [], [oN, oN, oS [0, 1, 5]]), (10, [], [oN, oS [4]])] Try.f36 = some ⟨2, 27, [.t 4], (tH s36_21)⟩ := by kernel_rfl
theorem v_laws_szRuleS (hl : vs.length = 2) (h : wpV Try.prog (tH s36_21) (postV [.t 4] RV) (envV vs) M) : VCall Try.prog n_laws_szRuleS vs M RV :=
  vcall_of_wp (fun _ _ _ hl h => acall_of_wp mixed Try.func36 c36 (by kernel_rfl) hl h) hl h
@[go_sem] def l8_0 (_ : Unit) : KL := [kA 2 (.box (.t 0)),
  kB 4 (.mv (cI 0)) [1, 2]]
@[go_sem] def l8_1 (_ : Unit) : KL := [kA 5 (.faddr (.t 2) 0),
  kA 6 (.load (.t 5) 1 false),
  kA 7 (.mv (.t 1)),
  kA 8 (.call (n_laws_szVarS) [(.t 6), (.t 7)]),
  kB 1 (.mv (.t 8)) [1, 2]]
@[go_sem] def l8_2 (_ : Unit) : KL := [kA 9 (.mv (.t 1)),
  kB 10 (.bin .lss (.t 9) (cI 0)) [1, 2, 10]]
@[go_sem] def l8_3 (_ : Unit) : KL := [kB 4 (.mv (.c (.int .i64 (-1)))) [4]]
@[go_sem] def s8_4 (_ : Unit) : IR := (sQ [(kT l8_3), .ret])
@[go_sem] def s8_5 (_ : Unit) : IR := (sQ [(kT l8_2), (.cond (.t 10) (tH s8_4) .skip)])
@[go_sem] def l8_6 (_ : Unit) : KL := [kA 11 (.faddr (.t 2) 1),
  kA 12 (.load (.t 11) 1 false),
  kA 13 (.mv (.t 1)),
  kA 14 (.call (n_laws_szRuleS) [(.t 12), (.t 13)]),
  kB 1 (.mv (.t 14)) [1]]
@[go_sem] def l8_7 (_ : Unit) : KL := [kA 15 (.mv (.t 1)),
  kB 16 (.bin .lss (.t 15) (cI 0)) [1, 16]]
@[go_sem] def l8_8 (_ : Unit) : KL := [kB 4 (.mv (.c (.int .i64 (-1)))) [4]]
@[go_sem] def s8_9 (_ : Unit) : IR := (sQ [(kT l8_8), .ret])
@[go_sem] def s8_10 (_ : Unit) : IR := (sQ [(kT l8_7), (.cond (.t 16) (tH s8_9) .skip)])
@[go_sem] def l8_11 (_ : Unit) : KL := [kA 17 (.mv (.t 1)),
  kB 4 (.mv (.t 17)) [4]]
@[go_sem] def s8_12 (_ : Unit) : IR := (sQ [(kT l8_0), (kT l8_1), (tH s8_5), (kT l8_6), (tH s8_10), (kT l8_11), .ret])
theorem c8 : compFn Try.prog [(0, [], [oN, oS [1, 2]]), (1, [], [oN, oN, oN, oN, oS [1, 2]]), (2, [], [oN, oS [1, 2, 10]]), (3, [], [oS [4]]), (4, [], [oN, oN, oN, oN, oS [1]]), (5, [], [oN, oS [1, 16]]), (6, [], [oS [4]]), (7, [], [oN, oS [4]])] Try.f8 = some ⟨2, 18, [.t 4], (tH s8_12)⟩ := by kernel_rfl
theorem v_laws_szSystem (hl : vs.length = 2) (h : wpV Try.prog (tH s8_12) (postV [.t 4] RV) (envV vs) M) : VCall Try.prog n_laws_szSystem vs M RV :=
  vcall_of_wp (fun _ _ _ hl h => acall_of_wp mixed Try.func8 c8 (by kernel_rfl) hl h) hl h
@[go_sem] def l80_0 (_ : Unit) : KL := [kA 1 (.box (.t 0)),
  kB 2 (.alloc [(.int .i64 0), (.int .i64 0), (.int .i64 0)]) [1, 2]]
@[go_sem] def l80_1 (_ : Unit) : KL := [kB 3 (.alloc [(.int .i64 0), (.int .i64 0), (.int .i64 0)]) [1, 2, 3]]
@[go_sem] def l80_2 (_ : Unit) : KL := [kA 4 (.faddr (.t 1) 0),
  kA 5 (.load (.t 4) 1 false),
  kA 6 (.faddr (.t 3) 0),
  (⟨none, .store (.t 6) 1 (.t 5), none⟩, (some [1, 2, 3]))]
@[go_sem] def l80_3 (_ : Unit) : KL := [kA 7 (.faddr (.t 1) 1),
  kA 8 (.load (.t 7) 1 false),
  kA 9 (.faddr (.t 3) 1),
  (⟨none, .store (.t 9) 1 (.t 8), none⟩, (some [1, 2, 3]))]
@[go_sem] def l80_4 (_ : Unit) : KL := [kA 10 (.faddr (.t 1) 2),
  kA 11 (.load (.t 10) 1 false),
  kA 12 (.faddr (.t 3) 2),
  (⟨none, .store (.t 12) 1 (.t 11), none⟩, (some [2, 3]))]
@[go_sem] def l80_5 (_ : Unit) : KL := [kA 13 (.load (.t 3) 3 true),
  (⟨none, .store (.t 2) 3 (.t 13), none⟩, (some [2]))]
@[go_sem] def s80_6 (_ : Unit) : IR := (sQ [(kT l80_0), (kT l80_1), (kT l80_2), (kT l80_3), (kT l80_4), (kT l80_5), .ret])
theorem c80 : compFn Try.prog [(0, [], [oN, oS [1, 2]]), (1, [], [oS [1, 2, 3]]), (2, [], [oN, oN, oN, oS [1, 2, 3]]), (3, [], [oN, oN, oN, oS [1, 2, 3]]), (4, [], [oN, oN, oN, oS [2, 3]]), (5, [], [oN, oS [2]])] Try.f80 = some ⟨1, 14, [.c 2 3 true], (tH s80_6)⟩ := by kernel_rfl
theorem v_laws_toVar (hl : vs.length = 1) (h : wpV Try.prog (tH s80_6) (postV [.c 2 3 true] RV) (envV vs) M) : VCall Try.prog n_laws_toVar vs M RV :=
  vcall_of_wp (fun _ _ _ hl h => acall_of_wp mixed Try.func80 c80 (by kernel_rfl) hl h) hl h
@[go_sem] def l39_0 (_ : Unit) : KL := [kB 2 (.mv (.c (.sl none 0 0 true 0))) [0]]
@[go_sem] def l39_1 (_ : Unit) : KL := [kA 5 (.mv (.t 0)),
  kA 6 (.len (.t 5)),
  kA 7 (.mks [(.int .i64 0), (.int .i64 0), (.int .i64 0)] 24 (.t 6)),
  kB 3 (.mv (.t 7)) [0, 3]]
@[go_sem] def l39_2 (_ : Unit) : KL := [kB 4 (.mv (cI 0)) [0, 3, 4]]
@[go_sem] def l39_3 (_ : Unit) : KL := [kA 8 (.mv (.t 4)),
  kA 9 (.mv (.t 0)),
  kA 10 (.len (.t 9)),
  kB 11 (.bin .lss (.t 8) (.t 10)) [0, 3, 4, 11]]
@[go_sem] def s39_4 (_ : Unit) : IR := (sQ [(kT l39_3), (.cond (.t 11) .skip (.exit 0))])
@[go_sem] def l39_5 (_ : Unit) : KL := [kA 14 (.mv (.t 3)),
  kA 15 (.mv (.t 4)),
  kA 16 (.mv (.t 0)),
  kA 17 (.mv (.t 4)),
  kB 18 (.iaddr (.t 16) (.t 17) 3) [0, 3, 4, 14, 15, 18],
  kA 19 (.load (.t 18) 3 true),
  kA 20 (.call (n_laws_toVar) [(.t 19)]),
  kA 21 (.iaddr (.t 14) (.t 15) 3),
  (⟨none, .store (.t 21) 3 (.t 20), none⟩, (some [0, 3, 4]))]
@[go_sem] def s39_6 (_ : Unit) : IR := (.block 1 (kT l39_5))
@[go_sem] def l39_7 (_ : Unit) : KL := [kA 12 (.mv (.t 4)),
  kA 13 (.bin .add (.t 12) (cI 1)),
  kB 4 (.mv (.t 13)) [0, 3, 4]]
@[go_sem] def s39_8 (_ : Unit) : IR := (sQ [(tH s39_4), (tH s39_6), (kT l39_7)])
@[go_sem] def s39_9 (_ : Unit) : IR := (.loop (tH s39_8))
@[go_sem] def s39_10 (_ : Unit) : IR := (.block 0 (tH s39_9))
@[go_sem] def s39_11 (_ : Unit) : IR := (sQ [(kT l39_2), (tH s39_10)])
@[go_sem] def l39_12 (_ : Unit) : KL := [kA 22 (.mv (.t 3)),
  kB 2 (.mv (.t 22)) [2]]
@[go_sem] def s39_13 (_ : Unit) : IR := (sQ [(kT l39_0), (kT l39_1), (tH s39_11), (kT l39_12), .ret])
theorem c39 : compFn Try.prog [(0, [], [oS [0]]), (1, [], [oN, oN, oN, oS [0, 3]]), (2, [], [oS [0, 3, 4]]), (3, [], [oN, oN, oN, oS [0, 3, 4, 11]]), (5, [], [oN, oN, oN, oN, oS [0, 3, 4, 14, 15, 18], oN, oN, oN, oS [0, 3, 4]]), (4, [], [oN, oN, oS [0, 3, 4]]), (6, [], [oN, oS [2]])] Try.f39 = some ⟨1, 23, [.t 2], (tH s39_13)⟩ := by kernel_rfl
theorem v_laws_toVarS (hl : vs.length = 1) (h : wpV Try.prog (tH s39_13) (postV [.t 2] RV) (envV vs) M) : VCall Try.prog n_laws_toVarS vs M RV :=
  vcall_of_wp (fun _ _ _ hl h => acall_of_wp mixed Try.func39 c39 (by kernel_rfl) hl h) hl h
@[go_sem] def l126_0 (_ : Unit) : KL := [kA 1 (.box (.t 0)),
  kB 2 (.alloc [(.int .i64 0), (.int .i64 0), (.int .i64 0), (.int .i64 0)]) [1, 2]]
@[go_sem] def l126_1 (_ : Unit) : KL := [kB 3 (.alloc [(.int .i64 0), (.int .i64 0), (.int .i64 0), (.int .i64 0)]) [1, 2, 3]]
@[go_sem] def l126_2 (_ : Unit) : KL := [kA 4 (.faddr (.t 1) 0),
  kA 5 (.load (.t 4) 1 false),
  kA 6 (.faddr (.t 3) 0),
  (⟨none, .store (.t 6) 1 (.t 5), none⟩, (some [1, 2, 3]))]
@[go_sem] def l126_3 (_ : Unit) : KL := [kA 7 (.faddr (.t 1) 1),
  kA 8 (.load (.t 7) 1 false),
  kA 9 (.faddr (.t 3) 1),
  (⟨none, .store (.t 9) 1 (.t 8), none⟩, (some [1, 2, 3]))]
@[go_sem] def l126_4 (_ : Unit) : KL := [kA 10 (.faddr (.t 1) 2),
  kA 11 (.load (.t 10) 1 false),
  kA 12 (.faddr (.t 3) 2),
  (⟨none, .store (.t 12) 1 (.t 11), none⟩, (some [1, 2, 3]))]
@[go_sem] def l126_5 (_ : Unit) : KL := [kA 13 (.faddr (.t 1) 3),
  kA 14 (.load (.t 13) 1 false),
  kA 15 (.faddr (.t 3) 3),
  (⟨none, .store (.t 15) 1 (.t 14), none⟩, (some [2, 3]))]
@[go_sem] def l126_6 (_ : Unit) : KL := [kA 16 (.load (.t 3) 4 true),
  (⟨none, .store (.t 2) 4 (.t 16), none⟩, (some [2]))]
@[go_sem] def s126_7 (_ : Unit) : IR := (sQ [(kT l126_0), (kT l126_1), (kT l126_2), (kT l126_3), (kT l126_4), (kT l126_5), (kT l126_6), .ret])
theorem c126 : compFn Try.prog [(0, [], [oN, oS [1, 2]]), (1, [], [oS [1, 2, 3]]), (2, [], [oN, oN, oN, oS [1, 2, 3]]), (3, [], [oN, oN, oN, oS [1, 2, 3]]), (4, [], [oN, oN, oN, oS [1, 2, 3]]), (5, [], [oN, oN, oN, oS [2, 3]]), (6, [], [oN, oS [2]])] Try.f126 = some ⟨1, 17, [.c 2 4 true], (tH s126_7)⟩ := by kernel_rfl
theorem v_laws_toTerm (hl : vs.length = 1) (h : wpV Try.prog (tH s126_7) (postV [.c 2 4 true] RV) (envV vs) M) : VCall Try.prog n_laws_toTerm vs M RV :=
  vcall_of_wp (fun _ _ _ hl h => acall_of_wp mixed Try.func126 c126 (by kernel_rfl) hl h) hl h
@[go_sem] def l113_0 (_ : Unit) : KL := [kB 2 (.mv (.c (.sl none 0 0 true 0))) [0]]
@[go_sem] def l113_1 (_ : Unit) : KL := [kA 5 (.mv (.t 0)),
  kA 6 (.len (.t 5)),
  kA 7 (.mks [(.int .i64 0), (.int .i64 0), (.int .i64 0), (.int .i64 0)] 32 (.t 6)),
  kB 3 (.mv (.t 7)) [0, 3]]
@[go_sem] def l113_2 (_ : Unit) : KL := [kB 4 (.mv (cI 0)) [0, 3, 4]]
@[go_sem] def l113_3 (_ : Unit) : KL := [kA 8 (.mv (.t 4)),
  kA 9 (.mv (.t 0)),
  kA 10 (.len (.t 9)),
  kB 11 (.bin .lss (.t 8) (.t 10)) [0, 3, 4, 11]]
@[go_sem] def s113_4 (_ : Unit) : IR := (sQ [(kT l113_3), (.cond (.t 11) .skip (.exit 0))])
@[go_sem] def l113_5 (_ : Unit) : KL := [kA 14 (.mv (.t 3)),
  kA 15 (.mv (.t 4)),
  kA 16 (.mv (.t 0)),
  kA 17 (.mv (.t 4)),
  kB 18 (.iaddr (.t 16) (.t 17) 4) [0, 3, 4, 14, 15, 18],
  kA 19 (.load (.t 18) 4 true),
  kA 20 (.call (n_laws_toTerm) [(.t 19)]),
  kA 21 (.iaddr (.t 14) (.t 15) 4),
  (⟨none, .store (.t 21) 4 (.t 20), none⟩, (some [0, 3, 4]))]
@[go_sem] def s113_6 (_ : Unit) : IR := (.block 1 (kT l113_5))
@[go_sem] def l113_7 (_ : Unit) : KL := [kA 12 (.mv (.t 4)),
  kA 13 (.bin .add (.t 12) (cI 1)),
  kB 4 (.mv (.t 13)) [0, 3, 4]]
@[go_sem] def s113_8 (_ : Unit) : IR := (sQ [(tH s113_4), (tH s113_6), (kT l113_7)])
@[go_sem] def s113_9 (_ : Unit) : IR := (.loop (tH s113_8))
@[go_sem] def s113_10 (_ : Unit) : IR := (.block 0 (tH s113_9))
@[go_sem] def s113_11 (_ : Unit) : IR := (sQ [(kT l113_2), (tH s113_10)])
@[go_sem] def l113_12 (_ : Unit) : KL := [kA 22 (.mv (.t 3)),
  kB 2 (.mv (.t 22)) [2]]
@[go_sem] def s113_13 (_ : Unit) : IR := (sQ [(kT l113_0), (kT l113_1), (tH s113_11), (kT l113_12), .ret])
theorem c113 : compFn Try.prog [(0, [], [oS [0]]), (1, [], [oN, oN, oN, oS [0, 3]]), (2, [], [oS [0, 3, 4]]), (3, [], [oN, oN, oN, oS [0, 3, 4, 11]]), (5, [], [oN, oN, oN, oN, oS [0, 3, 4, 14, 15, 18], oN, oN, oN, oS [0, 3, 4]]), (4, [], [oN, oN, oS [0, 3, 4]]), (6, [], [oN, oS [2]])] Try.f113 = some ⟨1, 23, [.t 2], (tH s113_13)⟩ := by kernel_rfl
theorem v_laws_toTermS (hl : vs.length = 1) (h : wpV Try.prog (tH s113_13) (postV [.t 2] RV) (envV vs) M) : VCall Try.prog n_laws_toTermS vs M RV :=
  vcall_of_wp (fun _ _ _ hl h => acall_of_wp mixed Try.func113 c113 (by kernel_rfl) hl h) hl h
@[go_sem] def l11_0 (_ : Unit) : KL := [kB 2 (.mv (.c (.sl none 0 0 true 0))) [0]]
@[go_sem] def l11_1 (_ : Unit) : KL := [kA 5 (.mv (.t 0)),
  kA 6 (.len (.t 5)),
  kA 7 (.mks [(.int .i64 0)] 8 (.t 6)),
  kB 3 (.mv (.t 7)) [0, 3]]
@[go_sem] def l11_2 (_ : Unit) : KL := [kB 4 (.mv (cI 0)) [0, 3, 4]]
@[go_sem] def l11_3 (_ : Unit) : KL := [kA 8 (.mv (.t 4)),
  kA 9 (.mv (.t 0)),
  kA 10 (.len (.t 9)),
  kB 11 (.bin .lss (.t 8) (.t 10)) [0, 3, 4, 11]]
@[go_sem] def s11_4 (_ : Unit) : IR := (sQ [(kT l11_3), (.cond (.t 11) .skip (.exit 0))])
@[go_sem] def l11_5 (_ : Unit) : KL := [kA 14 (.mv (.t 3)),
  kA 15 (.mv (.t 4)),
  kA 16 (.mv (.t 0)),
  kA 17 (.mv (.t 4)),
  kB 18 (.iaddr (.t 16) (.t 17) 1) [0, 3, 4, 14, 15, 18],
  kA 19 (.load (.t 18) 1 false),
  kA 20 (.iaddr (.t 14) (.t 15) 1),
  (⟨none, .store (.t 20) 1 (.t 19), none⟩, (some [0, 3, 4]))]
@[go_sem] def s11_6 (_ : Unit) : IR := (.block 1 (kT l11_5))
@[go_sem] def l11_7 (_ : Unit) : KL := [kA 12 (.mv (.t 4)),
  kA 13 (.bin .add (.t 12) (cI 1)),
  kB 4 (.mv (.t 13)) [0, 3, 4]]
@[go_sem] def s11_8 (_ : Unit) : IR := (sQ [(tH s11_4), (tH s11_6), (kT l11_7)])
@[go_sem] def s11_9 (_ : Unit) : IR := (.loop (tH s11_8))
@[go_sem] def s11_10 (_ : Unit) : IR := (.block 0 (tH s11_9))
@[go_sem] def s11_11 (_ : Unit) : IR := (sQ [(kT l11_2), (tH s11_10)])
@[go_sem] def l11_12 (_ : Unit) : KL := [kA 21 (.mv (.t 3)),
  kB 2 (.mv (.t 21)) [2]]
@[go_sem] def s11_13 (_ : Unit) : IR := (sQ [(kT l11_0), (kT l11_1), (tH s11_11), (kT l11_12), .ret])
theorem c11 : compFn Try.prog [(0, [], [oS [0]]), (1, [], [oN, oN, oN, oS [0, 3]]), (2, [], [oS [0, 3, 4]]), (3, [], [oN, oN, oN, oS [0, 3, 4, 11]]), (5, [], [oN, oN, oN, oN, oS [0, 3, 4, 14, 15, 18], oN, oN, oS [0, 3, 4]]), (4, [], [oN, oN, oS [0, 3, 4]]), (6, [], [oN, oS [2]])] Try.f11 = some ⟨1, 22, [.t 2], (tH s11_13)⟩ := by kernel_rfl
theorem v_laws_toIntS (hl : vs.length = 1) (h : wpV Try.prog (tH s11_13) (postV [.t 2] RV) (envV vs) M) : VCall Try.prog n_laws_toIntS vs M RV :=
  vcall_of_wp (fun _ _ _ hl h => acall_of_wp mixed Try.func11 c11 (by kernel_rfl) hl h) hl h
@[go_sem] def l114_0 (_ : Unit) : KL := [kB 2 (.mv (.c (.sl none 0 0 true 0))) [0]]
@[go_sem] def l114_1 (_ : Unit) : KL := [kA 5 (.mv (.t 0)),
  kA 6 (.len (.t 5)),
  kA 7 (.mks [(.sl none 0 0 true 0)] 24 (.t 6)),
  kB 3 (.mv (.t 7)) [0, 3]]
@[go_sem] def l114_2 (_ : Unit) : KL := [kB 4 (.mv (cI 0)) [0, 3, 4]]
@[go_sem] def l114_3 (_ : Unit) : KL := [kA 8 (.mv (.t 4)),
  kA 9 (.mv (.t 0)),
  kA 10 (.len (.t 9)),
  kB 11 (.bin .lss (.t 8) (.t 10)) [0, 3, 4, 11]]
@[go_sem] def s114_4 (_ : Unit) : IR := (sQ [(kT l114_3), (.cond (.t 11) .skip (.exit 0))])
@[go_sem] def l114_5 (_ : Unit) : KL := [kA 14 (.mv (.t 3)),
  kA 15 (.mv (.t 4)),
  kA 16 (.mv (.t 0)),
  kA 17 (.mv (.t 4)),
  kB 18 (.iaddr (.t 16) (.t 17) 1) [0, 3, 4, 14, 15, 18],
  kA 19 (.load (.t 18) 1 false),
  kA 20 (.call (n_laws_toTermS) [(.t 19)]),
  kA 21 (.iaddr (.t 14) (.t 15) 1),
  (⟨none, .store (.t 21) 1 (.t 20), none⟩, (some [0, 3, 4]))]
@[go_sem] def s114_6 (_ : Unit) : IR := (.block 1 (kT l114_5))
@[go_sem] def l114_7 (_ : Unit) : KL := [kA 12 (.mv (.t 4)),
  kA 13 (.bin .add (.t 12) (cI 1)),
  kB 4 (.mv (.t 13)) [0, 3, 4]]
@[go_sem] def s114_8 (_ : Unit) : IR := (sQ [(tH s114_4), (tH s114_6), (kT l114_7)])
@[go_sem] def s114_9 (_ : Unit) : IR := (.loop (tH s114_8))
@[go_sem] def s114_10 (_ : Unit) : IR := (.block 0 (tH s114_9))
@[go_sem] def s114_11 (_ : Unit) : IR := (sQ [(kT l114_2), (tH s114_10)])
@[go_sem] def l114_12 (_ : Unit) : KL := [kA 22 (.mv (.t 3)),
  kB 2 (.mv (.t 22)) [2]]
@[go_sem] def s114_13 (_ : Unit) : IR := (sQ [(kT l114_0), (kT l114_1), (tH s114_11), (kT l114_12), .ret])
theorem c114 : compFn Try.prog [(0, [], [oS [0]]), (1, [], [oN, oN, oN, oS [0, 3]]), (2, [], [oS [0, 3, 4]]), (3, [], [oN, oN, oN, oS [0, 3, 4, 11]]), (5, [], [oN, oN, oN, oN, oS [0, 3, 4, 14, 15, 18], oN, oN, oN, oS [0, 3, 4]]), (4, [], [oN, oN, oS [0, 3, 4]]), (6, [], [oN, oS [2]])] Try.f114 = some ⟨1, 23, [.t 2], (tH s114_13)⟩ := by kernel_rfl
theorem v_laws_toTermSS (hl : vs.length = 1) (h : wpV Try.prog (tH s114_13) (postV [.t 2] RV) (envV vs) M) : VCall Try.prog n_laws_toTermSS vs M RV :=
  vcall_of_wp (fun _ _ _ hl h => acall_of_wp mixed Try.func114 c114 (by kernel_rfl) hl h) hl h
@[go_sem] def l81_0 (_ : Unit) : KL := [kA 1 (.box (.t 0)),
  kB 2 (.alloc [(.sl none 0 0 true 0), (.sl none 0 0 true 0), (.sl none 0 0 true 0)]) [1, 2]]
@[go_sem] def l81_1 (_ : Unit) : KL := [kB 3 (.alloc [(.sl none 0 0 true 0), (.sl none 0 0 true 0), (.sl none 0 0 true 0)]) [1, 2, 3]]
@[go_sem] def l81_2 (_ : Unit) : KL := [kA 4 (.faddr (.t 1) 0),
  kA 5 (.load (.t 4) 1 false),
  kA 6 (.call (n_laws_toTermS) [(.t 5)]),
  kA 7 (.faddr (.t 3) 0),
  (⟨none, .store (.t 7) 1 (.t 6), none⟩, (some [1, 2, 3]))]
@[go_sem] def l81_3 (_ : Unit) : KL := [kA 8 (.faddr (.t 1) 1),
  kA 9 (.load (.t 8) 1 false),
  kA 10 (.call (n_laws_toIntS) [(.t 9)]),
  kA 11 (.faddr (.t 3) 1),
  (⟨none, .store (.t 11) 1 (.t 10), none⟩, (some [1, 2, 3]))]
@[go_sem] def l81_4 (_ : Unit) : KL := [kA 12 (.faddr (.t 1) 2),
  kA 13 (.load (.t 12) 1 false),
  kA 14 (.call (n_laws_toTermSS) [(.t 13)]),
  kA 15 (.faddr (.t 3) 2),
  (⟨none, .store (.t 15) 1 (.t 14), none⟩, (some [2, 3]))]
@[go_sem] def l81_5 (_ : Unit) : KL := [kA 16 (.load (.t 3) 3 true),
  (⟨none, .store (.t 2) 3 (.t 16), none⟩, (some [2]))]
@[go_sem] def s81_6 (_ : Unit) : IR := (sQ [(kT l81_0), (kT l81_1), (kT l81_2), (kT l81_3), (kT l81_4), (kT l81_5), .ret])
theorem c81 : compFn Try.prog [(0, [], [oN, oS [1, 2]]), (1, [], [oS [1, 2, 3]]), (2, [], [oN, oN, oN, oN, oS [1, 2, 3]]), (3, [], [oN, oN, oN, oN, oS [1, 2, 3]]), (4, [], [oN, oN, oN, oN, oS [2, 3]]), (5, [], [oN, oS [2]])] Try.f81 = some ⟨1, 17, [.c 2 3 true], (tH s81_6)⟩ := by kernel_rfl
theorem v_laws_toRule (hl : vs.length = 1) (h : wpV Try.prog (tH s81_6) (postV [.c 2 3 true] RV) (envV vs) M) : VCall Try.prog n_laws_toRule vs M RV :=
  vcall_of_wp (fun _ _ _ hl h => acall_of_wp mixed Try.func81 c81 (by kernel_rfl) hl h) hl h
@[go_sem] def l40_0 (_ : Unit) : KL := [kB 2 (.mv (.c (.sl none 0 0 true 0))) [0]]
@[go_sem] def l40_1 (_ : Unit) : KL := [kA 5 (.mv (.t 0)),
  kA 6 (.len (.t 5)),
  kA 7 (.mks [(.sl none 0 0 true 0), (.sl none 0 0 true 0), (.sl none 0 0 true 0)] 72 (.t 6)),
  kB 3 (.mv (.t 7)) [0, 3]]
@[go_sem] def l40_2 (_ : Unit) : KL := [kB 4 (.mv (cI 0)) [0, 3, 4]]
@[go_sem] def l40_3 (_ : Unit) : KL := [kA 8 (.mv (.t 4)),
  kA 9 (.mv (.t 0)),
  kA 10 (.len (.t 9)),
  kB 11 (.bin .lss (.t 8) (.t 10)) [0, 3, 4, 11]]
@[go_sem] def s40_4 (_ : Unit) : IR := (sQ [(kT l40_3), (.cond (.t 11) .skip (.exit 0))])
@[go_sem] def l40_5 (_ : Unit) : KL := [kA 14 (.mv (.t 3)),
  kA 15 (.mv (.t 4)),
  kA 16 (.mv (.t 0)),
  kA 17 (.mv (.t 4)),
  kB 18 (.iaddr (.t 16) (.t 17) 3) [0, 3, 4, 14, 15, 18],
  kA 19 (.load (.t 18) 3 true),
  kA 20 (.call (n_laws_toRule) [(.t 19)]),
  kA 21 (.iaddr (.t 14) (.t 15) 3),
  (⟨none, .store (.t 21) 3 (.t 20), none⟩, (some [0, 3, 4]))]
@[go_sem] def s40_6 (_ : Unit) : IR := (.block 1 (kT l40_5))
@[go_sem] def l40_7 (_ : Unit) : KL := [kA 12 (.mv (.t 4)),
  kA 13 (.bin .add (.t 12) (cI 1)),
  kB 4 (.mv (.t 13)) [0, 3, 4]]
@[go_sem] def s40_8 (_ : Unit) : IR := (sQ [(tH s40_4), (tH s40_6), (kT l40_7)])
@[go_sem] def s40_9 (_ : Unit) : IR := (.loop (tH s40_8))
@[go_sem] def s40_10 (_ : Unit) : IR := (.block 0 (tH s40_9))
@[go_sem] def s40_11 (_ : Unit) : IR := (sQ [(kT l40_2), (tH s40_10)])
@[go_sem] def l40_12 (_ : Unit) : KL := [kA 22 (.mv (.t 3)),
  kB 2 (.mv (.t 22)) [2]]
@[go_sem] def s40_13 (_ : Unit) : IR := (sQ [(kT l40_0), (kT l40_1), (tH s40_11), (kT l40_12), .ret])
theorem c40 : compFn Try.prog [(0, [], [oS [0]]), (1, [], [oN, oN, oN, oS [0, 3]]), (2, [], [oS [0, 3, 4]]), (3, [], [oN, oN, oN, oS [0, 3, 4, 11]]), (5, [], [oN, oN, oN, oN, oS [0, 3, 4, 14, 15, 18], oN, oN, oN, oS [0, 3, 4]]), (4, [], [oN, oN, oS [0, 3, 4]]), (6, [], [oN, oS [2]])] Try.f40 = some ⟨1, 23, [.t 2], (tH s40_13)⟩ := by kernel_rfl
theorem v_laws_toRuleS (hl : vs.length = 1) (h : wpV Try.prog (tH s40_13) (postV [.t 2] RV) (envV vs) M) : VCall Try.prog n_laws_toRuleS vs M RV :=
  vcall_of_wp (fun _ _ _ hl h => acall_of_wp mixed Try.func40 c40 (by kernel_rfl) hl h) hl h
@[go_sem] def l10_0 (_ : Unit) : KL := [kA 1 (.box (.t 0)),
  kB 2 (.alloc [(.sl none 0 0 true 0), (.sl none 0 0 true 0)]) [1, 2]]
@[go_sem] def l10_1 (_ : Unit) : KL := [kB 3 (.alloc [(.sl none 0 0 true 0), (.sl none 0 0 true 0)]) [1, 2, 3]]
@[go_sem] def l10_2 (_ : Unit) : KL := [kA 4 (.faddr (.t 1) 0),
  kA 5 (.load (.t 4) 1 false),
  kA 6 (.call (n_laws_toVarS) [(.t 5)]),
  kA 7 (.faddr (.t 3) 0),
  (⟨none, .store (.t 7) 1 (.t 6), none⟩, (some [1, 2, 3]))]
@[go_sem] def l10_3 (_ : Unit) : KL := [kA 8 (.faddr (.t 1) 1),
  kA 9 (.load (.t 8) 1 false),
  kA 10 (.call (n_laws_toRuleS) [(.t 9)]),
  kA 11 (.faddr (.t 3) 1),
  (⟨none, .store (.t 11) 1 (.t 10), none⟩, (some [2, 3]))]
@[go_sem] def l10_4 (_ : Unit) : KL := [kA 12 (.load (.t 3) 2 true),
  (⟨none, .store (.t 2) 2 (.t 12), none⟩, (some [2]))]
@[go_sem] def s10_5 (_ : Unit) : IR := (sQ [(kT l10_0), (kT l10_1), (kT l10_2), (kT l10_3), (kT l10_4), .ret])
theorem c10 : compFn Try.prog [(0, [], [oN, oS [1, 2]]), (1, [], [oS [1, 2, 3]]), (2, [], [oN, oN, oN, oN, oS [1, 2, 3]]), (3, [], [oN, oN, oN, oN, oS [2, 3]]), (4, [], [oN, oS [2]])] Try.f10 = some ⟨1, 13, [.c 2 2 true], (tH s10_5)⟩ := by kernel_rfl
theorem v_laws_toSystem (hl : vs.length = 1) (h : wpV Try.prog (tH s10_5) (postV [.c 2 2 true] RV) (envV vs) M) : VCall Try.prog n_laws_toSystem vs M RV :=
  vcall_of_wp (fun _ _ _ hl h => acall_of_wp mixed Try.func10 c10 (by kernel_rfl) hl h) hl h
@[go_sem] def l48_0 (_ : Unit) : KL := [kB 6 (.mv (.c (.bool false))) [0, 1, 2]]
@[go_sem] def l48_1 (_ : Unit) : KL := [kA 7 (.mv (.t 0)),
  kA 8 (.mv (.t 1)),
  kA 9 (.bin .geq (.t 7) (.t 8)),
  kA 10 (.mv (.t 9)),
  (⟨(some 11), .mv (.t 0), (some (10, true))⟩, (some [2, 10, 11])),
  (⟨(some 12), .mv (.t 2), (some (10, true))⟩, none),
  (⟨(some 13), .bin .leq (.t 11) (.t 12), (some (10, true))⟩, none),
  kA 14 (.pick (.t 10) (.t 13) (.c (.bool false))),
  kB 6 (.mv (.t 14)) [6]]
@[go_sem] def s48_2 (_ : Unit) : IR := (sQ [(kT l48_0), (kT l48_1), .ret])
theorem c48 : compFn Try.prog [(0, [], [oS [0, 1, 2]]), (1, [], [oN, oN, oN, oN, oS [2, 10, 11], oN, oN, oN, oS [6]])] Try.f48 = some ⟨3, 15, [.t 6], (tH s48_2)⟩ := by kernel_rfl
theorem v_spec_l1In (hl : vs.length = 3) (h : wpV Try.prog (tH s48_2) (postV [.t 6] RV) (envV vs) M) : VCall Try.prog n_spec_l1In vs M RV :=
  vcall_of_wp (fun _ _ _ hl h => acall_of_wp mixed Try.func48 c48 (by kernel_rfl) hl h) hl h
@[go_sem] def l93_0 (_ : Unit) : KL := [kA 1 (.box (.t 0)),
  kB 2 (.mv (.c (.bool false))) [1]]
@[go_sem] def l93_1 (_ : Unit) : KL := [kA 3 (.faddr (.t 1) 0),
  kA 4 (.load (.t 3) 1 false),
  kA 5 (.call (n_spec_l1In) [(.t 4), (.c (.int .i64 (-9999))), (.c (.int .i64 9999))]),
  kA 6 (.mv (.t 5)),
  (⟨(some 7), .faddr (.t 1) 1, (some (6, true))⟩, (some [1, 6, 7])),
  (⟨(some 8), .load (.t 7) 1 false, (some (6, true))⟩, none),
  (⟨(some 9), .faddr (.t 1) 0, (some (6, true))⟩, none),
  (⟨(some 10), .load (.t 9) 1 false, (some (6, true))⟩, none),
  (⟨(some 11), .call (n_spec_l1In) [(.t 8), (.t 10), (.c (.int .i64 9999))], (some (6, true))⟩, none),
  kB 12 (.pick (.t 6) (.t 11) (.c (.bool false))) [1, 12],
  kA 13 (.mv (.t 12)),
  (⟨(some 14), .faddr (.t 1) 1, (some (13, true))⟩, none),
  (⟨(some 15), .load (.t 14) 1 false, (some (13, true))⟩, none),
  (⟨(some 16), .faddr (.t 1) 0, (some (13, true))⟩, none),
  (⟨(some 17), .load (.t 16) 1 false, (some (13, true))⟩, (some [1, 13, 15, 17])),
  (⟨(some 18), .bin .sub (.t 15) (.t 17), (some (13, true))⟩, none),
  (⟨(some 19), .bin .lss (.t 18) (.c (.int .i64 20)), (some (13, true))⟩, none),
  kA 20 (.pick (.t 13) (.t 19) (.c (.bool false))),
  kA 21 (.mv (.t 20)),
  (⟨(some 22), .faddr (.t 1) 2, (some (21, true))⟩, (some [1, 21, 22])),
  (⟨(some 23), .load (.t 22) 1 false, (some (21, true))⟩, none),
  (⟨(some 24), .faddr (.t 1) 0, (some (21, true))⟩, none),
  (⟨(some 25), .load (.t 24) 1 false, (some (21, true))⟩, none),
  (⟨(some 26), .faddr (.t 1) 1, (some (21, true))⟩, none),
  (⟨(some 27), .load (.t 26) 1 false, (some (21, true))⟩, (some [21, 23, 25, 27])),
  (⟨(some 28), .call (n_spec_l1In) [(.t 23), (.t 25), (.t 27)], (some (21, true))⟩, none),
  kA 29 (.pick (.t 21) (.t 28) (.c (.bool false))),
  kB 2 (.mv (.t 29)) [2]]
@[go_sem] def s93_2 (_ : Unit) : IR := (sQ [(kT l93_0), (kT l93_1), .ret])
theorem c93 : compFn Try.prog [(0, [], [oN, oS [1]]), (1, [], [oN, oN, oN, oN, oS [1, 6, 7], oN, oN, oN, oN, oS [1, 12], oN, oN, oN, oN, oS [1, 13, 15, 17], oN, oN, oN, oN, oS [1, 21, 22], oN, oN, oN, oN, oS [21, 23, 25, 27], oN, oN, oS [2]])] Try.f93 = some ⟨1, 30, [.t 2], (tH s93_2)⟩ := by kernel_rfl
theorem v_spec_l2Var (hl : vs.length = 1) (h : wpV Try.prog (tH s93_2) (postV [.t 2] RV) (envV vs) M) : VCall Try.prog n_spec_l2Var vs M RV :=
  vcall_of_wp (fun _ _ _ hl h => acall_of_wp mixed Try.func93 c93 (by kernel_rfl) hl h) hl h
@[go_sem] def l141_0 (_ : Unit) : KL := [kB 2 (.mv (.c (.bool false))) [0]]
@[go_sem] def l141_1 (_ : Unit) : KL := [kA 3 (.mv (.t 0)),
  kA 4 (.bin .eql (.t 3) (.c (.int .i64 7))),
  kB 2 (.mv (.t 4)) [2]]
@[go_sem] def s141_2 (_ : Unit) : IR := (sQ [(kT l141_0), (kT l141_1), .ret])
theorem c141 : compFn Try.prog [(0, [], [oS [0]]), (1, [], [oN, oN, oS [2]])] Try.f141 = some ⟨1, 5, [.t 2], (tH s141_2)⟩ := by kernel_rfl
theorem v_spec_l1One (hl : vs.length = 1) (h : wpV Try.prog (tH s141_2) (postV [.t 2] RV) (envV vs) M) : VCall Try.prog n_spec_l1One vs M RV :=
  vcall_of_wp (fun _ _ _ hl h => acall_of_wp mixed Try.func141 c141 (by kernel_rfl) hl h) hl h
@[go_sem] def l139_0 (_ : Unit) : KL := [kA 3 (.box (.t 0)),
  kB 6 (.mv (cI 0)) [1, 2, 3]]
@[go_sem] def l139_1 (_ : Unit) : KL := [kA 8 (.faddr (.t 3) 0),
  kA 9 (.load (.t 8) 1 false),
  kA 10 (.bin .eql (.t 9) (cI 0)),
  kA 11 (.mv (.t 10)),
  (⟨(some 12), .faddr (.t 3) 1, (some (11, true))⟩, (some [1, 2, 3, 11, 12])),
  (⟨(some 13), .load (.t 12) 1 false, (some (11, true))⟩, none),
  (⟨(some 14), .call (n_spec_l1In) [(.t 13), (.c (.int .i64 (-9999))), (.c (.int .i64 9999))], (some (11, true))⟩, none),
  kA 15 (.pick (.t 11) (.t 14) (.c (.bool false))),
  kA 16 (.mv (.t 15)),
  (⟨(some 17), .faddr (.t 3) 2, (some (16, true))⟩, (some [1, 2, 3, 16, 17])),
  (⟨(some 18), .load (.t 17) 1 false, (some (16, true))⟩, none),
  (⟨(some 19), .bin .eql (.t 18) (cI 0), (some (16, true))⟩, none),
  kA 20 (.pick (.t 16) (.t 19) (.c (.bool false))),
  kA 21 (.mv (.t 20)),
  (⟨(some 22), .faddr (.t 3) 3, (some (21, true))⟩, (some [1, 2, 3, 21, 22])),
  (⟨(some 23), .load (.t 22) 1 false, (some (21, true))⟩, none),
  (⟨(some 24), .bin .eql (.t 23) (cI 0), (some (21, true))⟩, none),
  kB 25 (.pick (.t 21) (.t 24) (.c (.bool false))) [1, 2, 3, 25]]
@[go_sem] def l139_2 (_ : Unit) : KL := [kB 6 (.mv (cI 1)) [6]]
@[go_sem] def s139_3 (_ : Unit) : IR := (sQ [(kT l139_2), .ret])
@[go_sem] def s139_4 (_ : Unit) : IR := (sQ [(kT l139_1), (.cond (.t 25) (tH s139_3) .skip)])
@[go_sem] def l139_5 (_ : Unit) : KL := [kA 26 (.faddr (.t 3) 0),
  kA 27 (.load (.t 26) 1 false),
  kA 28 (.bin .eql (.t 27) (cI 1)),
  kA 29 (.mv (.t 28)),
  (⟨(some 30), .faddr (.t 3) 1, (some (29, true))⟩, (some [1, 2, 3, 29, 30])),
  (⟨(some 31), .load (.t 30) 1 false, (some (29, true))⟩, none),
  (⟨(some 32), .mv (.t 2), (some (29, true))⟩, none),
  (⟨(some 33), .bin .sub (.t 32) (cI 1), (some (29, true))⟩, none),
  (⟨(some 34), .call (n_spec_l1In) [(.t 31), (cI 0), (.t 33)], (some (29, true))⟩, none),
  kB 35 (.pick (.t 29) (.t 34) (.c (.bool false))) [1, 3, 35],
  kA 36 (.mv (.t 35)),
  (⟨(some 37), .faddr (.t 3) 2, (some (36, true))⟩, none),
  (⟨(some 38), .load (.t 37) 1 false, (some (36, true))⟩, none),
  (⟨(some 39), .bin .eql (.t 38) (cI 0), (some (36, true))⟩, none),
  kB 40 (.pick (.t 36) (.t 39) (.c (.bool false))) [1, 3, 40],
  kA 41 (.mv (.t 40)),
  (⟨(some 42), .faddr (.t 3) 3, (some (41, true))⟩, none),
  (⟨(some 43), .load (.t 42) 1 false, (some (41, true))⟩, none),
  (⟨(some 44), .bin .eql (.t 43) (cI 0), (some (41, true))⟩, none),
  kB 45 (.pick (.t 41) (.t 44) (.c (.bool false))) [1, 3, 45]]
@[go_sem] def l139_6 (_ : Unit) : KL := [kB 6 (.mv (cI 1)) [6]]
@[go_sem] def s139_7 (_ : Unit) : IR := (sQ [(kT l139_6), .ret])
@[go_sem] def s139_8 (_ : Unit) : IR := (sQ [(kT l139_5), (.cond (.t 45) (tH s139_7) .skip)])
@[go_sem] def l139_9 (_ : Unit) : KL := [kA 46 (.faddr (.t 3) 0),
  kA 47 (.load (.t 46) 1 false),
  kA 48 (.call (n_spec_l1In) [(.t 47), (.c (.int .i64 2)), (.c (.int .i64 9))]),
  kA 49 (.un .not (.t 48)),
  kB 50 (.mv (.t 49)) [1, 3, 50],
  (⟨(some 51), .faddr (.t 3) 1, (some (50, false))⟩, none),
  (⟨(some 52), .load (.t 51) 1 false, (some (50, false))⟩, none),
  (⟨(some 53), .bin .neq (.t 52) (cI 0), (some (50, false))⟩, none),
  kA 54 (.pick (.t 50) (.c (.bool true)) (.t 53)),
  kB 55 (.mv (.t 54)) [1, 3, 55],
  (⟨(some 56), .faddr (.t 3) 2, (some (55, false))⟩, none),
  (⟨(some 57), .load (.t 56) 1 false, (some (55, false))⟩, none),
  (⟨(some 58), .mv (.t 1), (some (55, false))⟩, none),
  (⟨(some 59), .len (.t 58), (some (55, false))⟩, none),
  (⟨(some 60), .bin .sub (.t 59) (cI 1), (some (55, false))⟩, (some [1, 3, 55, 57, 60])),
  (⟨(some 61), .call (n_spec_l1In) [(.t 57), (cI 0), (.t 60)], (some (55, false))⟩, none),
  (⟨(some 62), .un .not (.t 61), (some (55, false))⟩, none),
  kA 63 (.pick (.t 55) (.c (.bool true)) (.t 62)),
  kA 64 (.mv (.t 63)),
  (⟨(some 65), .faddr (.t 3) 3, (some (64, false))⟩, (some [1, 3, 64, 65])),
  (⟨(some 66), .load (.t 65) 1 false, (some (64, false))⟩, none),
  (⟨(some 67), .mv (.t 1), (some (64, false))⟩, none),
  (⟨(some 68), .len (.t 67), (some (64, false))⟩, none),
  (⟨(some 69), .bin .sub (.t 68) (cI 1), (some (64, false))⟩, none),
  (⟨(some 70), .call (n_spec_l1In) [(.t 66), (cI 0), (.t 69)], (some (64, false))⟩, (some [1, 3, 64, 70])),
  (⟨(some 71), .un .not (.t 70), (some (64, false))⟩, none),
  kB 72 (.pick (.t 64) (.c (.bool true)) (.t 71)) [1, 3, 72]]
@[go_sem] def l139_10 (_ : Unit) : KL := [kB 6 (.mv (cI 0)) [6]]
@[go_sem] def s139_11 (_ : Unit) : IR := (sQ [(kT l139_10), .ret])
@[go_sem] def s139_12 (_ : Unit) : IR := (sQ [(kT l139_9), (.cond (.t 72) (tH s139_11) .skip)])
@[go_sem] def l139_13 (_ : Unit) : KL := [kB 7 (.mv (cI 1)) [1, 3, 7]]
@[go_sem] def l139_14 (_ : Unit) : KL := [kA 73 (.faddr (.t 3) 0),
  kA 74 (.load (.t 73) 1 false),
  kB 75 (.bin .geq (.t 74) (.c (.int .i64 7))) [1, 3, 7, 75]]
@[go_sem] def l139_15 (_ : Unit) : KL := [kB 7 (.mv (.c (.int .i64 2))) [1, 3, 7]]
@[go_sem] def s139_16 (_ : Unit) : IR := (sQ [(kT l139_14), (.cond (.t 75) (kT l139_15) .skip)])
@[go_sem] def l139_17 (_ : Unit) : KL := [kA 76 (.mv (.t 1)),
  kA 77 (.faddr (.t 3) 2),
  kA 78 (.load (.t 77) 1 false),
  kA 79 (.iaddr (.t 76) (.t 78) 1),
  kB 80 (.load (.t 79) 1 false) [1, 3, 7, 80],
  kA 81 (.mv (.t 7)),
  kA 82 (.bin .neq (.t 80) (.t 81)),
  kA 83 (.mv (.t 82)),
  (⟨(some 84), .mv (.t 1), (some (83, false))⟩, none),
  (⟨(some 85), .faddr (.t 3) 3, (some (83, false))⟩, (some [3, 7, 83, 84, 85])),
  (⟨(some 86), .load (.t 85) 1 false, (some (83, false))⟩, none),
  (⟨(some 87), .iaddr (.t 84) (.t 86) 1, (some (83, false))⟩, none),
  (⟨(some 88), .load (.t 87) 1 false, (some (83, false))⟩, none),
  (⟨(some 89), .mv (.t 7), (some (83, false))⟩, none),
  (⟨(some 90), .bin .neq (.t 88) (.t 89), (some (83, false))⟩, (some [3, 83, 90])),
  kA 91 (.pick (.t 83) (.c (.bool true)) (.t 90)),
  kA 92 (.mv (.t 91)),
  (⟨(some 93), .faddr (.t 3) 0, (some (92, false))⟩, none),
  (⟨(some 94), .load (.t 93) 1 false, (some (92, false))⟩, none),
  (⟨(some 95), .call (n_spec_l1One) [(.t 94)], (some (92, false))⟩, (some [3, 92, 95])),
  (⟨(some 96), .mv (.t 95), (some (92, false))⟩, none),
  (⟨(some 97), .faddr (.t 3) 3, (some (96, true))⟩, none),
  (⟨(some 98), .load (.t 97) 1 false, (some (96, true))⟩, none),
  (⟨(some 99), .faddr (.t 3) 2, (some (96, true))⟩, none),
  (⟨(some 100), .load (.t 99) 1 false, (some (96, true))⟩, (some [3, 92, 96, 98, 100])),
  (⟨(some 101), .bin .neq (.t 98) (.t 100), (some (96, true))⟩, none),
  (⟨(some 102), .pick (.t 96) (.t 101) (.c (.bool false)), (some (92, false))⟩, none),
  kB 103 (.pick (.t 92) (.c (.bool true)) (.t 102)) [3, 103]]
@[go_sem] def l139_18 (_ : Unit) : KL := [kB 6 (.mv (cI 0)) [6]]
@[go_sem] def s139_19 (_ : Unit) : IR := (sQ [(kT l139_18), .ret])
@[go_sem] def s139_20 (_ : Unit) : IR := (sQ [(kT l139_17), (.cond (.t 103) (tH s139_19) .skip)])
@[go_sem] def l139_21 (_ : Unit) : KL := [kA 104 (.faddr (.t 3) 0),
  kA 105 (.load (.t 104) 1 false),
  kB 106 (.bin .geq (.t 105) (.c (.int .i64 5))) [106]]
@[go_sem] def l139_22 (_ : Unit) : KL := [kB 6 (.mv (.c (.int .i64 2))) [6]]
@[go_sem] def s139_23 (_ : Unit) : IR := (sQ [(kT l139_22), .ret])
@[go_sem] def s139_24 (_ : Unit) : IR := (sQ [(kT l139_21), (.cond (.t 106) (tH s139_23) .skip)])
@[go_sem] def l139_25 (_ : Unit) : KL := [kB 6 (.mv (cI 1)) [6]]
@[go_sem] def s139_26 (_ : Unit) : IR := (sQ [(kT l139_0), (tH s139_4), (tH s139_8), (tH s139_12), (kT l139_13), (tH s139_16), (tH s139_20), (tH s139_24), (kT l139_25), .ret])
theorem c139 : compFn Try.prog [(0, [], [oN, oS [1, 2, 3]]), (1, [], [oN, oN, oN, oN, oS [1, 2, 3, 11, 12], oN, oN, oN, oN, oS [1, 2, 3, 16, 17], oN, oN, oN, oN, oS [1, 2, 3, 21, 22], oN, oN, oS [1, 2, 3, 25]]), (2, [], [oS [6]]), (3, [], [oN, oN, oN, oN, oS [1, 2, 3, 29, 30], oN, oN, oN, oN, oS [1, 3, 35], oN, oN, oN, oN, oS [1, 3, 40], oN, oN, oN, oN, oS [1, 3, 45]]), (4, [], [oS [6]]), (5, [], [oN, oN, oN, oN, oS [1, 3, 50], oN, oN, oN, oN, oS [1, 3, 55], oN, oN, oN, oN, oS [1, 3, 55, 57, 60], oN, oN, oN, oN, oS [1, 3, 64, 65], oN, oN, oN, oN, oS [1, 3, 64, 70], oN, oS [1, 3, 72]]), (6, [], [oS [6]]), (7, [], [oS [1, 3, 7]]), (8, [], [oN, oN, oS [1, 3, 7, 75]]), (9, [], [oS [1, 3, 7]]), (10, [], [oN, oN, oN, oN, oS [1, 3, 7, 80], oN, oN, oN, oN, oS [3, 7, 83, 84, 85], oN, oN, oN, oN, oS [3, 83, 90], oN, oN, oN, oN, oS [3, 92, 95], oN, oN, oN, oN, oS [3, 92, 96, 98, 100], oN, oN, oS [3, 103]]), (11, [], [oS [6]]), (12, [], [oN, oN, oS [106]]), (13, [], [oS [6]]), (14, [], [oS [6]])] Try.f139 = some ⟨3, 107, [.t 6], (tH s139_26)⟩ := by kernel_rfl
theorem v_spec_l1Kind (hl : vs.length = 3) (h : wpV Try.prog (tH s139_26) (postV [.t 6] RV) (envV vs) M) : VCall Try.prog n_spec_l1Kind vs M RV :=
  vcall_of_wp (fun _ _ _ hl h => acall_of_wp mixed Try.func139 c139 (by kernel_rfl) hl h) hl h
@[go_sem] def l132_0 (_ : Unit) : KL := [kB 4 (.mv (.c (.sl none 0 0 true 0))) [0, 1]]
@[go_sem] def l132_1 (_ : Unit) : KL := [kA 8 (.mv (.t 1)),
  kA 9 (.call (n_spec_l1In) [(.t 8), (cI 0), (.c (.int .i64 5))]),
  kA 10 (.un .not (.t 9)),
  kA 11 (.mv (.t 10)),
  (⟨(some 12), .mv (.t 0), (some (11, false))⟩, (some [0, 1, 11, 12])),
  (⟨(some 13), .len (.t 12), (some (11, false))⟩, none),
  (⟨(some 14), .call (n_spec_l1In) [(.t 13), (cI 1), (.c (.int .i64 40))], (some (11, false))⟩, none),
  (⟨(some 15), .un .not (.t 14), (some (11, false))⟩, none),
  kB 16 (.pick (.t 11) (.c (.bool true)) (.t 15)) [0, 1, 16]]
@[go_sem] def l132_2 (_ : Unit) : KL := [kB 4 (.mv (.c (.sl none 0 0 true 0))) [4]]
@[go_sem] def s132_3 (_ : Unit) : IR := (sQ [(kT l132_2), .ret])
@[go_sem] def s132_4 (_ : Unit) : IR := (sQ [(kT l132_1), (.cond (.t 16) (tH s132_3) .skip)])
@[go_sem] def l132_5 (_ : Unit) : KL := [kA 17 (.bslc 1 0 [(.int .i64 0)] []),
  kB 5 (.mv (.t 17)) [0, 1, 5]]
@[go_sem] def l132_6 (_ : Unit) : KL := [kB 6 (.mv (cI 0)) [0, 1, 5, 6]]
@[go_sem] def l132_7 (_ : Unit) : KL := [kA 18 (.mv (.t 6)),
  kA 19 (.mv (.t 0)),
  kA 20 (.len (.t 19)),
  kB 21 (.bin .lss (.t 18) (.t 20)) [0, 1, 5, 6, 21]]
@[go_sem] def s132_8 (_ : Unit) : IR := (sQ [(kT l132_7), (.cond (.t 21) .skip (.exit 0))])
@[go_sem] def l132_9 (_ : Unit) : KL := [kA 24 (.mv (.t 0)),
  kA 25 (.mv (.t 6)),
  kA 26 (.iaddr (.t 24) (.t 25) 4),
  kA 27 (.load (.t 26) 4 true),
  kB 28 (.mv (.t 5)) [0, 1, 5, 6, 27, 28],
  kA 29 (.mv (.t 1)),
  kA 30 (.call (n_spec_l1Kind) [(.t 27), (.t 28), (.t 29)]),
  kB 7 (.mv (.t 30)) [0, 1, 5, 6, 7]]
@[go_sem] def l132_10 (_ : Unit) : KL := [kA 31 (.mv (.t 7)),
  kB 32 (.bin .eql (.t 31) (cI 0)) [0, 1, 5, 6, 7, 32]]
@[go_sem] def l132_11 (_ : Unit) : KL := [kB 4 (.mv (.c (.sl none 0 0 true 0))) [4]]
@[go_sem] def s132_12 (_ : Unit) : IR := (sQ [(kT l132_11), .ret])
@[go_sem] def s132_13 (_ : Unit) : IR := (sQ [(kT l132_10), (.cond (.t 32) (tH s132_12) .skip)])
@[go_sem] def l132_14 (_ : Unit) : KL := [kA 33 (.mv (.t 5)),
  kA 34 (.mv (.t 7)),
  kA 35 (.bslc 1 1 [(.int .i64 0)] [(0, (.t 34))]),
  kA 36 (.app 1 8 (.t 33) (.t 35)),
  kB 5 (.mv (.t 36)) [0, 1, 5, 6]]
@[go_sem] def s132_15 (_ : Unit) : IR := (sQ [(kT l132_9), (tH s132_13), (kT l132_14)])
@[go_sem] def s132_16 (_ : Unit) : IR := (.block 1 (tH s132_15))
@[go_sem] def l132_17 (_ : Unit) : KL := [kA 22 (.mv (.t 6)),
  kA 23 (.bin .add (.t 22) (cI 1)),
  kB 6 (.mv (.t 23)) [0, 1, 5, 6]]
@[go_sem] def s132_18 (_ : Unit) : IR := (sQ [(tH s132_8), (tH s132_16), (kT l132_17)])
@[go_sem] def s132_19 (_ : Unit) : IR := (.loop (tH s132_18))
@[go_sem] def s132_20 (_ : Unit) : IR := (.block 0 (tH s132_19))
@[go_sem] def s132_21 (_ : Unit) : IR := (sQ [(kT l132_6), (tH s132_20)])
@[go_sem] def l132_22 (_ : Unit) : KL := [kA 37 (.mv (.t 5)),
  kB 4 (.mv (.t 37)) [4]]
@[go_sem] def s132_23 (_ : Unit) : IR := (sQ [(kT l132_0), (tH s132_4), (kT l132_5), (tH s132_21), (kT l132_22), .ret])
theorem c132 : compFn Try.prog [(0, [], [oS [0, 1]]), (1, [], [oN, oN, oN, oN, oS [0, 1, 11, 12], oN, oN, oN, oS [0, 1, 16]]), (2, [], [oS [4]]), (3, [], [oN, oS [0, 1, 5]]), (4, [], [oS [0, 1, 5, 6]]), (5, [], [oN, oN, oN, oS [0, 1, 5, 6, 21]]), (7, [], [oN, oN, oN, oN, oS [0, 1, 5, 6, 27, 28], oN, oN, oS [0, 1, 5, 6, 7]]), (8, [], [oN, oS [0, 1, 5, 6, 7, 32]]), (9, [], [oS [4]]), (10, [], [oN, oN, oN, oN, oS [0, 1, 5, 6]]), (6, [], [oN, oN, oS [0, 1, 5, 6]]), (11, [], [oN, oS [4]])] Try.f132 = some ⟨2, 38, [.t 4], (tH s132_23)⟩ := by kernel_rfl
theorem v_spec_KindsOf (hl : vs.length = 2) (h : wpV Try.prog (tH s132_23) (postV [.t 4] RV) (envV vs) M) : VCall Try.prog n_spec_KindsOf vs M RV :=
  vcall_of_wp (fun _ _ _ hl h => acall_of_wp mixed Try.func132 c132 (by kernel_rfl) hl h) hl h
@[go_sem] def l122_0 (_ : Unit) : KL := [kB 6 (.mv (.c (.bool false))) [0, 1, 2]]
@[go_sem] def l122_1 (_ : Unit) : KL := [kA 8 (.mv (.t 0)),
  kA 9 (.mv (.t 1)),
  kA 10 (.call (n_spec_KindsOf) [(.t 8), (.t 9)]),
  kB 7 (.mv (.t 10)) [2, 7]]
@[go_sem] def l122_2 (_ : Unit) : KL := [kA 11 (.mv (.t 7)),
  kA 12 (.len (.t 11)),
  kA 13 (.bin .gtr (.t 12) (cI 0)),
  kA 14 (.mv (.t 13)),
  (⟨(some 15), .mv (.t 7), (some (14, true))⟩, (some [2, 7, 14, 15])),
  (⟨(some 16), .mv (.t 7), (some (14, true))⟩, none),
  (⟨(some 17), .len (.t 16), (some (14, true))⟩, none),
  (⟨(some 18), .bin .sub (.t 17) (cI 1), (some (14, true))⟩, none),
  (⟨(some 19), .iaddr (.t 15) (.t 18) 1, (some (14, true))⟩, none),
  (⟨(some 20), .load (.t 19) 1 false, (some (14, true))⟩, (some [2, 14, 20])),
  (⟨(some 21), .mv (.t 2), (some (14, true))⟩, none),
  (⟨(some 22), .bin .eql (.t 20) (.t 21), (some (14, true))⟩, none),
  kA 23 (.pick (.t 14) (.t 22) (.c (.bool false))),
  kB 6 (.mv (.t 23)) [6]]
@[go_sem] def s122_3 (_ : Unit) : IR := (sQ [(kT l122_0), (kT l122_1), (kT l122_2), .ret])
theorem c122 : compFn Try.prog [(0, [], [oS [0, 1, 2]]), (1, [], [oN, oN, oN, oS [2, 7]]), (2, [], [oN, oN, oN, oN, oS [2, 7, 14, 15], oN, oN, oN, oN, oS [2, 14, 20], oN, oN, oN, oS [6]])] Try.f122 = some ⟨3, 24, [.t 6], (tH s122_3)⟩ := by kernel_rfl
theorem v_spec_l2Is (hl : vs.length = 3) (h : wpV Try.prog (tH s122_3) (postV [.t 6] RV) (envV vs) M) : VCall Try.prog n_spec_l2Is vs M RV :=
  vcall_of_wp (fun _ _ _ hl h => acall_of_wp mixed Try.func122 c122 (by kernel_rfl) hl h) hl h
@[go_sem] def l94_0 (_ : Unit) : KL := [kA 2 (.box (.t 0)),
  kB 4 (.mv (.c (.bool false))) [1, 2]]
@[go_sem] def l94_1 (_ : Unit) : KL := [kA 6 (.faddr (.t 2) 0),
  kA 7 (.load (.t 6) 1 false),
  kA 8 (.mv (.t 1)),
  kA 9 (.call (n_spec_l2Is) [(.t 7), (.t 8), (.c (.int .i64 2))]),
  kB 10 (.un .not (.t 9)) [1, 2, 10],
  kA 11 (.mv (.t 10)),
  (⟨(some 12), .faddr (.t 2) 1, (some (11, false))⟩, none),
  (⟨(some 13), .load (.t 12) 1 false, (some (11, false))⟩, none),
  (⟨(some 14), .len (.t 13), (some (11, false))⟩, none),
  (⟨(some 15), .faddr (.t 2) 2, (some (11, false))⟩, (some [1, 2, 11, 14, 15])),
  (⟨(some 16), .load (.t 15) 1 false, (some (11, false))⟩, none),
  (⟨(some 17), .len (.t 16), (some (11, false))⟩, none),
  (⟨(some 18), .bin .neq (.t 14) (.t 17), (some (11, false))⟩, none),
  kA 19 (.pick (.t 11) (.c (.bool true)) (.t 18)),
  kB 20 (.mv (.t 19)) [1, 2, 20],
  (⟨(some 21), .faddr (.t 2) 1, (some (20, false))⟩, none),
  (⟨(some 22), .load (.t 21) 1 false, (some (20, false))⟩, none),
  (⟨(some 23), .len (.t 22), (some (20, false))⟩, none),
  (⟨(some 24), .mv (.t 1), (some (20, false))⟩, none),
  (⟨(some 25), .bin .gtr (.t 23) (.t 24), (some (20, false))⟩, (some [1, 2, 20, 25])),
  kB 26 (.pick (.t 20) (.c (.bool true)) (.t 25)) [1, 2, 26]]
@[go_sem] def l94_2 (_ : Unit) : KL := [kB 4 (.mv (.c (.bool false))) [4]]
@[go_sem] def s94_3 (_ : Unit) : IR := (sQ [(kT l94_2), .ret])
@[go_sem] def s94_4 (_ : Unit) : IR := (sQ [(kT l94_1), (.cond (.t 26) (tH s94_3) .skip)])
@[go_sem] def l94_5 (_ : Unit) : KL := [kB 5 (.mv (cI 0)) [1, 2, 5]]
@[go_sem] def l94_6 (_ : Unit) : KL := [kA 27 (.mv (.t 5)),
  kA 28 (.faddr (.t 2) 1),
  kA 29 (.load (.t 28) 1 false),
  kA 30 (.len (.t 29)),
  kB 31 (.bin .lss (.t 27) (.t 30)) [1, 2, 5, 31]]
@[go_sem] def s94_7 (_ : Unit) : IR := (sQ [(kT l94_6), (.cond (.t 31) .skip (.exit 0))])
@[go_sem] def l94_8 : Nat → GOp
  | 0 => ⟨(some 34), .faddr (.t 2) 1, none⟩
  | 1 => ⟨(some 35), .load (.t 34) 1 false, none⟩
  | 2 => ⟨(some 36), .mv (.t 5), none⟩
  | 3 => ⟨(some 37), .iaddr (.t 35) (.t 36) 1, none⟩
  | 4 => ⟨(some 38), .load (.t 37) 1 false, none⟩
  | 5 => ⟨(some 39), .mv (.t 1), none⟩
  | 6 => ⟨(some 40), .bin .sub (.t 39) (cI 1), none⟩
  | 7 => ⟨(some 41), .call (n_spec_l1In) [(.t 38), (cI 0), (.t 40)], none⟩
  | 8 => ⟨(some 42), .un .not (.t 41), none⟩
  | 9 => ⟨(some 43), .mv (.t 42), none⟩
  | 10 => ⟨(some 44), .mv (.t 5), (some (43, false))⟩
  | 11 => ⟨(some 45), .bin .gtr (.t 44) (cI 0), (some (43, false))⟩
  | 12 => ⟨(some 46), .mv (.t 45), (some (43, false))⟩
  | 13 => ⟨(some 47), .faddr (.t 2) 1, (some (46, true))⟩
  | 14 => ⟨(some 48), .load (.t 47) 1 false, (some (46, true))⟩
  | 15 => ⟨(some 49), .mv (.t 5), (some (46, true))⟩
  | 16 => ⟨(some 50), .iaddr (.t 48) (.t 49) 1, (some (46, true))⟩
  | 17 => ⟨(some 51), .load (.t 50) 1 false, (some (46, true))⟩
  | 18 => ⟨(some 52), .faddr (.t 2) 1, (some (46, true))⟩
  | 19 => ⟨(some 53), .load (.t 52) 1 false, (some (46, true))⟩
  | 20 => ⟨(some 54), .mv (.t 5), (some (46, true))⟩
  | 21 => ⟨(some 55), .bin .sub (.t 54) (cI 1), (some (46, true))⟩
  | 22 => ⟨(some 56), .iaddr (.t 53) (.t 55) 1, (some (46, true))⟩
  | 23 => ⟨(some 57), .load (.t 56) 1 false, (some (46, true))⟩
  | 24 => ⟨(some 58), .bin .leq (.t 51) (.t 57), (some (46, true))⟩
  | 25 => ⟨(some 59), .pick (.t 46) (.t 58) (.c (.bool false)), (some (43, false))⟩
  | 26 => ⟨(some 60), .pick (.t 43) (.c (.bool true)) (.t 59), none⟩
  | 27 => ⟨(some 61), .mv (.t 60), none⟩
  | 28 => ⟨(some 62), .faddr (.t 2) 2, (some (61, false))⟩
  | 29 => ⟨(some 63), .load (.t 62) 1 false, (some (61, false))⟩
  | 30 => ⟨(some 64), .mv (.t 5), (some (61, false))⟩
  | 31 => ⟨(some 65), .iaddr (.t 63) (.t 64) 1, (some (61, false))⟩
  | 32 => ⟨(some 66), .load (.t 65) 1 false, (some (61, false))⟩
  | 33 => ⟨(some 67), .mv (.t 1), (some (61, false))⟩
  | 34 => ⟨(some 68), .call (n_spec_l2Is) [(.t 66), (.t 67), (cI 1)], (some (61, false))⟩
  | 35 => ⟨(some 69), .un .not (.t 68), (some (61, false))⟩
  | 36 => ⟨(some 70), .pick (.t 61) (.c (.bool true)) (.t 69), none⟩
  | _ => ⟨none, .mkmap, none⟩
@[go_sem] def l94_9 (_ : Unit) : KL := [kB 4 (.mv (.c (.bool false))) [4]]
@[go_sem] def s94_10 (_ : Unit) : IR := (sQ [(kT l94_9), .ret])
@[go_sem] def s94_11 (_ : Unit) : IR := (sQ [(.kd (oF l94_8 37) [(0, []), (1, []), (2, []), (3, []), (4, []), (5, []), (6, []), (7, []), (8, []), (9, []), (10, []), (11, []), (12, []), (13, []), (14, []), (15, []), (16, []), (17, []), (18, []), (19, []), (20, []), (21, []), (22, []), (23, []), (24, []), (25, []), (26, []), (27, []), (28, []), (29, []), (30, []), (31, []), (32, []), (33, []), (34, []), (35, []), (36, [])] [1, 2, 5, 70]), (.cond (.t 70) (tH s94_10) .skip)])
@[go_sem] def s94_12 (_ : Unit) : IR := (.block 1 (tH s94_11))
@[go_sem] def l94_13 (_ : Unit) : KL := [kA 32 (.mv (.t 5)),
  kA 33 (.bin .add (.t 32) (cI 1)),
  kB 5 (.mv (.t 33)) [1, 2, 5]]
@[go_sem] def s94_14 (_ : Unit) : IR := (sQ [(tH s94_7), (tH s94_12), (kT l94_13)])
@[go_sem] def s94_15 (_ : Unit) : IR := (.loop (tH s94_14))
@[go_sem] def s94_16 (_ : Unit) : IR := (.block 0 (tH s94_15))
@[go_sem] def s94_17 (_ : Unit) : IR := (sQ [(kT l94_5), (tH s94_16)])
@[go_sem] def l94_18 (_ : Unit) : KL := [kB 4 (.mv (.c (.bool true))) [4]]
@[go_sem] def s94_19 (_ : Unit) : IR := (sQ [(kT l94_0), (tH s94_4), (tH s94_17), (kT l94_18), .ret])
theorem c94 : compFn Try.prog [(0, [], [oN, oS [1, 2]]), (1, [], [oN, oN, oN, oN, oS [1, 2, 10], oN, oN, oN, oN, oS [1, 2, 11, 14, 15], oN, oN, oN, oN, oS [1, 2, 20], oN, oN, oN, oN, oS [1, 2, 20, 25], oS [1, 2, 26]]), (2, [], [oS [4]]), (3, [], [oS [1, 2, 5]]), (4, [], [oN, oN, oN, oN, oS [1, 2, 5, 31]]), (6, [(0, []), (1, []), (2, []), (3, []), (4, []), (5, []), (6, []), (7, []), (8, []), (9, []), (10, []), (11, []), (12, []), (13, []), (14, []), (15, []), (16, []), (17, []), (18, []), (19, []), (20, []), (21, []), (22, []), (23, []), (24, []), (25, []), (26, []), (27, []), (28, []), (29, []), (30, []), (31, []), (32, []), (33, []), (34, []), (35, []), (36, [])], [oS [1, 2, 5, 70]]), (7, [], [oS [4]]), (5, [], [oN, oN, oS [1, 2, 5]]), (8, [], [oS [4]])] Try.f94 = some ⟨2, 71, [.t 4], (tH s94_19)⟩ := by kernel_rfl
theorem v_spec_l2Rule (hl : vs.length = 2) (h : wpV Try.prog (tH s94_19) (postV [.t 4] RV) (envV vs) M) : VCall Try.prog n_spec_l2Rule vs M RV :=
  vcall_of_wp (fun _ _ _ hl h => acall_of_wp mixed Try.func94 c94 (by kernel_rfl) hl h) hl h
@[go_sem] def l53_0 (_ : Unit) : KL := [kA 1 (.box (.t 0)),
  kB 2 (.mv (.c (.bool false))) [1]]
@[go_sem] def l53_1 (_ : Unit) : KL := [kA 6 (.faddr (.t 1) 0),
  kA 7 (.load (.t 6) 1 false),
  kA 8 (.len (.t 7)),
  kA 9 (.call (n_spec_l1In) [(.t 8), (cI 1), (.c (.int .i64 5))]),
  kB 10 (.un .not (.t 9)) [1, 10],
  kA 11 (.mv (.t 10)),
  (⟨(some 12), .faddr (.t 1) 1, (some (11, false))⟩, none),
  (⟨(some 13), .load (.t 12) 1 false, (some (11, false))⟩, none),
  (⟨(some 14), .len (.t 13), (some (11, false))⟩, none),
  (⟨(some 15), .bin .gtr (.t 14) (.c (.int .i64 8)), (some (11, false))⟩, (some [1, 11, 15])),
  kB 16 (.pick (.t 11) (.c (.bool true)) (.t 15)) [1, 16]]
@[go_sem] def l53_2 (_ : Unit) : KL := [kB 2 (.mv (.c (.bool false))) [2]]
@[go_sem] def s53_3 (_ : Unit) : IR := (sQ [(kT l53_2), .ret])
@[go_sem] def s53_4 (_ : Unit) : IR := (sQ [(kT l53_1), (.cond (.t 16) (tH s53_3) .skip)])
@[go_sem] def l53_5 (_ : Unit) : KL := [kB 3 (.mv (cI 1)) [1, 3]]
@[go_sem] def l53_6 (_ : Unit) : KL := [kB 4 (.mv (cI 0)) [1, 3, 4]]
@[go_sem] def l53_7 (_ : Unit) : KL := [kA 17 (.mv (.t 4)),
  kA 18 (.faddr (.t 1) 0),
  kA 19 (.load (.t 18) 1 false),
  kA 20 (.len (.t 19)),
  kB 21 (.bin .lss (.t 17) (.t 20)) [1, 3, 4, 21]]
@[go_sem] def s53_8 (_ : Unit) : IR := (sQ [(kT l53_7), (.cond (.t 21) .skip (.exit 0))])
@[go_sem] def l53_9 (_ : Unit) : KL := [kA 24 (.faddr (.t 1) 0),
  kA 25 (.load (.t 24) 1 false),
  kA 26 (.mv (.t 4)),
  kA 27 (.iaddr (.t 25) (.t 26) 3),
  kB 28 (.load (.t 27) 3 true) [1, 3, 4, 28],
  kA 29 (.call (n_spec_l2Var) [(.t 28)]),
  kB 30 (.un .not (.t 29)) [1, 3, 4, 30]]
@[go_sem] def l53_10 (_ : Unit) : KL := [kB 2 (.mv (.c (.bool false))) [2]]
@[go_sem] def s53_11 (_ : Unit) : IR := (sQ [(kT l53_10), .ret])
@[go_sem] def s53_12 (_ : Unit) : IR := (sQ [(kT l53_9), (.cond (.t 30) (tH s53_11) .skip)])
@[go_sem] def l53_13 : Nat → GOp
  | 0 => ⟨(some 31), .mv (.t 3), none⟩
  | 1 => ⟨(some 32), .faddr (.t 1) 0, none⟩
  | 2 => ⟨(some 33), .load (.t 32) 1 false, none⟩
  | 3 => ⟨(some 34), .mv (.t 4), none⟩
  | 4 => ⟨(some 35), .iaddr (.t 33) (.t 34) 3, none⟩
  | 5 => ⟨(some 36), .faddr (.t 35) 1, none⟩
  | 6 => ⟨(some 37), .load (.t 36) 1 false, none⟩
  | 7 => ⟨(some 38), .faddr (.t 1) 0, none⟩
  | 8 => ⟨(some 39), .load (.t 38) 1 false, none⟩
  | 9 => ⟨(some 40), .mv (.t 4), none⟩
  | 10 => ⟨(some 41), .iaddr (.t 39) (.t 40) 3, none⟩
  | 11 => ⟨(some 42), .faddr (.t 41) 0, none⟩
  | 12 => ⟨(some 43), .load (.t 42) 1 false, none⟩
  | 13 => ⟨(some 44), .bin .sub (.t 37) (.t 43), none⟩
  | 14 => ⟨(some 45), .bin .add (.t 44) (cI 1), none⟩
  | 15 => ⟨(some 46), .bin .mul (.t 31) (.t 45), none⟩
  | 16 => ⟨(some 3), .mv (.t 46), none⟩
  | _ => ⟨none, .mkmap, none⟩
@[go_sem] def s53_14 (_ : Unit) : IR := (sQ [(tH s53_12), (.kd (oF l53_13 17) [(0, []), (1, []), (2, []), (3, []), (4, []), (5, []), (6, []), (7, []), (8, []), (9, []), (10, []), (11, []), (12, []), (13, []), (14, []), (15, []), (16, [])] [1, 3, 4])])
@[go_sem] def s53_15 (_ : Unit) : IR := (.block 1 (tH s53_14))
@[go_sem] def l53_16 (_ : Unit) : KL := [kA 22 (.mv (.t 4)),
  kA 23 (.bin .add (.t 22) (cI 1)),
  kB 4 (.mv (.t 23)) [1, 3, 4]]
@[go_sem] def s53_17 (_ : Unit) : IR := (sQ [(tH s53_8), (tH s53_15), (kT l53_16)])
@[go_sem] def s53_18 (_ : Unit) : IR := (.loop (tH s53_17))
@[go_sem] def s53_19 (_ : Unit) : IR := (.block 0 (tH s53_18))
@[go_sem] def s53_20 (_ : Unit) : IR := (sQ [(kT l53_6), (tH s53_19)])
@[go_sem] def l53_21 (_ : Unit) : KL := [kB 5 (.mv (cI 0)) [1, 3, 5]]
@[go_sem] def l53_22 (_ : Unit) : KL := [kA 47 (.mv (.t 5)),
  kA 48 (.faddr (.t 1) 1),
  kA 49 (.load (.t 48) 1 false),
  kA 50 (.len (.t 49)),
  kB 51 (.bin .lss (.t 47) (.t 50)) [1, 3, 5, 51]]
@[go_sem] def s53_23 (_ : Unit) : IR := (sQ [(kT l53_22), (.cond (.t 51) .skip (.exit 2))])
@[go_sem] def l53_24 : Nat → GOp
  | 0 => ⟨(some 54), .faddr (.t 1) 1, none⟩
  | 1 => ⟨(some 55), .load (.t 54) 1 false, none⟩
  | 2 => ⟨(some 56), .mv (.t 5), none⟩
  | 3 => ⟨(some 57), .iaddr (.t 55) (.t 56) 3, none⟩
  | 4 => ⟨(some 58), .load (.t 57) 3 true, none⟩
  | 5 => ⟨(some 59), .faddr (.t 1) 0, none⟩
  | 6 => ⟨(some 60), .load (.t 59) 1 false, none⟩
  | 7 => ⟨(some 61), .len (.t 60), none⟩
  | 8 => ⟨(some 62), .call (n_spec_l2Rule) [(.t 58), (.t 61)], none⟩
  | 9 => ⟨(some 63), .un .not (.t 62), none⟩
  | _ => ⟨none, .mkmap, none⟩
@[go_sem] def l53_25 (_ : Unit) : KL := [kB 2 (.mv (.c (.bool false))) [2]]
@[go_sem] def s53_26 (_ : Unit) : IR := (sQ [(kT l53_25), .ret])
@[go_sem] def s53_27 (_ : Unit) : IR := (sQ [(.kd (oF l53_24 10) [(0, []), (1, []), (2, []), (3, []), (4, []), (5, []), (6, []), (7, []), (8, []), (9, [])] [1, 3, 5, 63]), (.cond (.t 63) (tH s53_26) .skip)])
@[go_sem] def s53_28 (_ : Unit) : IR := (.block 3 (tH s53_27))
@[go_sem] def l53_29 (_ : Unit) : KL := [kA 52 (.mv (.t 5)),
  kA 53 (.bin .add (.t 52) (cI 1)),
  kB 5 (.mv (.t 53)) [1, 3, 5]]
@[go_sem] def s53_30 (_ : Unit) : IR := (sQ [(tH s53_23), (tH s53_28), (kT l53_29)])
@[go_sem] def s53_31 (_ : Unit) : IR := (.loop (tH s53_30))
@[go_sem] def s53_32 (_ : Unit) : IR := (.block 2 (tH s53_31))
@[go_sem] def s53_33 (_ : Unit) : IR := (sQ [(kT l53_21), (tH s53_32)])
@[go_sem] def l53_34 (_ : Unit) : KL := [kA 64 (.mv (.t 3)),
  kA 65 (.bin .leq (.t 64) (.c (.int .i64 400))),
  kB 2 (.mv (.t 65)) [2]]
@[go_sem] def s53_35 (_ : Unit) : IR := (sQ [(kT l53_0), (tH s53_4), (kT l53_5), (tH s53_20), (tH s53_33), (kT l53_34), .ret])
theorem c53 : compFn Try.prog [(0, [], [oN, oS [1]]), (1, [], [oN, oN, oN, oN, oS [1, 10], oN, oN, oN, oN, oS [1, 11, 15], oS [1, 16]]), (2, [], [oS [2]]), (3, [], [oS [1, 3]]), (4, [], [oS [1, 3, 4]]), (5, [], [oN, oN, oN, oN, oS [1, 3, 4, 21]]), (7, [], [oN, oN, oN, oN, oS [1, 3, 4, 28], oN, oS [1, 3, 4, 30]]), (8, [], [oS [2]]), (9, [(0, []), (1, []), (2, []), (3, []), (4, []), (5, []), (6, []), (7, []), (8, []), (9, []), (10, []), (11, []), (12, []), (13, []), (14, []), (15, []), (16, [])], [oS [1, 3, 4]]), (6, [], [oN, oN, oS [1, 3, 4]]), (10, [], [oS [1, 3, 5]]), (11, [], [oN, oN, oN, oN, oS [1, 3, 5, 51]]), (13, [(0, []), (1, []), (2, []), (3, []), (4, []), (5, []), (6, []), (7, []), (8, []), (9, [])], [oS [1, 3, 5, 63]]), (14, [], [oS [2]]), (12, [], [oN, oN, oS [1, 3, 5]]), (15, [], [oN, oN, oS [2]])] Try.f53 = some ⟨1, 66, [.t 2], (tH s53_35)⟩ := by kernel_rfl
theorem v_spec_SystemValid (hl : vs.length = 1) (h : wpV Try.prog (tH s53_35) (postV [.t 2] RV) (envV vs) M) : VCall Try.prog n_spec_SystemValid vs M RV :=
  vcall_of_wp (fun _ _ _ hl h => acall_of_wp mixed Try.func53 c53 (by kernel_rfl) hl h) hl h
@[go_sem] def l56_0 (_ : Unit) : KL := [kA 2 (.box (.t 0)),
  kB 4 (.mv (.c (.bool false))) [1, 2]]
@[go_sem] def l56_1 (_ : Unit) : KL := [kA 6 (.mv (.t 1)),
  kA 7 (.len (.t 6)),
  kA 8 (.faddr (.t 2) 0),
  kA 9 (.load (.t 8) 1 false),
  kB 10 (.len (.t 9)) [1, 2, 7, 10],
  kB 11 (.bin .neq (.t 7) (.t 10)) [1, 2, 11]]
@[go_sem] def l56_2 (_ : Unit) : KL := [kB 4 (.mv (.c (.bool false))) [4]]
@[go_sem] def s56_3 (_ : Unit) : IR := (sQ [(kT l56_2), .ret])
@[go_sem] def s56_4 (_ : Unit) : IR := (sQ [(kT l56_1), (.cond (.t 11) (tH s56_3) .skip)])
@[go_sem] def l56_5 (_ : Unit) : KL := [kB 5 (.mv (cI 0)) [1, 2, 5]]
@[go_sem] def l56_6 (_ : Unit) : KL := [kA 12 (.mv (.t 5)),
  kA 13 (.mv (.t 1)),
  kA 14 (.len (.t 13)),
  kB 15 (.bin .lss (.t 12) (.t 14)) [1, 2, 5, 15]]
@[go_sem] def s56_7 (_ : Unit) : IR := (sQ [(kT l56_6), (.cond (.t 15) .skip (.exit 0))])
@[go_sem] def l56_8 : Nat → GOp
  | 0 => ⟨(some 18), .mv (.t 1), none⟩
  | 1 => ⟨(some 19), .mv (.t 5), none⟩
  | 2 => ⟨(some 20), .iaddr (.t 18) (.t 19) 1, none⟩
  | 3 => ⟨(some 21), .load (.t 20) 1 false, none⟩
  | 4 => ⟨(some 22), .faddr (.t 2) 0, none⟩
  | 5 => ⟨(some 23), .load (.t 22) 1 false, none⟩
  | 6 => ⟨(some 24), .mv (.t 5), none⟩
  | 7 => ⟨(some 25), .iaddr (.t 23) (.t 24) 3, none⟩
  | 8 => ⟨(some 26), .faddr (.t 25) 0, none⟩
  | 9 => ⟨(some 27), .load (.t 26) 1 false, none⟩
  | 10 => ⟨(some 28), .faddr (.t 2) 0, none⟩
  | 11 => ⟨(some 29), .load (.t 28) 1 false, none⟩
  | 12 => ⟨(some 30), .mv (.t 5), none⟩
  | 13 => ⟨(some 31), .iaddr (.t 29) (.t 30) 3, none⟩
  | 14 => ⟨(some 32), .faddr (.t 31) 1, none⟩
  | 15 => ⟨(some 33), .load (.t 32) 1 false, none⟩
  | 16 => ⟨(some 34), .call (n_spec_l1In) [(.t 21), (.t 27), (.t 33)], none⟩
  | 17 => ⟨(some 35), .un .not (.t 34), none⟩
  | _ => ⟨none, .mkmap, none⟩
@[go_sem] def l56_9 (_ : Unit) : KL := [kB 4 (.mv (.c (.bool false))) [4]]
@[go_sem] def s56_10 (_ : Unit) : IR := (sQ [(kT l56_9), .ret])
@[go_sem] def s56_11 (_ : Unit) : IR := (sQ [(.kd (oF l56_8 18) [(0, []), (1, []), (2, []), (3, []), (4, []), (5, []), (6, []), (7, []), (8, []), (9, []), (10, []), (11, []), (12, []), (13, []), (14, []), (15, []), (16, []), (17, [])] [1, 2, 5, 35]), (.cond (.t 35) (tH s56_10) .skip)])
@[go_sem] def s56_12 (_ : Unit) : IR := (.block 1 (tH s56_11))
@[go_sem] def l56_13 (_ : Unit) : KL := [kA 16 (.mv (.t 5)),
  kA 17 (.bin .add (.t 16) (cI 1)),
  kB 5 (.mv (.t 17)) [1, 2, 5]]
@[go_sem] def s56_14 (_ : Unit) : IR := (sQ [(tH s56_7), (tH s56_12), (kT l56_13)])
@[go_sem] def s56_15 (_ : Unit) : IR := (.loop (tH s56_14))
@[go_sem] def s56_16 (_ : Unit) : IR := (.block 0 (tH s56_15))
@[go_sem] def s56_17 (_ : Unit) : IR := (sQ [(kT l56_5), (tH s56_16)])
@[go_sem] def l56_18 (_ : Unit) : KL := [kB 4 (.mv (.c (.bool true))) [4]]
@[go_sem] def s56_19 (_ : Unit) : IR := (sQ [(kT l56_0), (tH s56_4), (tH s56_17), (kT l56_18), .ret])
theorem c56 : compFn Try.prog [(0, [], [oN, oS [1, 2]]), (1, [], [oN, oN, oN, oN, oS [1, 2, 7, 10], oS [1, 2, 11]]), (2, [], [oS [4]]), (3, [], [oS [1, 2, 5]]), (4, [], [oN, oN, oN, oS [1, 2, 5, 15]]), (6, [(0, []), (1, []), (2, []), (3, []), (4, []), (5, []), (6, []), (7, []), (8, []), (9, []), (10, []), (11, []), (12, []), (13, []), (14, []), (15, []), (16, []), (17, [])], [oS [1, 2, 5, 35]]), (7, [], [oS [4]]), (5, [], [oN, oN, oS [1, 2, 5]]), (8, [], [oS [4]])] Try.f56 = some ⟨2, 36, [.t 4], (tH s56_19)⟩ := by kernel_rfl
theorem v_spec_l2In (hl : vs.length = 2) (h : wpV Try.prog (tH s56_19) (postV [.t 4] RV) (envV vs) M) : VCall Try.prog n_spec_l2In vs M RV :=
  vcall_of_wp (fun _ _ _ hl h => acall_of_wp mixed Try.func56 c56 (by kernel_rfl) hl h) hl h
@[go_sem] def l37_0 (_ : Unit) : KL := [kA 2 (.box (.t 0)),
  kB 4 (.mv (.c (.bool false))) [1, 2]]
@[go_sem] def l37_1 (_ : Unit) : KL := [kA 5 (.load (.t 2) 2 true),
  kA 6 (.call (n_spec_SystemValid) [(.t 5)]),
  kA 7 (.mv (.t 6)),
  (⟨(some 8), .load (.t 2) 2 true, (some (7, true))⟩, none),
  (⟨(some 9), .mv (.t 1), (some (7, true))⟩, (some [7, 8, 9])),
  (⟨(some 10), .call (n_spec_l2In) [(.t 8), (.t 9)], (some (7, true))⟩, none),
  kA 11 (.pick (.t 7) (.t 10) (.c (.bool false))),
  kB 4 (.mv (.t 11)) [4]]
@[go_sem] def s37_2 (_ : Unit) : IR := (sQ [(kT l37_0), (kT l37_1), .ret])
theorem c37 : compFn Try.prog [(0, [], [oN, oS [1, 2]]), (1, [], [oN, oN, oN, oN, oS [7, 8, 9], oN, oN, oS [4]])] Try.f37 = some ⟨2, 12, [.t 4], (tH s37_2)⟩ := by kernel_rfl
theorem v_spec_InRange (hl : vs.length = 2) (h : wpV Try.prog (tH s37_2) (postV [.t 4] RV) (envV vs) M) : VCall Try.prog n_spec_InRange vs M RV :=
  vcall_of_wp (fun _ _ _ hl h => acall_of_wp mixed Try.func37 c37 (by kernel_rfl) hl h) hl h
@[go_sem] def l137_0 (_ : Unit) : KL := [kB 2 (.mv (cI 0)) [0]]
@[go_sem] def l137_1 (_ : Unit) : KL := [kA 3 (.mv (.t 0)),
  kB 4 (.bin .gtr (.t 3) (.c (.int .i64 9999))) [0, 4]]
@[go_sem] def l137_2 (_ : Unit) : KL := [kB 2 (.mv (.c (.int .i64 9999))) [2]]
@[go_sem] def s137_3 (_ : Unit) : IR := (sQ [(kT l137_2), .ret])
@[go_sem] def s137_4 (_ : Unit) : IR := (sQ [(kT l137_1), (.cond (.t 4) (tH s137_3) .skip)])
@[go_sem] def l137_5 (_ : Unit) : KL := [kA 5 (.mv (.t 0)),
  kB 6 (.bin .lss (.t 5) (.c (.int .i64 (-9999)))) [0, 6]]
@[go_sem] def l137_6 (_ : Unit) : KL := [kB 2 (.mv (.c (.int .i64 (-9999)))) [2]]
@[go_sem] def s137_7 (_ : Unit) : IR := (sQ [(kT l137_6), .ret])
@[go_sem] def s137_8 (_ : Unit) : IR := (sQ [(kT l137_5), (.cond (.t 6) (tH s137_7) .skip)])
@[go_sem] def l137_9 (_ : Unit) : KL := [kA 7 (.mv (.t 0)),
  kB 2 (.mv (.t 7)) [2]]
@[go_sem] def s137_10 (_ : Unit) : IR := (sQ [(kT l137_0), (tH s137_4), (tH s137_8), (kT l137_9), .ret])
theorem c137 : compFn Try.prog [(0, [], [oS [0]]), (1, [], [oN, oS [0, 4]]), (2, [], [oS [2]]), (3, [], [oN, oS [0, 6]]), (4, [], [oS [2]]), (5, [], [oN, oS [2]])] Try.f137 = some ⟨1, 8, [.t 2], (tH s137_10)⟩ := by kernel_rfl
theorem v_spec_l1Held (hl : vs.length = 1) (h : wpV Try.prog (tH s137_10) (postV [.t 2] RV) (envV vs) M) : VCall Try.prog n_spec_l1Held vs M RV :=
  vcall_of_wp (fun _ _ _ hl h => acall_of_wp mixed Try.func137 c137 (by kernel_rfl) hl h) hl h
@[go_sem] def l138_0 (_ : Unit) : KL := [kB 2 (.mv (cI 0)) [0]]
@[go_sem] def l138_1 (_ : Unit) : KL := [kB 3 (.mv (.t 0)) [3]]
@[go_sem] def l138_2 (_ : Unit) : KL := [kB 2 (.mv (cI 1)) [2]]
@[go_sem] def s138_3 (_ : Unit) : IR := (sQ [(kT l138_2), .ret])
@[go_sem] def s138_4 (_ : Unit) : IR := (sQ [(kT l138_1), (.cond (.t 3) (tH s138_3) .skip)])
@[go_sem] def l138_5 (_ : Unit) : KL := [kB 2 (.mv (cI 0)) [2]]
@[go_sem] def s138_6 (_ : Unit) : IR := (sQ [(kT l138_0), (tH s138_4), (kT l138_5), .ret])
theorem c138 : compFn Try.prog [(0, [], [oS [0]]), (1, [], [oS [3]]), (2, [], [oS [2]]), (3, [], [oS [2]])] Try.f138 = some ⟨1, 4, [.t 2], (tH s138_6)⟩ := by kernel_rfl
theorem v_spec_l1Truth (hl : vs.length = 1) (h : wpV Try.prog (tH s138_6) (postV [.t 2] RV) (envV vs) M) : VCall Try.prog n_spec_l1Truth vs M RV :=
  vcall_of_wp (fun _ _ _ hl h => acall_of_wp mixed Try.func138 c138 (by kernel_rfl) hl h) hl h
@[go_sem] def l131_0 (_ : Unit) : KL := [kB 6 (.mv (cI 0)) [0, 1, 2]]
@[go_sem] def l131_1 (_ : Unit) : KL := [kA 7 (.mv (.t 0)),
  kB 8 (.bin .eql (.t 7) (.c (.int .i64 2))) [0, 1, 2, 8]]
@[go_sem] def l131_2 (_ : Unit) : KL := [kA 9 (.mv (.t 1)),
  kA 10 (.mv (.t 2)),
  kA 11 (.bin .add (.t 9) (.t 10)),
  kA 12 (.call (n_spec_l1Held) [(.t 11)]),
  kB 6 (.mv (.t 12)) [6]]
@[go_sem] def s131_3 (_ : Unit) : IR := (sQ [(kT l131_2), .ret])
@[go_sem] def s131_4 (_ : Unit) : IR := (sQ [(kT l131_1), (.cond (.t 8) (tH s131_3) .skip)])
@[go_sem] def l131_5 (_ : Unit) : KL := [kA 13 (.mv (.t 0)),
  kB 14 (.bin .eql (.t 13) (.c (.int .i64 3))) [0, 1, 2, 14]]
@[go_sem] def l131_6 (_ : Unit) : KL := [kA 15 (.mv (.t 1)),
  kA 16 (.mv (.t 2)),
  kA 17 (.bin .sub (.t 15) (.t 16)),
  kA 18 (.call (n_spec_l1Held) [(.t 17)]),
  kB 6 (.mv (.t 18)) [6]]
@[go_sem] def s131_7 (_ : Unit) : IR := (sQ [(kT l131_6), .ret])
@[go_sem] def s131_8 (_ : Unit) : IR := (sQ [(kT l131_5), (.cond (.t 14) (tH s131_7) .skip)])
@[go_sem] def l131_9 (_ : Unit) : KL := [kA 19 (.mv (.t 0)),
  kB 20 (.bin .eql (.t 19) (.c (.int .i64 4))) [0, 1, 2, 20]]
@[go_sem] def l131_10 (_ : Unit) : KL := [kA 21 (.mv (.t 1)),
  kA 22 (.mv (.t 2)),
  kA 23 (.bin .mul (.t 21) (.t 22)),
  kA 24 (.call (n_spec_l1Held) [(.t 23)]),
  kB 6 (.mv (.t 24)) [6]]
@[go_sem] def s131_11 (_ : Unit) : IR := (sQ [(kT l131_10), .ret])
@[go_sem] def s131_12 (_ : Unit) : IR := (sQ [(kT l131_9), (.cond (.t 20) (tH s131_11) .skip)])
@[go_sem] def l131_13 (_ : Unit) : KL := [kA 25 (.mv (.t 0)),
  kB 26 (.bin .eql (.t 25) (.c (.int .i64 5))) [0, 1, 2, 26]]
@[go_sem] def l131_14 (_ : Unit) : KL := [kA 27 (.mv (.t 1)),
  kA 28 (.mv (.t 2)),
  kA 29 (.bin .lss (.t 27) (.t 28)),
  kA 30 (.call (n_spec_l1Truth) [(.t 29)]),
  kB 6 (.mv (.t 30)) [6]]
@[go_sem] def s131_15 (_ : Unit) : IR := (sQ [(kT l131_14), .ret])
@[go_sem] def s131_16 (_ : Unit) : IR := (sQ [(kT l131_13), (.cond (.t 26) (tH s131_15) .skip)])
@[go_sem] def l131_17 (_ : Unit) : KL := [kA 31 (.mv (.t 0)),
  kB 32 (.bin .eql (.t 31) (.c (.int .i64 6))) [0, 1, 2, 32]]
@[go_sem] def l131_18 (_ : Unit) : KL := [kA 33 (.mv (.t 1)),
  kA 34 (.mv (.t 2)),
  kA 35 (.bin .eql (.t 33) (.t 34)),
  kA 36 (.call (n_spec_l1Truth) [(.t 35)]),
  kB 6 (.mv (.t 36)) [6]]
@[go_sem] def s131_19 (_ : Unit) : IR := (sQ [(kT l131_18), .ret])
@[go_sem] def s131_20 (_ : Unit) : IR := (sQ [(kT l131_17), (.cond (.t 32) (tH s131_19) .skip)])
@[go_sem] def l131_21 (_ : Unit) : KL := [kA 37 (.mv (.t 0)),
  kB 38 (.bin .eql (.t 37) (.c (.int .i64 7))) [0, 1, 2, 38]]
@[go_sem] def l131_22 (_ : Unit) : KL := [kA 39 (.mv (.t 1)),
  kA 40 (.bin .sub (cI 1) (.t 39)),
  kB 6 (.mv (.t 40)) [6]]
@[go_sem] def s131_23 (_ : Unit) : IR := (sQ [(kT l131_22), .ret])
@[go_sem] def s131_24 (_ : Unit) : IR := (sQ [(kT l131_21), (.cond (.t 38) (tH s131_23) .skip)])
@[go_sem] def l131_25 (_ : Unit) : KL := [kA 41 (.mv (.t 0)),
  kB 42 (.bin .eql (.t 41) (.c (.int .i64 8))) [1, 2, 42]]
@[go_sem] def l131_26 (_ : Unit) : KL := [kA 43 (.mv (.t 1)),
  kA 44 (.mv (.t 2)),
  kA 45 (.bin .mul (.t 43) (.t 44)),
  kB 6 (.mv (.t 45)) [6]]
@[go_sem] def s131_27 (_ : Unit) : IR := (sQ [(kT l131_26), .ret])
@[go_sem] def s131_28 (_ : Unit) : IR := (sQ [(kT l131_25), (.cond (.t 42) (tH s131_27) .skip)])
@[go_sem] def l131_29 (_ : Unit) : KL := [kA 46 (.mv (.t 1)),
  kA 47 (.mv (.t 2)),
  kA 48 (.bin .add (.t 46) (.t 47)),
  kA 49 (.bin .gtr (.t 48) (cI 0)),
  kB 50 (.call (n_spec_l1Truth) [(.t 49)]) [50],
  kB 6 (.mv (.t 50)) [6]]
@[go_sem] def s131_30 (_ : Unit) : IR := (sQ [(kT l131_0), (tH s131_4), (tH s131_8), (tH s131_12), (tH s131_16), (tH s131_20), (tH s131_24), (tH s131_28), (kT l131_29), .ret])
theorem c131 : compFn Try.prog [(0, [], [oS [0, 1, 2]]), (1, [], [oN, oS [0, 1, 2, 8]]), (2, [], [oN, oN, oN, oN, oS [6]]), (3, [], [oN, oS [0, 1, 2, 14]]), (4, [], [oN, oN, oN, oN, oS [6]]), (5, [], [oN, oS [0, 1, 2, 20]]), (6, [], [oN, oN, oN, oN, oS [6]]), (7, [], [oN, oS [0, 1, 2, 26]]), (8, [], [oN, oN, oN, oN, oS [6]]), (9, [], [oN, oS [0, 1, 2, 32]]), (10, [], [oN, oN, oN, oN, oS [6]]), (11, [], [oN, oS [0, 1, 2, 38]]), (12, [], [oN, oN, oS [6]]), (13, [], [oN, oS [1, 2, 42]]), (14, [], [oN, oN, oN, oS [6]]), (15, [], [oN, oN, oN, oN, oS [50], oS [6]])] Try.f131 = some ⟨3, 51, [.t 6], (tH s131_30)⟩ := by kernel_rfl
theorem v_spec_l1Do (hl : vs.length = 3) (h : wpV Try.prog (tH s131_30) (postV [.t 6] RV) (envV vs) M) : VCall Try.prog n_spec_l1Do vs M RV :=
  vcall_of_wp (fun _ _ _ hl h => acall_of_wp mixed Try.func131 c131 (by kernel_rfl) hl h) hl h
@[go_sem] def l121_0 (_ : Unit) : KL := [kB 4 (.mv (.c (.sl none 0 0 true 0))) [0, 1]]
@[go_sem] def l121_1 (_ : Unit) : KL := [kA 8 (.bslc 1 0 [(.int .i64 0)] []),
  kB 5 (.mv (.t 8)) [0, 1, 5]]
@[go_sem] def l121_2 (_ : Unit) : KL := [kB 6 (.mv (cI 0)) [0, 1, 5, 6]]
@[go_sem] def l121_3 (_ : Unit) : KL := [kA 9 (.mv (.t 6)),
  kA 10 (.mv (.t 0)),
  kA 11 (.len (.t 10)),
  kB 12 (.bin .lss (.t 9) (.t 11)) [0, 1, 5, 6, 12]]
@[go_sem] def s121_4 (_ : Unit) : IR := (sQ [(kT l121_3), (.cond (.t 12) .skip (.exit 0))])
@[go_sem] def l121_5 (_ : Unit) : KL := [kA 15 (.mv (.t 0)),
  kA 16 (.mv (.t 6)),
  kA 17 (.iaddr (.t 15) (.t 16) 4),
  kA 18 (.load (.t 17) 4 true),
  kB 7 (.alloc [(.int .i64 0), (.int .i64 0), (.int .i64 0), (.int .i64 0)]) [0, 1, 5, 6, 7, 18],
  (⟨none, .store (.t 7) 4 (.t 18), none⟩, (some [0, 1, 5, 6, 7]))]
@[go_sem] def l121_6 (_ : Unit) : KL := [kA 19 (.faddr (.t 7) 0),
  kA 20 (.load (.t 19) 1 false),
  kB 21 (.bin .eql (.t 20) (cI 0)) [0, 1, 5, 6, 7, 21]]
@[go_sem] def l121_7 (_ : Unit) : KL := [kA 22 (.mv (.t 5)),
  kA 23 (.faddr (.t 7) 1),
  kA 24 (.load (.t 23) 1 false),
  kA 25 (.bslc 1 1 [(.int .i64 0)] [(0, (.t 24))]),
  kB 26 (.app 1 8 (.t 22) (.t 25)) [0, 1, 6, 26],
  kB 5 (.mv (.t 26)) [0, 1, 5, 6]]
@[go_sem] def l121_8 (_ : Unit) : KL := [kA 27 (.faddr (.t 7) 0),
  kA 28 (.load (.t 27) 1 false),
  kB 29 (.bin .eql (.t 28) (cI 1)) [0, 1, 5, 6, 7, 29]]
@[go_sem] def l121_9 (_ : Unit) : KL := [kA 30 (.mv (.t 5)),
  kA 31 (.mv (.t 1)),
  kA 32 (.faddr (.t 7) 1),
  kA 33 (.load (.t 32) 1 false),
  kB 34 (.iaddr (.t 31) (.t 33) 1) [0, 1, 6, 30, 34],
  kA 35 (.load (.t 34) 1 false),
  kA 36 (.bslc 1 1 [(.int .i64 0)] [(0, (.t 35))]),
  kA 37 (.app 1 8 (.t 30) (.t 36)),
  kB 5 (.mv (.t 37)) [0, 1, 5, 6]]
@[go_sem] def l121_10 : Nat → GOp
  | 0 => ⟨(some 38), .mv (.t 5), none⟩
  | 1 => ⟨(some 39), .faddr (.t 7) 0, none⟩
  | 2 => ⟨(some 40), .load (.t 39) 1 false, none⟩
  | 3 => ⟨(some 41), .mv (.t 5), none⟩
  | 4 => ⟨(some 42), .faddr (.t 7) 2, none⟩
  | 5 => ⟨(some 43), .load (.t 42) 1 false, none⟩
  | 6 => ⟨(some 44), .iaddr (.t 41) (.t 43) 1, none⟩
  | 7 => ⟨(some 45), .load (.t 44) 1 false, none⟩
  | 8 => ⟨(some 46), .mv (.t 5), none⟩
  | 9 => ⟨(some 47), .faddr (.t 7) 3, none⟩
  | 10 => ⟨(some 48), .load (.t 47) 1 false, none⟩
  | 11 => ⟨(some 49), .iaddr (.t 46) (.t 48) 1, none⟩
  | 12 => ⟨(some 50), .load (.t 49) 1 false, none⟩
  | 13 => ⟨(some 51), .call (n_spec_l1Do) [(.t 40), (.t 45), (.t 50)], none⟩
  | 14 => ⟨(some 52), .bslc 1 1 [(.int .i64 0)] [(0, (.t 51))], none⟩
  | 15 => ⟨(some 53), .app 1 8 (.t 38) (.t 52), none⟩
  | 16 => ⟨(some 5), .mv (.t 53), none⟩
  | _ => ⟨none, .mkmap, none⟩
@[go_sem] def s121_11 (_ : Unit) : IR := (sQ [(kT l121_8), (.cond (.t 29) (kT l121_9) (.kd (oF l121_10 17) [(0, []), (1, []), (2, []), (3, []), (4, []), (5, []), (6, []), (7, []), (8, []), (9, []), (10, []), (11, []), (12, []), (13, []), (14, []), (15, []), (16, [])] [0, 1, 5, 6]))])
@[go_sem] def s121_12 (_ : Unit) : IR := (sQ [(kT l121_5), (kT l121_6), (.cond (.t 21) (kT l121_7) (tH s121_11))])
@[go_sem] def s121_13 (_ : Unit) : IR := (.block 1 (tH s121_12))
@[go_sem] def l121_14 (_ : Unit) : KL := [kA 13 (.mv (.t 6)),
  kA 14 (.bin .add (.t 13) (cI 1)),
  kB 6 (.mv (.t 14)) [0, 1, 5, 6]]
@[go_sem] def s121_15 (_ : Unit) : IR := (sQ [(tH s121_4), (tH s121_13), (kT l121_14)])
@[go_sem] def s121_16 (_ : Unit) : IR := (.loop (tH s121_15))
@[go_sem] def s121_17 (_ : Unit) : IR := (.block 0 (tH s121_16))
@[go_sem] def s121_18 (_ : Unit) : IR := (sQ [(kT l121_2), (tH s121_17)])
@[go_sem] def l121_19 (_ : Unit) : KL := [kA 54 (.mv (.t 5)),
  kB 4 (.mv (.t 54)) [4]]
@[go_sem] def s121_20 (_ : Unit) : IR := (sQ [(kT l121_0), (kT l121_1), (tH s121_18), (kT l121_19), .ret])
theorem c121 : compFn Try.prog [(0, [], [oS [0, 1]]), (1, [], [oN, oS [0, 1, 5]]), (2, [], [oS [0, 1, 5, 6]]), (3, [], [oN, oN, oN, oS [0, 1, 5, 6, 12]]), (5, [], [oN, oN, oN, oN, oS [0, 1, 5, 6, 7, 18], oS [0, 1, 5, 6, 7]]), (6, [], [oN, oN, oS [0, 1, 5, 6, 7, 21]]), (7, [], [oN, oN, oN, oN, oS [0, 1, 6, 26], oS [0, 1, 5, 6]]), (8, [], [oN, oN, oS [0, 1, 5, 6, 7, 29]]), (9, [], [oN, oN, oN, oN, oS [0, 1, 6, 30, 34], oN, oN, oN, oS [0, 1, 5, 6]]), (10, [(0, []), (1, []), (2, []), (3, []), (4, []), (5, []), (6, []), (7, []), (8, []), (9, []), (10, []), (11, []), (12, []), (13, []), (14, []), (15, []), (16, [])], [oS [0, 1, 5, 6]]), (4, [], [oN, oN, oS [0, 1, 5, 6]]), (11, [], [oN, oS [4]])] Try.f121 = some ⟨2, 55, [.t 4], (tH s121_20)⟩ := by kernel_rfl
theorem v_spec_l1Values (hl : vs.length = 2) (h : wpV Try.prog (tH s121_20) (postV [.t 4] RV) (envV vs) M) : VCall Try.prog n_spec_l1Values vs M RV :=
  vcall_of_wp (fun _ _ _ hl h => acall_of_wp mixed Try.func121 c121 (by kernel_rfl) hl h) hl h
@[go_sem] def l91_0 (_ : Unit) : KL := [kB 4 (.mv (cI 0)) [0, 1]]
@[go_sem] def l91_1 (_ : Unit) : KL := [kA 5 (.mv (.t 0)),
  kA 6 (.mv (.t 1)),
  kA 7 (.call (n_spec_l1Values) [(.t 5), (.t 6)]),
  kA 8 (.mv (.t 0)),
  kB 9 (.len (.t 8)) [7, 9],
  kA 10 (.bin .sub (.t 9) (cI 1)),
  kA 11 (.iaddr (.t 7) (.t 10) 1),
  kA 12 (.load (.t 11) 1 false),
  kB 4 (.mv (.t 12)) [4]]
@[go_sem] def s91_2 (_ : Unit) : IR := (sQ [(kT l91_0), (kT l91_1), .ret])
theorem c91 : compFn Try.prog [(0, [], [oS [0, 1]]), (1, [], [oN, oN, oN, oN, oS [7, 9], oN, oN, oN, oS [4]])] Try.f91 = some ⟨2, 13, [.t 4], (tH s91_2)⟩ := by kernel_rfl
theorem v_spec_l2Last (hl : vs.length = 2) (h : wpV Try.prog (tH s91_2) (postV [.t 4] RV) (envV vs) M) : VCall Try.prog n_spec_l2Last vs M RV :=
  vcall_of_wp (fun _ _ _ hl h => acall_of_wp mixed Try.func91 c91 (by kernel_rfl) hl h) hl h
@[go_sem] def l49_0 (_ : Unit) : KL := [kA 3 (.box (.t 0)),
  kB 6 (.mv (.c (.sl none 0 0 true 0))) [1, 2, 3]]
@[go_sem] def l49_1 (_ : Unit) : KL := [kA 11 (.faddr (.t 3) 1),
  kA 12 (.load (.t 11) 1 false),
  kA 13 (.mv (.t 2)),
  kA 14 (.iaddr (.t 12) (.t 13) 3),
  kB 15 (.load (.t 14) 3 true) [1, 3, 15],
  kA 7 (.alloc [(.sl none 0 0 true 0), (.sl none 0 0 true 0), (.sl none 0 0 true 0)]),
  (⟨none, .store (.t 7) 3 (.t 15), none⟩, (some [1, 3, 7]))]
@[go_sem] def l49_2 (_ : Unit) : KL := [kA 16 (.faddr (.t 7) 0),
  kA 17 (.load (.t 16) 1 false),
  kA 18 (.mv (.t 1)),
  kA 19 (.call (n_spec_l2Last) [(.t 17), (.t 18)]),
  kB 20 (.bin .eql (.t 19) (cI 0)) [1, 3, 7, 20]]
@[go_sem] def l49_3 (_ : Unit) : KL := [kB 6 (.mv (.c (.sl none 0 0 true 0))) [6]]
@[go_sem] def s49_4 (_ : Unit) : IR := (sQ [(kT l49_3), .ret])
@[go_sem] def s49_5 (_ : Unit) : IR := (sQ [(kT l49_2), (.cond (.t 20) (tH s49_4) .skip)])
@[go_sem] def l49_6 (_ : Unit) : KL := [kA 21 (.bslc 1 0 [(.int .i64 0)] []),
  kB 8 (.mv (.t 21)) [1, 3, 7, 8]]
@[go_sem] def l49_7 (_ : Unit) : KL := [kB 9 (.mv (cI 0)) [1, 3, 7, 8, 9]]
@[go_sem] def l49_8 (_ : Unit) : KL := [kA 22 (.mv (.t 9)),
  kA 23 (.mv (.t 1)),
  kA 24 (.len (.t 23)),
  kB 25 (.bin .lss (.t 22) (.t 24)) [1, 3, 7, 8, 9, 25]]
@[go_sem] def s49_9 (_ : Unit) : IR := (sQ [(kT l49_8), (.cond (.t 25) .skip (.exit 0))])
@[go_sem] def l49_10 (_ : Unit) : KL := [kA 28 (.mv (.t 8)),
  kA 29 (.mv (.t 1)),
  kA 30 (.mv (.t 9)),
  kA 31 (.iaddr (.t 29) (.t 30) 1),
  kB 32 (.load (.t 31) 1 false) [1, 3, 7, 9, 28, 32],
  kA 33 (.bslc 1 1 [(.int .i64 0)] [(0, (.t 32))]),
  kA 34 (.app 1 8 (.t 28) (.t 33)),
  kB 8 (.mv (.t 34)) [1, 3, 7, 8, 9]]
@[go_sem] def s49_11 (_ : Unit) : IR := (.block 1 (kT l49_10))
@[go_sem] def l49_12 (_ : Unit) : KL := [kA 26 (.mv (.t 9)),
  kA 27 (.bin .add (.t 26) (cI 1)),
  kB 9 (.mv (.t 27)) [1, 3, 7, 8, 9]]
@[go_sem] def s49_13 (_ : Unit) : IR := (sQ [(tH s49_9), (tH s49_11), (kT l49_12)])
@[go_sem] def s49_14 (_ : Unit) : IR := (.loop (tH s49_13))
@[go_sem] def s49_15 (_ : Unit) : IR := (.block 0 (tH s49_14))
@[go_sem] def s49_16 (_ : Unit) : IR := (sQ [(kT l49_7), (tH s49_15)])
@[go_sem] def l49_17 (_ : Unit) : KL := [kB 10 (.mv (cI 0)) [1, 3, 7, 8, 10]]
@[go_sem] def l49_18 (_ : Unit) : KL := [kA 35 (.mv (.t 10)),
  kA 36 (.faddr (.t 7) 1),
  kA 37 (.load (.t 36) 1 false),
  kA 38 (.len (.t 37)),
  kB 39 (.bin .lss (.t 35) (.t 38)) [1, 3, 7, 8, 10, 39]]
@[go_sem] def s49_19 (_ : Unit) : IR := (sQ [(kT l49_18), (.cond (.t 39) .skip (.exit 2))])
@[go_sem] def l49_20 : Nat → GOp
  | 0 => ⟨(some 42), .mv (.t 8), none⟩
  | 1 => ⟨(some 43), .faddr (.t 7) 1, none⟩
  | 2 => ⟨(some 44), .load (.t 43) 1 false, none⟩
  | 3 => ⟨(some 45), .mv (.t 10), none⟩
  | 4 => ⟨(some 46), .iaddr (.t 44) (.t 45) 1, none⟩
  | 5 => ⟨(some 47), .load (.t 46) 1 false, none⟩
  | 6 => ⟨(some 48), .faddr (.t 7) 2, none⟩
  | 7 => ⟨(some 49), .load (.t 48) 1 false, none⟩
  | 8 => ⟨(some 50), .mv (.t 10), none⟩
  | 9 => ⟨(some 51), .iaddr (.t 49) (.t 50) 1, none⟩
  | 10 => ⟨(some 52), .load (.t 51) 1 false, none⟩
  | 11 => ⟨(some 53), .mv (.t 1), none⟩
  | 12 => ⟨(some 54), .call (n_spec_l2Last) [(.t 52), (.t 53)], none⟩
  | 13 => ⟨(some 55), .iaddr (.t 42) (.t 47) 1, none⟩
  | 14 => ⟨none, .store (.t 55) 1 (.t 54), none⟩
  | _ => ⟨none, .mkmap, none⟩
@[go_sem] def s49_21 (_ : Unit) : IR := (.block 3 (.kd (oF l49_20 15) [(0, []), (1, []), (2, []), (3, []), (4, []), (5, []), (6, []), (7, []), (8, []), (9, []), (10, []), (11, []), (12, [2, 5]), (13, []), (14, [])] [1, 3, 7, 8, 10]))
@[go_sem] def l49_22 (_ : Unit) : KL := [kA 40 (.mv (.t 10)),
  kA 41 (.bin .add (.t 40) (cI 1)),
  kB 10 (.mv (.t 41)) [1, 3, 7, 8, 10]]
@[go_sem] def s49_23 (_ : Unit) : IR := (sQ [(tH s49_19), (tH s49_21), (kT l49_22)])
@[go_sem] def s49_24 (_ : Unit) : IR := (.loop (tH s49_23))
@[go_sem] def s49_25 (_ : Unit) : IR := (.block 2 (tH s49_24))
@[go_sem] def s49_26 (_ : Unit) : IR := (sQ [(kT l49_17), (tH s49_25)])
@[go_sem] def l49_27 (_ : Unit) : KL := [kA 56 (.load (.t 3) 2 true),
  kA 57 (.mv (.t 8)),
  kA 58 (.call (n_spec_l2In) [(.t 56), (.t 57)]),
  kB 59 (.un .not (.t 58)) [8, 59]]
@[go_sem] def l49_28 (_ : Unit) : KL := [kB 6 (.mv (.c (.sl none 0 0 true 0))) [6]]
@[go_sem] def s49_29 (_ : Unit) : IR := (sQ [(kT l49_28), .ret])
@[go_sem] def s49_30 (_ : Unit) : IR := (sQ [(kT l49_27), (.cond (.t 59) (tH s49_29) .skip)])
@[go_sem] def l49_31 (_ : Unit) : KL := [kA 60 (.mv (.t 8)),
  kB 6 (.mv (.t 60)) [6]]
@[go_sem] def s49_32 (_ : Unit) : IR := (sQ [(kT l49_0), (kT l49_1), (tH s49_5), (kT l49_6), (tH s49_16), (tH s49_26), (tH s49_30), (kT l49_31), .ret])
theorem c49 : compFn Try.prog [(0, [], [oN, oS [1, 2, 3]]), (1, [], [oN, oN, oN, oN, oS [1, 3, 15], oN, oS [1, 3, 7]]), (2, [], [oN, oN, oN, oN, oS [1, 3, 7, 20]]), (3, [], [oS [6]]), (4, [], [oN, oS [1, 3, 7, 8]]), (5, [], [oS [1, 3, 7, 8, 9]]), (6, [], [oN, oN, oN, oS [1, 3, 7, 8, 9, 25]]), (8, [], [oN, oN, oN, oN, oS [1, 3, 7, 9, 28, 32], oN, oN, oS [1, 3, 7, 8, 9]]), (7, [], [oN, oN, oS [1, 3, 7, 8, 9]]), (9, [], [oS [1, 3, 7, 8, 10]]), (10, [], [oN, oN, oN, oN, oS [1, 3, 7, 8, 10, 39]]), (12, [(0, []), (1, []), (2, []), (3, []), (4, []), (5, []), (6, []), (7, []), (8, []), (9, []), (10, []), (11, []), (12, [2, 5]), (13, []), (14, [])], [oS [1, 3, 7, 8, 10]]), (11, [], [oN, oN, oS [1, 3, 7, 8, 10]]), (13, [], [oN, oN, oN, oS [8, 59]]), (14, [], [oS [6]]), (15, [], [oN, oS [6]])] Try.f49 = some ⟨3, 61, [.t 6], (tH s49_32)⟩ := by kernel_rfl
theorem v_spec_l2Use (hl : vs.length = 3) (h : wpV Try.prog (tH s49_32) (postV [.t 6] RV) (envV vs) M) : VCall Try.prog n_spec_l2Use vs M RV :=
  vcall_of_wp (fun _ _ _ hl h => acall_of_wp mixed Try.func49 c49 (by kernel_rfl) hl h) hl h
@[go_sem] def l50_0 (_ : Unit) : KL := [kB 4 (.mv (.c (.bool false))) [0, 1]]
@[go_sem] def l50_1 (_ : Unit) : KL := [kA 6 (.mv (.t 0)),
  kA 7 (.len (.t 6)),
  kA 8 (.mv (.t 1)),
  kA 9 (.len (.t 8)),
  kB 10 (.bin .neq (.t 7) (.t 9)) [0, 1, 10]]
@[go_sem] def l50_2 (_ : Unit) : KL := [kB 4 (.mv (.c (.bool false))) [4]]
@[go_sem] def s50_3 (_ : Unit) : IR := (sQ [(kT l50_2), .ret])
@[go_sem] def s50_4 (_ : Unit) : IR := (sQ [(kT l50_1), (.cond (.t 10) (tH s50_3) .skip)])
@[go_sem] def l50_5 (_ : Unit) : KL := [kB 5 (.mv (cI 0)) [0, 1, 5]]
@[go_sem] def l50_6 (_ : Unit) : KL := [kA 11 (.mv (.t 5)),
  kA 12 (.mv (.t 0)),
  kA 13 (.len (.t 12)),
  kB 14 (.bin .lss (.t 11) (.t 13)) [0, 1, 5, 14]]
@[go_sem] def s50_7 (_ : Unit) : IR := (sQ [(kT l50_6), (.cond (.t 14) .skip (.exit 0))])
@[go_sem] def l50_8 : Nat → GOp
  | 0 => ⟨(some 17), .mv (.t 0), none⟩
  | 1 => ⟨(some 18), .mv (.t 5), none⟩
  | 2 => ⟨(some 19), .iaddr (.t 17) (.t 18) 1, none⟩
  | 3 => ⟨(some 20), .load (.t 19) 1 false, none⟩
  | 4 => ⟨(some 21), .mv (.t 1), none⟩
  | 5 => ⟨(some 22), .mv (.t 5), none⟩
  | 6 => ⟨(some 23), .iaddr (.t 21) (.t 22) 1, none⟩
  | 7 => ⟨(some 24), .load (.t 23) 1 false, none⟩
  | 8 => ⟨(some 25), .bin .neq (.t 20) (.t 24), none⟩
  | _ => ⟨none, .mkmap, none⟩
@[go_sem] def l50_9 (_ : Unit) : KL := [kB 4 (.mv (.c (.bool false))) [4]]
@[go_sem] def s50_10 (_ : Unit) : IR := (sQ [(kT l50_9), .ret])
@[go_sem] def s50_11 (_ : Unit) : IR := (sQ [(.kd (oF l50_8 9) [(0, []), (1, []), (2, []), (3, []), (4, []), (5, []), (6, []), (7, []), (8, [])] [0, 1, 5, 25]), (.cond (.t 25) (tH s50_10) .skip)])
@[go_sem] def s50_12 (_ : Unit) : IR := (.block 1 (tH s50_11))
@[go_sem] def l50_13 (_ : Unit) : KL := [kA 15 (.mv (.t 5)),
  kA 16 (.bin .add (.t 15) (cI 1)),
  kB 5 (.mv (.t 16)) [0, 1, 5]]
@[go_sem] def s50_14 (_ : Unit) : IR := (sQ [(tH s50_7), (tH s50_12), (kT l50_13)])
@[go_sem] def s50_15 (_ : Unit) : IR := (.loop (tH s50_14))
@[go_sem] def s50_16 (_ : Unit) : IR := (.block 0 (tH s50_15))
@[go_sem] def s50_17 (_ : Unit) : IR := (sQ [(kT l50_5), (tH s50_16)])
@[go_sem] def l50_18 (_ : Unit) : KL := [kB 4 (.mv (.c (.bool true))) [4]]
@[go_sem] def s50_19 (_ : Unit) : IR := (sQ [(kT l50_0), (tH s50_4), (tH s50_17), (kT l50_18), .ret])
theorem c50 : compFn Try.prog [(0, [], [oS [0, 1]]), (1, [], [oN, oN, oN, oN, oS [0, 1, 10]]), (2, [], [oS [4]]), (3, [], [oS [0, 1, 5]]), (4, [], [oN, oN, oN, oS [0, 1, 5, 14]]), (6, [(0, []), (1, []), (2, []), (3, []), (4, []), (5, []), (6, []), (7, []), (8, [])], [oS [0, 1, 5, 25]]), (7, [], [oS [4]]), (5, [], [oN, oN, oS [0, 1, 5]]), (8, [], [oS [4]])] Try.f50 = some ⟨2, 26, [.t 4], (tH s50_19)⟩ := by kernel_rfl
theorem v_spec_l2Same (hl : vs.length = 2) (h : wpV Try.prog (tH s50_19) (postV [.t 4] RV) (envV vs) M) : VCall Try.prog n_spec_l2Same vs M RV :=
  vcall_of_wp (fun _ _ _ hl h => acall_of_wp mixed Try.func50 c50 (by kernel_rfl) hl h) hl h
@[go_sem] def l112_0 (_ : Unit) : KL := [kB 4 (.mv (.c (.bool false))) [0, 1]]
@[go_sem] def l112_1 (_ : Unit) : KL := [kB 5 (.mv (cI 0)) [0, 1, 5]]
@[go_sem] def l112_2 (_ : Unit) : KL := [kA 6 (.mv (.t 5)),
  kA 7 (.mv (.t 0)),
  kA 8 (.len (.t 7)),
  kA 9 (.bin .lss (.t 6) (.t 8)),
  kB 10 (.mv (.t 9)) [0, 1, 5, 10],
  (⟨(some 11), .mv (.t 5), (some (10, true))⟩, none),
  (⟨(some 12), .mv (.t 1), (some (10, true))⟩, none),
  (⟨(some 13), .len (.t 12), (some (10, true))⟩, none),
  (⟨(some 14), .bin .lss (.t 11) (.t 13), (some (10, true))⟩, none),
  kB 15 (.pick (.t 10) (.t 14) (.c (.bool false))) [0, 1, 5, 15]]
@[go_sem] def s112_3 (_ : Unit) : IR := (sQ [(kT l112_2), (.cond (.t 15) .skip (.exit 0))])
@[go_sem] def l112_4 : Nat → GOp
  | 0 => ⟨(some 18), .mv (.t 0), none⟩
  | 1 => ⟨(some 19), .mv (.t 5), none⟩
  | 2 => ⟨(some 20), .iaddr (.t 18) (.t 19) 1, none⟩
  | 3 => ⟨(some 21), .load (.t 20) 1 false, none⟩
  | 4 => ⟨(some 22), .mv (.t 1), none⟩
  | 5 => ⟨(some 23), .mv (.t 5), none⟩
  | 6 => ⟨(some 24), .iaddr (.t 22) (.t 23) 1, none⟩
  | 7 => ⟨(some 25), .load (.t 24) 1 false, none⟩
  | 8 => ⟨(some 26), .bin .neq (.t 21) (.t 25), none⟩
  | _ => ⟨none, .mkmap, none⟩
@[go_sem] def l112_5 : Nat → GOp
  | 0 => ⟨(some 27), .mv (.t 0), none⟩
  | 1 => ⟨(some 28), .mv (.t 5), none⟩
  | 2 => ⟨(some 29), .iaddr (.t 27) (.t 28) 1, none⟩
  | 3 => ⟨(some 30), .load (.t 29) 1 false, none⟩
  | 4 => ⟨(some 31), .mv (.t 1), none⟩
  | 5 => ⟨(some 32), .mv (.t 5), none⟩
  | 6 => ⟨(some 33), .iaddr (.t 31) (.t 32) 1, none⟩
  | 7 => ⟨(some 34), .load (.t 33) 1 false, none⟩
  | 8 => ⟨(some 35), .bin .lss (.t 30) (.t 34), none⟩
  | 9 => ⟨(some 4), .mv (.t 35), none⟩
  | _ => ⟨none, .mkmap, none⟩
@[go_sem] def s112_6 (_ : Unit) : IR := (sQ [(.kd (oF l112_5 10) [(0, []), (1, []), (2, []), (3, []), (4, []), (5, []), (6, []), (7, []), (8, []), (9, [])] [4]), .ret])
@[go_sem] def s112_7 (_ : Unit) : IR := (sQ [(.kd (oF l112_4 9) [(0, []), (1, []), (2, []), (3, []), (4, []), (5, []), (6, []), (7, []), (8, [])] [0, 1, 5, 26]), (.cond (.t 26) (tH s112_6) .skip)])
@[go_sem] def s112_8 (_ : Unit) : IR := (.block 1 (tH s112_7))
@[go_sem] def l112_9 (_ : Unit) : KL := [kA 16 (.mv (.t 5)),
  kA 17 (.bin .add (.t 16) (cI 1)),
  kB 5 (.mv (.t 17)) [0, 1, 5]]
@[go_sem] def s112_10 (_ : Unit) : IR := (sQ [(tH s112_3), (tH s112_8), (kT l112_9)])
@[go_sem] def s112_11 (_ : Unit) : IR := (.loop (tH s112_10))
@[go_sem] def s112_12 (_ : Unit) : IR := (.block 0 (tH s112_11))
@[go_sem] def s112_13 (_ : Unit) : IR := (sQ [(kT l112_1), (tH s112_12)])
@[go_sem] def l112_14 (_ : Unit) : KL := [kA 36 (.mv (.t 0)),
  kA 37 (.len (.t 36)),
  kA 38 (.mv (.t 1)),
  kA 39 (.len (.t 38)),
  kB 40 (.bin .lss (.t 37) (.t 39)) [40],
  kB 4 (.mv (.t 40)) [4]]
@[go_sem] def s112_15 (_ : Unit) : IR := (sQ [(kT l112_0), (tH s112_13), (kT l112_14), .ret])
theorem c112 : compFn Try.prog [(0, [], [oS [0, 1]]), (1, [], [oS [0, 1, 5]]), (2, [], [oN, oN, oN, oN, oS [0, 1, 5, 10], oN, oN, oN, oN, oS [0, 1, 5, 15]]), (4, [(0, []), (1, []), (2, []), (3, []), (4, []), (5, []), (6, []), (7, []), (8, [])], [oS [0, 1, 5, 26]]), (5, [(0, []), (1, []), (2, []), (3, []), (4, []), (5, []), (6, []), (7, []), (8, []), (9, [])], [oS [4]]), (3, [], [oN, oN, oS [0, 1, 5]]), (6, [], [oN, oN, oN, oN, oS [40], oS [4]])] Try.f112 = some ⟨2, 41, [.t 4], (tH s112_15)⟩ := by kernel_rfl
theorem v_spec_l2Less (hl : vs.length = 2) (h : wpV Try.prog (tH s112_15) (postV [.t 4] RV) (envV vs) M) : VCall Try.prog n_spec_l2Less vs M RV :=
  vcall_of_wp (fun _ _ _ hl h => acall_of_wp mixed Try.func112 c112 (by kernel_rfl) hl h) hl h
@[go_sem] def l79_0 (_ : Unit) : KL := [kB 4 (.mv (.c (.sl none 0 0 true 0))) [0, 1]]
@[go_sem] def l79_1 (_ : Unit) : KL := [kA 8 (.bslc 1 0 [(.sl none 0 0 true 0)] []),
  kB 5 (.mv (.t 8)) [0, 1, 5]]
@[go_sem] def l79_2 (_ : Unit) : KL := [kB 6 (.mv (.c (.bool false))) [0, 1, 5, 6]]
@[go_sem] def l79_3 (_ : Unit) : KL := [kB 7 (.mv (cI 0)) [0, 1, 5, 6, 7]]
@[go_sem] def l79_4 (_ : Unit) : KL := [kA 9 (.mv (.t 7)),
  kA 10 (.mv (.t 0)),
  kA 11 (.len (.t 10)),
  kB 12 (.bin .lss (.t 9) (.t 11)) [0, 1, 5, 6, 7, 12]]
@[go_sem] def s79_5 (_ : Unit) : IR := (sQ [(kT l79_4), (.cond (.t 12) .skip (.exit 0))])
@[go_sem] def l79_6 (_ : Unit) : KL := [kA 15 (.mv (.t 6)),
  kA 16 (.un .not (.t 15)),
  kA 17 (.mv (.t 16)),
  (⟨(some 18), .mv (.t 0), (some (17, true))⟩, none),
  (⟨(some 19), .mv (.t 7), (some (17, true))⟩, (some [0, 1, 5, 6, 7, 17, 18, 19])),
  (⟨(some 20), .iaddr (.t 18) (.t 19) 1, (some (17, true))⟩, none),
  (⟨(some 21), .load (.t 20) 1 false, (some (17, true))⟩, none),
  (⟨(some 22), .mv (.t 1), (some (17, true))⟩, none),
  (⟨(some 23), .call (n_spec_l2Same) [(.t 21), (.t 22)], (some (17, true))⟩, none),
  kB 24 (.pick (.t 17) (.t 23) (.c (.bool false))) [0, 1, 5, 6, 7, 24]]
@[go_sem] def l79_7 (_ : Unit) : KL := [kB 6 (.mv (.c (.bool true))) [0, 1, 5, 6, 7]]
@[go_sem] def s79_8 (_ : Unit) : IR := (sQ [(kT l79_6), (.cond (.t 24) (kT l79_7) .skip)])
@[go_sem] def l79_9 (_ : Unit) : KL := [kA 25 (.mv (.t 6)),
  kA 26 (.un .not (.t 25)),
  kA 27 (.mv (.t 26)),
  (⟨(some 28), .mv (.t 1), (some (27, true))⟩, none),
  (⟨(some 29), .mv (.t 0), (some (27, true))⟩, (some [0, 1, 5, 6, 7, 27, 28, 29])),
  (⟨(some 30), .mv (.t 7), (some (27, true))⟩, none),
  (⟨(some 31), .iaddr (.t 29) (.t 30) 1, (some (27, true))⟩, none),
  (⟨(some 32), .load (.t 31) 1 false, (some (27, true))⟩, none),
  (⟨(some 33), .call (n_spec_l2Less) [(.t 28), (.t 32)], (some (27, true))⟩, none),
  kB 34 (.pick (.t 27) (.t 33) (.c (.bool false))) [0, 1, 5, 6, 7, 34]]
@[go_sem] def l79_10 (_ : Unit) : KL := [kA 35 (.mv (.t 5)),
  kA 36 (.mv (.t 1)),
  kA 37 (.bslc 1 1 [(.sl none 0 0 true 0)] [(0, (.t 36))]),
  kA 38 (.app 1 24 (.t 35) (.t 37)),
  kB 5 (.mv (.t 38)) [0, 1, 5, 7]]
@[go_sem] def l79_11 (_ : Unit) : KL := [kB 6 (.mv (.c (.bool true))) [0, 1, 5, 6, 7]]
@[go_sem] def s79_12 (_ : Unit) : IR := (sQ [(kT l79_10), (kT l79_11)])
@[go_sem] def s79_13 (_ : Unit) : IR := (sQ [(kT l79_9), (.cond (.t 34) (tH s79_12) .skip)])
@[go_sem] def l79_14 (_ : Unit) : KL := [kA 39 (.mv (.t 5)),
  kA 40 (.mv (.t 0)),
  kA 41 (.mv (.t 7)),
  kA 42 (.iaddr (.t 40) (.t 41) 1),
  kB 43 (.load (.t 42) 1 false) [0, 1, 6, 7, 39, 43],
  kA 44 (.bslc 1 1 [(.sl none 0 0 true 0)] [(0, (.t 43))]),
  kA 45 (.app 1 24 (.t 39) (.t 44)),
  kB 5 (.mv (.t 45)) [0, 1, 5, 6, 7]]
@[go_sem] def s79_15 (_ : Unit) : IR := (sQ [(tH s79_8), (tH s79_13), (kT l79_14)])
@[go_sem] def s79_16 (_ : Unit) : IR := (.block 1 (tH s79_15))
@[go_sem] def l79_17 (_ : Unit) : KL := [kA 13 (.mv (.t 7)),
  kA 14 (.bin .add (.t 13) (cI 1)),
  kB 7 (.mv (.t 14)) [0, 1, 5, 6, 7]]
@[go_sem] def s79_18 (_ : Unit) : IR := (sQ [(tH s79_5), (tH s79_16), (kT l79_17)])
@[go_sem] def s79_19 (_ : Unit) : IR := (.loop (tH s79_18))
@[go_sem] def s79_20 (_ : Unit) : IR := (.block 0 (tH s79_19))
@[go_sem] def s79_21 (_ : Unit) : IR := (sQ [(kT l79_3), (tH s79_20)])
@[go_sem] def l79_22 (_ : Unit) : KL := [kA 46 (.mv (.t 6)),
  kB 47 (.un .not (.t 46)) [1, 5, 47]]
@[go_sem] def l79_23 (_ : Unit) : KL := [kA 48 (.mv (.t 5)),
  kA 49 (.mv (.t 1)),
  kA 50 (.bslc 1 1 [(.sl none 0 0 true 0)] [(0, (.t 49))]),
  kA 51 (.app 1 24 (.t 48) (.t 50)),
  kB 5 (.mv (.t 51)) [5]]
@[go_sem] def s79_24 (_ : Unit) : IR := (sQ [(kT l79_22), (.cond (.t 47) (kT l79_23) .skip)])
@[go_sem] def l79_25 (_ : Unit) : KL := [kA 52 (.mv (.t 5)),
  kB 4 (.mv (.t 52)) [4]]
@[go_sem] def s79_26 (_ : Unit) : IR := (sQ [(kT l79_0), (kT l79_1), (kT l79_2), (tH s79_21), (tH s79_24), (kT l79_25), .ret])
theorem c79 : compFn Try.prog [(0, [], [oS [0, 1]]), (1, [], [oN, oS [0, 1, 5]]), (2, [], [oS [0, 1, 5, 6]]), (3, [], [oS [0, 1, 5, 6, 7]]), (4, [], [oN, oN, oN, oS [0, 1, 5, 6, 7, 12]]), (6, [], [oN, oN, oN, oN, oS [0, 1, 5, 6, 7, 17, 18, 19], oN, oN, oN, oN, oS [0, 1, 5, 6, 7, 24]]), (7, [], [oS [0, 1, 5, 6, 7]]), (8, [], [oN, oN, oN, oN, oS [0, 1, 5, 6, 7, 27, 28, 29], oN, oN, oN, oN, oS [0, 1, 5, 6, 7, 34]]), (9, [], [oN, oN, oN, oN, oS [0, 1, 5, 7]]), (10, [], [oS [0, 1, 5, 6, 7]]), (11, [], [oN, oN, oN, oN, oS [0, 1, 6, 7, 39, 43], oN, oN, oS [0, 1, 5, 6, 7]]), (5, [], [oN, oN, oS [0, 1, 5, 6, 7]]), (12, [], [oN, oS [1, 5, 47]]), (13, [], [oN, oN, oN, oN, oS [5]]), (14, [], [oN, oS [4]])] Try.f79 = some ⟨2, 53, [.t 4], (tH s79_26)⟩ := by kernel_rfl
theorem v_spec_l2Put (hl : vs.length = 2) (h : wpV Try.prog (tH s79_26) (postV [.t 4] RV) (envV vs) M) : VCall Try.prog n_spec_l2Put vs M RV :=
  vcall_of_wp (fun _ _ _ hl h => acall_of_wp mixed Try.func79 c79 (by kernel_rfl) hl h) hl h
@[go_sem] def l38_0 (_ : Unit) : KL := [kA 2 (.box (.t 0)),
  kB 4 (.mv (.c (.sl none 0 0 true 0))) [1, 2]]
@[go_sem] def l38_1 (_ : Unit) : KL := [kA 8 (.bslc 1 0 [(.sl none 0 0 true 0)] []),
  kB 5 (.mv (.t 8)) [1, 2, 5]]
@[go_sem] def l38_2 (_ : Unit) : KL := [kB 6 (.mv (cI 0)) [1, 2, 5, 6]]
@[go_sem] def l38_3 (_ : Unit) : KL := [kA 9 (.mv (.t 6)),
  kA 10 (.faddr (.t 2) 1),
  kA 11 (.load (.t 10) 1 false),
  kA 12 (.len (.t 11)),
  kB 13 (.bin .lss (.t 9) (.t 12)) [1, 2, 5, 6, 13]]
@[go_sem] def s38_4 (_ : Unit) : IR := (sQ [(kT l38_3), (.cond (.t 13) .skip (.exit 0))])
@[go_sem] def l38_5 (_ : Unit) : KL := [kA 16 (.load (.t 2) 2 true),
  kA 17 (.mv (.t 1)),
  kA 18 (.mv (.t 6)),
  kA 19 (.call (n_spec_l2Use) [(.t 16), (.t 17), (.t 18)]),
  kB 7 (.mv (.t 19)) [1, 2, 5, 6, 7]]
@[go_sem] def l38_6 (_ : Unit) : KL := [kA 20 (.mv (.t 7)),
  kA 21 (.len (.t 20)),
  kB 22 (.bin .gtr (.t 21) (cI 0)) [1, 2, 5, 6, 7, 22]]
@[go_sem] def l38_7 (_ : Unit) : KL := [kA 23 (.mv (.t 5)),
  kA 24 (.mv (.t 7)),
  kA 25 (.call (n_spec_l2Put) [(.t 23), (.t 24)]),
  kB 5 (.mv (.t 25)) [1, 2, 5, 6]]
@[go_sem] def s38_8 (_ : Unit) : IR := (sQ [(kT l38_5), (kT l38_6), (.cond (.t 22) (kT l38_7) .skip)])
@[go_sem] def s38_9 (_ : Unit) : IR := (.block 1 (tH s38_8))
@[go_sem] def l38_10 (_ : Unit) : KL := [kA 14 (.mv (.t 6)),
  kA 15 (.bin .add (.t 14) (cI 1)),
  kB 6 (.mv (.t 15)) [1, 2, 5, 6]]
@[go_sem] def s38_11 (_ : Unit) : IR := (sQ [(tH s38_4), (tH s38_9), (kT l38_10)])
@[go_sem] def s38_12 (_ : Unit) : IR := (.loop (tH s38_11))
@[go_sem] def s38_13 (_ : Unit) : IR := (.block 0 (tH s38_12))
@[go_sem] def s38_14 (_ : Unit) : IR := (sQ [(kT l38_2), (tH s38_13)])
@[go_sem] def l38_15 (_ : Unit) : KL := [kA 26 (.mv (.t 5)),
  kB 4 (.mv (.t 26)) [4]]
@[go_sem] def s38_16 (_ : Unit) : IR := (sQ [(kT l38_0), (kT l38_1), (tH s38_14), (kT l38_15), .ret])
theorem c38 : compFn Try.prog [(0, [], [oN, oS [1, 2]]), (1, [], [oN, oS [1, 2, 5]]), (2, [], [oS [1, 2, 5, 6]]), (3, [], [oN, oN, oN, oN, oS [1, 2, 5, 6, 13]]), (5, [], [oN, oN, oN, oN, oS [1, 2, 5, 6, 7]]), (6, [], [oN, oN, oS [1, 2, 5, 6, 7, 22]]), (7, [], [oN, oN, oN, oS [1, 2, 5, 6]]), (4, [], [oN, oN, oS [1, 2, 5, 6]]), (8, [], [oN, oS [4]])] Try.f38 = some ⟨2, 27, [.t 4], (tH s38_16)⟩ := by kernel_rfl
theorem v_spec_l2Next (hl : vs.length = 2) (h : wpV Try.prog (tH s38_16) (postV [.t 4] RV) (envV vs) M) : VCall Try.prog n_spec_l2Next vs M RV :=
  vcall_of_wp (fun _ _ _ hl h => acall_of_wp mixed Try.func38 c38 (by kernel_rfl) hl h) hl h
@[go_sem] def l20_0 (_ : Unit) : KL := [kA 3 (.box (.t 0)),
  kA 6 (.mv (.c (.sl none 0 0 true 0))),
  kB 7 (.mv (.c (.bool false))) [1, 2, 3]]
@[go_sem] def l20_1 (_ : Unit) : KL := [kA 11 (.load (.t 3) 2 true),
  kA 12 (.mv (.t 1)),
  kA 13 (.call (n_spec_InRange) [(.t 11), (.t 12)]),
  kA 14 (.un .not (.t 13)),
  kB 15 (.mv (.t 14)) [1, 2, 3, 15],
  (⟨(some 16), .mv (.t 2), (some (15, false))⟩, none),
  (⟨(some 17), .len (.t 16), (some (15, false))⟩, none),
  (⟨(some 18), .bin .gtr (.t 17) (.c (.int .i64 500)), (some (15, false))⟩, none),
  kB 19 (.pick (.t 15) (.c (.bool true)) (.t 18)) [1, 2, 3, 19]]
@[go_sem] def l20_2 (_ : Unit) : KL := [kA 6 (.mv (.c (.sl none 0 0 true 0))),
  kB 7 (.mv (.c (.bool false))) [6, 7]]
@[go_sem] def s20_3 (_ : Unit) : IR := (sQ [(kT l20_2), .ret])
@[go_sem] def s20_4 (_ : Unit) : IR := (sQ [(kT l20_1), (.cond (.t 19) (tH s20_3) .skip)])
@[go_sem] def l20_5 (_ : Unit) : KL := [kA 20 (.mv (.t 2)),
  kA 21 (.len (.t 20)),
  kB 22 (.bin .eql (.t 21) (cI 0)) [1, 2, 3, 22]]
@[go_sem] def l20_6 (_ : Unit) : KL := [kA 23 (.load (.t 3) 2 true),
  kA 24 (.mv (.t 1)),
  kA 25 (.call (n_spec_l2Next) [(.t 23), (.t 24)]),
  kA 26 (.len (.t 25)),
  kB 27 (.bin .eql (.t 26) (cI 0)) [27],
  kA 6 (.mv (.c (.sl none 0 0 true 0))),
  kB 7 (.mv (.t 27)) [6, 7]]
@[go_sem] def s20_7 (_ : Unit) : IR := (sQ [(kT l20_6), .ret])
@[go_sem] def s20_8 (_ : Unit) : IR := (sQ [(kT l20_5), (.cond (.t 22) (tH s20_7) .skip)])
@[go_sem] def l20_9 (_ : Unit) : KL := [kA 28 (.bslc 1 0 [(.sl none 0 0 true 0)] []),
  kB 8 (.mv (.t 28)) [1, 2, 3, 8]]
@[go_sem] def l20_10 (_ : Unit) : KL := [kA 29 (.mv (.t 1)),
  kB 9 (.mv (.t 29)) [1, 2, 3, 8, 9]]
@[go_sem] def l20_11 (_ : Unit) : KL := [kB 10 (.mv (cI 0)) [1, 2, 3, 8, 9, 10]]
@[go_sem] def l20_12 (_ : Unit) : KL := [kA 30 (.mv (.t 10)),
  kA 31 (.mv (.t 2)),
  kA 32 (.len (.t 31)),
  kB 33 (.bin .lss (.t 30) (.t 32)) [1, 2, 3, 8, 9, 10, 33]]
@[go_sem] def s20_13 (_ : Unit) : IR := (sQ [(kT l20_12), (.cond (.t 33) .skip (.exit 0))])
@[go_sem] def l20_14 : Nat → GOp
  | 0 => ⟨(some 36), .mv (.t 2), none⟩
  | 1 => ⟨(some 37), .mv (.t 10), none⟩
  | 2 => ⟨(some 38), .iaddr (.t 36) (.t 37) 1, none⟩
  | 3 => ⟨(some 39), .load (.t 38) 1 false, none⟩
  | 4 => ⟨(some 40), .faddr (.t 3) 1, none⟩
  | 5 => ⟨(some 41), .load (.t 40) 1 false, none⟩
  | 6 => ⟨(some 42), .len (.t 41), none⟩
  | 7 => ⟨(some 43), .bin .sub (.t 42) (cI 1), none⟩
  | 8 => ⟨(some 44), .call (n_spec_l1In) [(.t 39), (cI 0), (.t 43)], none⟩
  | 9 => ⟨(some 45), .un .not (.t 44), none⟩
  | _ => ⟨none, .mkmap, none⟩
@[go_sem] def l20_15 (_ : Unit) : KL := [kA 6 (.mv (.c (.sl none 0 0 true 0))),
  kB 7 (.mv (.c (.bool false))) [6, 7]]
@[go_sem] def s20_16 (_ : Unit) : IR := (sQ [(kT l20_15), .ret])
@[go_sem] def s20_17 (_ : Unit) : IR := (sQ [(.kd (oF l20_14 10) [(0, []), (1, []), (2, []), (3, []), (4, []), (5, []), (6, []), (7, []), (8, []), (9, [])] [1, 2, 3, 8, 9, 10, 45]), (.cond (.t 45) (tH s20_16) .skip)])
@[go_sem] def l20_18 : Nat → GOp
  | 0 => ⟨(some 46), .load (.t 3) 2 true, none⟩
  | 1 => ⟨(some 47), .mv (.t 9), none⟩
  | 2 => ⟨(some 48), .mv (.t 2), none⟩
  | 3 => ⟨(some 49), .mv (.t 10), none⟩
  | 4 => ⟨(some 50), .iaddr (.t 48) (.t 49) 1, none⟩
  | 5 => ⟨(some 51), .load (.t 50) 1 false, none⟩
  | 6 => ⟨(some 52), .call (n_spec_l2Use) [(.t 46), (.t 47), (.t 51)], none⟩
  | 7 => ⟨(some 9), .mv (.t 52), none⟩
  | _ => ⟨none, .mkmap, none⟩
@[go_sem] def l20_19 (_ : Unit) : KL := [kA 53 (.mv (.t 9)),
  kA 54 (.len (.t 53)),
  kB 55 (.bin .eql (.t 54) (cI 0)) [1, 2, 3, 8, 9, 10, 55]]
@[go_sem] def l20_20 (_ : Unit) : KL := [kA 6 (.mv (.c (.sl none 0 0 true 0))),
  kB 7 (.mv (.c (.bool false))) [6, 7]]
@[go_sem] def s20_21 (_ : Unit) : IR := (sQ [(kT l20_20), .ret])
@[go_sem] def s20_22 (_ : Unit) : IR := (sQ [(kT l20_19), (.cond (.t 55) (tH s20_21) .skip)])
@[go_sem] def l20_23 (_ : Unit) : KL := [kA 56 (.mv (.t 8)),
  kA 57 (.mv (.t 9)),
  kA 58 (.bslc 1 1 [(.sl none 0 0 true 0)] [(0, (.t 57))]),
  kA 59 (.app 1 24 (.t 56) (.t 58)),
  kB 8 (.mv (.t 59)) [1, 2, 3, 8, 9, 10]]
@[go_sem] def s20_24 (_ : Unit) : IR := (sQ [(tH s20_17), (.kd (oF l20_18 8) [(0, []), (1, []), (2, []), (3, []), (4, []), (5, []), (6, []), (7, [])] [1, 2, 3, 8, 9, 10]), (tH s20_22), (kT l20_23)])
@[go_sem] def s20_25 (_ : Unit) : IR := (.block 1 (tH s20_24))
@[go_sem] def l20_26 (_ : Unit) : KL := [kA 34 (.mv (.t 10)),
  kA 35 (.bin .add (.t 34) (cI 1)),
  kB 10 (.mv (.t 35)) [1, 2, 3, 8, 9, 10]]
@[go_sem] def s20_27 (_ : Unit) : IR := (sQ [(tH s20_13), (tH s20_25), (kT l20_26)])
@[go_sem] def s20_28 (_ : Unit) : IR := (.loop (tH s20_27))
@[go_sem] def s20_29 (_ : Unit) : IR := (.block 0 (tH s20_28))
@[go_sem] def s20_30 (_ : Unit) : IR := (sQ [(kT l20_11), (tH s20_29)])
@[go_sem] def l20_31 (_ : Unit) : KL := [kA 60 (.mv (.t 9)),
  kA 61 (.mv (.t 1)),
  kA 62 (.call (n_spec_l2Same) [(.t 60), (.t 61)]),
  kB 63 (.un .not (.t 62)) [8, 63]]
@[go_sem] def l20_32 (_ : Unit) : KL := [kA 6 (.mv (.c (.sl none 0 0 true 0))),
  kB 7 (.mv (.c (.bool false))) [6, 7]]
@[go_sem] def s20_33 (_ : Unit) : IR := (sQ [(kT l20_32), .ret])
@[go_sem] def s20_34 (_ : Unit) : IR := (sQ [(kT l20_31), (.cond (.t 63) (tH s20_33) .skip)])
@[go_sem] def l20_35 (_ : Unit) : KL := [kA 64 (.mv (.t 8)),
  kA 6 (.mv (.t 64)),
  kB 7 (.mv (.c (.bool true))) [6, 7]]
@[go_sem] def s20_36 (_ : Unit) : IR := (sQ [(kT l20_0), (tH s20_4), (tH s20_8), (kT l20_9), (kT l20_10), (tH s20_30), (tH s20_34), (kT l20_35), .ret])
theorem c20 : compFn Try.prog [(0, [], [oN, oN, oS [1, 2, 3]]), (1, [], [oN, oN, oN, oN, oS [1, 2, 3, 15], oN, oN, oN, oS [1, 2, 3, 19]]), (2, [], [oN, oS [6, 7]]), (3, [], [oN, oN, oS [1, 2, 3, 22]]), (4, [], [oN, oN, oN, oN, oS [27], oN, oS [6, 7]]), (5, [], [oN, oS [1, 2, 3, 8]]), (6, [], [oN, oS [1, 2, 3, 8, 9]]), (7, [], [oS [1, 2, 3, 8, 9, 10]]), (8, [], [oN, oN, oN, oS [1, 2, 3, 8, 9, 10, 33]]), (10, [(0, []), (1, []), (2, []), (3, []), (4, []), (5, []), (6, []), (7, []), (8, []), (9, [])], [oS [1, 2, 3, 8, 9, 10, 45]]), (11, [], [oN, oS [6, 7]]), (12, [(0, []), (1, []), (2, []), (3, []), (4, []), (5, []), (6, []), (7, [])], [oS [1, 2, 3, 8, 9, 10]]), (13, [], [oN, oN, oS [1, 2, 3, 8, 9, 10, 55]]), (14, [], [oN, oS [6, 7]]), (15, [], [oN, oN, oN, oN, oS [1, 2, 3, 8, 9, 10]]), (9, [], [oN, oN, oS [1, 2, 3, 8, 9, 10]]), (16, [], [oN, oN, oN, oS [8, 63]]), (17, [], [oN, oS [6, 7]]), (18, [], [oN, oN, oS [6, 7]])] Try.f20 = some ⟨3, 65, [.t 6, .t 7], (tH s20_36)⟩ := by kernel_rfl
theorem v_spec_RoundFrom (hl : vs.length = 3) (h : wpV Try.prog (tH s20_36) (postV [.t 6, .t 7] RV) (envV vs) M) : VCall Try.prog n_spec_RoundFrom vs M RV :=
  vcall_of_wp (fun _ _ _ hl h => acall_of_wp mixed Try.func20 c20 (by kernel_rfl) hl h) hl h
@[go_sem] def l103_0 (_ : Unit) : KL := [kA 2 (.box (.t 0)),
  kB 4 (.mv (.c (.bool false))) [1, 2]]
@[go_sem] def l103_1 (_ : Unit) : KL := [kB 5 (.mv (cI 0)) [1, 2, 5]]
@[go_sem] def l103_2 (_ : Unit) : KL := [kA 6 (.mv (.t 5)),
  kA 7 (.mv (.t 1)),
  kA 8 (.len (.t 7)),
  kB 9 (.bin .lss (.t 6) (.t 8)) [1, 2, 5, 9]]
@[go_sem] def s103_3 (_ : Unit) : IR := (sQ [(kT l103_2), (.cond (.t 9) .skip (.exit 0))])
@[go_sem] def l103_4 : Nat → GOp
  | 0 => ⟨(some 12), .mv (.t 1), none⟩
  | 1 => ⟨(some 13), .mv (.t 5), none⟩
  | 2 => ⟨(some 14), .iaddr (.t 12) (.t 13) 1, none⟩
  | 3 => ⟨(some 15), .load (.t 14) 1 false, none⟩
  | 4 => ⟨(some 16), .faddr (.t 2) 1, none⟩
  | 5 => ⟨(some 17), .load (.t 16) 1 false, none⟩
  | 6 => ⟨(some 18), .len (.t 17), none⟩
  | 7 => ⟨(some 19), .bin .sub (.t 18) (cI 1), none⟩
  | 8 => ⟨(some 20), .call (n_spec_l1In) [(.t 15), (cI 0), (.t 19)], none⟩
  | 9 => ⟨(some 21), .un .not (.t 20), none⟩
  | 10 => ⟨(some 22), .mv (.t 21), none⟩
  | 11 => ⟨(some 23), .mv (.t 5), (some (22, false))⟩
  | 12 => ⟨(some 24), .bin .gtr (.t 23) (cI 0), (some (22, false))⟩
  | 13 => ⟨(some 25), .mv (.t 24), (some (22, false))⟩
  | 14 => ⟨(some 26), .mv (.t 1), (some (25, true))⟩
  | 15 => ⟨(some 27), .mv (.t 5), (some (25, true))⟩
  | 16 => ⟨(some 28), .iaddr (.t 26) (.t 27) 1, (some (25, true))⟩
  | 17 => ⟨(some 29), .load (.t 28) 1 false, (some (25, true))⟩
  | 18 => ⟨(some 30), .mv (.t 1), (some (25, true))⟩
  | 19 => ⟨(some 31), .mv (.t 5), (some (25, true))⟩
  | 20 => ⟨(some 32), .bin .sub (.t 31) (cI 1), (some (25, true))⟩
  | 21 => ⟨(some 33), .iaddr (.t 30) (.t 32) 1, (some (25, true))⟩
  | 22 => ⟨(some 34), .load (.t 33) 1 false, (some (25, true))⟩
  | 23 => ⟨(some 35), .bin .leq (.t 29) (.t 34), (some (25, true))⟩
  | 24 => ⟨(some 36), .pick (.t 25) (.t 35) (.c (.bool false)), (some (22, false))⟩
  | 25 => ⟨(some 37), .pick (.t 22) (.c (.bool true)) (.t 36), none⟩
  | _ => ⟨none, .mkmap, none⟩
@[go_sem] def l103_5 (_ : Unit) : KL := [kB 4 (.mv (.c (.bool false))) [4]]
@[go_sem] def s103_6 (_ : Unit) : IR := (sQ [(kT l103_5), .ret])
@[go_sem] def s103_7 (_ : Unit) : IR := (sQ [(.kd (oF l103_4 26) [(0, []), (1, []), (2, []), (3, []), (4, []), (5, []), (6, []), (7, []), (8, []), (9, []), (10, []), (11, []), (12, []), (13, []), (14, []), (15, []), (16, []), (17, []), (18, []), (19, []), (20, []), (21, []), (22, []), (23, []), (24, []), (25, [])] [1, 2, 5, 37]), (.cond (.t 37) (tH s103_6) .skip)])
@[go_sem] def s103_8 (_ : Unit) : IR := (.block 1 (tH s103_7))
@[go_sem] def l103_9 (_ : Unit) : KL := [kA 10 (.mv (.t 5)),
  kA 11 (.bin .add (.t 10) (cI 1)),
  kB 5 (.mv (.t 11)) [1, 2, 5]]
@[go_sem] def s103_10 (_ : Unit) : IR := (sQ [(tH s103_3), (tH s103_8), (kT l103_9)])
@[go_sem] def s103_11 (_ : Unit) : IR := (.loop (tH s103_10))
@[go_sem] def s103_12 (_ : Unit) : IR := (.block 0 (tH s103_11))
@[go_sem] def s103_13 (_ : Unit) : IR := (sQ [(kT l103_1), (tH s103_12)])
@[go_sem] def l103_14 (_ : Unit) : KL := [kA 38 (.load (.t 2) 2 true),
  kA 39 (.call (n_spec_SystemValid) [(.t 38)]),
  kB 4 (.mv (.t 39)) [4]]
@[go_sem] def s103_15 (_ : Unit) : IR := (sQ [(kT l103_0), (tH s103_13), (kT l103_14), .ret])
theorem c103 : compFn Try.prog [(0, [], [oN, oS [1, 2]]), (1, [], [oS [1, 2, 5]]), (2, [], [oN, oN, oN, oS [1, 2, 5, 9]]), (4, [(0, []), (1, []), (2, []), (3, []), (4, []), (5, []), (6, []), (7, []), (8, []), (9, []), (10, []), (11, []), (12, []), (13, []), (14, []), (15, []), (16, []), (17, []), (18, []), (19, []), (20, []), (21, []), (22, []), (23, []), (24, []), (25, [])], [oS [1, 2, 5, 37]]), (5, [], [oS [4]]), (3, [], [oN, oN, oS [1, 2, 5]]), (6, [], [oN, oN, oS [4]])] Try.f103 = some ⟨2, 40, [.t 4], (tH s103_15)⟩ := by kernel_rfl
theorem v_spec_RulesSet (hl : vs.length = 2) (h : wpV Try.prog (tH s103_15) (postV [.t 4] RV) (envV vs) M) : VCall Try.prog n_spec_RulesSet vs M RV :=
  vcall_of_wp (fun _ _ _ hl h => acall_of_wp mixed Try.func103 c103 (by kernel_rfl) hl h) hl h
@[go_sem] def l68_0 (_ : Unit) : KL := [kA 3 (.box (.t 0)),
  kB 6 (.mv (.c (.bool false))) [1, 2, 3]]
@[go_sem] def l68_1 (_ : Unit) : KL := [kA 7 (.load (.t 3) 2 true),
  kA 8 (.mv (.t 1)),
  kA 9 (.call (n_spec_RulesSet) [(.t 7), (.t 8)]),
  kA 10 (.mv (.t 9)),
  (⟨(some 11), .load (.t 3) 2 true, (some (10, true))⟩, (some [2, 10, 11])),
  (⟨(some 12), .mv (.t 2), (some (10, true))⟩, none),
  (⟨(some 13), .call (n_spec_RulesSet) [(.t 11), (.t 12)], (some (10, true))⟩, none),
  kA 14 (.pick (.t 10) (.t 13) (.c (.bool false))),
  kB 6 (.mv (.t 14)) [6]]
@[go_sem] def s68_2 (_ : Unit) : IR := (sQ [(kT l68_0), (kT l68_1), .ret])
theorem c68 : compFn Try.prog [(0, [], [oN, oS [1, 2, 3]]), (1, [], [oN, oN, oN, oN, oS [2, 10, 11], oN, oN, oN, oS [6]])] Try.f68 = some ⟨3, 15, [.t 6], (tH s68_2)⟩ := by kernel_rfl
theorem v_spec_l23Asked (hl : vs.length = 3) (h : wpV Try.prog (tH s68_2) (postV [.t 6] RV) (envV vs) M) : VCall Try.prog n_spec_l23Asked vs M RV :=
  vcall_of_wp (fun _ _ _ hl h => acall_of_wp mixed Try.func68 c68 (by kernel_rfl) hl h) hl h
@[go_sem] def l104_0 (_ : Unit) : KL := [kA 1 (.box (.t 0)),
  kB 2 (.mv (cI 0)) [1]]
@[go_sem] def l104_1 (_ : Unit) : KL := [kA 5 (.load (.t 1) 2 true),
  kA 6 (.call (n_spec_SystemValid) [(.t 5)]),
  kB 7 (.un .not (.t 6)) [1, 7]]
@[go_sem] def l104_2 (_ : Unit) : KL := [kB 2 (.mv (cI 0)) [2]]
@[go_sem] def s104_3 (_ : Unit) : IR := (sQ [(kT l104_2), .ret])
@[go_sem] def s104_4 (_ : Unit) : IR := (sQ [(kT l104_1), (.cond (.t 7) (tH s104_3) .skip)])
@[go_sem] def l104_5 (_ : Unit) : KL := [kB 3 (.mv (cI 1)) [1, 3]]
@[go_sem] def l104_6 (_ : Unit) : KL := [kB 4 (.mv (cI 0)) [1, 3, 4]]
@[go_sem] def l104_7 (_ : Unit) : KL := [kA 8 (.mv (.t 4)),
  kA 9 (.faddr (.t 1) 0),
  kA 10 (.load (.t 9) 1 false),
  kA 11 (.len (.t 10)),
  kB 12 (.bin .lss (.t 8) (.t 11)) [1, 3, 4, 12]]
@[go_sem] def s104_8 (_ : Unit) : IR := (sQ [(kT l104_7), (.cond (.t 12) .skip (.exit 0))])
@[go_sem] def l104_9 : Nat → GOp
  | 0 => ⟨(some 15), .mv (.t 3), none⟩
  | 1 => ⟨(some 16), .faddr (.t 1) 0, none⟩
  | 2 => ⟨(some 17), .load (.t 16) 1 false, none⟩
  | 3 => ⟨(some 18), .mv (.t 4), none⟩
  | 4 => ⟨(some 19), .iaddr (.t 17) (.t 18) 3, none⟩
  | 5 => ⟨(some 20), .faddr (.t 19) 1, none⟩
  | 6 => ⟨(some 21), .load (.t 20) 1 false, none⟩
  | 7 => ⟨(some 22), .faddr (.t 1) 0, none⟩
  | 8 => ⟨(some 23), .load (.t 22) 1 false, none⟩
  | 9 => ⟨(some 24), .mv (.t 4), none⟩
  | 10 => ⟨(some 25), .iaddr (.t 23) (.t 24) 3, none⟩
  | 11 => ⟨(some 26), .faddr (.t 25) 0, none⟩
  | 12 => ⟨(some 27), .load (.t 26) 1 false, none⟩
  | 13 => ⟨(some 28), .bin .sub (.t 21) (.t 27), none⟩
  | 14 => ⟨(some 29), .bin .add (.t 28) (cI 1), none⟩
  | 15 => ⟨(some 30), .bin .mul (.t 15) (.t 29), none⟩
  | 16 => ⟨(some 3), .mv (.t 30), none⟩
  | _ => ⟨none, .mkmap, none⟩
@[go_sem] def s104_10 (_ : Unit) : IR := (.block 1 (.kd (oF l104_9 17) [(0, []), (1, []), (2, []), (3, []), (4, []), (5, []), (6, []), (7, []), (8, []), (9, []), (10, []), (11, []), (12, []), (13, []), (14, []), (15, []), (16, [])] [1, 3, 4]))
@[go_sem] def l104_11 (_ : Unit) : KL := [kA 13 (.mv (.t 4)),
  kA 14 (.bin .add (.t 13) (cI 1)),
  kB 4 (.mv (.t 14)) [1, 3, 4]]
@[go_sem] def s104_12 (_ : Unit) : IR := (sQ [(tH s104_8), (tH s104_10), (kT l104_11)])
@[go_sem] def s104_13 (_ : Unit) : IR := (.loop (tH s104_12))
@[go_sem] def s104_14 (_ : Unit) : IR := (.block 0 (tH s104_13))
@[go_sem] def s104_15 (_ : Unit) : IR := (sQ [(kT l104_6), (tH s104_14)])
@[go_sem] def l104_16 (_ : Unit) : KL := [kA 31 (.mv (.t 3)),
  kB 2 (.mv (.t 31)) [2]]
@[go_sem] def s104_17 (_ : Unit) : IR := (sQ [(kT l104_0), (tH s104_4), (kT l104_5), (tH s104_15), (kT l104_16), .ret])
theorem c104 : compFn Try.prog [(0, [], [oN, oS [1]]), (1, [], [oN, oN, oS [1, 7]]), (2, [], [oS [2]]), (3, [], [oS [1, 3]]), (4, [], [oS [1, 3, 4]]), (5, [], [oN, oN, oN, oN, oS [1, 3, 4, 12]]), (7, [(0, []), (1, []), (2, []), (3, []), (4, []), (5, []), (6, []), (7, []), (8, []), (9, []), (10, []), (11, []), (12, []), (13, []), (14, []), (15, []), (16, [])], [oS [1, 3, 4]]), (6, [], [oN, oN, oS [1, 3, 4]]), (8, [], [oN, oS [2]])] Try.f104 = some ⟨1, 32, [.t 2], (tH s104_17)⟩ := by kernel_rfl
theorem v_spec_SizeOf (hl : vs.length = 1) (h : wpV Try.prog (tH s104_17) (postV [.t 2] RV) (envV vs) M) : VCall Try.prog n_spec_SizeOf vs M RV :=
  vcall_of_wp (fun _ _ _ hl h => acall_of_wp mixed Try.func104 c104 (by kernel_rfl) hl h) hl h
@[go_sem] def l54_0 (_ : Unit) : KL := [kA 1 (.box (.t 0)),
  kB 2 (.mv (.c (.sl none 0 0 true 0))) [1]]
@[go_sem] def l54_1 (_ : Unit) : KL := [kA 5 (.bslc 1 0 [(.int .i64 0)] []),
  kB 3 (.mv (.t 5)) [1, 3]]
@[go_sem] def l54_2 (_ : Unit) : KL := [kB 4 (.mv (cI 0)) [1, 3, 4]]
@[go_sem] def l54_3 (_ : Unit) : KL := [kA 6 (.mv (.t 4)),
  kA 7 (.faddr (.t 1) 0),
  kA 8 (.load (.t 7) 1 false),
  kA 9 (.len (.t 8)),
  kB 10 (.bin .lss (.t 6) (.t 9)) [1, 3, 4, 10],
  kA 11 (.mv (.t 10)),
  (⟨(some 12), .load (.t 1) 2 true, (some (11, true))⟩, none),
  (⟨(some 13), .call (n_spec_SystemValid) [(.t 12)], (some (11, true))⟩, none),
  kB 14 (.pick (.t 11) (.t 13) (.c (.bool false))) [1, 3, 4, 14]]
@[go_sem] def s54_4 (_ : Unit) : IR := (sQ [(kT l54_3), (.cond (.t 14) .skip (.exit 0))])
@[go_sem] def l54_5 (_ : Unit) : KL := [kA 17 (.mv (.t 3)),
  kA 18 (.faddr (.t 1) 0),
  kA 19 (.load (.t 18) 1 false),
  kA 20 (.mv (.t 4)),
  kB 21 (.iaddr (.t 19) (.t 20) 3) [1, 4, 17, 21],
  kA 22 (.faddr (.t 21) 2),
  kA 23 (.load (.t 22) 1 false),
  kA 24 (.bslc 1 1 [(.int .i64 0)] [(0, (.t 23))]),
  kA 25 (.app 1 8 (.t 17) (.t 24)),
  kB 3 (.mv (.t 25)) [1, 3, 4]]
@[go_sem] def s54_6 (_ : Unit) : IR := (.block 1 (kT l54_5))
@[go_sem] def l54_7 (_ : Unit) : KL := [kA 15 (.mv (.t 4)),
  kA 16 (.bin .add (.t 15) (cI 1)),
  kB 4 (.mv (.t 16)) [1, 3, 4]]
@[go_sem] def s54_8 (_ : Unit) : IR := (sQ [(tH s54_4), (tH s54_6), (kT l54_7)])
@[go_sem] def s54_9 (_ : Unit) : IR := (.loop (tH s54_8))
@[go_sem] def s54_10 (_ : Unit) : IR := (.block 0 (tH s54_9))
@[go_sem] def s54_11 (_ : Unit) : IR := (sQ [(kT l54_2), (tH s54_10)])
@[go_sem] def l54_12 (_ : Unit) : KL := [kA 26 (.mv (.t 3)),
  kB 2 (.mv (.t 26)) [2]]
@[go_sem] def s54_13 (_ : Unit) : IR := (sQ [(kT l54_0), (kT l54_1), (tH s54_11), (kT l54_12), .ret])
theorem c54 : compFn Try.prog [(0, [], [oN, oS [1]]), (1, [], [oN, oS [1, 3]]), (2, [], [oS [1, 3, 4]]), (3, [], [oN, oN, oN, oN, oS [1, 3, 4, 10], oN, oN, oN, oS [1, 3, 4, 14]]), (5, [], [oN, oN, oN, oN, oS [1, 4, 17, 21], oN, oN, oN, oN, oS [1, 3, 4]]), (4, [], [oN, oN, oS [1, 3, 4]]), (6, [], [oN, oS [2]])] Try.f54 = some ⟨1, 27, [.t 2], (tH s54_13)⟩ := by kernel_rfl
theorem v_spec_FirstState (hl : vs.length = 1) (h : wpV Try.prog (tH s54_13) (postV [.t 2] RV) (envV vs) M) : VCall Try.prog n_spec_FirstState vs M RV :=
  vcall_of_wp (fun _ _ _ hl h => acall_of_wp mixed Try.func54 c54 (by kernel_rfl) hl h) hl h
@[go_sem] def l55_0 (_ : Unit) : KL := [kB 2 (.mv (.c (.sl none 0 0 true 0))) [0]]
@[go_sem] def l55_1 (_ : Unit) : KL := [kA 5 (.bslc 1 0 [(.int .i64 0)] []),
  kB 3 (.mv (.t 5)) [0, 3]]
@[go_sem] def l55_2 (_ : Unit) : KL := [kB 4 (.mv (cI 0)) [0, 3, 4]]
@[go_sem] def l55_3 (_ : Unit) : KL := [kA 6 (.mv (.t 4)),
  kA 7 (.mv (.t 0)),
  kA 8 (.len (.t 7)),
  kB 9 (.bin .lss (.t 6) (.t 8)) [0, 3, 4, 9]]
@[go_sem] def s55_4 (_ : Unit) : IR := (sQ [(kT l55_3), (.cond (.t 9) .skip (.exit 0))])
@[go_sem] def l55_5 (_ : Unit) : KL := [kA 12 (.mv (.t 3)),
  kA 13 (.mv (.t 0)),
  kA 14 (.mv (.t 4)),
  kA 15 (.iaddr (.t 13) (.t 14) 1),
  kB 16 (.load (.t 15) 1 false) [0, 4, 12, 16],
  kA 17 (.bslc 1 1 [(.int .i64 0)] [(0, (.t 16))]),
  kA 18 (.app 1 8 (.t 12) (.t 17)),
  kB 3 (.mv (.t 18)) [0, 3, 4]]
@[go_sem] def s55_6 (_ : Unit) : IR := (.block 1 (kT l55_5))
@[go_sem] def l55_7 (_ : Unit) : KL := [kA 10 (.mv (.t 4)),
  kA 11 (.bin .add (.t 10) (cI 1)),
  kB 4 (.mv (.t 11)) [0, 3, 4]]
@[go_sem] def s55_8 (_ : Unit) : IR := (sQ [(tH s55_4), (tH s55_6), (kT l55_7)])
@[go_sem] def s55_9 (_ : Unit) : IR := (.loop (tH s55_8))
@[go_sem] def s55_10 (_ : Unit) : IR := (.block 0 (tH s55_9))
@[go_sem] def s55_11 (_ : Unit) : IR := (sQ [(kT l55_2), (tH s55_10)])
@[go_sem] def l55_12 (_ : Unit) : KL := [kA 19 (.mv (.t 3)),
  kB 2 (.mv (.t 19)) [2]]
@[go_sem] def s55_13 (_ : Unit) : IR := (sQ [(kT l55_0), (kT l55_1), (tH s55_11), (kT l55_12), .ret])
theorem c55 : compFn Try.prog [(0, [], [oS [0]]), (1, [], [oN, oS [0, 3]]), (2, [], [oS [0, 3, 4]]), (3, [], [oN, oN, oN, oS [0, 3, 4, 9]]), (5, [], [oN, oN, oN, oN, oS [0, 4, 12, 16], oN, oN, oS [0, 3, 4]]), (4, [], [oN, oN, oS [0, 3, 4]]), (6, [], [oN, oS [2]])] Try.f55 = some ⟨1, 20, [.t 2], (tH s55_13)⟩ := by kernel_rfl
theorem v_spec_l3Copy (hl : vs.length = 1) (h : wpV Try.prog (tH s55_13) (postV [.t 2] RV) (envV vs) M) : VCall Try.prog n_spec_l3Copy vs M RV :=
  vcall_of_wp (fun _ _ _ hl h => acall_of_wp mixed Try.func55 c55 (by kernel_rfl) hl h) hl h
@[go_sem] def l105_0 (_ : Unit) : KL := [kA 2 (.box (.t 0)),
  kB 4 (.mv (.c (.sl none 0 0 true 0))) [1, 2]]
@[go_sem] def l105_1 (_ : Unit) : KL := [kA 8 (.load (.t 2) 2 true),
  kA 9 (.call (n_spec_FirstState) [(.t 8)]),
  kA 10 (.call (n_spec_l3Copy) [(.t 9)]),
  kB 5 (.mv (.t 10)) [1, 2, 5]]
@[go_sem] def l105_2 (_ : Unit) : KL := [kA 11 (.faddr (.t 2) 0),
  kA 12 (.load (.t 11) 1 false),
  kA 13 (.len (.t 12)),
  kA 14 (.bin .sub (.t 13) (cI 1)),
  kB 6 (.mv (.t 14)) [1, 2, 5, 6]]
@[go_sem] def l105_3 (_ : Unit) : KL := [kA 15 (.mv (.t 6)),
  kB 16 (.bin .geq (.t 15) (cI 0)) [1, 2, 5, 6, 16]]
@[go_sem] def s105_4 (_ : Unit) : IR := (sQ [(kT l105_3), (.cond (.t 16) .skip (.exit 0))])
@[go_sem] def l105_5 : Nat → GOp
  | 0 => ⟨(some 19), .faddr (.t 2) 0, none⟩
  | 1 => ⟨(some 20), .load (.t 19) 1 false, none⟩
  | 2 => ⟨(some 21), .mv (.t 6), none⟩
  | 3 => ⟨(some 22), .iaddr (.t 20) (.t 21) 3, none⟩
  | 4 => ⟨(some 23), .faddr (.t 22) 1, none⟩
  | 5 => ⟨(some 24), .load (.t 23) 1 false, none⟩
  | 6 => ⟨(some 25), .faddr (.t 2) 0, none⟩
  | 7 => ⟨(some 26), .load (.t 25) 1 false, none⟩
  | 8 => ⟨(some 27), .mv (.t 6), none⟩
  | 9 => ⟨(some 28), .iaddr (.t 26) (.t 27) 3, none⟩
  | 10 => ⟨(some 29), .faddr (.t 28) 0, none⟩
  | 11 => ⟨(some 30), .load (.t 29) 1 false, none⟩
  | 12 => ⟨(some 31), .bin .sub (.t 24) (.t 30), none⟩
  | 13 => ⟨(some 32), .bin .add (.t 31) (cI 1), none⟩
  | 14 => ⟨(some 7), .mv (.t 32), none⟩
  | _ => ⟨none, .mkmap, none⟩
@[go_sem] def l105_6 : Nat → GOp
  | 0 => ⟨(some 33), .mv (.t 5), none⟩
  | 1 => ⟨(some 34), .mv (.t 6), none⟩
  | 2 => ⟨(some 35), .faddr (.t 2) 0, none⟩
  | 3 => ⟨(some 36), .load (.t 35) 1 false, none⟩
  | 4 => ⟨(some 37), .mv (.t 6), none⟩
  | 5 => ⟨(some 38), .iaddr (.t 36) (.t 37) 3, none⟩
  | 6 => ⟨(some 39), .faddr (.t 38) 0, none⟩
  | 7 => ⟨(some 40), .load (.t 39) 1 false, none⟩
  | 8 => ⟨(some 41), .mv (.t 1), none⟩
  | 9 => ⟨(some 42), .mv (.t 7), none⟩
  | 10 => ⟨(some 43), .bin .rem (.t 41) (.t 42), none⟩
  | 11 => ⟨(some 44), .bin .add (.t 40) (.t 43), none⟩
  | 12 => ⟨(some 45), .iaddr (.t 33) (.t 34) 1, none⟩
  | 13 => ⟨none, .store (.t 45) 1 (.t 44), none⟩
  | _ => ⟨none, .mkmap, none⟩
@[go_sem] def l105_7 (_ : Unit) : KL := [kA 46 (.mv (.t 1)),
  kA 47 (.mv (.t 7)),
  kA 48 (.bin .quo (.t 46) (.t 47)),
  kB 1 (.mv (.t 48)) [1, 2, 5, 6]]
@[go_sem] def s105_8 (_ : Unit) : IR := (sQ [(.kd (oF l105_5 15) [(0, []), (1, []), (2, []), (3, []), (4, []), (5, []), (6, []), (7, []), (8, []), (9, []), (10, []), (11, []), (12, []), (13, []), (14, [])] [1, 2, 5, 6, 7]), (.kd (oF l105_6 14) [(0, []), (1, []), (2, []), (3, []), (4, []), (5, []), (6, []), (7, []), (8, []), (9, []), (10, []), (11, []), (12, []), (13, [])] [1, 2, 5, 6, 7]), (kT l105_7)])
@[go_sem] def s105_9 (_ : Unit) : IR := (.block 1 (tH s105_8))
@[go_sem] def l105_10 (_ : Unit) : KL := [kA 17 (.mv (.t 6)),
  kA 18 (.bin .sub (.t 17) (cI 1)),
  kB 6 (.mv (.t 18)) [1, 2, 5, 6]]
@[go_sem] def s105_11 (_ : Unit) : IR := (sQ [(tH s105_4), (tH s105_9), (kT l105_10)])
@[go_sem] def s105_12 (_ : Unit) : IR := (.loop (tH s105_11))
@[go_sem] def s105_13 (_ : Unit) : IR := (.block 0 (tH s105_12))
@[go_sem] def s105_14 (_ : Unit) : IR := (sQ [(kT l105_2), (tH s105_13)])
@[go_sem] def l105_15 (_ : Unit) : KL := [kA 49 (.mv (.t 5)),
  kB 4 (.mv (.t 49)) [4]]
@[go_sem] def s105_16 (_ : Unit) : IR := (sQ [(kT l105_0), (kT l105_1), (tH s105_14), (kT l105_15), .ret])
theorem c105 : compFn Try.prog [(0, [], [oN, oS [1, 2]]), (1, [], [oN, oN, oN, oS [1, 2, 5]]), (2, [], [oN, oN, oN, oN, oS [1, 2, 5, 6]]), (3, [], [oN, oS [1, 2, 5, 6, 16]]), (5, [(0, []), (1, []), (2, []), (3, []), (4, []), (5, []), (6, []), (7, []), (8, []), (9, []), (10, []), (11, []), (12, []), (13, []), (14, [])], [oS [1, 2, 5, 6, 7]]), (6, [(0, []), (1, []), (2, []), (3, []), (4, []), (5, []), (6, []), (7, []), (8, []), (9, []), (10, []), (11, []), (12, []), (13, [])], [oS [1, 2, 5, 6, 7]]), (7, [], [oN, oN, oN, oS [1, 2, 5, 6]]), (4, [], [oN, oN, oS [1, 2, 5, 6]]), (8, [], [oN, oS [4]])] Try.f105 = some ⟨2, 50, [.t 4], (tH s105_16)⟩ := by kernel_rfl
theorem v_spec_l4State (hl : vs.length = 2) (h : wpV Try.prog (tH s105_16) (postV [.t 4] RV) (envV vs) M) : VCall Try.prog n_spec_l4State vs M RV :=
  vcall_of_wp (fun _ _ _ hl h => acall_of_wp mixed Try.func105 c105 (by kernel_rfl) hl h) hl h
@[go_sem] def l69_0 (_ : Unit) : KL := [kA 1 (.box (.t 0)),
  kB 2 (.mv (.c (.sl none 0 0 true 0))) [1]]
@[go_sem] def l69_1 (_ : Unit) : KL := [kA 7 (.bslc 1 0 [(.sl none 0 0 true 0)] []),
  kB 3 (.mv (.t 7)) [1, 3]]
@[go_sem] def l69_2 (_ : Unit) : KL := [kB 4 (.mv (cI 0)) [1, 3, 4]]
@[go_sem] def l69_3 (_ : Unit) : KL := [kA 8 (.mv (.t 4)),
  kA 9 (.faddr (.t 1) 1),
  kA 10 (.load (.t 9) 1 false),
  kA 11 (.len (.t 10)),
  kB 12 (.bin .lss (.t 8) (.t 11)) [1, 3, 4, 12]]
@[go_sem] def s69_4 (_ : Unit) : IR := (sQ [(kT l69_3), (.cond (.t 12) .skip (.exit 0))])
@[go_sem] def l69_5 (_ : Unit) : KL := [kA 15 (.load (.t 1) 2 true),
  kA 16 (.call (n_spec_SizeOf) [(.t 15)]),
  kA 17 (.mks [(.bool false)] 1 (.t 16)),
  kB 5 (.mv (.t 17)) [1, 3, 4, 5]]
@[go_sem] def l69_6 (_ : Unit) : KL := [kB 6 (.mv (cI 0)) [1, 3, 4, 5, 6]]
@[go_sem] def l69_7 (_ : Unit) : KL := [kA 18 (.mv (.t 6)),
  kA 19 (.mv (.t 5)),
  kA 20 (.len (.t 19)),
  kB 21 (.bin .lss (.t 18) (.t 20)) [1, 3, 4, 5, 6, 21]]
@[go_sem] def s69_8 (_ : Unit) : IR := (sQ [(kT l69_7), (.cond (.t 21) .skip (.exit 2))])
@[go_sem] def l69_9 : Nat → GOp
  | 0 => ⟨(some 24), .mv (.t 5), none⟩
  | 1 => ⟨(some 25), .mv (.t 6), none⟩
  | 2 => ⟨(some 26), .load (.t 1) 2 true, none⟩
  | 3 => ⟨(some 27), .load (.t 1) 2 true, none⟩
  | 4 => ⟨(some 28), .mv (.t 6), none⟩
  | 5 => ⟨(some 29), .call (n_spec_l4State) [(.t 27), (.t 28)], none⟩
  | 6 => ⟨(some 30), .mv (.t 4), none⟩
  | 7 => ⟨(some 31), .call (n_spec_l2Use) [(.t 26), (.t 29), (.t 30)], none⟩
  | 8 => ⟨(some 32), .len (.t 31), none⟩
  | 9 => ⟨(some 33), .bin .gtr (.t 32) (cI 0), none⟩
  | 10 => ⟨(some 34), .iaddr (.t 24) (.t 25) 1, none⟩
  | 11 => ⟨none, .store (.t 34) 1 (.t 33), none⟩
  | _ => ⟨none, .mkmap, none⟩
@[go_sem] def s69_10 (_ : Unit) : IR := (.block 3 (.kd (oF l69_9 12) [(0, []), (1, []), (2, []), (3, []), (4, []), (6, []), (5, [2]), (7, []), (8, []), (9, []), (10, []), (11, [])] [1, 3, 4, 5, 6]))
@[go_sem] def l69_11 (_ : Unit) : KL := [kA 22 (.mv (.t 6)),
  kA 23 (.bin .add (.t 22) (cI 1)),
  kB 6 (.mv (.t 23)) [1, 3, 4, 5, 6]]
@[go_sem] def s69_12 (_ : Unit) : IR := (sQ [(tH s69_8), (tH s69_10), (kT l69_11)])
@[go_sem] def s69_13 (_ : Unit) : IR := (.loop (tH s69_12))
@[go_sem] def s69_14 (_ : Unit) : IR := (.block 2 (tH s69_13))
@[go_sem] def s69_15 (_ : Unit) : IR := (sQ [(kT l69_6), (tH s69_14)])
@[go_sem] def l69_16 (_ : Unit) : KL := [kA 35 (.mv (.t 3)),
  kA 36 (.mv (.t 5)),
  kA 37 (.bslc 1 1 [(.sl none 0 0 true 0)] [(0, (.t 36))]),
  kA 38 (.app 1 24 (.t 35) (.t 37)),
  kB 3 (.mv (.t 38)) [1, 3, 4]]
@[go_sem] def s69_17 (_ : Unit) : IR := (sQ [(kT l69_5), (tH s69_15), (kT l69_16)])
@[go_sem] def s69_18 (_ : Unit) : IR := (.block 1 (tH s69_17))
@[go_sem] def l69_19 (_ : Unit) : KL := [kA 13 (.mv (.t 4)),
  kA 14 (.bin .add (.t 13) (cI 1)),
  kB 4 (.mv (.t 14)) [1, 3, 4]]
@[go_sem] def s69_20 (_ : Unit) : IR := (sQ [(tH s69_4), (tH s69_18), (kT l69_19)])
@[go_sem] def s69_21 (_ : Unit) : IR := (.loop (tH s69_20))
@[go_sem] def s69_22 (_ : Unit) : IR := (.block 0 (tH s69_21))
@[go_sem] def s69_23 (_ : Unit) : IR := (sQ [(kT l69_2), (tH s69_22)])
@[go_sem] def l69_24 (_ : Unit) : KL := [kA 39 (.mv (.t 3)),
  kB 2 (.mv (.t 39)) [2]]
@[go_sem] def s69_25 (_ : Unit) : IR := (sQ [(kT l69_0), (kT l69_1), (tH s69_23), (kT l69_24), .ret])
theorem c69 : compFn Try.prog [(0, [], [oN, oS [1]]), (1, [], [oN, oS [1, 3]]), (2, [], [oS [1, 3, 4]]), (3, [], [oN, oN, oN, oN, oS [1, 3, 4, 12]]), (5, [], [oN, oN, oN, oS [1, 3, 4, 5]]), (6, [], [oS [1, 3, 4, 5, 6]]), (7, [], [oN, oN, oN, oS [1, 3, 4, 5, 6, 21]]), (9, [(0, []), (1, []), (2, []), (3, []), (4, []), (6, []), (5, [2]), (7, []), (8, []), (9, []), (10, []), (11, [])], [oS [1, 3, 4, 5, 6]]), (8, [], [oN, oN, oS [1, 3, 4, 5, 6]]), (10, [], [oN, oN, oN, oN, oS [1, 3, 4]]), (4, [], [oN, oN, oS [1, 3, 4]]), (11, [], [oN, oS [2]])] Try.f69 = some ⟨1, 40, [.t 2], (tH s69_25)⟩ := by kernel_rfl
theorem v_spec_l23Usable (hl : vs.length = 1) (h : wpV Try.prog (tH s69_25) (postV [.t 2] RV) (envV vs) M) : VCall Try.prog n_spec_l23Usable vs M RV :=
  vcall_of_wp (fun _ _ _ hl h => acall_of_wp mixed Try.func69 c69 (by kernel_rfl) hl h) hl h
@[go_sem] def l70_0 (_ : Unit) : KL := [kB 4 (.mv (.c (.bool false))) [0, 1]]
@[go_sem] def l70_1 (_ : Unit) : KL := [kB 5 (.mv (cI 0)) [0, 1, 5]]
@[go_sem] def l70_2 (_ : Unit) : KL := [kA 6 (.mv (.t 5)),
  kA 7 (.mv (.t 0)),
  kA 8 (.len (.t 7)),
  kB 9 (.bin .lss (.t 6) (.t 8)) [0, 1, 5, 9]]
@[go_sem] def s70_3 (_ : Unit) : IR := (sQ [(kT l70_2), (.cond (.t 9) .skip (.exit 0))])
@[go_sem] def l70_4 (_ : Unit) : KL := [kA 12 (.mv (.t 0)),
  kA 13 (.mv (.t 5)),
  kA 14 (.iaddr (.t 12) (.t 13) 1),
  kA 15 (.load (.t 14) 1 false),
  kB 16 (.mv (.t 1)) [0, 1, 5, 15, 16],
  kB 17 (.bin .eql (.t 15) (.t 16)) [0, 1, 5, 17]]
@[go_sem] def l70_5 (_ : Unit) : KL := [kB 4 (.mv (.c (.bool true))) [4]]
@[go_sem] def s70_6 (_ : Unit) : IR := (sQ [(kT l70_5), .ret])
@[go_sem] def s70_7 (_ : Unit) : IR := (sQ [(kT l70_4), (.cond (.t 17) (tH s70_6) .skip)])
@[go_sem] def s70_8 (_ : Unit) : IR := (.block 1 (tH s70_7))
@[go_sem] def l70_9 (_ : Unit) : KL := [kA 10 (.mv (.t 5)),
  kA 11 (.bin .add (.t 10) (cI 1)),
  kB 5 (.mv (.t 11)) [0, 1, 5]]
@[go_sem] def s70_10 (_ : Unit) : IR := (sQ [(tH s70_3), (tH s70_8), (kT l70_9)])
@[go_sem] def s70_11 (_ : Unit) : IR := (.loop (tH s70_10))
@[go_sem] def s70_12 (_ : Unit) : IR := (.block 0 (tH s70_11))
@[go_sem] def s70_13 (_ : Unit) : IR := (sQ [(kT l70_1), (tH s70_12)])
@[go_sem] def l70_14 (_ : Unit) : KL := [kB 4 (.mv (.c (.bool false))) [4]]
@[go_sem] def s70_15 (_ : Unit) : IR := (sQ [(kT l70_0), (tH s70_13), (kT l70_14), .ret])
theorem c70 : compFn Try.prog [(0, [], [oS [0, 1]]), (1, [], [oS [0, 1, 5]]), (2, [], [oN, oN, oN, oS [0, 1, 5, 9]]), (4, [], [oN, oN, oN, oN, oS [0, 1, 5, 15, 16], oS [0, 1, 5, 17]]), (5, [], [oS [4]]), (3, [], [oN, oN, oS [0, 1, 5]]), (6, [], [oS [4]])] Try.f70 = some ⟨2, 18, [.t 4], (tH s70_15)⟩ := by kernel_rfl
theorem v_spec_l2Has (hl : vs.length = 2) (h : wpV Try.prog (tH s70_15) (postV [.t 4] RV) (envV vs) M) : VCall Try.prog n_spec_l2Has vs M RV :=
  vcall_of_wp (fun _ _ _ hl h => acall_of_wp mixed Try.func70 c70 (by kernel_rfl) hl h) hl h
@[go_sem] def l106_0 (_ : Unit) : KL := [kA 2 (.box (.t 0)),
  kB 4 (.mv (cI 0)) [1, 2]]
@[go_sem] def l106_1 (_ : Unit) : KL := [kB 5 (.mv (cI 0)) [1, 2, 5]]
@[go_sem] def l106_2 (_ : Unit) : KL := [kB 6 (.mv (cI 0)) [1, 2, 5, 6]]
@[go_sem] def l106_3 (_ : Unit) : KL := [kA 7 (.mv (.t 6)),
  kA 8 (.mv (.t 1)),
  kA 9 (.len (.t 8)),
  kB 10 (.bin .lss (.t 7) (.t 9)) [1, 2, 5, 6, 10]]
@[go_sem] def s106_4 (_ : Unit) : IR := (sQ [(kT l106_3), (.cond (.t 10) .skip (.exit 0))])
@[go_sem] def l106_5 : Nat → GOp
  | 0 => ⟨(some 13), .mv (.t 5), none⟩
  | 1 => ⟨(some 14), .faddr (.t 2) 0, none⟩
  | 2 => ⟨(some 15), .load (.t 14) 1 false, none⟩
  | 3 => ⟨(some 16), .mv (.t 6), none⟩
  | 4 => ⟨(some 17), .iaddr (.t 15) (.t 16) 3, none⟩
  | 5 => ⟨(some 18), .faddr (.t 17) 1, none⟩
  | 6 => ⟨(some 19), .load (.t 18) 1 false, none⟩
  | 7 => ⟨(some 20), .faddr (.t 2) 0, none⟩
  | 8 => ⟨(some 21), .load (.t 20) 1 false, none⟩
  | 9 => ⟨(some 22), .mv (.t 6), none⟩
  | 10 => ⟨(some 23), .iaddr (.t 21) (.t 22) 3, none⟩
  | 11 => ⟨(some 24), .faddr (.t 23) 0, none⟩
  | 12 => ⟨(some 25), .load (.t 24) 1 false, none⟩
  | 13 => ⟨(some 26), .bin .sub (.t 19) (.t 25), none⟩
  | 14 => ⟨(some 27), .bin .add (.t 26) (cI 1), none⟩
  | 15 => ⟨(some 28), .bin .mul (.t 13) (.t 27), none⟩
  | 16 => ⟨(some 29), .mv (.t 1), none⟩
  | 17 => ⟨(some 30), .mv (.t 6), none⟩
  | 18 => ⟨(some 31), .iaddr (.t 29) (.t 30) 1, none⟩
  | 19 => ⟨(some 32), .load (.t 31) 1 false, none⟩
  | 20 => ⟨(some 33), .bin .add (.t 28) (.t 32), none⟩
  | 21 => ⟨(some 34), .faddr (.t 2) 0, none⟩
  | 22 => ⟨(some 35), .load (.t 34) 1 false, none⟩
  | 23 => ⟨(some 36), .mv (.t 6), none⟩
  | 24 => ⟨(some 37), .iaddr (.t 35) (.t 36) 3, none⟩
  | 25 => ⟨(some 38), .faddr (.t 37) 0, none⟩
  | 26 => ⟨(some 39), .load (.t 38) 1 false, none⟩
  | 27 => ⟨(some 40), .bin .sub (.t 33) (.t 39), none⟩
  | 28 => ⟨(some 5), .mv (.t 40), none⟩
  | _ => ⟨none, .mkmap, none⟩
@[go_sem] def s106_6 (_ : Unit) : IR := (.block 1 (.kd (oF l106_5 29) [(0, []), (1, []), (2, []), (3, []), (4, []), (5, []), (6, []), (7, []), (8, []), (9, []), (10, []), (11, []), (12, []), (13, []), (14, []), (15, []), (16, []), (17, []), (18, []), (19, []), (20, []), (21, []), (22, []), (23, []), (24, []), (25, []), (26, []), (27, []), (28, [])] [1, 2, 5, 6]))
@[go_sem] def l106_7 (_ : Unit) : KL := [kA 11 (.mv (.t 6)),
  kA 12 (.bin .add (.t 11) (cI 1)),
  kB 6 (.mv (.t 12)) [1, 2, 5, 6]]
@[go_sem] def s106_8 (_ : Unit) : IR := (sQ [(tH s106_4), (tH s106_6), (kT l106_7)])
@[go_sem] def s106_9 (_ : Unit) : IR := (.loop (tH s106_8))
@[go_sem] def s106_10 (_ : Unit) : IR := (.block 0 (tH s106_9))
@[go_sem] def s106_11 (_ : Unit) : IR := (sQ [(kT l106_2), (tH s106_10)])
@[go_sem] def l106_12 (_ : Unit) : KL := [kA 41 (.mv (.t 5)),
  kB 4 (.mv (.t 41)) [4]]
@[go_sem] def s106_13 (_ : Unit) : IR := (sQ [(kT l106_0), (kT l106_1), (tH s106_11), (kT l106_12), .ret])
theorem c106 : compFn Try.prog [(0, [], [oN, oS [1, 2]]), (1, [], [oS [1, 2, 5]]), (2, [], [oS [1, 2, 5, 6]]), (3, [], [oN, oN, oN, oS [1, 2, 5, 6, 10]]), (5, [(0, []), (1, []), (2, []), (3, []), (4, []), (5, []), (6, []), (7, []), (8, []), (9, []), (10, []), (11, []), (12, []), (13, []), (14, []), (15, []), (16, []), (17, []), (18, []), (19, []), (20, []), (21, []), (22, []), (23, []), (24, []), (25, []), (26, []), (27, []), (28, [])], [oS [1, 2, 5, 6]]), (4, [], [oN, oN, oS [1, 2, 5, 6]]), (6, [], [oN, oS [4]])] Try.f106 = some ⟨2, 42, [.t 4], (tH s106_13)⟩ := by kernel_rfl
theorem v_spec_l4Number (hl : vs.length = 2) (h : wpV Try.prog (tH s106_13) (postV [.t 4] RV) (envV vs) M) : VCall Try.prog n_spec_l4Number vs M RV :=
  vcall_of_wp (fun _ _ _ hl h => acall_of_wp mixed Try.func106 c106 (by kernel_rfl) hl h) hl h
@[go_sem] def l71_0 (_ : Unit) : KL := [kA 3 (.box (.t 0)),
  kB 6 (.mv (cI 0)) [1, 2, 3]]
@[go_sem] def l71_1 (_ : Unit) : KL := [kB 7 (.mv (cI 0)) [1, 2, 3, 7]]
@[go_sem] def l71_2 (_ : Unit) : KL := [kB 8 (.mv (cI 0)) [1, 2, 3, 7, 8]]
@[go_sem] def l71_3 (_ : Unit) : KL := [kA 9 (.mv (.t 8)),
  kA 10 (.mv (.t 2)),
  kA 11 (.len (.t 10)),
  kB 12 (.bin .lss (.t 9) (.t 11)) [1, 2, 3, 7, 8, 12]]
@[go_sem] def s71_4 (_ : Unit) : IR := (sQ [(kT l71_3), (.cond (.t 12) .skip (.exit 0))])
@[go_sem] def l71_5 : Nat → GOp
  | 0 => ⟨(some 15), .mv (.t 1), none⟩
  | 1 => ⟨(some 16), .load (.t 3) 2 true, none⟩
  | 2 => ⟨(some 17), .mv (.t 2), none⟩
  | 3 => ⟨(some 18), .mv (.t 8), none⟩
  | 4 => ⟨(some 19), .iaddr (.t 17) (.t 18) 1, none⟩
  | 5 => ⟨(some 20), .load (.t 19) 1 false, none⟩
  | 6 => ⟨(some 21), .call (n_spec_l4Number) [(.t 16), (.t 20)], none⟩
  | 7 => ⟨(some 22), .iaddr (.t 15) (.t 21) 1, none⟩
  | 8 => ⟨(some 23), .load (.t 22) 1 false, none⟩
  | _ => ⟨none, .mkmap, none⟩
@[go_sem] def l71_6 (_ : Unit) : KL := [kA 24 (.mv (.t 7)),
  kA 25 (.bin .add (.t 24) (cI 1)),
  kB 7 (.mv (.t 25)) [1, 2, 3, 7, 8]]
@[go_sem] def s71_7 (_ : Unit) : IR := (sQ [(.kd (oF l71_5 9) [(0, []), (1, []), (2, []), (3, []), (4, []), (5, []), (6, []), (7, []), (8, [])] [1, 2, 3, 7, 8, 23]), (.cond (.t 23) (kT l71_6) .skip)])
@[go_sem] def s71_8 (_ : Unit) : IR := (.block 1 (tH s71_7))
@[go_sem] def l71_9 (_ : Unit) : KL := [kA 13 (.mv (.t 8)),
  kA 14 (.bin .add (.t 13) (cI 1)),
  kB 8 (.mv (.t 14)) [1, 2, 3, 7, 8]]
@[go_sem] def s71_10 (_ : Unit) : IR := (sQ [(tH s71_4), (tH s71_8), (kT l71_9)])
@[go_sem] def s71_11 (_ : Unit) : IR := (.loop (tH s71_10))
@[go_sem] def s71_12 (_ : Unit) : IR := (.block 0 (tH s71_11))
@[go_sem] def s71_13 (_ : Unit) : IR := (sQ [(kT l71_2), (tH s71_12)])
@[go_sem] def l71_14 (_ : Unit) : KL := [kA 26 (.mv (.t 7)),
  kB 6 (.mv (.t 26)) [6]]
@[go_sem] def s71_15 (_ : Unit) : IR := (sQ [(kT l71_0), (kT l71_1), (tH s71_13), (kT l71_14), .ret])
theorem c71 : compFn Try.prog [(0, [], [oN, oS [1, 2, 3]]), (1, [], [oS [1, 2, 3, 7]]), (2, [], [oS [1, 2, 3, 7, 8]]), (3, [], [oN, oN, oN, oS [1, 2, 3, 7, 8, 12]]), (5, [(0, []), (1, []), (2, []), (3, []), (4, []), (5, []), (6, []), (7, []), (8, [])], [oS [1, 2, 3, 7, 8, 23]]), (6, [], [oN, oN, oS [1, 2, 3, 7, 8]]), (4, [], [oN, oN, oS [1, 2, 3, 7, 8]]), (7, [], [oN, oS [6]])] Try.f71 = some ⟨3, 27, [.t 6], (tH s71_15)⟩ := by kernel_rfl
theorem v_spec_l23Often (hl : vs.length = 3) (h : wpV Try.prog (tH s71_15) (postV [.t 6] RV) (envV vs) M) : VCall Try.prog n_spec_l23Often vs M RV :=
  vcall_of_wp (fun _ _ _ hl h => acall_of_wp mixed Try.func71 c71 (by kernel_rfl) hl h) hl h
@[go_sem] def l33_0 (_ : Unit) : KL := [kA 5 (.box (.t 0)),
  kB 10 (.mv (.c (.bool false))) [1, 2, 3, 4, 5]]
@[go_sem] def l33_1 (_ : Unit) : KL := [kA 17 (.load (.t 5) 2 true),
  kA 18 (.mv (.t 3)),
  kA 19 (.mv (.t 4)),
  kA 20 (.call (n_spec_RoundFrom) [(.t 17), (.t 18), (.t 19)]),
  kB 16 (.mv (.t 20)) [1, 2, 4, 5, 16],
  kA 21 (.ext (.t 16) 0),
  kA 22 (.ext (.t 16) 1),
  kA 11 (.mv (.t 21)),
  kB 12 (.mv (.t 22)) [1, 2, 4, 5, 11, 12]]
@[go_sem] def l33_2 (_ : Unit) : KL := [kA 23 (.mv (.t 12)),
  kA 24 (.un .not (.t 23)),
  kA 25 (.mv (.t 24)),
  (⟨(some 26), .load (.t 5) 2 true, (some (25, false))⟩, none),
  (⟨(some 27), .mv (.t 1), (some (25, false))⟩, (some [1, 2, 4, 5, 11, 25, 26, 27])),
  (⟨(some 28), .mv (.t 2), (some (25, false))⟩, none),
  (⟨(some 29), .call (n_spec_l23Asked) [(.t 26), (.t 27), (.t 28)], (some (25, false))⟩, none),
  (⟨(some 30), .un .not (.t 29), (some (25, false))⟩, none),
  kB 31 (.pick (.t 25) (.c (.bool true)) (.t 30)) [1, 2, 4, 5, 11, 31]]
@[go_sem] def l33_3 (_ : Unit) : KL := [kB 10 (.mv (.c (.bool false))) [10]]
@[go_sem] def s33_4 (_ : Unit) : IR := (sQ [(kT l33_3), .ret])
@[go_sem] def s33_5 (_ : Unit) : IR := (sQ [(kT l33_2), (.cond (.t 31) (tH s33_4) .skip)])
@[go_sem] def l33_6 (_ : Unit) : KL := [kA 32 (.load (.t 5) 2 true),
  kA 33 (.call (n_spec_l23Usable) [(.t 32)]),
  kB 13 (.mv (.t 33)) [1, 2, 4, 5, 11, 13]]
@[go_sem] def l33_7 (_ : Unit) : KL := [kB 14 (.mv (cI 0)) [1, 2, 4, 5, 11, 13, 14]]
@[go_sem] def l33_8 (_ : Unit) : KL := [kA 34 (.mv (.t 14)),
  kA 35 (.mv (.t 1)),
  kA 36 (.len (.t 35)),
  kB 37 (.bin .lss (.t 34) (.t 36)) [1, 2, 4, 5, 11, 13, 14, 37]]
@[go_sem] def s33_9 (_ : Unit) : IR := (sQ [(kT l33_8), (.cond (.t 37) .skip (.exit 0))])
@[go_sem] def l33_10 : Nat → GOp
  | 0 => ⟨(some 40), .mv (.t 4), none⟩
  | 1 => ⟨(some 41), .mv (.t 1), none⟩
  | 2 => ⟨(some 42), .mv (.t 14), none⟩
  | 3 => ⟨(some 43), .iaddr (.t 41) (.t 42) 1, none⟩
  | 4 => ⟨(some 44), .load (.t 43) 1 false, none⟩
  | 5 => ⟨(some 45), .call (n_spec_l2Has) [(.t 40), (.t 44)], none⟩
  | 6 => ⟨(some 46), .un .not (.t 45), none⟩
  | 7 => ⟨(some 47), .mv (.t 46), none⟩
  | 8 => ⟨(some 48), .mv (.t 11), (some (47, true))⟩
  | 9 => ⟨(some 49), .len (.t 48), (some (47, true))⟩
  | 10 => ⟨(some 50), .bin .gtr (.t 49) (cI 0), (some (47, true))⟩
  | 11 => ⟨(some 51), .pick (.t 47) (.t 50) (.c (.bool false)), none⟩
  | 12 => ⟨(some 52), .mv (.t 51), none⟩
  | 13 => ⟨(some 53), .load (.t 5) 2 true, (some (52, true))⟩
  | 14 => ⟨(some 54), .mv (.t 13), (some (52, true))⟩
  | 15 => ⟨(some 55), .mv (.t 1), (some (52, true))⟩
  | 16 => ⟨(some 56), .mv (.t 14), (some (52, true))⟩
  | 17 => ⟨(some 57), .iaddr (.t 55) (.t 56) 1, (some (52, true))⟩
  | 18 => ⟨(some 58), .load (.t 57) 1 false, (some (52, true))⟩
  | 19 => ⟨(some 59), .iaddr (.t 54) (.t 58) 1, (some (52, true))⟩
  | 20 => ⟨(some 60), .load (.t 59) 1 false, (some (52, true))⟩
  | 21 => ⟨(some 61), .mv (.t 11), (some (52, true))⟩
  | 22 => ⟨(some 62), .call (n_spec_l23Often) [(.t 53), (.t 60), (.t 61)], (some (52, true))⟩
  | 23 => ⟨(some 63), .mv (.t 11), (some (52, true))⟩
  | 24 => ⟨(some 64), .len (.t 63), (some (52, true))⟩
  | 25 => ⟨(some 65), .bin .eql (.t 62) (.t 64), (some (52, true))⟩
  | 26 => ⟨(some 66), .pick (.t 52) (.t 65) (.c (.bool false)), none⟩
  | _ => ⟨none, .mkmap, none⟩
@[go_sem] def l33_11 (_ : Unit) : KL := [kB 10 (.mv (.c (.bool false))) [10]]
@[go_sem] def s33_12 (_ : Unit) : IR := (sQ [(kT l33_11), .ret])
@[go_sem] def s33_13 (_ : Unit) : IR := (sQ [(.kd (oF l33_10 27) [(0, []), (1, []), (2, []), (3, []), (4, []), (5, []), (6, []), (7, []), (8, []), (9, []), (10, []), (11, []), (12, []), (13, []), (14, []), (15, []), (16, []), (17, []), (18, []), (19, []), (20, []), (21, []), (23, []), (24, []), (22, []), (25, []), (26, [])] [1, 2, 4, 5, 11, 13, 14, 66]), (.cond (.t 66) (tH s33_12) .skip)])
@[go_sem] def s33_14 (_ : Unit) : IR := (.block 1 (tH s33_13))
@[go_sem] def l33_15 (_ : Unit) : KL := [kA 38 (.mv (.t 14)),
  kA 39 (.bin .add (.t 38) (cI 1)),
  kB 14 (.mv (.t 39)) [1, 2, 4, 5, 11, 13, 14]]
@[go_sem] def s33_16 (_ : Unit) : IR := (sQ [(tH s33_9), (tH s33_14), (kT l33_15)])
@[go_sem] def s33_17 (_ : Unit) : IR := (.loop (tH s33_16))
@[go_sem] def s33_18 (_ : Unit) : IR := (.block 0 (tH s33_17))
@[go_sem] def s33_19 (_ : Unit) : IR := (sQ [(kT l33_7), (tH s33_18)])
@[go_sem] def l33_20 (_ : Unit) : KL := [kB 15 (.mv (cI 0)) [2, 4, 5, 11, 13, 15]]
@[go_sem] def l33_21 (_ : Unit) : KL := [kA 67 (.mv (.t 15)),
  kA 68 (.mv (.t 2)),
  kA 69 (.len (.t 68)),
  kB 70 (.bin .lss (.t 67) (.t 69)) [2, 4, 5, 11, 13, 15, 70]]
@[go_sem] def s33_22 (_ : Unit) : IR := (sQ [(kT l33_21), (.cond (.t 70) .skip (.exit 2))])
@[go_sem] def l33_23 : Nat → GOp
  | 0 => ⟨(some 73), .mv (.t 4), none⟩
  | 1 => ⟨(some 74), .mv (.t 2), none⟩
  | 2 => ⟨(some 75), .mv (.t 15), none⟩
  | 3 => ⟨(some 76), .iaddr (.t 74) (.t 75) 1, none⟩
  | 4 => ⟨(some 77), .load (.t 76) 1 false, none⟩
  | 5 => ⟨(some 78), .call (n_spec_l2Has) [(.t 73), (.t 77)], none⟩
  | 6 => ⟨(some 79), .un .not (.t 78), none⟩
  | 7 => ⟨(some 80), .mv (.t 79), none⟩
  | 8 => ⟨(some 81), .load (.t 5) 2 true, (some (80, true))⟩
  | 9 => ⟨(some 82), .mv (.t 13), (some (80, true))⟩
  | 10 => ⟨(some 83), .mv (.t 2), (some (80, true))⟩
  | 11 => ⟨(some 84), .mv (.t 15), (some (80, true))⟩
  | 12 => ⟨(some 85), .iaddr (.t 83) (.t 84) 1, (some (80, true))⟩
  | 13 => ⟨(some 86), .load (.t 85) 1 false, (some (80, true))⟩
  | 14 => ⟨(some 87), .iaddr (.t 82) (.t 86) 1, (some (80, true))⟩
  | 15 => ⟨(some 88), .load (.t 87) 1 false, (some (80, true))⟩
  | 16 => ⟨(some 89), .mv (.t 11), (some (80, true))⟩
  | 17 => ⟨(some 90), .call (n_spec_l23Often) [(.t 81), (.t 88), (.t 89)], (some (80, true))⟩
  | 18 => ⟨(some 91), .bin .gtr (.t 90) (cI 0), (some (80, true))⟩
  | 19 => ⟨(some 92), .pick (.t 80) (.t 91) (.c (.bool false)), none⟩
  | _ => ⟨none, .mkmap, none⟩
@[go_sem] def l33_24 (_ : Unit) : KL := [kB 10 (.mv (.c (.bool false))) [10]]
@[go_sem] def s33_25 (_ : Unit) : IR := (sQ [(kT l33_24), .ret])
@[go_sem] def s33_26 (_ : Unit) : IR := (sQ [(.kd (oF l33_23 20) [(0, []), (1, []), (2, []), (3, []), (4, []), (5, []), (6, []), (7, []), (8, []), (9, []), (10, []), (11, []), (12, []), (13, []), (14, []), (15, []), (16, []), (17, []), (18, []), (19, [])] [2, 4, 5, 11, 13, 15, 92]), (.cond (.t 92) (tH s33_25) .skip)])
@[go_sem] def s33_27 (_ : Unit) : IR := (.block 3 (tH s33_26))
@[go_sem] def l33_28 (_ : Unit) : KL := [kA 71 (.mv (.t 15)),
  kA 72 (.bin .add (.t 71) (cI 1)),
  kB 15 (.mv (.t 72)) [2, 4, 5, 11, 13, 15]]
@[go_sem] def s33_29 (_ : Unit) : IR := (sQ [(tH s33_22), (tH s33_27), (kT l33_28)])
@[go_sem] def s33_30 (_ : Unit) : IR := (.loop (tH s33_29))
@[go_sem] def s33_31 (_ : Unit) : IR := (.block 2 (tH s33_30))
@[go_sem] def s33_32 (_ : Unit) : IR := (sQ [(kT l33_20), (tH s33_31)])
@[go_sem] def l33_33 (_ : Unit) : KL := [kB 10 (.mv (.c (.bool true))) [10]]
@[go_sem] def s33_34 (_ : Unit) : IR := (sQ [(kT l33_0), (kT l33_1), (tH s33_5), (kT l33_6), (tH s33_19), (tH s33_32), (kT l33_33), .ret])
theorem c33 : compFn Try.prog [(0, [], [oN, oS [1, 2, 3, 4, 5]]), (1, [], [oN, oN, oN, oN, oS [1, 2, 4, 5, 16], oN, oN, oN, oS [1, 2, 4, 5, 11, 12]]), (2, [], [oN, oN, oN, oN, oS [1, 2, 4, 5, 11, 25, 26, 27], oN, oN, oN, oS [1, 2, 4, 5, 11, 31]]), (3, [], [oS [10]]), (4, [], [oN, oN, oS [1, 2, 4, 5, 11, 13]]), (5, [], [oS [1, 2, 4, 5, 11, 13, 14]]), (6, [], [oN, oN, oN, oS [1, 2, 4, 5, 11, 13, 14, 37]]), (8, [(0, []), (1, []), (2, []), (3, []), (4, []), (5, []), (6, []), (7, []), (8, []), (9, []), (10, []), (11, []), (12, []), (13, []), (14, []), (15, []), (16, []), (17, []), (18, []), (19, []), (20, []), (21, []), (23, []), (24, []), (22, []), (25, []), (26, [])], [oS [1, 2, 4, 5, 11, 13, 14, 66]]), (9, [], [oS [10]]), (7, [], [oN, oN, oS [1, 2, 4, 5, 11, 13, 14]]), (10, [], [oS [2, 4, 5, 11, 13, 15]]), (11, [], [oN, oN, oN, oS [2, 4, 5, 11, 13, 15, 70]]), (13, [(0, []), (1, []), (2, []), (3, []), (4, []), (5, []), (6, []), (7, []), (8, []), (9, []), (10, []), (11, []), (12, []), (13, []), (14, []), (15, []), (16, []), (17, []), (18, []), (19, [])], [oS [2, 4, 5, 11, 13, 15, 92]]), (14, [], [oS [10]]), (12, [], [oN, oN, oS [2, 4, 5, 11, 13, 15]]), (15, [], [oS [10]])] Try.f33 = some ⟨5, 93, [.t 10], (tH s33_34)⟩ := by kernel_rfl
theorem v_spec_RoundFair (hl : vs.length = 5) (h : wpV Try.prog (tH s33_34) (postV [.t 10] RV) (envV vs) M) : VCall Try.prog n_spec_RoundFair vs M RV :=
  vcall_of_wp (fun _ _ _ hl h => acall_of_wp mixed Try.func33 c33 (by kernel_rfl) hl h) hl h
@[go_sem] def l59_0 (_ : Unit) : KL := [kB 6 (.mv (.c (.bool false))) [0, 1, 2]]
@[go_sem] def l59_1 (_ : Unit) : KL := [kA 7 (.mv (.t 0)),
  kA 8 (.mv (.t 1)),
  kA 9 (.bin .geq (.t 7) (.t 8)),
  kA 10 (.mv (.t 9)),
  (⟨(some 11), .mv (.t 0), (some (10, true))⟩, (some [2, 10, 11])),
  (⟨(some 12), .mv (.t 2), (some (10, true))⟩, none),
  (⟨(some 13), .bin .leq (.t 11) (.t 12), (some (10, true))⟩, none),
  kA 14 (.pick (.t 10) (.t 13) (.c (.bool false))),
  kB 6 (.mv (.t 14)) [6]]
@[go_sem] def s59_2 (_ : Unit) : IR := (sQ [(kT l59_0), (kT l59_1), .ret])
theorem c59 : compFn Try.prog [(0, [], [oS [0, 1, 2]]), (1, [], [oN, oN, oN, oN, oS [2, 10, 11], oN, oN, oN, oS [6]])] Try.f59 = some ⟨3, 15, [.t 6], (tH s59_2)⟩ := by kernel_rfl
theorem v_impl_in (hl : vs.length = 3) (h : wpV Try.prog (tH s59_2) (postV [.t 6] RV) (envV vs) M) : VCall Try.prog n_impl_in vs M RV :=
  vcall_of_wp (fun _ _ _ hl h => acall_of_wp mixed Try.func59 c59 (by kernel_rfl) hl h) hl h
@[go_sem] def l123_0 (_ : Unit) : KL := [kB 4 (.mv (cI 0)) [0, 1]]
@[go_sem] def l123_1 (_ : Unit) : KL := [kA 6 (.mv (.t 0)),
  kA 7 (.len (.t 6)),
  kB 8 (.mv (cI 0)) [0, 1, 7, 8]]
@[go_sem] def l123_2 (_ : Unit) : KL := [kB 9 (.bin .lss (.t 8) (.t 7)) [0, 1, 7, 8, 9]]
@[go_sem] def l123_3 (_ : Unit) : KL := [kA 10 (.mv (.t 8)),
  kB 5 (.mv (.t 10)) [0, 1, 5, 7, 8]]
@[go_sem] def l123_4 (_ : Unit) : KL := [kA 11 (.mv (.t 1)),
  kA 12 (.mv (.t 0)),
  kA 13 (.mv (.t 5)),
  kA 14 (.iaddr (.t 12) (.t 13) 3),
  kB 15 (.load (.t 14) 3 true) [0, 1, 5, 7, 8, 11, 15],
  kB 16 (.callv (.t 11) [(.t 15)]) [0, 1, 5, 7, 8, 16]]
@[go_sem] def l123_5 (_ : Unit) : KL := [kA 17 (.mv (.t 5)),
  kB 4 (.mv (.t 17)) [4]]
@[go_sem] def s123_6 (_ : Unit) : IR := (sQ [(kT l123_5), .ret])
@[go_sem] def s123_7 (_ : Unit) : IR := (sQ [(kT l123_3), (kT l123_4), (.cond (.t 16) (tH s123_6) .skip)])
@[go_sem] def s123_8 (_ : Unit) : IR := (.block 1 (tH s123_7))
@[go_sem] def l123_9 (_ : Unit) : KL := [kA 18 (.bin .add (.t 8) (cI 1)),
  kB 8 (.mv (.t 18)) [0, 1, 7, 8]]
@[go_sem] def s123_10 (_ : Unit) : IR := (sQ [(kT l123_2), (.cond (.t 9) .skip (.exit 0)), (tH s123_8), (kT l123_9)])
@[go_sem] def s123_11 (_ : Unit) : IR := (.loop (tH s123_10))
@[go_sem] def s123_12 (_ : Unit) : IR := (.block 0 (tH s123_11))
@[go_sem] def s123_13 (_ : Unit) : IR := (sQ [(kT l123_1), (tH s123_12)])
@[go_sem] def l123_14 (_ : Unit) : KL := [kB 4 (.mv (.c (.int .i64 (-1)))) [4]]
@[go_sem] def s123_15 (_ : Unit) : IR := (sQ [(kT l123_0), (tH s123_13), (kT l123_14), .ret])
theorem c123 : compFn Try.prog [(0, [], [oS [0, 1]]), (1, [], [oN, oN, oS [0, 1, 7, 8]]), (2, [], [oS [0, 1, 7, 8, 9]]), (3, [], [oN, oS [0, 1, 5, 7, 8]]), (4, [], [oN, oN, oN, oN, oS [0, 1, 5, 7, 8, 11, 15], oS [0, 1, 5, 7, 8, 16]]), (5, [], [oN, oS [4]]), (6, [], [oN, oS [0, 1, 7, 8]]), (7, [], [oS [4]])] Try.f123 = some ⟨2, 19, [.t 4], (tH s123_15)⟩ := by kernel_rfl
theorem v_slices_IndexFunc_Simpl_Var_impl_Var (hl : vs.length = 2) (h : wpV Try.prog (tH s123_15) (postV [.t 4] RV) (envV vs) M) : VCall Try.prog n_slices_IndexFunc_Simpl_Var_impl_Var vs M RV :=
  vcall_of_wp (fun _ _ _ hl h => acall_of_wp mixed Try.func123 c123 (by kernel_rfl) hl h) hl h
@[go_sem] def l95_0 (_ : Unit) : KL := [kB 4 (.mv (.c (.bool false))) [0, 1]]
@[go_sem] def l95_1 (_ : Unit) : KL := [kA 5 (.mv (.t 0)),
  kA 6 (.mv (.t 1)),
  kA 7 (.call (n_slices_IndexFunc_Simpl_Var_impl_Var) [(.t 5), (.t 6)]),
  kA 8 (.bin .geq (.t 7) (cI 0)),
  kB 4 (.mv (.t 8)) [4]]
@[go_sem] def s95_2 (_ : Unit) : IR := (sQ [(kT l95_0), (kT l95_1), .ret])
theorem c95 : compFn Try.prog [(0, [], [oS [0, 1]]), (1, [], [oN, oN, oN, oN, oS [4]])] Try.f95 = some ⟨2, 9, [.t 4], (tH s95_2)⟩ := by kernel_rfl
theorem v_slices_ContainsFunc_Simpl_Var_impl_Var (hl : vs.length = 2) (h : wpV Try.prog (tH s95_2) (postV [.t 4] RV) (envV vs) M) : VCall Try.prog n_slices_ContainsFunc_Simpl_Var_impl_Var vs M RV :=
  vcall_of_wp (fun _ _ _ hl h => acall_of_wp mixed Try.func95 c95 (by kernel_rfl) hl h) hl h
@[go_sem] def l97_0 (_ : Unit) : KL := [kA 1 (.box (.t 0)),
  kB 2 (.mv (.c (.bool false))) [1]]
@[go_sem] def l97_1 (_ : Unit) : KL := [kA 3 (.faddr (.t 1) 0),
  kA 4 (.load (.t 3) 1 false),
  kA 5 (.call (n_impl_in) [(.t 4), (.c (.int .i64 (-9999))), (.c (.int .i64 9999))]),
  kA 6 (.mv (.t 5)),
  (⟨(some 7), .faddr (.t 1) 1, (some (6, true))⟩, (some [1, 6, 7])),
  (⟨(some 8), .load (.t 7) 1 false, (some (6, true))⟩, none),
  (⟨(some 9), .faddr (.t 1) 0, (some (6, true))⟩, none),
  (⟨(some 10), .load (.t 9) 1 false, (some (6, true))⟩, none),
  (⟨(some 11), .call (n_impl_in) [(.t 8), (.t 10), (.c (.int .i64 9999))], (some (6, true))⟩, none),
  kB 12 (.pick (.t 6) (.t 11) (.c (.bool false))) [1, 12],
  kA 13 (.mv (.t 12)),
  (⟨(some 14), .faddr (.t 1) 1, (some (13, true))⟩, none),
  (⟨(some 15), .load (.t 14) 1 false, (some (13, true))⟩, none),
  (⟨(some 16), .faddr (.t 1) 0, (some (13, true))⟩, none),
  (⟨(some 17), .load (.t 16) 1 false, (some (13, true))⟩, (some [1, 13, 15, 17])),
  (⟨(some 18), .bin .sub (.t 15) (.t 17), (some (13, true))⟩, none),
  (⟨(some 19), .bin .lss (.t 18) (.c (.int .i64 20)), (some (13, true))⟩, none),
  kA 20 (.pick (.t 13) (.t 19) (.c (.bool false))),
  kA 21 (.mv (.t 20)),
  (⟨(some 22), .faddr (.t 1) 2, (some (21, true))⟩, (some [1, 21, 22])),
  (⟨(some 23), .load (.t 22) 1 false, (some (21, true))⟩, none),
  (⟨(some 24), .faddr (.t 1) 0, (some (21, true))⟩, none),
  (⟨(some 25), .load (.t 24) 1 false, (some (21, true))⟩, none),
  (⟨(some 26), .faddr (.t 1) 1, (some (21, true))⟩, none),
  (⟨(some 27), .load (.t 26) 1 false, (some (21, true))⟩, (some [21, 23, 25, 27])),
  (⟨(some 28), .call (n_impl_in) [(.t 23), (.t 25), (.t 27)], (some (21, true))⟩, none),
  kA 29 (.pick (.t 21) (.t 28) (.c (.bool false))),
  kB 2 (.mv (.t 29)) [2]]
@[go_sem] def s97_2 (_ : Unit) : IR := (sQ [(kT l97_0), (kT l97_1), .ret])
theorem c97 : compFn Try.prog [(0, [], [oN, oS [1]]), (1, [], [oN, oN, oN, oN, oS [1, 6, 7], oN, oN, oN, oN, oS [1, 12], oN, oN, oN, oN, oS [1, 13, 15, 17], oN, oN, oN, oN, oS [1, 21, 22], oN, oN, oN, oN, oS [21, 23, 25, 27], oN, oN, oS [2]])] Try.f97 = some ⟨1, 30, [.t 2], (tH s97_2)⟩ := by kernel_rfl
theorem v_impl_varOk (hl : vs.length = 1) (h : wpV Try.prog (tH s97_2) (postV [.t 2] RV) (envV vs) M) : VCall Try.prog n_impl_varOk vs M RV :=
  vcall_of_wp (fun _ _ _ hl h => acall_of_wp mixed Try.func97 c97 (by kernel_rfl) hl h) hl h
@[go_sem] def l96_0 (_ : Unit) : KL := [kA 1 (.box (.t 0)),
  kB 2 (.mv (.c (.bool false))) [1]]
@[go_sem] def l96_1 (_ : Unit) : KL := [kA 3 (.load (.t 1) 3 true),
  kA 4 (.call (n_impl_varOk) [(.t 3)]),
  kA 5 (.un .not (.t 4)),
  kB 2 (.mv (.t 5)) [2]]
@[go_sem] def s96_2 (_ : Unit) : IR := (sQ [(kT l96_0), (kT l96_1), .ret])
theorem c96 : compFn Try.prog [(0, [], [oN, oS [1]]), (1, [], [oN, oN, oN, oS [2]])] Try.f96 = some ⟨1, 6, [.t 2], (tH s96_2)⟩ := by kernel_rfl
theorem v_impl_SystemValid_1 (hl : vs.length = 1) (h : wpV Try.prog (tH s96_2) (postV [.t 2] RV) (envV vs) M) : VCall Try.prog n_impl_SystemValid_1 vs M RV :=
  vcall_of_wp (fun _ _ _ hl h => acall_of_wp mixed Try.func96 c96 (by kernel_rfl) hl h) hl h
@[go_sem] def l98_0 (_ : Unit) : KL := [kB 2 (.mv (cI 0)) [0]]
@[go_sem] def l98_1 (_ : Unit) : KL := [kB 3 (.mv (cI 1)) [0, 3]]
@[go_sem] def l98_2 (_ : Unit) : KL := [kA 6 (.mv (.t 0)),
  kA 7 (.len (.t 6)),
  kB 8 (.mv (cI 0)) [3, 6, 7, 8]]
@[go_sem] def l98_3 (_ : Unit) : KL := [kB 9 (.bin .lss (.t 8) (.t 7)) [3, 6, 7, 8, 9]]
@[go_sem] def l98_4 (_ : Unit) : KL := [kA 10 (.iaddr (.t 6) (.t 8) 3),
  kA 11 (.load (.t 10) 3 true),
  kA 5 (.alloc [(.int .i64 0), (.int .i64 0), (.int .i64 0)]),
  (⟨none, .store (.t 5) 3 (.t 11), none⟩, (some [3, 5, 6, 7, 8]))]
@[go_sem] def l98_5 (_ : Unit) : KL := [kA 12 (.mv (.t 3)),
  kA 13 (.faddr (.t 5) 1),
  kA 14 (.load (.t 13) 1 false),
  kA 15 (.faddr (.t 5) 0),
  kB 16 (.load (.t 15) 1 false) [6, 7, 8, 12, 14, 16],
  kA 17 (.bin .sub (.t 14) (.t 16)),
  kA 18 (.bin .add (.t 17) (cI 1)),
  kA 19 (.bin .mul (.t 12) (.t 18)),
  kB 3 (.mv (.t 19)) [3, 6, 7, 8]]
@[go_sem] def s98_6 (_ : Unit) : IR := (sQ [(kT l98_4), (kT l98_5)])
@[go_sem] def s98_7 (_ : Unit) : IR := (.block 1 (tH s98_6))
@[go_sem] def l98_8 (_ : Unit) : KL := [kA 20 (.bin .add (.t 8) (cI 1)),
  kB 8 (.mv (.t 20)) [3, 6, 7, 8]]
@[go_sem] def s98_9 (_ : Unit) : IR := (sQ [(kT l98_3), (.cond (.t 9) .skip (.exit 0)), (tH s98_7), (kT l98_8)])
@[go_sem] def s98_10 (_ : Unit) : IR := (.loop (tH s98_9))
@[go_sem] def s98_11 (_ : Unit) : IR := (.block 0 (tH s98_10))
@[go_sem] def s98_12 (_ : Unit) : IR := (sQ [(kT l98_2), (tH s98_11)])
@[go_sem] def l98_13 (_ : Unit) : KL := [kA 21 (.mv (.t 3)),
  kB 2 (.mv (.t 21)) [2]]
@[go_sem] def s98_14 (_ : Unit) : IR := (sQ [(kT l98_0), (kT l98_1), (tH s98_12), (kT l98_13), .ret])
theorem c98 : compFn Try.prog [(0, [], [oS [0]]), (1, [], [oS [0, 3]]), (2, [], [oN, oN, oS [3, 6, 7, 8]]), (3, [], [oS [3, 6, 7, 8, 9]]), (4, [], [oN, oN, oN, oS [3, 5, 6, 7, 8]]), (5, [], [oN, oN, oN, oN, oS [6, 7, 8, 12, 14, 16], oN, oN, oN, oS [3, 6, 7, 8]]), (6, [], [oN, oS [3, 6, 7, 8]]), (7, [], [oN, oS [2]])] Try.f98 = some ⟨1, 22, [.t 2], (tH s98_14)⟩ := by kernel_rfl
theorem v_impl_size (hl : vs.length = 1) (h : wpV Try.prog (tH s98_14) (postV [.t 2] RV) (envV vs) M) : VCall Try.prog n_impl_size vs M RV :=
  vcall_of_wp (fun _ _ _ hl h => acall_of_wp mixed Try.func98 c98 (by kernel_rfl) hl h) hl h
@[go_sem] def l140_0 (_ : Unit) : KL := [kA 2 (.mv (cI 0)),
  kA 3 (.mv (cI 0)),
  kB 4 (.mv (cI 0)) [0]]
@[go_sem] def l140_1 (_ : Unit) : KL := [kB 5 (.mv (.t 0)) [5]]
@[go_sem] def l140_2 (_ : Unit) : KL := [kA 7 (.bin .eql (.t 5) (.c (.int .i64 2))),
  kB 6 (.mv (.t 7)) [5, 6]]
@[go_sem] def l140_3 (_ : Unit) : KL := [kA 8 (.bin .eql (.t 5) (.c (.int .i64 3))),
  kB 6 (.mv (.t 8)) [5, 6]]
@[go_sem] def l140_4 (_ : Unit) : KL := [kA 9 (.bin .eql (.t 5) (.c (.int .i64 4))),
  kB 6 (.mv (.t 9)) [5, 6]]
@[go_sem] def s140_5 (_ : Unit) : IR := (sQ [(kT l140_3), (.cond (.t 6) .skip (kT l140_4))])
@[go_sem] def s140_6 (_ : Unit) : IR := (sQ [(kT l140_2), (.cond (.t 6) .skip (tH s140_5))])
@[go_sem] def l140_7 (_ : Unit) : KL := [kA 2 (.mv (.c (.int .i64 2))),
  kA 3 (.mv (cI 1)),
  kB 4 (.mv (cI 1)) [2, 3, 4]]
@[go_sem] def s140_8 (_ : Unit) : IR := (sQ [(kT l140_7), .ret])
@[go_sem] def l140_9 (_ : Unit) : KL := [kA 11 (.bin .eql (.t 5) (.c (.int .i64 5))),
  kB 10 (.mv (.t 11)) [5, 10]]
@[go_sem] def l140_10 (_ : Unit) : KL := [kA 12 (.bin .eql (.t 5) (.c (.int .i64 6))),
  kB 10 (.mv (.t 12)) [5, 10]]
@[go_sem] def s140_11 (_ : Unit) : IR := (sQ [(kT l140_9), (.cond (.t 10) .skip (kT l140_10))])
@[go_sem] def l140_12 (_ : Unit) : KL := [kA 2 (.mv (.c (.int .i64 2))),
  kA 3 (.mv (cI 1)),
  kB 4 (.mv (.c (.int .i64 2))) [2, 3, 4]]
@[go_sem] def s140_13 (_ : Unit) : IR := (sQ [(kT l140_12), .ret])
@[go_sem] def l140_14 (_ : Unit) : KL := [kA 14 (.bin .eql (.t 5) (.c (.int .i64 7))),
  kB 13 (.mv (.t 14)) [5, 13]]
@[go_sem] def l140_15 (_ : Unit) : KL := [kA 2 (.mv (cI 1)),
  kA 3 (.mv (.c (.int .i64 2))),
  kB 4 (.mv (.c (.int .i64 2))) [2, 3, 4]]
@[go_sem] def s140_16 (_ : Unit) : IR := (sQ [(kT l140_15), .ret])
@[go_sem] def l140_17 (_ : Unit) : KL := [kA 16 (.bin .eql (.t 5) (.c (.int .i64 8))),
  kB 15 (.mv (.t 16)) [5, 15]]
@[go_sem] def l140_18 (_ : Unit) : KL := [kA 17 (.bin .eql (.t 5) (.c (.int .i64 9))),
  kB 15 (.mv (.t 17)) [15]]
@[go_sem] def s140_19 (_ : Unit) : IR := (sQ [(kT l140_17), (.cond (.t 15) .skip (kT l140_18))])
@[go_sem] def l140_20 (_ : Unit) : KL := [kA 2 (.mv (.c (.int .i64 2))),
  kA 3 (.mv (.c (.int .i64 2))),
  kB 4 (.mv (.c (.int .i64 2))) [2, 3, 4]]
@[go_sem] def s140_21 (_ : Unit) : IR := (sQ [(kT l140_20), .ret])
@[go_sem] def s140_22 (_ : Unit) : IR := (sQ [(tH s140_19), (.cond (.t 15) (tH s140_21) .skip)])
@[go_sem] def s140_23 (_ : Unit) : IR := (sQ [(kT l140_14), (.cond (.t 13) (tH s140_16) (tH s140_22))])
@[go_sem] def s140_24 (_ : Unit) : IR := (sQ [(tH s140_11), (.cond (.t 10) (tH s140_13) (tH s140_23))])
@[go_sem] def s140_25 (_ : Unit) : IR := (sQ [(tH s140_6), (.cond (.t 6) (tH s140_8) (tH s140_24))])
@[go_sem] def s140_26 (_ : Unit) : IR := (.block 0 (tH s140_25))
@[go_sem] def s140_27 (_ : Unit) : IR := (sQ [(kT l140_1), (tH s140_26)])
@[go_sem] def l140_28 (_ : Unit) : KL := [kA 2 (.mv (cI 0)),
  kA 3 (.mv (cI 0)),
  kB 4 (.mv (cI 1)) [2, 3, 4]]
@[go_sem] def s140_29 (_ : Unit) : IR := (sQ [(kT l140_0), (tH s140_27), (kT l140_28), .ret])
theorem c140 : compFn Try.prog [(0, [], [oN, oN, oS [0]]), (1, [], [oS [5]]), (2, [], [oN, oS [5, 6]]), (3, [], [oN, oS [5, 6]]), (4, [], [oN, oS [5, 6]]), (5, [], [oN, oN, oS [2, 3, 4]]), (6, [], [oN, oS [5, 10]]), (7, [], [oN, oS [5, 10]]), (8, [], [oN, oN, oS [2, 3, 4]]), (9, [], [oN, oS [5, 13]]), (10, [], [oN, oN, oS [2, 3, 4]]), (11, [], [oN, oS [5, 15]]), (12, [], [oN, oS [15]]), (13, [], [oN, oN, oS [2, 3, 4]]), (14, [], [oN, oN, oS [2, 3, 4]])] Try.f140 = some ⟨1, 18, [.t 2, .t 3, .t 4], (tH s140_29)⟩ := by kernel_rfl
theorem v_impl_parts (hl : vs.length = 1) (h : wpV Try.prog (tH s140_29) (postV [.t 2, .t 3, .t 4] RV) (envV vs) M) : VCall Try.prog n_impl_parts vs M RV :=
  vcall_of_wp (fun _ _ _ hl h => acall_of_wp mixed Try.func140 c140 (by kernel_rfl) hl h) hl h
@[go_sem] def l133_0 (_ : Unit) : KL := [kB 4 (.mv (.c (.sl none 0 0 true 0))) [0, 1]]
@[go_sem] def l133_1 (_ : Unit) : KL := [kA 12 (.mv (.t 1)),
  kA 13 (.call (n_impl_in) [(.t 12), (cI 0), (.c (.int .i64 5))]),
  kA 14 (.un .not (.t 13)),
  kA 15 (.mv (.t 14)),
  (⟨(some 16), .mv (.t 0), (some (15, false))⟩, (some [0, 1, 15, 16])),
  (⟨(some 17), .len (.t 16), (some (15, false))⟩, none),
  (⟨(some 18), .call (n_impl_in) [(.t 17), (cI 1), (.c (.int .i64 40))], (some (15, false))⟩, none),
  (⟨(some 19), .un .not (.t 18), (some (15, false))⟩, none),
  kB 20 (.pick (.t 15) (.c (.bool true)) (.t 19)) [0, 1, 20]]
@[go_sem] def l133_2 (_ : Unit) : KL := [kB 4 (.mv (.c (.sl none 0 0 true 0))) [4]]
@[go_sem] def s133_3 (_ : Unit) : IR := (sQ [(kT l133_2), .ret])
@[go_sem] def s133_4 (_ : Unit) : IR := (sQ [(kT l133_1), (.cond (.t 20) (tH s133_3) .skip)])
@[go_sem] def l133_5 (_ : Unit) : KL := [kA 21 (.mv (.t 0)),
  kA 22 (.len (.t 21)),
  kA 23 (.mkc [(.int .i64 0)] 8 (cI 0) (.t 22)),
  kB 5 (.mv (.t 23)) [0, 1, 5]]
@[go_sem] def l133_6 (_ : Unit) : KL := [kA 24 (.mv (.t 0)),
  kA 25 (.len (.t 24)),
  kB 26 (.mv (cI 0)) [1, 5, 24, 25, 26]]
@[go_sem] def l133_7 (_ : Unit) : KL := [kB 27 (.bin .lss (.t 26) (.t 25)) [1, 5, 24, 25, 26, 27]]
@[go_sem] def l133_8 (_ : Unit) : KL := [kA 28 (.mv (.t 26)),
  kA 29 (.iaddr (.t 24) (.t 26) 4),
  kA 30 (.load (.t 29) 4 true),
  kA 7 (.alloc [(.int .i64 0), (.int .i64 0), (.int .i64 0), (.int .i64 0)]),
  kB 6 (.mv (.t 28)) [1, 5, 6, 7, 24, 25, 26, 30],
  (⟨none, .store (.t 7) 4 (.t 30), none⟩, (some [1, 5, 6, 7, 24, 25, 26]))]
@[go_sem] def l133_9 (_ : Unit) : KL := [kA 32 (.faddr (.t 7) 0),
  kA 33 (.load (.t 32) 1 false),
  kA 34 (.call (n_impl_parts) [(.t 33)]),
  kA 31 (.mv (.t 34)),
  kB 35 (.ext (.t 31) 0) [1, 5, 6, 7, 24, 25, 26, 31, 35],
  kA 36 (.ext (.t 31) 1),
  kA 37 (.ext (.t 31) 2),
  kA 8 (.mv (.t 35)),
  kA 9 (.mv (.t 36)),
  kB 10 (.mv (.t 37)) [1, 5, 6, 7, 8, 9, 10, 24, 25, 26]]
@[go_sem] def l133_10 (_ : Unit) : KL := [kA 38 (.faddr (.t 7) 0),
  kA 39 (.load (.t 38) 1 false),
  kA 40 (.call (n_impl_in) [(.t 39), (cI 0), (.c (.int .i64 9))]),
  kB 11 (.mv (.t 40)) [1, 5, 6, 7, 8, 9, 10, 11, 24, 25, 26]]
@[go_sem] def l133_11 (_ : Unit) : KL := [kA 42 (.faddr (.t 7) 0),
  kA 43 (.load (.t 42) 1 false),
  kA 44 (.bin .eql (.t 43) (cI 0)),
  kB 41 (.mv (.t 44)) [1, 5, 6, 7, 8, 9, 10, 11, 24, 25, 26, 41]]
@[go_sem] def l133_12 (_ : Unit) : KL := [kA 45 (.faddr (.t 7) 1),
  kA 46 (.load (.t 45) 1 false),
  kA 47 (.call (n_impl_in) [(.t 46), (.c (.int .i64 (-9999))), (.c (.int .i64 9999))]),
  kA 48 (.mv (.t 47)),
  (⟨(some 49), .faddr (.t 7) 2, (some (48, true))⟩, (some [1, 5, 7, 10, 24, 25, 26, 48, 49])),
  (⟨(some 50), .load (.t 49) 1 false, (some (48, true))⟩, none),
  (⟨(some 51), .bin .eql (.t 50) (cI 0), (some (48, true))⟩, none),
  kA 52 (.pick (.t 48) (.t 51) (.c (.bool false))),
  kA 53 (.mv (.t 52)),
  (⟨(some 54), .faddr (.t 7) 3, (some (53, true))⟩, (some [1, 5, 10, 24, 25, 26, 53, 54])),
  (⟨(some 55), .load (.t 54) 1 false, (some (53, true))⟩, none),
  (⟨(some 56), .bin .eql (.t 55) (cI 0), (some (53, true))⟩, none),
  kA 57 (.pick (.t 53) (.t 56) (.c (.bool false))),
  kB 11 (.mv (.t 57)) [1, 5, 10, 11, 24, 25, 26]]
@[go_sem] def l133_13 (_ : Unit) : KL := [kA 59 (.faddr (.t 7) 0),
  kA 60 (.load (.t 59) 1 false),
  kA 61 (.bin .eql (.t 60) (cI 1)),
  kB 58 (.mv (.t 61)) [1, 5, 6, 7, 8, 9, 10, 11, 24, 25, 26, 58]]
@[go_sem] def l133_14 (_ : Unit) : KL := [kA 62 (.faddr (.t 7) 1),
  kA 63 (.load (.t 62) 1 false),
  kA 64 (.mv (.t 1)),
  kA 65 (.bin .sub (.t 64) (cI 1)),
  kB 66 (.call (n_impl_in) [(.t 63), (cI 0), (.t 65)]) [1, 5, 7, 10, 24, 25, 26, 66],
  kA 67 (.mv (.t 66)),
  (⟨(some 68), .faddr (.t 7) 2, (some (67, true))⟩, none),
  (⟨(some 69), .load (.t 68) 1 false, (some (67, true))⟩, none),
  (⟨(some 70), .bin .eql (.t 69) (cI 0), (some (67, true))⟩, none),
  kB 71 (.pick (.t 67) (.t 70) (.c (.bool false))) [1, 5, 7, 10, 24, 25, 26, 71],
  kA 72 (.mv (.t 71)),
  (⟨(some 73), .faddr (.t 7) 3, (some (72, true))⟩, none),
  (⟨(some 74), .load (.t 73) 1 false, (some (72, true))⟩, none),
  (⟨(some 75), .bin .eql (.t 74) (cI 0), (some (72, true))⟩, none),
  kB 76 (.pick (.t 72) (.t 75) (.c (.bool false))) [1, 5, 10, 24, 25, 26, 76],
  kB 11 (.mv (.t 76)) [1, 5, 10, 11, 24, 25, 26]]
@[go_sem] def l133_15 (_ : Unit) : KL := [kA 78 (.mv (.t 11)),
  kB 77 (.mv (.t 78)) [1, 5, 6, 7, 8, 9, 10, 11, 24, 25, 26, 77]]
@[go_sem] def l133_16 (_ : Unit) : KL := [kA 79 (.faddr (.t 7) 1),
  kA 80 (.load (.t 79) 1 false),
  kA 81 (.bin .eql (.t 80) (cI 0)),
  kA 82 (.mv (.t 81)),
  (⟨(some 83), .faddr (.t 7) 2, (some (82, true))⟩, (some [1, 5, 6, 7, 8, 9, 10, 24, 25, 26, 82, 83])),
  (⟨(some 84), .load (.t 83) 1 false, (some (82, true))⟩, none),
  (⟨(some 85), .mv (.t 6), (some (82, true))⟩, none),
  (⟨(some 86), .bin .sub (.t 85) (cI 1), (some (82, true))⟩, none),
  (⟨(some 87), .call (n_impl_in) [(.t 84), (cI 0), (.t 86)], (some (82, true))⟩, none),
  kB 88 (.pick (.t 82) (.t 87) (.c (.bool false))) [1, 5, 6, 7, 8, 9, 10, 24, 25, 26, 88],
  kA 89 (.mv (.t 88)),
  (⟨(some 90), .faddr (.t 7) 3, (some (89, true))⟩, none),
  (⟨(some 91), .load (.t 90) 1 false, (some (89, true))⟩, none),
  (⟨(some 92), .mv (.t 6), (some (89, true))⟩, none),
  (⟨(some 93), .bin .sub (.t 92) (cI 1), (some (89, true))⟩, (some [1, 5, 7, 8, 9, 10, 24, 25, 26, 89, 91, 93])),
  (⟨(some 94), .call (n_impl_in) [(.t 91), (cI 0), (.t 93)], (some (89, true))⟩, none),
  kA 95 (.pick (.t 89) (.t 94) (.c (.bool false))),
  kA 96 (.mv (.t 95)),
  (⟨(some 97), .mv (.t 5), (some (96, true))⟩, none),
  (⟨(some 98), .faddr (.t 7) 2, (some (96, true))⟩, (some [1, 5, 7, 8, 9, 10, 24, 25, 26, 96, 97, 98])),
  (⟨(some 99), .load (.t 98) 1 false, (some (96, true))⟩, none),
  (⟨(some 100), .iaddr (.t 97) (.t 99) 1, (some (96, true))⟩, none),
  (⟨(some 101), .load (.t 100) 1 false, (some (96, true))⟩, none),
  (⟨(some 102), .mv (.t 9), (some (96, true))⟩, none),
  (⟨(some 103), .bin .eql (.t 101) (.t 102), (some (96, true))⟩, (some [1, 5, 7, 8, 9, 10, 24, 25, 26, 96, 103])),
  kA 104 (.pick (.t 96) (.t 103) (.c (.bool false))),
  kA 105 (.mv (.t 104)),
  (⟨(some 106), .mv (.t 5), (some (105, true))⟩, none),
  (⟨(some 107), .faddr (.t 7) 3, (some (105, true))⟩, none),
  (⟨(some 108), .load (.t 107) 1 false, (some (105, true))⟩, (some [1, 5, 7, 8, 9, 10, 24, 25, 26, 105, 106, 108])),
  (⟨(some 109), .iaddr (.t 106) (.t 108) 1, (some (105, true))⟩, none),
  (⟨(some 110), .load (.t 109) 1 false, (some (105, true))⟩, none),
  (⟨(some 111), .mv (.t 9), (some (105, true))⟩, none),
  (⟨(some 112), .bin .eql (.t 110) (.t 111), (some (105, true))⟩, none),
  kB 113 (.pick (.t 105) (.t 112) (.c (.bool false))) [1, 5, 7, 8, 10, 24, 25, 26, 113],
  kA 114 (.mv (.t 113)),
  (⟨(some 115), .mv (.t 8), (some (114, true))⟩, none),
  (⟨(some 116), .bin .eql (.t 115) (.c (.int .i64 2)), (some (114, true))⟩, none),
  (⟨(some 117), .mv (.t 116), (some (114, true))⟩, none),
  (⟨(some 118), .faddr (.t 7) 2, (some (117, false))⟩, (some [1, 5, 7, 10, 24, 25, 26, 114, 117, 118])),
  (⟨(some 119), .load (.t 118) 1 false, (some (117, false))⟩, none),
  (⟨(some 120), .faddr (.t 7) 3, (some (117, false))⟩, none),
  (⟨(some 121), .load (.t 120) 1 false, (some (117, false))⟩, none),
  (⟨(some 122), .bin .eql (.t 119) (.t 121), (some (117, false))⟩, none),
  (⟨(some 123), .pick (.t 117) (.c (.bool true)) (.t 122), (some (114, true))⟩, (some [1, 5, 10, 24, 25, 26, 114, 123])),
  kA 124 (.pick (.t 114) (.t 123) (.c (.bool false))),
  kB 11 (.mv (.t 124)) [1, 5, 10, 11, 24, 25, 26]]
@[go_sem] def s133_17 (_ : Unit) : IR := (sQ [(kT l133_15), (.cond (.t 77) (kT l133_16) .skip)])
@[go_sem] def s133_18 (_ : Unit) : IR := (sQ [(kT l133_13), (.cond (.t 58) (kT l133_14) (tH s133_17))])
@[go_sem] def s133_19 (_ : Unit) : IR := (sQ [(kT l133_11), (.cond (.t 41) (kT l133_12) (tH s133_18))])
@[go_sem] def s133_20 (_ : Unit) : IR := (.block 2 (tH s133_19))
@[go_sem] def l133_21 (_ : Unit) : KL := [kA 125 (.mv (.t 11)),
  kB 126 (.un .not (.t 125)) [1, 5, 10, 24, 25, 26, 126]]
@[go_sem] def l133_22 (_ : Unit) : KL := [kB 4 (.mv (.c (.sl none 0 0 true 0))) [4]]
@[go_sem] def s133_23 (_ : Unit) : IR := (sQ [(kT l133_22), .ret])
@[go_sem] def s133_24 (_ : Unit) : IR := (sQ [(kT l133_21), (.cond (.t 126) (tH s133_23) .skip)])
@[go_sem] def l133_25 (_ : Unit) : KL := [kA 127 (.mv (.t 5)),
  kA 128 (.mv (.t 10)),
  kA 129 (.bslc 1 1 [(.int .i64 0)] [(0, (.t 128))]),
  kA 130 (.app 1 8 (.t 127) (.t 129)),
  kB 5 (.mv (.t 130)) [1, 5, 24, 25, 26]]
@[go_sem] def s133_26 (_ : Unit) : IR := (sQ [(kT l133_8), (kT l133_9), (kT l133_10), (tH s133_20), (tH s133_24), (kT l133_25)])
@[go_sem] def s133_27 (_ : Unit) : IR := (.block 1 (tH s133_26))
@[go_sem] def l133_28 (_ : Unit) : KL := [kA 131 (.bin .add (.t 26) (cI 1)),
  kB 26 (.mv (.t 131)) [1, 5, 24, 25, 26]]
@[go_sem] def s133_29 (_ : Unit) : IR := (sQ [(kT l133_7), (.cond (.t 27) .skip (.exit 0)), (tH s133_27), (kT l133_28)])
@[go_sem] def s133_30 (_ : Unit) : IR := (.loop (tH s133_29))
@[go_sem] def s133_31 (_ : Unit) : IR := (.block 0 (tH s133_30))
@[go_sem] def s133_32 (_ : Unit) : IR := (sQ [(kT l133_6), (tH s133_31)])
@[go_sem] def l133_33 (_ : Unit) : KL := [kA 132 (.mv (.t 5)),
  kB 4 (.mv (.t 132)) [4]]
@[go_sem] def s133_34 (_ : Unit) : IR := (sQ [(kT l133_0), (tH s133_4), (kT l133_5), (tH s133_32), (kT l133_33), .ret])
theorem c133 : compFn Try.prog [(0, [], [oS [0, 1]]), (1, [], [oN, oN, oN, oN, oS [0, 1, 15, 16], oN, oN, oN, oS [0, 1, 20]]), (2, [], [oS [4]]), (3, [], [oN, oN, oN, oS [0, 1, 5]]), (4, [], [oN, oN, oS [1, 5, 24, 25, 26]]), (5, [], [oS [1, 5, 24, 25, 26, 27]]), (6, [], [oN, oN, oN, oN, oS [1, 5, 6, 7, 24, 25, 26, 30], oS [1, 5, 6, 7, 24, 25, 26]]), (7, [], [oN, oN, oN, oN, oS [1, 5, 6, 7, 24, 25, 26, 31, 35], oN, oN, oN, oN, oS [1, 5, 6, 7, 8, 9, 10, 24, 25, 26]]), (8, [], [oN, oN, oN, oS [1, 5, 6, 7, 8, 9, 10, 11, 24, 25, 26]]), (9, [], [oN, oN, oN, oS [1, 5, 6, 7, 8, 9, 10, 11, 24, 25, 26, 41]]), (10, [], [oN, oN, oN, oN, oS [1, 5, 7, 10, 24, 25, 26, 48, 49], oN, oN, oN, oN, oS [1, 5, 10, 24, 25, 26, 53, 54], oN, oN, oN, oS [1, 5, 10, 11, 24, 25, 26]]), (11, [], [oN, oN, oN, oS [1, 5, 6, 7, 8, 9, 10, 11, 24, 25, 26, 58]]), (12, [], [oN, oN, oN, oN, oS [1, 5, 7, 10, 24, 25, 26, 66], oN, oN, oN, oN, oS [1, 5, 7, 10, 24, 25, 26, 71], oN, oN, oN, oN, oS [1, 5, 10, 24, 25, 26, 76], oS [1, 5, 10, 11, 24, 25, 26]]), (13, [], [oN, oS [1, 5, 6, 7, 8, 9, 10, 11, 24, 25, 26, 77]]), (14, [], [oN, oN, oN, oN, oS [1, 5, 6, 7, 8, 9, 10, 24, 25, 26, 82, 83], oN, oN, oN, oN, oS [1, 5, 6, 7, 8, 9, 10, 24, 25, 26, 88], oN, oN, oN, oN, oS [1, 5, 7, 8, 9, 10, 24, 25, 26, 89, 91, 93], oN, oN, oN, oN, oS [1, 5, 7, 8, 9, 10, 24, 25, 26, 96, 97, 98], oN, oN, oN, oN, oS [1, 5, 7, 8, 9, 10, 24, 25, 26, 96, 103], oN, oN, oN, oN, oS [1, 5, 7, 8, 9, 10, 24, 25, 26, 105, 106, 108], oN, oN, oN, oN, oS [1, 5, 7, 8, 10, 24, 25, 26, 113], oN, oN, oN, oN, oS [1, 5, 7, 10, 24, 25, 26, 114, 117, 118], oN, oN, oN, oN, oS [1, 5, 10, 24, 25, 26, 114, 123], oN, oS [1, 5, 10, 11, 24, 25, 26]]), (15, [], [oN, oS [1, 5, 10, 24, 25, 26, 126]]), (16, [], [oS [4]]), (17, [], [oN, oN, oN, oN, oS [1, 5, 24, 25, 26]]), (18, [], [oN, oS [1, 5, 24, 25, 26]]), (19, [], [oN, oS [4]])] Try.f133 = some ⟨2, 133, [.t 4], (tH s133_34)⟩ := by kernel_rfl
theorem v_impl_kindsOf (hl : vs.length = 2) (h : wpV Try.prog (tH s133_34) (postV [.t 4] RV) (envV vs) M) : VCall Try.prog n_impl_kindsOf vs M RV :=
  vcall_of_wp (fun _ _ _ hl h => acall_of_wp mixed Try.func133 c133 (by kernel_rfl) hl h) hl h
@[go_sem] def l125_0 (_ : Unit) : KL := [kB 4 (.mv (cI 0)) [0, 1]]
@[go_sem] def l125_1 (_ : Unit) : KL := [kA 6 (.mv (.t 0)),
  kA 7 (.mv (.t 1)),
  kA 8 (.call (n_impl_kindsOf) [(.t 6), (.t 7)]),
  kB 5 (.mv (.t 8)) [5]]
@[go_sem] def l125_2 (_ : Unit) : KL := [kA 9 (.mv (.t 5)),
  kB 10 (.eqn false .sl (.t 9)) [5, 10]]
@[go_sem] def l125_3 (_ : Unit) : KL := [kB 4 (.mv (cI 0)) [4]]
@[go_sem] def s125_4 (_ : Unit) : IR := (sQ [(kT l125_3), .ret])
@[go_sem] def s125_5 (_ : Unit) : IR := (sQ [(kT l125_2), (.cond (.t 10) (tH s125_4) .skip)])
@[go_sem] def l125_6 (_ : Unit) : KL := [kA 11 (.mv (.t 5)),
  kA 12 (.mv (.t 5)),
  kA 13 (.len (.t 12)),
  kA 14 (.bin .sub (.t 13) (cI 1)),
  kB 15 (.iaddr (.t 11) (.t 14) 1) [15],
  kA 16 (.load (.t 15) 1 false),
  kB 4 (.mv (.t 16)) [4]]
@[go_sem] def s125_7 (_ : Unit) : IR := (sQ [(kT l125_0), (kT l125_1), (tH s125_5), (kT l125_6), .ret])
theorem c125 : compFn Try.prog [(0, [], [oS [0, 1]]), (1, [], [oN, oN, oN, oS [5]]), (2, [], [oN, oS [5, 10]]), (3, [], [oS [4]]), (4, [], [oN, oN, oN, oN, oS [15], oN, oS [4]])] Try.f125 = some ⟨2, 17, [.t 4], (tH s125_7)⟩ := by kernel_rfl
theorem v_impl_kindOf (hl : vs.length = 2) (h : wpV Try.prog (tH s125_7) (postV [.t 4] RV) (envV vs) M) : VCall Try.prog n_impl_kindOf vs M RV :=
  vcall_of_wp (fun _ _ _ hl h => acall_of_wp mixed Try.func125 c125 (by kernel_rfl) hl h) hl h
@[go_sem] def l101_0 (_ : Unit) : KL := [kA 2 (.box (.t 0)),
  kB 4 (.mv (.c (.bool false))) [1, 2]]
@[go_sem] def l101_1 (_ : Unit) : KL := [kA 7 (.faddr (.t 2) 0),
  kA 8 (.load (.t 7) 1 false),
  kA 9 (.mv (.t 1)),
  kA 10 (.call (n_impl_kindOf) [(.t 8), (.t 9)]),
  kB 11 (.bin .neq (.t 10) (.c (.int .i64 2))) [1, 2, 11],
  kA 12 (.mv (.t 11)),
  (⟨(some 13), .faddr (.t 2) 1, (some (12, false))⟩, none),
  (⟨(some 14), .load (.t 13) 1 false, (some (12, false))⟩, none),
  (⟨(some 15), .len (.t 14), (some (12, false))⟩, none),
  (⟨(some 16), .faddr (.t 2) 2, (some (12, false))⟩, (some [1, 2, 12, 15, 16])),
  (⟨(some 17), .load (.t 16) 1 false, (some (12, false))⟩, none),
  (⟨(some 18), .len (.t 17), (some (12, false))⟩, none),
  (⟨(some 19), .bin .neq (.t 15) (.t 18), (some (12, false))⟩, none),
  kB 20 (.pick (.t 12) (.c (.bool true)) (.t 19)) [1, 2, 20]]
@[go_sem] def l101_2 (_ : Unit) : KL := [kB 4 (.mv (.c (.bool false))) [4]]
@[go_sem] def s101_3 (_ : Unit) : IR := (sQ [(kT l101_2), .ret])
@[go_sem] def s101_4 (_ : Unit) : IR := (sQ [(kT l101_1), (.cond (.t 20) (tH s101_3) .skip)])
@[go_sem] def l101_5 (_ : Unit) : KL := [kA 21 (.faddr (.t 2) 1),
  kA 22 (.load (.t 21) 1 false),
  kA 23 (.len (.t 22)),
  kB 24 (.mv (cI 0)) [1, 2, 22, 23, 24]]
@[go_sem] def l101_6 (_ : Unit) : KL := [kB 25 (.bin .lss (.t 24) (.t 23)) [1, 2, 22, 23, 24, 25]]
@[go_sem] def l101_7 (_ : Unit) : KL := [kA 26 (.mv (.t 24)),
  kA 27 (.iaddr (.t 22) (.t 24) 1),
  kA 28 (.load (.t 27) 1 false),
  kA 5 (.mv (.t 26)),
  kB 6 (.mv (.t 28)) [1, 2, 5, 6, 22, 23, 24]]
@[go_sem] def l101_8 (_ : Unit) : KL := [kA 29 (.mv (.t 6)),
  kA 30 (.mv (.t 1)),
  kA 31 (.bin .sub (.t 30) (cI 1)),
  kA 32 (.call (n_impl_in) [(.t 29), (cI 0), (.t 31)]),
  kB 33 (.un .not (.t 32)) [1, 2, 5, 6, 22, 23, 24, 33],
  kA 34 (.mv (.t 33)),
  (⟨(some 35), .mv (.t 5), (some (34, false))⟩, none),
  (⟨(some 36), .bin .gtr (.t 35) (cI 0), (some (34, false))⟩, none),
  (⟨(some 37), .mv (.t 36), (some (34, false))⟩, none),
  (⟨(some 38), .faddr (.t 2) 1, (some (37, true))⟩, (some [1, 2, 5, 6, 22, 23, 24, 34, 37, 38])),
  (⟨(some 39), .load (.t 38) 1 false, (some (37, true))⟩, none),
  (⟨(some 40), .mv (.t 5), (some (37, true))⟩, none),
  (⟨(some 41), .bin .sub (.t 40) (cI 1), (some (37, true))⟩, none),
  (⟨(some 42), .iaddr (.t 39) (.t 41) 1, (some (37, true))⟩, none),
  (⟨(some 43), .load (.t 42) 1 false, (some (37, true))⟩, (some [1, 2, 5, 6, 22, 23, 24, 34, 37, 43])),
  (⟨(some 44), .mv (.t 6), (some (37, true))⟩, none),
  (⟨(some 45), .bin .geq (.t 43) (.t 44), (some (37, true))⟩, none),
  (⟨(some 46), .pick (.t 37) (.t 45) (.c (.bool false)), (some (34, false))⟩, none),
  kA 47 (.pick (.t 34) (.c (.bool true)) (.t 46)),
  kB 48 (.mv (.t 47)) [1, 2, 5, 22, 23, 24, 48],
  (⟨(some 49), .faddr (.t 2) 2, (some (48, false))⟩, none),
  (⟨(some 50), .load (.t 49) 1 false, (some (48, false))⟩, none),
  (⟨(some 51), .mv (.t 5), (some (48, false))⟩, none),
  (⟨(some 52), .iaddr (.t 50) (.t 51) 1, (some (48, false))⟩, none),
  (⟨(some 53), .load (.t 52) 1 false, (some (48, false))⟩, (some [1, 2, 22, 23, 24, 48, 53])),
  (⟨(some 54), .mv (.t 1), (some (48, false))⟩, none),
  (⟨(some 55), .call (n_impl_kindOf) [(.t 53), (.t 54)], (some (48, false))⟩, none),
  (⟨(some 56), .bin .neq (.t 55) (cI 1), (some (48, false))⟩, none),
  kB 57 (.pick (.t 48) (.c (.bool true)) (.t 56)) [1, 2, 22, 23, 24, 57]]
@[go_sem] def l101_9 (_ : Unit) : KL := [kB 4 (.mv (.c (.bool false))) [4]]
@[go_sem] def s101_10 (_ : Unit) : IR := (sQ [(kT l101_9), .ret])
@[go_sem] def s101_11 (_ : Unit) : IR := (sQ [(kT l101_7), (kT l101_8), (.cond (.t 57) (tH s101_10) .skip)])
@[go_sem] def s101_12 (_ : Unit) : IR := (.block 1 (tH s101_11))
@[go_sem] def l101_13 (_ : Unit) : KL := [kA 58 (.bin .add (.t 24) (cI 1)),
  kB 24 (.mv (.t 58)) [1, 2, 22, 23, 24]]
@[go_sem] def s101_14 (_ : Unit) : IR := (sQ [(kT l101_6), (.cond (.t 25) .skip (.exit 0)), (tH s101_12), (kT l101_13)])
@[go_sem] def s101_15 (_ : Unit) : IR := (.loop (tH s101_14))
@[go_sem] def s101_16 (_ : Unit) : IR := (.block 0 (tH s101_15))
@[go_sem] def s101_17 (_ : Unit) : IR := (sQ [(kT l101_5), (tH s101_16)])
@[go_sem] def l101_18 (_ : Unit) : KL := [kB 4 (.mv (.c (.bool true))) [4]]
@[go_sem] def s101_19 (_ : Unit) : IR := (sQ [(kT l101_0), (tH s101_4), (tH s101_17), (kT l101_18), .ret])
theorem c101 : compFn Try.prog [(0, [], [oN, oS [1, 2]]), (1, [], [oN, oN, oN, oN, oS [1, 2, 11], oN, oN, oN, oN, oS [1, 2, 12, 15, 16], oN, oN, oN, oS [1, 2, 20]]), (2, [], [oS [4]]), (3, [], [oN, oN, oN, oS [1, 2, 22, 23, 24]]), (4, [], [oS [1, 2, 22, 23, 24, 25]]), (5, [], [oN, oN, oN, oN, oS [1, 2, 5, 6, 22, 23, 24]]), (6, [], [oN, oN, oN, oN, oS [1, 2, 5, 6, 22, 23, 24, 33], oN, oN, oN, oN, oS [1, 2, 5, 6, 22, 23, 24, 34, 37, 38], oN, oN, oN, oN, oS [1, 2, 5, 6, 22, 23, 24, 34, 37, 43], oN, oN, oN, oN, oS [1, 2, 5, 22, 23, 24, 48], oN, oN, oN, oN, oS [1, 2, 22, 23, 24, 48, 53], oN, oN, oN, oS [1, 2, 22, 23, 24, 57]]), (7, [], [oS [4]]), (8, [], [oN, oS [1, 2, 22, 23, 24]]), (9, [], [oS [4]])] Try.f101 = some ⟨2, 59, [.t 4], (tH s101_19)⟩ := by kernel_rfl
theorem v_impl_ruleOk (hl : vs.length = 2) (h : wpV Try.prog (tH s101_19) (postV [.t 4] RV) (envV vs) M) : VCall Try.prog n_impl_ruleOk vs M RV :=
  vcall_of_wp (fun _ _ _ hl h => acall_of_wp mixed Try.func101 c101 (by kernel_rfl) hl h) hl h
@[go_sem] def l100_0 (_ : Unit) : KL := [kA 2 (.box (.t 0)),
  kB 3 (.mv (.c (.bool false))) [1, 2]]
@[go_sem] def l100_1 (_ : Unit) : KL := [kA 4 (.load (.t 2) 3 true),
  kA 5 (.faddr (.t 1) 0),
  kA 6 (.load (.t 5) 1 false),
  kA 7 (.len (.t 6)),
  kB 8 (.call (n_impl_ruleOk) [(.t 4), (.t 7)]) [8],
  kA 9 (.un .not (.t 8)),
  kB 3 (.mv (.t 9)) [3]]
@[go_sem] def s100_2 (_ : Unit) : IR := (sQ [(kT l100_0), (kT l100_1), .ret])
theorem c100 : compFn Try.prog [(0, [], [oN, oS [1, 2]]), (1, [], [oN, oN, oN, oN, oS [8], oN, oS [3]])] Try.f100 = some ⟨2, 10, [.t 3], (tH s100_2)⟩ := by kernel_rfl
theorem v_impl_SystemValid_2 (hl : vs.length = 2) (h : wpV Try.prog (tH s100_2) (postV [.t 3] RV) (envV vs) M) : VCall Try.prog n_impl_SystemValid_2 vs M RV :=
  vcall_of_wp (fun _ _ _ hl h => acall_of_wp mixed Try.func100 c100 (by kernel_rfl) hl h) hl h
@[go_sem] def l124_0 (_ : Unit) : KL := [kB 4 (.mv (cI 0)) [0, 1]]
@[go_sem] def l124_1 (_ : Unit) : KL := [kA 6 (.mv (.t 0)),
  kA 7 (.len (.t 6)),
  kB 8 (.mv (cI 0)) [0, 1, 7, 8]]
@[go_sem] def l124_2 (_ : Unit) : KL := [kB 9 (.bin .lss (.t 8) (.t 7)) [0, 1, 7, 8, 9]]
@[go_sem] def l124_3 (_ : Unit) : KL := [kA 10 (.mv (.t 8)),
  kB 5 (.mv (.t 10)) [0, 1, 5, 7, 8]]
@[go_sem] def l124_4 (_ : Unit) : KL := [kA 11 (.mv (.t 1)),
  kA 12 (.mv (.t 0)),
  kA 13 (.mv (.t 5)),
  kA 14 (.iaddr (.t 12) (.t 13) 3),
  kB 15 (.load (.t 14) 3 true) [0, 1, 5, 7, 8, 11, 15],
  kB 16 (.callv (.t 11) [(.t 15)]) [0, 1, 5, 7, 8, 16]]
@[go_sem] def l124_5 (_ : Unit) : KL := [kA 17 (.mv (.t 5)),
  kB 4 (.mv (.t 17)) [4]]
@[go_sem] def s124_6 (_ : Unit) : IR := (sQ [(kT l124_5), .ret])
@[go_sem] def s124_7 (_ : Unit) : IR := (sQ [(kT l124_3), (kT l124_4), (.cond (.t 16) (tH s124_6) .skip)])
@[go_sem] def s124_8 (_ : Unit) : IR := (.block 1 (tH s124_7))
@[go_sem] def l124_9 (_ : Unit) : KL := [kA 18 (.bin .add (.t 8) (cI 1)),
  kB 8 (.mv (.t 18)) [0, 1, 7, 8]]
@[go_sem] def s124_10 (_ : Unit) : IR := (sQ [(kT l124_2), (.cond (.t 9) .skip (.exit 0)), (tH s124_8), (kT l124_9)])
@[go_sem] def s124_11 (_ : Unit) : IR := (.loop (tH s124_10))
@[go_sem] def s124_12 (_ : Unit) : IR := (.block 0 (tH s124_11))
@[go_sem] def s124_13 (_ : Unit) : IR := (sQ [(kT l124_1), (tH s124_12)])
@[go_sem] def l124_14 (_ : Unit) : KL := [kB 4 (.mv (.c (.int .i64 (-1)))) [4]]
@[go_sem] def s124_15 (_ : Unit) : IR := (sQ [(kT l124_0), (tH s124_13), (kT l124_14), .ret])
theorem c124 : compFn Try.prog [(0, [], [oS [0, 1]]), (1, [], [oN, oN, oS [0, 1, 7, 8]]), (2, [], [oS [0, 1, 7, 8, 9]]), (3, [], [oN, oS [0, 1, 5, 7, 8]]), (4, [], [oN, oN, oN, oN, oS [0, 1, 5, 7, 8, 11, 15], oS [0, 1, 5, 7, 8, 16]]), (5, [], [oN, oS [4]]), (6, [], [oN, oS [0, 1, 7, 8]]), (7, [], [oS [4]])] Try.f124 = some ⟨2, 19, [.t 4], (tH s124_15)⟩ := by kernel_rfl
theorem v_slices_IndexFunc_Simpl_Rule_impl_Rule (hl : vs.length = 2) (h : wpV Try.prog (tH s124_15) (postV [.t 4] RV) (envV vs) M) : VCall Try.prog n_slices_IndexFunc_Simpl_Rule_impl_Rule vs M RV :=
  vcall_of_wp (fun _ _ _ hl h => acall_of_wp mixed Try.func124 c124 (by kernel_rfl) hl h) hl h
@[go_sem] def l99_0 (_ : Unit) : KL := [kB 4 (.mv (.c (.bool false))) [0, 1]]
@[go_sem] def l99_1 (_ : Unit) : KL := [kA 5 (.mv (.t 0)),
  kA 6 (.mv (.t 1)),
  kA 7 (.call (n_slices_IndexFunc_Simpl_Rule_impl_Rule) [(.t 5), (.t 6)]),
  kA 8 (.bin .geq (.t 7) (cI 0)),
  kB 4 (.mv (.t 8)) [4]]
@[go_sem] def s99_2 (_ : Unit) : IR := (sQ [(kT l99_0), (kT l99_1), .ret])
theorem c99 : compFn Try.prog [(0, [], [oS [0, 1]]), (1, [], [oN, oN, oN, oN, oS [4]])] Try.f99 = some ⟨2, 9, [.t 4], (tH s99_2)⟩ := by kernel_rfl
theorem v_slices_ContainsFunc_Simpl_Rule_impl_Rule (hl : vs.length = 2) (h : wpV Try.prog (tH s99_2) (postV [.t 4] RV) (envV vs) M) : VCall Try.prog n_slices_ContainsFunc_Simpl_Rule_impl_Rule vs M RV :=
  vcall_of_wp (fun _ _ _ hl h => acall_of_wp mixed Try.func99 c99 (by kernel_rfl) hl h) hl h
@[go_sem] def l58_0 (_ : Unit) : KL := [kA 1 (.box (.t 0)),
  kB 2 (.mv (.c (.bool false))) [1]]
@[go_sem] def l58_1 (_ : Unit) : KL := [kA 3 (.faddr (.t 1) 0),
  kA 4 (.load (.t 3) 1 false),
  kA 5 (.len (.t 4)),
  kA 6 (.call (n_impl_in) [(.t 5), (cI 1), (.c (.int .i64 5))]),
  kB 7 (.un .not (.t 6)) [1, 7],
  kA 8 (.mv (.t 7)),
  (⟨(some 9), .faddr (.t 1) 1, (some (8, false))⟩, none),
  (⟨(some 10), .load (.t 9) 1 false, (some (8, false))⟩, none),
  (⟨(some 11), .len (.t 10), (some (8, false))⟩, none),
  (⟨(some 12), .bin .gtr (.t 11) (.c (.int .i64 8)), (some (8, false))⟩, (some [1, 8, 12])),
  kA 13 (.pick (.t 8) (.c (.bool true)) (.t 12)),
  kA 14 (.mv (.t 13)),
  (⟨(some 15), .faddr (.t 1) 0, (some (14, false))⟩, none),
  (⟨(some 16), .load (.t 15) 1 false, (some (14, false))⟩, none),
  (⟨(some 17), .call (n_slices_ContainsFunc_Simpl_Var_impl_Var) [(.t 16), (.c (.fn (n_impl_SystemValid_1) []))], (some (14, false))⟩, (some [1, 14, 17])),
  kA 18 (.pick (.t 14) (.c (.bool true)) (.t 17)),
  kA 19 (.mv (.t 18)),
  (⟨(some 20), .faddr (.t 1) 0, (some (19, false))⟩, none),
  (⟨(some 21), .load (.t 20) 1 false, (some (19, false))⟩, none),
  (⟨(some 22), .call (n_impl_size) [(.t 21)], (some (19, false))⟩, (some [1, 19, 22])),
  (⟨(some 23), .bin .gtr (.t 22) (.c (.int .i64 400)), (some (19, false))⟩, none),
  kB 24 (.pick (.t 19) (.c (.bool true)) (.t 23)) [1, 24]]
@[go_sem] def l58_2 (_ : Unit) : KL := [kB 2 (.mv (.c (.bool false))) [2]]
@[go_sem] def s58_3 (_ : Unit) : IR := (sQ [(kT l58_2), .ret])
@[go_sem] def s58_4 (_ : Unit) : IR := (sQ [(kT l58_1), (.cond (.t 24) (tH s58_3) .skip)])
@[go_sem] def l58_5 (_ : Unit) : KL := [kA 25 (.faddr (.t 1) 1),
  kA 26 (.load (.t 25) 1 false),
  kA 27 (.mkfn (n_impl_SystemValid_2) [(.t 1)]),
  kA 28 (.call (n_slices_ContainsFunc_Simpl_Rule_impl_Rule) [(.t 26), (.t 27)]),
  kB 29 (.un .not (.t 28)) [29],
  kB 2 (.mv (.t 29)) [2]]
@[go_sem] def s58_6 (_ : Unit) : IR := (sQ [(kT l58_0), (tH s58_4), (kT l58_5), .ret])
theorem c58 : compFn Try.prog [(0, [], [oN, oS [1]]), (1, [], [oN, oN, oN, oN, oS [1, 7], oN, oN, oN, oN, oS [1, 8, 12], oN, oN, oN, oN, oS [1, 14, 17], oN, oN, oN, oN, oS [1, 19, 22], oN, oS [1, 24]]), (2, [], [oS [2]]), (3, [], [oN, oN, oN, oN, oS [29], oS [2]])] Try.f58 = some ⟨1, 30, [.t 2], (tH s58_6)⟩ := by kernel_rfl
theorem v_impl_SystemValid (hl : vs.length = 1) (h : wpV Try.prog (tH s58_6) (postV [.t 2] RV) (envV vs) M) : VCall Try.prog n_impl_SystemValid vs M RV :=
  vcall_of_wp (fun _ _ _ hl h => acall_of_wp mixed Try.func58 c58 (by kernel_rfl) hl h) hl h
@[go_sem] def l82_0 (_ : Unit) : KL := [kA 2 (.box (.t 0)),
  kB 4 (.mv (.c (.bool false))) [1, 2]]
@[go_sem] def l82_1 (_ : Unit) : KL := [kA 7 (.mv (.t 1)),
  kA 8 (.len (.t 7)),
  kA 9 (.faddr (.t 2) 0),
  kA 10 (.load (.t 9) 1 false),
  kB 11 (.len (.t 10)) [1, 2, 8, 11],
  kB 12 (.bin .neq (.t 8) (.t 11)) [1, 2, 12]]
@[go_sem] def l82_2 (_ : Unit) : KL := [kB 4 (.mv (.c (.bool false))) [4]]
@[go_sem] def s82_3 (_ : Unit) : IR := (sQ [(kT l82_2), .ret])
@[go_sem] def s82_4 (_ : Unit) : IR := (sQ [(kT l82_1), (.cond (.t 12) (tH s82_3) .skip)])
@[go_sem] def l82_5 (_ : Unit) : KL := [kA 13 (.faddr (.t 2) 0),
  kA 14 (.load (.t 13) 1 false),
  kA 15 (.len (.t 14)),
  kB 16 (.mv (cI 0)) [1, 14, 15, 16]]
@[go_sem] def l82_6 (_ : Unit) : KL := [kB 17 (.bin .lss (.t 16) (.t 15)) [1, 14, 15, 16, 17]]
@[go_sem] def l82_7 (_ : Unit) : KL := [kA 18 (.mv (.t 16)),
  kA 19 (.iaddr (.t 14) (.t 16) 3),
  kA 20 (.load (.t 19) 3 true),
  kA 6 (.alloc [(.int .i64 0), (.int .i64 0), (.int .i64 0)]),
  kB 5 (.mv (.t 18)) [1, 5, 6, 14, 15, 16, 20],
  (⟨none, .store (.t 6) 3 (.t 20), none⟩, (some [1, 5, 6, 14, 15, 16]))]
@[go_sem] def l82_8 : Nat → GOp
  | 0 => ⟨(some 21), .mv (.t 1), none⟩
  | 1 => ⟨(some 22), .mv (.t 5), none⟩
  | 2 => ⟨(some 23), .iaddr (.t 21) (.t 22) 1, none⟩
  | 3 => ⟨(some 24), .load (.t 23) 1 false, none⟩
  | 4 => ⟨(some 25), .faddr (.t 6) 0, none⟩
  | 5 => ⟨(some 26), .load (.t 25) 1 false, none⟩
  | 6 => ⟨(some 27), .faddr (.t 6) 1, none⟩
  | 7 => ⟨(some 28), .load (.t 27) 1 false, none⟩
  | 8 => ⟨(some 29), .call (n_impl_in) [(.t 24), (.t 26), (.t 28)], none⟩
  | 9 => ⟨(some 30), .un .not (.t 29), none⟩
  | _ => ⟨none, .mkmap, none⟩
@[go_sem] def l82_9 (_ : Unit) : KL := [kB 4 (.mv (.c (.bool false))) [4]]
@[go_sem] def s82_10 (_ : Unit) : IR := (sQ [(kT l82_9), .ret])
@[go_sem] def s82_11 (_ : Unit) : IR := (sQ [(kT l82_7), (.kd (oF l82_8 10) [(0, []), (1, []), (2, []), (3, []), (4, []), (5, []), (6, []), (7, []), (8, []), (9, [])] [1, 14, 15, 16, 30]), (.cond (.t 30) (tH s82_10) .skip)])
@[go_sem] def s82_12 (_ : Unit) : IR := (.block 1 (tH s82_11))
@[go_sem] def l82_13 (_ : Unit) : KL := [kA 31 (.bin .add (.t 16) (cI 1)),
  kB 16 (.mv (.t 31)) [1, 14, 15, 16]]
@[go_sem] def s82_14 (_ : Unit) : IR := (sQ [(kT l82_6), (.cond (.t 17) .skip (.exit 0)), (tH s82_12), (kT l82_13)])
@[go_sem] def s82_15 (_ : Unit) : IR := (.loop (tH s82_14))
@[go_sem] def s82_16 (_ : Unit) : IR := (.block 0 (tH s82_15))
@[go_sem] def s82_17 (_ : Unit) : IR := (sQ [(kT l82_5), (tH s82_16)])
@[go_sem] def l82_18 (_ : Unit) : KL := [kB 4 (.mv (.c (.bool true))) [4]]
@[go_sem] def s82_19 (_ : Unit) : IR := (sQ [(kT l82_0), (tH s82_4), (tH s82_17), (kT l82_18), .ret])
theorem c82 : compFn Try.prog [(0, [], [oN, oS [1, 2]]), (1, [], [oN, oN, oN, oN, oS [1, 2, 8, 11], oS [1, 2, 12]]), (2, [], [oS [4]]), (3, [], [oN, oN, oN, oS [1, 14, 15, 16]]), (4, [], [oS [1, 14, 15, 16, 17]]), (5, [], [oN, oN, oN, oN, oS [1, 5, 6, 14, 15, 16, 20], oS [1, 5, 6, 14, 15, 16]]), (6, [(0, []), (1, []), (2, []), (3, []), (4, []), (5, []), (6, []), (7, []), (8, []), (9, [])], [oS [1, 14, 15, 16, 30]]), (7, [], [oS [4]]), (8, [], [oN, oS [1, 14, 15, 16]]), (9, [], [oS [4]])] Try.f82 = some ⟨2, 32, [.t 4], (tH s82_19)⟩ := by kernel_rfl
theorem v_impl_inRange (hl : vs.length = 2) (h : wpV Try.prog (tH s82_19) (postV [.t 4] RV) (envV vs) M) : VCall Try.prog n_impl_inRange vs M RV :=
  vcall_of_wp (fun _ _ _ hl h => acall_of_wp mixed Try.func82 c82 (by kernel_rfl) hl h) hl h
@[go_sem] def l41_0 (_ : Unit) : KL := [kA 2 (.box (.t 0)),
  kB 4 (.mv (.c (.bool false))) [1, 2]]
@[go_sem] def l41_1 (_ : Unit) : KL := [kA 5 (.load (.t 2) 2 true),
  kA 6 (.call (n_impl_SystemValid) [(.t 5)]),
  kA 7 (.mv (.t 6)),
  (⟨(some 8), .load (.t 2) 2 true, (some (7, true))⟩, none),
  (⟨(some 9), .mv (.t 1), (some (7, true))⟩, (some [7, 8, 9])),
  (⟨(some 10), .call (n_impl_inRange) [(.t 8), (.t 9)], (some (7, true))⟩, none),
  kA 11 (.pick (.t 7) (.t 10) (.c (.bool false))),
  kB 4 (.mv (.t 11)) [4]]
@[go_sem] def s41_2 (_ : Unit) : IR := (sQ [(kT l41_0), (kT l41_1), .ret])
theorem c41 : compFn Try.prog [(0, [], [oN, oS [1, 2]]), (1, [], [oN, oN, oN, oN, oS [7, 8, 9], oN, oN, oS [4]])] Try.f41 = some ⟨2, 12, [.t 4], (tH s41_2)⟩ := by kernel_rfl
theorem v_impl_InRange (hl : vs.length = 2) (h : wpV Try.prog (tH s41_2) (postV [.t 4] RV) (envV vs) M) : VCall Try.prog n_impl_InRange vs M RV :=
  vcall_of_wp (fun _ _ _ hl h => acall_of_wp mixed Try.func41 c41 (by kernel_rfl) hl h) hl h
@[go_sem] def l134_0 (_ : Unit) : KL := [kB 2 (.mv (cI 0)) [0]]
@[go_sem] def l134_1 (_ : Unit) : KL := [kA 3 (.mv (.t 0)),
  kA 4 (.mnx false (.c (.int .i64 9999)) (.t 3)),
  kA 5 (.mnx true (.c (.int .i64 (-9999))) (.t 4)),
  kB 2 (.mv (.t 5)) [2]]
@[go_sem] def s134_2 (_ : Unit) : IR := (sQ [(kT l134_0), (kT l134_1), .ret])
theorem c134 : compFn Try.prog [(0, [], [oS [0]]), (1, [], [oN, oN, oN, oS [2]])] Try.f134 = some ⟨1, 6, [.t 2], (tH s134_2)⟩ := by kernel_rfl
theorem v_impl_held (hl : vs.length = 1) (h : wpV Try.prog (tH s134_2) (postV [.t 2] RV) (envV vs) M) : VCall Try.prog n_impl_held vs M RV :=
  vcall_of_wp (fun _ _ _ hl h => acall_of_wp mixed Try.func134 c134 (by kernel_rfl) hl h) hl h
@[go_sem] def l135_0 (_ : Unit) : KL := [kB 2 (.mv (cI 0)) [0]]
@[go_sem] def l135_1 (_ : Unit) : KL := [kB 3 (.mv (.t 0)) [3]]
@[go_sem] def l135_2 (_ : Unit) : KL := [kB 2 (.mv (cI 1)) [2]]
@[go_sem] def s135_3 (_ : Unit) : IR := (sQ [(kT l135_2), .ret])
@[go_sem] def s135_4 (_ : Unit) : IR := (sQ [(kT l135_1), (.cond (.t 3) (tH s135_3) .skip)])
@[go_sem] def l135_5 (_ : Unit) : KL := [kB 2 (.mv (cI 0)) [2]]
@[go_sem] def s135_6 (_ : Unit) : IR := (sQ [(kT l135_0), (tH s135_4), (kT l135_5), .ret])
theorem c135 : compFn Try.prog [(0, [], [oS [0]]), (1, [], [oS [3]]), (2, [], [oS [2]]), (3, [], [oS [2]])] Try.f135 = some ⟨1, 4, [.t 2], (tH s135_6)⟩ := by kernel_rfl
theorem v_impl_bit (hl : vs.length = 1) (h : wpV Try.prog (tH s135_6) (postV [.t 2] RV) (envV vs) M) : VCall Try.prog n_impl_bit vs M RV :=
  vcall_of_wp (fun _ _ _ hl h => acall_of_wp mixed Try.func135 c135 (by kernel_rfl) hl h) hl h
@[go_sem] def l127_0 (_ : Unit) : KL := [kB 6 (.mv (cI 0)) [0, 1, 2]]
@[go_sem] def l127_1 (_ : Unit) : KL := [kB 7 (.mv (.t 0)) [1, 2, 7]]
@[go_sem] def l127_2 (_ : Unit) : KL := [kA 9 (.bin .eql (.t 7) (.c (.int .i64 2))),
  kB 8 (.mv (.t 9)) [1, 2, 7, 8]]
@[go_sem] def l127_3 (_ : Unit) : KL := [kA 10 (.mv (.t 1)),
  kA 11 (.mv (.t 2)),
  kA 12 (.bin .add (.t 10) (.t 11)),
  kA 13 (.call (n_impl_held) [(.t 12)]),
  kB 6 (.mv (.t 13)) [6]]
@[go_sem] def s127_4 (_ : Unit) : IR := (sQ [(kT l127_3), .ret])
@[go_sem] def l127_5 (_ : Unit) : KL := [kA 15 (.bin .eql (.t 7) (.c (.int .i64 3))),
  kB 14 (.mv (.t 15)) [1, 2, 7, 14]]
@[go_sem] def l127_6 (_ : Unit) : KL := [kA 16 (.mv (.t 1)),
  kA 17 (.mv (.t 2)),
  kA 18 (.bin .sub (.t 16) (.t 17)),
  kA 19 (.call (n_impl_held) [(.t 18)]),
  kB 6 (.mv (.t 19)) [6]]
@[go_sem] def s127_7 (_ : Unit) : IR := (sQ [(kT l127_6), .ret])
@[go_sem] def l127_8 (_ : Unit) : KL := [kA 21 (.bin .eql (.t 7) (.c (.int .i64 4))),
  kB 20 (.mv (.t 21)) [1, 2, 7, 20]]
@[go_sem] def l127_9 (_ : Unit) : KL := [kA 22 (.mv (.t 1)),
  kA 23 (.mv (.t 2)),
  kA 24 (.bin .mul (.t 22) (.t 23)),
  kA 25 (.call (n_impl_held) [(.t 24)]),
  kB 6 (.mv (.t 25)) [6]]
@[go_sem] def s127_10 (_ : Unit) : IR := (sQ [(kT l127_9), .ret])
@[go_sem] def l127_11 (_ : Unit) : KL := [kA 27 (.bin .eql (.t 7) (.c (.int .i64 5))),
  kB 26 (.mv (.t 27)) [1, 2, 7, 26]]
@[go_sem] def l127_12 (_ : Unit) : KL := [kA 28 (.mv (.t 1)),
  kA 29 (.mv (.t 2)),
  kA 30 (.bin .lss (.t 28) (.t 29)),
  kA 31 (.call (n_impl_bit) [(.t 30)]),
  kB 6 (.mv (.t 31)) [6]]
@[go_sem] def s127_13 (_ : Unit) : IR := (sQ [(kT l127_12), .ret])
@[go_sem] def l127_14 (_ : Unit) : KL := [kA 33 (.bin .eql (.t 7) (.c (.int .i64 6))),
  kB 32 (.mv (.t 33)) [1, 2, 7, 32]]
@[go_sem] def l127_15 (_ : Unit) : KL := [kA 34 (.mv (.t 1)),
  kA 35 (.mv (.t 2)),
  kA 36 (.bin .eql (.t 34) (.t 35)),
  kA 37 (.call (n_impl_bit) [(.t 36)]),
  kB 6 (.mv (.t 37)) [6]]
@[go_sem] def s127_16 (_ : Unit) : IR := (sQ [(kT l127_15), .ret])
@[go_sem] def l127_17 (_ : Unit) : KL := [kA 39 (.bin .eql (.t 7) (.c (.int .i64 7))),
  kB 38 (.mv (.t 39)) [1, 2, 7, 38]]
@[go_sem] def l127_18 (_ : Unit) : KL := [kA 40 (.mv (.t 1)),
  kA 41 (.bin .sub (cI 1) (.t 40)),
  kB 6 (.mv (.t 41)) [6]]
@[go_sem] def s127_19 (_ : Unit) : IR := (sQ [(kT l127_18), .ret])
@[go_sem] def l127_20 (_ : Unit) : KL := [kA 43 (.bin .eql (.t 7) (.c (.int .i64 8))),
  kB 42 (.mv (.t 43)) [1, 2, 42]]
@[go_sem] def l127_21 (_ : Unit) : KL := [kA 44 (.mv (.t 1)),
  kA 45 (.mv (.t 2)),
  kA 46 (.mnx false (.t 44) (.t 45)),
  kB 6 (.mv (.t 46)) [6]]
@[go_sem] def s127_22 (_ : Unit) : IR := (sQ [(kT l127_21), .ret])
@[go_sem] def s127_23 (_ : Unit) : IR := (sQ [(kT l127_20), (.cond (.t 42) (tH s127_22) .skip)])
@[go_sem] def s127_24 (_ : Unit) : IR := (sQ [(kT l127_17), (.cond (.t 38) (tH s127_19) (tH s127_23))])
@[go_sem] def s127_25 (_ : Unit) : IR := (sQ [(kT l127_14), (.cond (.t 32) (tH s127_16) (tH s127_24))])
@[go_sem] def s127_26 (_ : Unit) : IR := (sQ [(kT l127_11), (.cond (.t 26) (tH s127_13) (tH s127_25))])
@[go_sem] def s127_27 (_ : Unit) : IR := (sQ [(kT l127_8), (.cond (.t 20) (tH s127_10) (tH s127_26))])
@[go_sem] def s127_28 (_ : Unit) : IR := (sQ [(kT l127_5), (.cond (.t 14) (tH s127_7) (tH s127_27))])
@[go_sem] def s127_29 (_ : Unit) : IR := (sQ [(kT l127_2), (.cond (.t 8) (tH s127_4) (tH s127_28))])
@[go_sem] def s127_30 (_ : Unit) : IR := (.block 0 (tH s127_29))
@[go_sem] def s127_31 (_ : Unit) : IR := (sQ [(kT l127_1), (tH s127_30)])
@[go_sem] def l127_32 (_ : Unit) : KL := [kA 47 (.mv (.t 1)),
  kA 48 (.mv (.t 2)),
  kA 49 (.mnx true (.t 47) (.t 48)),
  kB 6 (.mv (.t 49)) [6]]
@[go_sem] def s127_33 (_ : Unit) : IR := (sQ [(kT l127_0), (tH s127_31), (kT l127_32), .ret])
theorem c127 : compFn Try.prog [(0, [], [oS [0, 1, 2]]), (1, [], [oS [1, 2, 7]]), (2, [], [oN, oS [1, 2, 7, 8]]), (3, [], [oN, oN, oN, oN, oS [6]]), (4, [], [oN, oS [1, 2, 7, 14]]), (5, [], [oN, oN, oN, oN, oS [6]]), (6, [], [oN, oS [1, 2, 7, 20]]), (7, [], [oN, oN, oN, oN, oS [6]]), (8, [], [oN, oS [1, 2, 7, 26]]), (9, [], [oN, oN, oN, oN, oS [6]]), (10, [], [oN, oS [1, 2, 7, 32]]), (11, [], [oN, oN, oN, oN, oS [6]]), (12, [], [oN, oS [1, 2, 7, 38]]), (13, [], [oN, oN, oS [6]]), (14, [], [oN, oS [1, 2, 42]]), (15, [], [oN, oN, oN, oS [6]]), (16, [], [oN, oN, oN, oS [6]])] Try.f127 = some ⟨3, 50, [.t 6], (tH s127_33)⟩ := by kernel_rfl
theorem v_impl_do (hl : vs.length = 3) (h : wpV Try.prog (tH s127_33) (postV [.t 6] RV) (envV vs) M) : VCall Try.prog n_impl_do vs M RV :=
  vcall_of_wp (fun _ _ _ hl h => acall_of_wp mixed Try.func127 c127 (by kernel_rfl) hl h) hl h
@[go_sem] def l115_0 (_ : Unit) : KL := [kB 4 (.mv (cI 0)) [0, 1]]
@[go_sem] def l115_1 (_ : Unit) : KL := [kA 8 (.mv (.t 0)),
  kA 9 (.len (.t 8)),
  kA 10 (.mks [(.int .i64 0)] 8 (.t 9)),
  kB 5 (.mv (.t 10)) [0, 1, 5]]
@[go_sem] def l115_2 (_ : Unit) : KL := [kA 11 (.mv (.t 0)),
  kA 12 (.len (.t 11)),
  kB 13 (.mv (cI 0)) [1, 5, 11, 12, 13]]
@[go_sem] def l115_3 (_ : Unit) : KL := [kB 14 (.bin .lss (.t 13) (.t 12)) [1, 5, 11, 12, 13, 14]]
@[go_sem] def l115_4 (_ : Unit) : KL := [kA 15 (.mv (.t 13)),
  kA 16 (.iaddr (.t 11) (.t 13) 4),
  kA 17 (.load (.t 16) 4 true),
  kA 7 (.alloc [(.int .i64 0), (.int .i64 0), (.int .i64 0), (.int .i64 0)]),
  kB 6 (.mv (.t 15)) [1, 5, 6, 7, 11, 12, 13, 17],
  (⟨none, .store (.t 7) 4 (.t 17), none⟩, (some [1, 5, 6, 7, 11, 12, 13]))]
@[go_sem] def l115_5 (_ : Unit) : KL := [kA 18 (.faddr (.t 7) 0),
  kB 19 (.load (.t 18) 1 false) [1, 5, 6, 7, 11, 12, 13, 19]]
@[go_sem] def l115_6 (_ : Unit) : KL := [kA 37 (.bin .eql (.t 19) (cI 0)),
  kB 36 (.mv (.t 37)) [1, 5, 6, 7, 11, 12, 13, 19, 36]]
@[go_sem] def l115_7 (_ : Unit) : KL := [kA 38 (.mv (.t 5)),
  kA 39 (.mv (.t 6)),
  kA 40 (.faddr (.t 7) 1),
  kA 41 (.load (.t 40) 1 false),
  kB 42 (.iaddr (.t 38) (.t 39) 1) [1, 5, 11, 12, 13, 41, 42],
  (⟨none, .store (.t 42) 1 (.t 41), none⟩, (some [1, 5, 11, 12, 13]))]
@[go_sem] def l115_8 (_ : Unit) : KL := [kA 44 (.bin .eql (.t 19) (cI 1)),
  kB 43 (.mv (.t 44)) [1, 5, 6, 7, 11, 12, 13, 43]]
@[go_sem] def l115_9 (_ : Unit) : KL := [kA 45 (.mv (.t 5)),
  kA 46 (.mv (.t 6)),
  kA 47 (.mv (.t 1)),
  kA 48 (.faddr (.t 7) 1),
  kB 49 (.load (.t 48) 1 false) [1, 5, 11, 12, 13, 45, 46, 47, 49],
  kA 50 (.iaddr (.t 47) (.t 49) 1),
  kA 51 (.load (.t 50) 1 false),
  kA 52 (.iaddr (.t 45) (.t 46) 1),
  (⟨none, .store (.t 52) 1 (.t 51), none⟩, (some [1, 5, 11, 12, 13]))]
@[go_sem] def l115_10 : Nat → GOp
  | 0 => ⟨(some 20), .mv (.t 5), none⟩
  | 1 => ⟨(some 21), .mv (.t 6), none⟩
  | 2 => ⟨(some 22), .faddr (.t 7) 0, none⟩
  | 3 => ⟨(some 23), .load (.t 22) 1 false, none⟩
  | 4 => ⟨(some 24), .mv (.t 5), none⟩
  | 5 => ⟨(some 25), .faddr (.t 7) 2, none⟩
  | 6 => ⟨(some 26), .load (.t 25) 1 false, none⟩
  | 7 => ⟨(some 27), .iaddr (.t 24) (.t 26) 1, none⟩
  | 8 => ⟨(some 28), .load (.t 27) 1 false, none⟩
  | 9 => ⟨(some 29), .mv (.t 5), none⟩
  | 10 => ⟨(some 30), .faddr (.t 7) 3, none⟩
  | 11 => ⟨(some 31), .load (.t 30) 1 false, none⟩
  | 12 => ⟨(some 32), .iaddr (.t 29) (.t 31) 1, none⟩
  | 13 => ⟨(some 33), .load (.t 32) 1 false, none⟩
  | 14 => ⟨(some 34), .call (n_impl_do) [(.t 23), (.t 28), (.t 33)], none⟩
  | 15 => ⟨(some 35), .iaddr (.t 20) (.t 21) 1, none⟩
  | 16 => ⟨none, .store (.t 35) 1 (.t 34), none⟩
  | _ => ⟨none, .mkmap, none⟩
@[go_sem] def s115_11 (_ : Unit) : IR := (sQ [(kT l115_8), (.cond (.t 43) (kT l115_9) (.kd (oF l115_10 17) [(0, []), (1, []), (2, []), (3, []), (4, []), (5, []), (6, []), (7, []), (8, []), (9, []), (10, []), (11, []), (12, []), (13, []), (14, []), (15, []), (16, [])] [1, 5, 11, 12, 13]))])
@[go_sem] def s115_12 (_ : Unit) : IR := (sQ [(kT l115_6), (.cond (.t 36) (kT l115_7) (tH s115_11))])
@[go_sem] def s115_13 (_ : Unit) : IR := (.block 2 (tH s115_12))
@[go_sem] def s115_14 (_ : Unit) : IR := (sQ [(kT l115_4), (kT l115_5), (tH s115_13)])
@[go_sem] def s115_15 (_ : Unit) : IR := (.block 1 (tH s115_14))
@[go_sem] def l115_16 (_ : Unit) : KL := [kA 53 (.bin .add (.t 13) (cI 1)),
  kB 13 (.mv (.t 53)) [1, 5, 11, 12, 13]]
@[go_sem] def s115_17 (_ : Unit) : IR := (sQ [(kT l115_3), (.cond (.t 14) .skip (.exit 0)), (tH s115_15), (kT l115_16)])
@[go_sem] def s115_18 (_ : Unit) : IR := (.loop (tH s115_17))
@[go_sem] def s115_19 (_ : Unit) : IR := (.block 0 (tH s115_18))
@[go_sem] def s115_20 (_ : Unit) : IR := (sQ [(kT l115_2), (tH s115_19)])
@[go_sem] def l115_21 (_ : Unit) : KL := [kA 54 (.mv (.t 5)),
  kA 55 (.mv (.t 5)),
  kA 56 (.len (.t 55)),
  kA 57 (.bin .sub (.t 56) (cI 1)),
  kB 58 (.iaddr (.t 54) (.t 57) 1) [58],
  kA 59 (.load (.t 58) 1 false),
  kB 4 (.mv (.t 59)) [4]]
@[go_sem] def s115_22 (_ : Unit) : IR := (sQ [(kT l115_0), (kT l115_1), (tH s115_20), (kT l115_21), .ret])
theorem c115 : compFn Try.prog [(0, [], [oS [0, 1]]), (1, [], [oN, oN, oN, oS [0, 1, 5]]), (2, [], [oN, oN, oS [1, 5, 11, 12, 13]]), (3, [], [oS [1, 5, 11, 12, 13, 14]]), (4, [], [oN, oN, oN, oN, oS [1, 5, 6, 7, 11, 12, 13, 17], oS [1, 5, 6, 7, 11, 12, 13]]), (5, [], [oN, oS [1, 5, 6, 7, 11, 12, 13, 19]]), (7, [], [oN, oS [1, 5, 6, 7, 11, 12, 13, 19, 36]]), (8, [], [oN, oN, oN, oN, oS [1, 5, 11, 12, 13, 41, 42], oS [1, 5, 11, 12, 13]]), (9, [], [oN, oS [1, 5, 6, 7, 11, 12, 13, 43]]), (10, [], [oN, oN, oN, oN, oS [1, 5, 11, 12, 13, 45, 46, 47, 49], oN, oN, oN, oS [1, 5, 11, 12, 13]]), (6, [(0, []), (1, []), (2, []), (3, []), (4, []), (5, []), (6, []), (7, []), (8, []), (9, []), (10, []), (11, []), (12, []), (13, []), (14, []), (15, []), (16, [])], [oS [1, 5, 11, 12, 13]]), (11, [], [oN, oS [1, 5, 11, 12, 13]]), (12, [], [oN, oN, oN, oN, oS [58], oN, oS [4]])] Try.f115 = some ⟨2, 60, [.t 4], (tH s115_22)⟩ := by kernel_rfl
theorem v_impl_eval (hl : vs.length = 2) (h : wpV Try.prog (tH s115_22) (postV [.t 4] RV) (envV vs) M) : VCall Try.prog n_impl_eval vs M RV :=
  vcall_of_wp (fun _ _ _ hl h => acall_of_wp mixed Try.func115 c115 (by kernel_rfl) hl h) hl h
@[go_sem] def l64_0 (_ : Unit) : KL := [kB 2 (.mv (.c (.sl none 0 0 true 0))) [0]]
@[go_sem] def l64_1 (_ : Unit) : KL := [kA 4 (.mv (.t 0)),
  kA 5 (.len (.t 4)),
  kB 6 (.bin .eql (.t 5) (cI 0)) [0, 6]]
@[go_sem] def l64_2 (_ : Unit) : KL := [kB 2 (.mv (.c (.sl none 0 0 true 0))) [2]]
@[go_sem] def s64_3 (_ : Unit) : IR := (sQ [(kT l64_2), .ret])
@[go_sem] def s64_4 (_ : Unit) : IR := (sQ [(kT l64_1), (.cond (.t 6) (tH s64_3) .skip)])
@[go_sem] def l64_5 (_ : Unit) : KL := [kA 7 (.mv (.t 0)),
  kA 8 (.len (.t 7)),
  kA 9 (.mks [(.int .i64 0)] 8 (.t 8)),
  kB 3 (.mv (.t 9)) [0, 3]]
@[go_sem] def l64_6 (_ : Unit) : KL := [kA 10 (.mv (.t 3)),
  kA 11 (.mv (.t 0)),
  kB 12 (.copy 1 (.t 10) (.t 11)) [3]]
@[go_sem] def l64_7 (_ : Unit) : KL := [kA 13 (.mv (.t 3)),
  kB 2 (.mv (.t 13)) [2]]
@[go_sem] def s64_8 (_ : Unit) : IR := (sQ [(kT l64_0), (tH s64_4), (kT l64_5), (kT l64_6), (kT l64_7), .ret])
theorem c64 : compFn Try.prog [(0, [], [oS [0]]), (1, [], [oN, oN, oS [0, 6]]), (2, [], [oS [2]]), (3, [], [oN, oN, oN, oS [0, 3]]), (4, [], [oN, oN, oS [3]]), (5, [], [oN, oS [2]])] Try.f64 = some ⟨1, 14, [.t 2], (tH s64_8)⟩ := by kernel_rfl
theorem v_impl_clone_int (hl : vs.length = 1) (h : wpV Try.prog (tH s64_8) (postV [.t 2] RV) (envV vs) M) : VCall Try.prog n_impl_clone_int vs M RV :=
  vcall_of_wp (fun _ _ _ hl h => acall_of_wp mixed Try.func64 c64 (by kernel_rfl) hl h) hl h
@[go_sem] def l83_0 (_ : Unit) : KL := [kA 3 (.box (.t 0)),
  kA 6 (.mv (.c (.sl none 0 0 true 0))),
  kB 7 (.mv (.c (.bool false))) [1, 2, 3]]
@[go_sem] def l83_1 (_ : Unit) : KL := [kA 12 (.faddr (.t 3) 1),
  kA 13 (.load (.t 12) 1 false),
  kA 14 (.mv (.t 2)),
  kA 15 (.iaddr (.t 13) (.t 14) 3),
  kB 16 (.load (.t 15) 3 true) [1, 3, 16],
  kA 8 (.alloc [(.sl none 0 0 true 0), (.sl none 0 0 true 0), (.sl none 0 0 true 0)]),
  (⟨none, .store (.t 8) 3 (.t 16), none⟩, (some [1, 3, 8]))]
@[go_sem] def l83_2 (_ : Unit) : KL := [kA 17 (.faddr (.t 8) 0),
  kA 18 (.load (.t 17) 1 false),
  kA 19 (.mv (.t 1)),
  kA 20 (.call (n_impl_eval) [(.t 18), (.t 19)]),
  kB 21 (.bin .eql (.t 20) (cI 0)) [1, 3, 8, 21]]
@[go_sem] def l83_3 (_ : Unit) : KL := [kA 6 (.mv (.c (.sl none 0 0 true 0))),
  kB 7 (.mv (.c (.bool false))) [6, 7]]
@[go_sem] def s83_4 (_ : Unit) : IR := (sQ [(kT l83_3), .ret])
@[go_sem] def s83_5 (_ : Unit) : IR := (sQ [(kT l83_2), (.cond (.t 21) (tH s83_4) .skip)])
@[go_sem] def l83_6 (_ : Unit) : KL := [kA 22 (.mv (.t 1)),
  kA 23 (.call (n_impl_clone_int) [(.t 22)]),
  kB 9 (.mv (.t 23)) [1, 3, 8, 9]]
@[go_sem] def l83_7 (_ : Unit) : KL := [kA 24 (.faddr (.t 8) 1),
  kA 25 (.load (.t 24) 1 false),
  kA 26 (.len (.t 25)),
  kB 27 (.mv (cI 0)) [1, 3, 8, 9, 25, 26, 27]]
@[go_sem] def l83_8 (_ : Unit) : KL := [kB 28 (.bin .lss (.t 27) (.t 26)) [1, 3, 8, 9, 25, 26, 27, 28]]
@[go_sem] def l83_9 (_ : Unit) : KL := [kA 29 (.mv (.t 27)),
  kA 30 (.iaddr (.t 25) (.t 27) 1),
  kA 31 (.load (.t 30) 1 false),
  kA 10 (.mv (.t 29)),
  kB 11 (.mv (.t 31)) [1, 3, 8, 9, 10, 11, 25, 26, 27]]
@[go_sem] def l83_10 (_ : Unit) : KL := [kA 32 (.mv (.t 9)),
  kA 33 (.mv (.t 11)),
  kA 34 (.faddr (.t 8) 2),
  kA 35 (.load (.t 34) 1 false),
  kB 36 (.mv (.t 10)) [1, 3, 8, 9, 25, 26, 27, 32, 33, 35, 36],
  kA 37 (.iaddr (.t 35) (.t 36) 1),
  kA 38 (.load (.t 37) 1 false),
  kA 39 (.mv (.t 1)),
  kA 40 (.call (n_impl_eval) [(.t 38), (.t 39)]),
  kB 41 (.iaddr (.t 32) (.t 33) 1) [1, 3, 8, 9, 25, 26, 27, 40, 41],
  (⟨none, .store (.t 41) 1 (.t 40), none⟩, (some [1, 3, 8, 9, 25, 26, 27]))]
@[go_sem] def s83_11 (_ : Unit) : IR := (sQ [(kT l83_9), (kT l83_10)])
@[go_sem] def s83_12 (_ : Unit) : IR := (.block 1 (tH s83_11))
@[go_sem] def l83_13 (_ : Unit) : KL := [kA 42 (.bin .add (.t 27) (cI 1)),
  kB 27 (.mv (.t 42)) [1, 3, 8, 9, 25, 26, 27]]
@[go_sem] def s83_14 (_ : Unit) : IR := (sQ [(kT l83_8), (.cond (.t 28) .skip (.exit 0)), (tH s83_12), (kT l83_13)])
@[go_sem] def s83_15 (_ : Unit) : IR := (.loop (tH s83_14))
@[go_sem] def s83_16 (_ : Unit) : IR := (.block 0 (tH s83_15))
@[go_sem] def s83_17 (_ : Unit) : IR := (sQ [(kT l83_7), (tH s83_16)])
@[go_sem] def l83_18 (_ : Unit) : KL := [kA 43 (.load (.t 3) 2 true),
  kA 44 (.mv (.t 9)),
  kA 45 (.call (n_impl_inRange) [(.t 43), (.t 44)]),
  kB 46 (.un .not (.t 45)) [9, 46]]
@[go_sem] def l83_19 (_ : Unit) : KL := [kA 6 (.mv (.c (.sl none 0 0 true 0))),
  kB 7 (.mv (.c (.bool false))) [6, 7]]
@[go_sem] def s83_20 (_ : Unit) : IR := (sQ [(kT l83_19), .ret])
@[go_sem] def s83_21 (_ : Unit) : IR := (sQ [(kT l83_18), (.cond (.t 46) (tH s83_20) .skip)])
@[go_sem] def l83_22 (_ : Unit) : KL := [kA 47 (.mv (.t 9)),
  kA 6 (.mv (.t 47)),
  kB 7 (.mv (.c (.bool true))) [6, 7]]
@[go_sem] def s83_23 (_ : Unit) : IR := (sQ [(kT l83_0), (kT l83_1), (tH s83_5), (kT l83_6), (tH s83_17), (tH s83_21), (kT l83_22), .ret])
theorem c83 : compFn Try.prog [(0, [], [oN, oN, oS [1, 2, 3]]), (1, [], [oN, oN, oN, oN, oS [1, 3, 16], oN, oS [1, 3, 8]]), (2, [], [oN, oN, oN, oN, oS [1, 3, 8, 21]]), (3, [], [oN, oS [6, 7]]), (4, [], [oN, oN, oS [1, 3, 8, 9]]), (5, [], [oN, oN, oN, oS [1, 3, 8, 9, 25, 26, 27]]), (6, [], [oS [1, 3, 8, 9, 25, 26, 27, 28]]), (7, [], [oN, oN, oN, oN, oS [1, 3, 8, 9, 10, 11, 25, 26, 27]]), (8, [], [oN, oN, oN, oN, oS [1, 3, 8, 9, 25, 26, 27, 32, 33, 35, 36], oN, oN, oN, oN, oS [1, 3, 8, 9, 25, 26, 27, 40, 41], oS [1, 3, 8, 9, 25, 26, 27]]), (9, [], [oN, oS [1, 3, 8, 9, 25, 26, 27]]), (10, [], [oN, oN, oN, oS [9, 46]]), (11, [], [oN, oS [6, 7]]), (12, [], [oN, oN, oS [6, 7]])] Try.f83 = some ⟨3, 48, [.t 6, .t 7], (tH s83_23)⟩ := by kernel_rfl
theorem v_impl_use (hl : vs.length = 3) (h : wpV Try.prog (tH s83_23) (postV [.t 6, .t 7] RV) (envV vs) M) : VCall Try.prog n_impl_use vs M RV :=
  vcall_of_wp (fun _ _ _ hl h => acall_of_wp mixed Try.func83 c83 (by kernel_rfl) hl h) hl h
@[go_sem] def l92_0 (_ : Unit) : KL := [kA 2 (.box (.t 0)),
  kB 4 (.mv (.c (.sl none 0 0 true 0))) [1, 2]]
@[go_sem] def l92_1 (_ : Unit) : KL := [kB 5 (.mv (.c (.sl none 0 0 true 0))) [1, 2, 5]]
@[go_sem] def l92_2 (_ : Unit) : KL := [kA 9 (.faddr (.t 2) 1),
  kA 10 (.load (.t 9) 1 false),
  kA 11 (.len (.t 10)),
  kB 12 (.mv (cI 0)) [1, 2, 5, 11, 12]]
@[go_sem] def l92_3 (_ : Unit) : KL := [kB 13 (.bin .lss (.t 12) (.t 11)) [1, 2, 5, 11, 12, 13]]
@[go_sem] def l92_4 (_ : Unit) : KL := [kA 14 (.mv (.t 12)),
  kB 6 (.mv (.t 14)) [1, 2, 5, 6, 11, 12]]
@[go_sem] def l92_5 (_ : Unit) : KL := [kA 16 (.load (.t 2) 2 true),
  kA 17 (.mv (.t 1)),
  kA 18 (.mv (.t 6)),
  kA 19 (.call (n_impl_use) [(.t 16), (.t 17), (.t 18)]),
  kB 15 (.mv (.t 19)) [1, 2, 5, 6, 11, 12, 15],
  kA 20 (.ext (.t 15) 0),
  kA 21 (.ext (.t 15) 1),
  kA 7 (.mv (.t 20)),
  kB 8 (.mv (.t 21)) [1, 2, 5, 6, 8, 11, 12]]
@[go_sem] def l92_6 (_ : Unit) : KL := [kB 22 (.mv (.t 8)) [1, 2, 5, 6, 11, 12, 22]]
@[go_sem] def l92_7 (_ : Unit) : KL := [kA 23 (.mv (.t 5)),
  kA 24 (.mv (.t 6)),
  kA 25 (.bslc 1 1 [(.int .i64 0)] [(0, (.t 24))]),
  kA 26 (.app 1 8 (.t 23) (.t 25)),
  kB 5 (.mv (.t 26)) [1, 2, 5, 11, 12]]
@[go_sem] def s92_8 (_ : Unit) : IR := (sQ [(kT l92_4), (kT l92_5), (kT l92_6), (.cond (.t 22) (kT l92_7) .skip)])
@[go_sem] def s92_9 (_ : Unit) : IR := (.block 1 (tH s92_8))
@[go_sem] def l92_10 (_ : Unit) : KL := [kA 27 (.bin .add (.t 12) (cI 1)),
  kB 12 (.mv (.t 27)) [1, 2, 5, 11, 12]]
@[go_sem] def s92_11 (_ : Unit) : IR := (sQ [(kT l92_3), (.cond (.t 13) .skip (.exit 0)), (tH s92_9), (kT l92_10)])
@[go_sem] def s92_12 (_ : Unit) : IR := (.loop (tH s92_11))
@[go_sem] def s92_13 (_ : Unit) : IR := (.block 0 (tH s92_12))
@[go_sem] def s92_14 (_ : Unit) : IR := (sQ [(kT l92_2), (tH s92_13)])
@[go_sem] def l92_15 (_ : Unit) : KL := [kA 28 (.mv (.t 5)),
  kA 29 (.call (n_impl_clone_int) [(.t 28)]),
  kB 4 (.mv (.t 29)) [4]]
@[go_sem] def s92_16 (_ : Unit) : IR := (sQ [(kT l92_0), (kT l92_1), (tH s92_14), (kT l92_15), .ret])
theorem c92 : compFn Try.prog [(0, [], [oN, oS [1, 2]]), (1, [], [oS [1, 2, 5]]), (2, [], [oN, oN, oN, oS [1, 2, 5, 11, 12]]), (3, [], [oS [1, 2, 5, 11, 12, 13]]), (4, [], [oN, oS [1, 2, 5, 6, 11, 12]]), (5, [], [oN, oN, oN, oN, oS [1, 2, 5, 6, 11, 12, 15], oN, oN, oN, oS [1, 2, 5, 6, 8, 11, 12]]), (6, [], [oS [1, 2, 5, 6, 11, 12, 22]]), (7, [], [oN, oN, oN, oN, oS [1, 2, 5, 11, 12]]), (8, [], [oN, oS [1, 2, 5, 11, 12]]), (9, [], [oN, oN, oS [4]])] Try.f92 = some ⟨2, 30, [.t 4], (tH s92_16)⟩ := by kernel_rfl
theorem v_impl_usableIn (hl : vs.length = 2) (h : wpV Try.prog (tH s92_16) (postV [.t 4] RV) (envV vs) M) : VCall Try.prog n_impl_usableIn vs M RV :=
  vcall_of_wp (fun _ _ _ hl h => acall_of_wp mixed Try.func92 c92 (by kernel_rfl) hl h) hl h
@[go_sem] def l60_0 (_ : Unit) : KL := [kB 4 (.mv (.c (.bool false))) [0, 1]]
@[go_sem] def l60_1 (_ : Unit) : KL := [kA 6 (.mv (.t 0)),
  kA 7 (.len (.t 6)),
  kA 8 (.mv (.t 1)),
  kA 9 (.len (.t 8)),
  kB 10 (.bin .neq (.t 7) (.t 9)) [0, 1, 10]]
@[go_sem] def l60_2 (_ : Unit) : KL := [kB 4 (.mv (.c (.bool false))) [4]]
@[go_sem] def s60_3 (_ : Unit) : IR := (sQ [(kT l60_2), .ret])
@[go_sem] def s60_4 (_ : Unit) : IR := (sQ [(kT l60_1), (.cond (.t 10) (tH s60_3) .skip)])
@[go_sem] def l60_5 (_ : Unit) : KL := [kA 11 (.mv (.t 0)),
  kA 12 (.len (.t 11)),
  kB 13 (.mv (cI 0)) [0, 1, 12, 13]]
@[go_sem] def l60_6 (_ : Unit) : KL := [kB 14 (.bin .lss (.t 13) (.t 12)) [0, 1, 12, 13, 14]]
@[go_sem] def l60_7 (_ : Unit) : KL := [kA 15 (.mv (.t 13)),
  kB 5 (.mv (.t 15)) [0, 1, 5, 12, 13]]
@[go_sem] def l60_8 : Nat → GOp
  | 0 => ⟨(some 16), .mv (.t 0), none⟩
  | 1 => ⟨(some 17), .mv (.t 5), none⟩
  | 2 => ⟨(some 18), .iaddr (.t 16) (.t 17) 1, none⟩
  | 3 => ⟨(some 19), .load (.t 18) 1 false, none⟩
  | 4 => ⟨(some 20), .mv (.t 1), none⟩
  | 5 => ⟨(some 21), .mv (.t 5), none⟩
  | 6 => ⟨(some 22), .iaddr (.t 20) (.t 21) 1, none⟩
  | 7 => ⟨(some 23), .load (.t 22) 1 false, none⟩
  | 8 => ⟨(some 24), .bin .neq (.t 19) (.t 23), none⟩
  | _ => ⟨none, .mkmap, none⟩
@[go_sem] def l60_9 (_ : Unit) : KL := [kB 4 (.mv (.c (.bool false))) [4]]
@[go_sem] def s60_10 (_ : Unit) : IR := (sQ [(kT l60_9), .ret])
@[go_sem] def s60_11 (_ : Unit) : IR := (sQ [(kT l60_7), (.kd (oF l60_8 9) [(0, []), (1, []), (2, []), (3, []), (4, []), (5, []), (6, []), (7, []), (8, [])] [0, 1, 12, 13, 24]), (.cond (.t 24) (tH s60_10) .skip)])
@[go_sem] def s60_12 (_ : Unit) : IR := (.block 1 (tH s60_11))
@[go_sem] def l60_13 (_ : Unit) : KL := [kA 25 (.bin .add (.t 13) (cI 1)),
  kB 13 (.mv (.t 25)) [0, 1, 12, 13]]
@[go_sem] def s60_14 (_ : Unit) : IR := (sQ [(kT l60_6), (.cond (.t 14) .skip (.exit 0)), (tH s60_12), (kT l60_13)])
@[go_sem] def s60_15 (_ : Unit) : IR := (.loop (tH s60_14))
@[go_sem] def s60_16 (_ : Unit) : IR := (.block 0 (tH s60_15))
@[go_sem] def s60_17 (_ : Unit) : IR := (sQ [(kT l60_5), (tH s60_16)])
@[go_sem] def l60_18 (_ : Unit) : KL := [kB 4 (.mv (.c (.bool true))) [4]]
@[go_sem] def s60_19 (_ : Unit) : IR := (sQ [(kT l60_0), (tH s60_4), (tH s60_17), (kT l60_18), .ret])
theorem c60 : compFn Try.prog [(0, [], [oS [0, 1]]), (1, [], [oN, oN, oN, oN, oS [0, 1, 10]]), (2, [], [oS [4]]), (3, [], [oN, oN, oS [0, 1, 12, 13]]), (4, [], [oS [0, 1, 12, 13, 14]]), (5, [], [oN, oS [0, 1, 5, 12, 13]]), (6, [(0, []), (1, []), (2, []), (3, []), (4, []), (5, []), (6, []), (7, []), (8, [])], [oS [0, 1, 12, 13, 24]]), (7, [], [oS [4]]), (8, [], [oN, oS [0, 1, 12, 13]]), (9, [], [oS [4]])] Try.f60 = some ⟨2, 26, [.t 4], (tH s60_19)⟩ := by kernel_rfl
theorem v_slices_Equal_Sint_int (hl : vs.length = 2) (h : wpV Try.prog (tH s60_19) (postV [.t 4] RV) (envV vs) M) : VCall Try.prog n_slices_Equal_Sint_int vs M RV :=
  vcall_of_wp (fun _ _ _ hl h => acall_of_wp mixed Try.func60 c60 (by kernel_rfl) hl h) hl h
@[go_sem] def l67_0 (_ : Unit) : KL := [kB 2 (.mv (.c (.sl none 0 0 true 0))) [0]]
@[go_sem] def l67_1 (_ : Unit) : KL := [kA 4 (.mv (.t 0)),
  kA 5 (.len (.t 4)),
  kB 6 (.bin .eql (.t 5) (cI 0)) [0, 6]]
@[go_sem] def l67_2 (_ : Unit) : KL := [kB 2 (.mv (.c (.sl none 0 0 true 0))) [2]]
@[go_sem] def s67_3 (_ : Unit) : IR := (sQ [(kT l67_2), .ret])
@[go_sem] def s67_4 (_ : Unit) : IR := (sQ [(kT l67_1), (.cond (.t 6) (tH s67_3) .skip)])
@[go_sem] def l67_5 (_ : Unit) : KL := [kA 7 (.mv (.t 0)),
  kA 8 (.len (.t 7)),
  kA 9 (.mks [(.sl none 0 0 true 0)] 24 (.t 8)),
  kB 3 (.mv (.t 9)) [0, 3]]
@[go_sem] def l67_6 (_ : Unit) : KL := [kA 10 (.mv (.t 3)),
  kA 11 (.mv (.t 0)),
  kB 12 (.copy 1 (.t 10) (.t 11)) [3]]
@[go_sem] def l67_7 (_ : Unit) : KL := [kA 13 (.mv (.t 3)),
  kB 2 (.mv (.t 13)) [2]]
@[go_sem] def s67_8 (_ : Unit) : IR := (sQ [(kT l67_0), (tH s67_4), (kT l67_5), (kT l67_6), (kT l67_7), .ret])
theorem c67 : compFn Try.prog [(0, [], [oS [0]]), (1, [], [oN, oN, oS [0, 6]]), (2, [], [oS [2]]), (3, [], [oN, oN, oN, oS [0, 3]]), (4, [], [oN, oN, oS [3]]), (5, [], [oN, oS [2]])] Try.f67 = some ⟨1, 14, [.t 2], (tH s67_8)⟩ := by kernel_rfl
theorem v_impl_clone_Sint (hl : vs.length = 1) (h : wpV Try.prog (tH s67_8) (postV [.t 2] RV) (envV vs) M) : VCall Try.prog n_impl_clone_Sint vs M RV :=
  vcall_of_wp (fun _ _ _ hl h => acall_of_wp mixed Try.func67 c67 (by kernel_rfl) hl h) hl h
@[go_sem] def l51_0 (_ : Unit) : KL := [kA 3 (.box (.t 0)),
  kA 6 (.mv (.c (.sl none 0 0 true 0))),
  kB 7 (.mv (.c (.bool false))) [1, 2, 3]]
@[go_sem] def l51_1 (_ : Unit) : KL := [kA 14 (.mv (.t 2)),
  kA 15 (.len (.t 14)),
  kB 16 (.bin .eql (.t 15) (cI 0)) [1, 2, 3, 16]]
@[go_sem] def l51_2 (_ : Unit) : KL := [kA 17 (.load (.t 3) 2 true),
  kA 18 (.mv (.t 1)),
  kA 19 (.call (n_impl_usableIn) [(.t 17), (.t 18)]),
  kA 20 (.len (.t 19)),
  kB 21 (.bin .eql (.t 20) (cI 0)) [21],
  kA 6 (.mv (.c (.sl none 0 0 true 0))),
  kB 7 (.mv (.t 21)) [6, 7]]
@[go_sem] def s51_3 (_ : Unit) : IR := (sQ [(kT l51_2), .ret])
@[go_sem] def s51_4 (_ : Unit) : IR := (sQ [(kT l51_1), (.cond (.t 16) (tH s51_3) .skip)])
@[go_sem] def l51_5 (_ : Unit) : KL := [kB 8 (.mv (.c (.sl none 0 0 true 0))) [1, 2, 3, 8]]
@[go_sem] def l51_6 (_ : Unit) : KL := [kA 22 (.mv (.t 1)),
  kB 9 (.mv (.t 22)) [1, 2, 3, 8, 9]]
@[go_sem] def l51_7 (_ : Unit) : KL := [kA 23 (.mv (.t 2)),
  kA 24 (.len (.t 23)),
  kB 25 (.mv (cI 0)) [1, 3, 8, 9, 23, 24, 25]]
@[go_sem] def l51_8 (_ : Unit) : KL := [kB 26 (.bin .lss (.t 25) (.t 24)) [1, 3, 8, 9, 23, 24, 25, 26]]
@[go_sem] def l51_9 (_ : Unit) : KL := [kA 27 (.iaddr (.t 23) (.t 25) 1),
  kA 28 (.load (.t 27) 1 false),
  kB 11 (.mv (.t 28)) [1, 3, 8, 9, 11, 23, 24, 25]]
@[go_sem] def l51_10 (_ : Unit) : KL := [kA 29 (.mv (.t 11)),
  kA 30 (.faddr (.t 3) 1),
  kA 31 (.load (.t 30) 1 false),
  kA 32 (.len (.t 31)),
  kB 33 (.bin .sub (.t 32) (cI 1)) [1, 3, 8, 9, 11, 23, 24, 25, 29, 33],
  kA 34 (.call (n_impl_in) [(.t 29), (cI 0), (.t 33)]),
  kB 35 (.un .not (.t 34)) [1, 3, 8, 9, 11, 23, 24, 25, 35]]
@[go_sem] def l51_11 (_ : Unit) : KL := [kA 6 (.mv (.c (.sl none 0 0 true 0))),
  kB 7 (.mv (.c (.bool false))) [6, 7]]
@[go_sem] def s51_12 (_ : Unit) : IR := (sQ [(kT l51_11), .ret])
@[go_sem] def s51_13 (_ : Unit) : IR := (sQ [(kT l51_10), (.cond (.t 35) (tH s51_12) .skip)])
@[go_sem] def l51_14 (_ : Unit) : KL := [kA 37 (.load (.t 3) 2 true),
  kA 38 (.mv (.t 9)),
  kA 39 (.mv (.t 11)),
  kA 40 (.call (n_impl_use) [(.t 37), (.t 38), (.t 39)]),
  kB 36 (.mv (.t 40)) [1, 3, 8, 23, 24, 25, 36],
  kA 41 (.ext (.t 36) 0),
  kA 42 (.ext (.t 36) 1),
  kA 12 (.mv (.t 41)),
  kB 13 (.mv (.t 42)) [1, 3, 8, 12, 13, 23, 24, 25]]
@[go_sem] def l51_15 (_ : Unit) : KL := [kA 43 (.mv (.t 13)),
  kB 44 (.un .not (.t 43)) [1, 3, 8, 12, 23, 24, 25, 44]]
@[go_sem] def l51_16 (_ : Unit) : KL := [kA 6 (.mv (.c (.sl none 0 0 true 0))),
  kB 7 (.mv (.c (.bool false))) [6, 7]]
@[go_sem] def s51_17 (_ : Unit) : IR := (sQ [(kT l51_16), .ret])
@[go_sem] def s51_18 (_ : Unit) : IR := (sQ [(kT l51_15), (.cond (.t 44) (tH s51_17) .skip)])
@[go_sem] def l51_19 (_ : Unit) : KL := [kA 45 (.mv (.t 12)),
  kB 9 (.mv (.t 45)) [1, 3, 8, 9, 12, 23, 24, 25]]
@[go_sem] def l51_20 (_ : Unit) : KL := [kA 46 (.mv (.t 8)),
  kA 47 (.mv (.t 12)),
  kA 48 (.bslc 1 1 [(.sl none 0 0 true 0)] [(0, (.t 47))]),
  kA 49 (.app 1 24 (.t 46) (.t 48)),
  kB 8 (.mv (.t 49)) [1, 3, 8, 9, 23, 24, 25]]
@[go_sem] def s51_21 (_ : Unit) : IR := (sQ [(kT l51_9), (tH s51_13), (kT l51_14), (tH s51_18), (kT l51_19), (kT l51_20)])
@[go_sem] def s51_22 (_ : Unit) : IR := (.block 1 (tH s51_21))
@[go_sem] def l51_23 (_ : Unit) : KL := [kA 50 (.bin .add (.t 25) (cI 1)),
  kB 25 (.mv (.t 50)) [1, 3, 8, 9, 23, 24, 25]]
@[go_sem] def s51_24 (_ : Unit) : IR := (sQ [(kT l51_8), (.cond (.t 26) .skip (.exit 0)), (tH s51_22), (kT l51_23)])
@[go_sem] def s51_25 (_ : Unit) : IR := (.loop (tH s51_24))
@[go_sem] def s51_26 (_ : Unit) : IR := (.block 0 (tH s51_25))
@[go_sem] def s51_27 (_ : Unit) : IR := (sQ [(kT l51_7), (tH s51_26)])
@[go_sem] def l51_28 (_ : Unit) : KL := [kA 51 (.mv (.t 9)),
  kA 52 (.mv (.t 1)),
  kA 53 (.call (n_slices_Equal_Sint_int) [(.t 51), (.t 52)]),
  kB 54 (.un .not (.t 53)) [8, 54]]
@[go_sem] def l51_29 (_ : Unit) : KL := [kA 6 (.mv (.c (.sl none 0 0 true 0))),
  kB 7 (.mv (.c (.bool false))) [6, 7]]
@[go_sem] def s51_30 (_ : Unit) : IR := (sQ [(kT l51_29), .ret])
@[go_sem] def s51_31 (_ : Unit) : IR := (sQ [(kT l51_28), (.cond (.t 54) (tH s51_30) .skip)])
@[go_sem] def l51_32 (_ : Unit) : KL := [kA 55 (.mv (.t 8)),
  kA 56 (.call (n_impl_clone_Sint) [(.t 55)]),
  kA 6 (.mv (.t 56)),
  kB 7 (.mv (.c (.bool true))) [6, 7]]
@[go_sem] def s51_33 (_ : Unit) : IR := (sQ [(kT l51_0), (tH s51_4), (kT l51_5), (kT l51_6), (tH s51_27), (tH s51_31), (kT l51_32), .ret])
theorem c51 : compFn Try.prog [(0, [], [oN, oN, oS [1, 2, 3]]), (1, [], [oN, oN, oS [1, 2, 3, 16]]), (2, [], [oN, oN, oN, oN, oS [21], oN, oS [6, 7]]), (3, [], [oS [1, 2, 3, 8]]), (4, [], [oN, oS [1, 2, 3, 8, 9]]), (5, [], [oN, oN, oS [1, 3, 8, 9, 23, 24, 25]]), (6, [], [oS [1, 3, 8, 9, 23, 24, 25, 26]]), (7, [], [oN, oN, oS [1, 3, 8, 9, 11, 23, 24, 25]]), (8, [], [oN, oN, oN, oN, oS [1, 3, 8, 9, 11, 23, 24, 25, 29, 33], oN, oS [1, 3, 8, 9, 11, 23, 24, 25, 35]]), (9, [], [oN, oS [6, 7]]), (10, [], [oN, oN, oN, oN, oS [1, 3, 8, 23, 24, 25, 36], oN, oN, oN, oS [1, 3, 8, 12, 13, 23, 24, 25]]), (11, [], [oN, oS [1, 3, 8, 12, 23, 24, 25, 44]]), (12, [], [oN, oS [6, 7]]), (13, [], [oN, oS [1, 3, 8, 9, 12, 23, 24, 25]]), (14, [], [oN, oN, oN, oN, oS [1, 3, 8, 9, 23, 24, 25]]), (15, [], [oN, oS [1, 3, 8, 9, 23, 24, 25]]), (16, [], [oN, oN, oN, oS [8, 54]]), (17, [], [oN, oS [6, 7]]), (18, [], [oN, oN, oN, oS [6, 7]])] Try.f51 = some ⟨3, 57, [.t 6, .t 7], (tH s51_33)⟩ := by kernel_rfl
theorem v_impl_roundFrom (hl : vs.length = 3) (h : wpV Try.prog (tH s51_33) (postV [.t 6, .t 7] RV) (envV vs) M) : VCall Try.prog n_impl_roundFrom vs M RV :=
  vcall_of_wp (fun _ _ _ hl h => acall_of_wp mixed Try.func51 c51 (by kernel_rfl) hl h) hl h
@[go_sem] def l21_0 (_ : Unit) : KL := [kA 3 (.box (.t 0)),
  kA 6 (.mv (.c (.sl none 0 0 true 0))),
  kB 7 (.mv (.c (.bool false))) [1, 2, 3]]
@[go_sem] def l21_1 (_ : Unit) : KL := [kA 8 (.load (.t 3) 2 true),
  kA 9 (.mv (.t 1)),
  kA 10 (.call (n_impl_InRange) [(.t 8), (.t 9)]),
  kA 11 (.un .not (.t 10)),
  kB 12 (.mv (.t 11)) [1, 2, 3, 12],
  (⟨(some 13), .mv (.t 2), (some (12, false))⟩, none),
  (⟨(some 14), .len (.t 13), (some (12, false))⟩, none),
  (⟨(some 15), .bin .gtr (.t 14) (.c (.int .i64 500)), (some (12, false))⟩, none),
  kB 16 (.pick (.t 12) (.c (.bool true)) (.t 15)) [1, 2, 3, 16]]
@[go_sem] def l21_2 (_ : Unit) : KL := [kA 6 (.mv (.c (.sl none 0 0 true 0))),
  kB 7 (.mv (.c (.bool false))) [6, 7]]
@[go_sem] def s21_3 (_ : Unit) : IR := (sQ [(kT l21_2), .ret])
@[go_sem] def s21_4 (_ : Unit) : IR := (sQ [(kT l21_1), (.cond (.t 16) (tH s21_3) .skip)])
@[go_sem] def l21_5 (_ : Unit) : KL := [kA 17 (.load (.t 3) 2 true),
  kA 18 (.mv (.t 1)),
  kA 19 (.mv (.t 2)),
  kA 20 (.call (n_impl_roundFrom) [(.t 17), (.t 18), (.t 19)]),
  kB 21 (.ext (.t 20) 0) [20, 21],
  kA 22 (.ext (.t 20) 1),
  kA 6 (.mv (.t 21)),
  kB 7 (.mv (.t 22)) [6, 7]]
@[go_sem] def s21_6 (_ : Unit) : IR := (sQ [(kT l21_0), (tH s21_4), (kT l21_5), .ret])
theorem c21 : compFn Try.prog [(0, [], [oN, oN, oS [1, 2, 3]]), (1, [], [oN, oN, oN, oN, oS [1, 2, 3, 12], oN, oN, oN, oS [1, 2, 3, 16]]), (2, [], [oN, oS [6, 7]]), (3, [], [oN, oN, oN, oN, oS [20, 21], oN, oN, oS [6, 7]])] Try.f21 = some ⟨3, 23, [.t 6, .t 7], (tH s21_6)⟩ := by kernel_rfl
theorem v_impl_RoundFrom (hl : vs.length = 3) (h : wpV Try.prog (tH s21_6) (postV [.t 6, .t 7] RV) (envV vs) M) : VCall Try.prog n_impl_RoundFrom vs M RV :=
  vcall_of_wp (fun _ _ _ hl h => acall_of_wp mixed Try.func21 c21 (by kernel_rfl) hl h) hl h
@[go_sem] def l107_0 (_ : Unit) : KL := [kB 4 (.mv (.c (.bool false))) [0, 1]]
@[go_sem] def l107_1 (_ : Unit) : KL := [kA 7 (.mv (.t 0)),
  kA 8 (.len (.t 7)),
  kB 9 (.mv (cI 0)) [0, 1, 7, 8, 9]]
@[go_sem] def l107_2 (_ : Unit) : KL := [kB 10 (.bin .lss (.t 9) (.t 8)) [0, 1, 7, 8, 9, 10]]
@[go_sem] def l107_3 (_ : Unit) : KL := [kA 11 (.mv (.t 9)),
  kA 12 (.iaddr (.t 7) (.t 9) 1),
  kA 13 (.load (.t 12) 1 false),
  kA 5 (.mv (.t 11)),
  kB 6 (.mv (.t 13)) [0, 1, 5, 6, 7, 8, 9]]
@[go_sem] def l107_4 (_ : Unit) : KL := [kA 14 (.mv (.t 6)),
  kA 15 (.mv (.t 1)),
  kA 16 (.bin .sub (.t 15) (cI 1)),
  kA 17 (.call (n_impl_in) [(.t 14), (cI 0), (.t 16)]),
  kB 18 (.un .not (.t 17)) [0, 1, 5, 6, 7, 8, 9, 18],
  kA 19 (.mv (.t 18)),
  (⟨(some 20), .mv (.t 5), (some (19, false))⟩, none),
  (⟨(some 21), .bin .gtr (.t 20) (cI 0), (some (19, false))⟩, none),
  (⟨(some 22), .mv (.t 21), (some (19, false))⟩, none),
  (⟨(some 23), .mv (.t 0), (some (22, true))⟩, (some [0, 1, 5, 6, 7, 8, 9, 19, 22, 23])),
  (⟨(some 24), .mv (.t 5), (some (22, true))⟩, none),
  (⟨(some 25), .bin .sub (.t 24) (cI 1), (some (22, true))⟩, none),
  (⟨(some 26), .iaddr (.t 23) (.t 25) 1, (some (22, true))⟩, none),
  (⟨(some 27), .load (.t 26) 1 false, (some (22, true))⟩, none),
  (⟨(some 28), .mv (.t 6), (some (22, true))⟩, (some [0, 1, 7, 8, 9, 19, 22, 27, 28])),
  (⟨(some 29), .bin .geq (.t 27) (.t 28), (some (22, true))⟩, none),
  (⟨(some 30), .pick (.t 22) (.t 29) (.c (.bool false)), (some (19, false))⟩, none),
  kB 31 (.pick (.t 19) (.c (.bool true)) (.t 30)) [0, 1, 7, 8, 9, 31]]
@[go_sem] def l107_5 (_ : Unit) : KL := [kB 4 (.mv (.c (.bool false))) [4]]
@[go_sem] def s107_6 (_ : Unit) : IR := (sQ [(kT l107_5), .ret])
@[go_sem] def s107_7 (_ : Unit) : IR := (sQ [(kT l107_3), (kT l107_4), (.cond (.t 31) (tH s107_6) .skip)])
@[go_sem] def s107_8 (_ : Unit) : IR := (.block 1 (tH s107_7))
@[go_sem] def l107_9 (_ : Unit) : KL := [kA 32 (.bin .add (.t 9) (cI 1)),
  kB 9 (.mv (.t 32)) [0, 1, 7, 8, 9]]
@[go_sem] def s107_10 (_ : Unit) : IR := (sQ [(kT l107_2), (.cond (.t 10) .skip (.exit 0)), (tH s107_8), (kT l107_9)])
@[go_sem] def s107_11 (_ : Unit) : IR := (.loop (tH s107_10))
@[go_sem] def s107_12 (_ : Unit) : IR := (.block 0 (tH s107_11))
@[go_sem] def s107_13 (_ : Unit) : IR := (sQ [(kT l107_1), (tH s107_12)])
@[go_sem] def l107_14 (_ : Unit) : KL := [kB 4 (.mv (.c (.bool true))) [4]]
@[go_sem] def s107_15 (_ : Unit) : IR := (sQ [(kT l107_0), (tH s107_13), (kT l107_14), .ret])
theorem c107 : compFn Try.prog [(0, [], [oS [0, 1]]), (1, [], [oN, oN, oS [0, 1, 7, 8, 9]]), (2, [], [oS [0, 1, 7, 8, 9, 10]]), (3, [], [oN, oN, oN, oN, oS [0, 1, 5, 6, 7, 8, 9]]), (4, [], [oN, oN, oN, oN, oS [0, 1, 5, 6, 7, 8, 9, 18], oN, oN, oN, oN, oS [0, 1, 5, 6, 7, 8, 9, 19, 22, 23], oN, oN, oN, oN, oS [0, 1, 7, 8, 9, 19, 22, 27, 28], oN, oN, oS [0, 1, 7, 8, 9, 31]]), (5, [], [oS [4]]), (6, [], [oN, oS [0, 1, 7, 8, 9]]), (7, [], [oS [4]])] Try.f107 = some ⟨2, 33, [.t 4], (tH s107_15)⟩ := by kernel_rfl
theorem v_impl_setOk (hl : vs.length = 2) (h : wpV Try.prog (tH s107_15) (postV [.t 4] RV) (envV vs) M) : VCall Try.prog n_impl_setOk vs M RV :=
  vcall_of_wp (fun _ _ _ hl h => acall_of_wp mixed Try.func107 c107 (by kernel_rfl) hl h) hl h
@[go_sem] def l72_0 (_ : Unit) : KL := [kA 2 (.box (.t 0)),
  kB 4 (.mv (.c (.bool false))) [1, 2]]
@[go_sem] def l72_1 (_ : Unit) : KL := [kA 5 (.mv (.t 1)),
  kA 6 (.faddr (.t 2) 1),
  kA 7 (.load (.t 6) 1 false),
  kA 8 (.len (.t 7)),
  kB 9 (.call (n_impl_setOk) [(.t 5), (.t 8)]) [9],
  kB 4 (.mv (.t 9)) [4]]
@[go_sem] def s72_2 (_ : Unit) : IR := (sQ [(kT l72_0), (kT l72_1), .ret])
theorem c72 : compFn Try.prog [(0, [], [oN, oS [1, 2]]), (1, [], [oN, oN, oN, oN, oS [9], oS [4]])] Try.f72 = some ⟨2, 10, [.t 4], (tH s72_2)⟩ := by kernel_rfl
theorem v_impl_rulesOk (hl : vs.length = 2) (h : wpV Try.prog (tH s72_2) (postV [.t 4] RV) (envV vs) M) : VCall Try.prog n_impl_rulesOk vs M RV :=
  vcall_of_wp (fun _ _ _ hl h => acall_of_wp mixed Try.func72 c72 (by kernel_rfl) hl h) hl h
@[go_sem] def l108_0 (_ : Unit) : KL := [kB 4 (.mv (cI 0)) [0, 1]]
@[go_sem] def l108_1 (_ : Unit) : KL := [kA 6 (.mv (.t 0)),
  kA 7 (.len (.t 6)),
  kB 8 (.mv (cI 0)) [0, 1, 7, 8]]
@[go_sem] def l108_2 (_ : Unit) : KL := [kB 9 (.bin .lss (.t 8) (.t 7)) [0, 1, 7, 8, 9]]
@[go_sem] def l108_3 (_ : Unit) : KL := [kA 10 (.mv (.t 8)),
  kB 5 (.mv (.t 10)) [0, 1, 5, 7, 8]]
@[go_sem] def l108_4 (_ : Unit) : KL := [kA 11 (.mv (.t 1)),
  kA 12 (.mv (.t 0)),
  kA 13 (.mv (.t 5)),
  kA 14 (.iaddr (.t 12) (.t 13) 1),
  kB 15 (.load (.t 14) 1 false) [0, 1, 5, 7, 8, 11, 15],
  kB 16 (.bin .eql (.t 11) (.t 15)) [0, 1, 5, 7, 8, 16]]
@[go_sem] def l108_5 (_ : Unit) : KL := [kA 17 (.mv (.t 5)),
  kB 4 (.mv (.t 17)) [4]]
@[go_sem] def s108_6 (_ : Unit) : IR := (sQ [(kT l108_5), .ret])
@[go_sem] def s108_7 (_ : Unit) : IR := (sQ [(kT l108_3), (kT l108_4), (.cond (.t 16) (tH s108_6) .skip)])
@[go_sem] def s108_8 (_ : Unit) : IR := (.block 1 (tH s108_7))
@[go_sem] def l108_9 (_ : Unit) : KL := [kA 18 (.bin .add (.t 8) (cI 1)),
  kB 8 (.mv (.t 18)) [0, 1, 7, 8]]
@[go_sem] def s108_10 (_ : Unit) : IR := (sQ [(kT l108_2), (.cond (.t 9) .skip (.exit 0)), (tH s108_8), (kT l108_9)])
@[go_sem] def s108_11 (_ : Unit) : IR := (.loop (tH s108_10))
@[go_sem] def s108_12 (_ : Unit) : IR := (.block 0 (tH s108_11))
@[go_sem] def s108_13 (_ : Unit) : IR := (sQ [(kT l108_1), (tH s108_12)])
@[go_sem] def l108_14 (_ : Unit) : KL := [kB 4 (.mv (.c (.int .i64 (-1)))) [4]]
@[go_sem] def s108_15 (_ : Unit) : IR := (sQ [(kT l108_0), (tH s108_13), (kT l108_14), .ret])
theorem c108 : compFn Try.prog [(0, [], [oS [0, 1]]), (1, [], [oN, oN, oS [0, 1, 7, 8]]), (2, [], [oS [0, 1, 7, 8, 9]]), (3, [], [oN, oS [0, 1, 5, 7, 8]]), (4, [], [oN, oN, oN, oN, oS [0, 1, 5, 7, 8, 11, 15], oS [0, 1, 5, 7, 8, 16]]), (5, [], [oN, oS [4]]), (6, [], [oN, oS [0, 1, 7, 8]]), (7, [], [oS [4]])] Try.f108 = some ⟨2, 19, [.t 4], (tH s108_15)⟩ := by kernel_rfl
theorem v_slices_Index_Sint_int (hl : vs.length = 2) (h : wpV Try.prog (tH s108_15) (postV [.t 4] RV) (envV vs) M) : VCall Try.prog n_slices_Index_Sint_int vs M RV :=
  vcall_of_wp (fun _ _ _ hl h => acall_of_wp mixed Try.func108 c108 (by kernel_rfl) hl h) hl h
@[go_sem] def l73_0 (_ : Unit) : KL := [kB 4 (.mv (.c (.bool false))) [0, 1]]
@[go_sem] def l73_1 (_ : Unit) : KL := [kA 5 (.mv (.t 0)),
  kA 6 (.mv (.t 1)),
  kA 7 (.call (n_slices_Index_Sint_int) [(.t 5), (.t 6)]),
  kA 8 (.bin .geq (.t 7) (cI 0)),
  kB 4 (.mv (.t 8)) [4]]
@[go_sem] def s73_2 (_ : Unit) : IR := (sQ [(kT l73_0), (kT l73_1), .ret])
theorem c73 : compFn Try.prog [(0, [], [oS [0, 1]]), (1, [], [oN, oN, oN, oN, oS [4]])] Try.f73 = some ⟨2, 9, [.t 4], (tH s73_2)⟩ := by kernel_rfl
theorem v_slices_Contains_Sint_int (hl : vs.length = 2) (h : wpV Try.prog (tH s73_2) (postV [.t 4] RV) (envV vs) M) : VCall Try.prog n_slices_Contains_Sint_int vs M RV :=
  vcall_of_wp (fun _ _ _ hl h => acall_of_wp mixed Try.func73 c73 (by kernel_rfl) hl h) hl h
@[go_sem] def l76_0 (_ : Unit) : KL := [kA 3 (.box (.t 0)),
  kB 6 (.mv (.c (.bool false))) [1, 2, 3]]
@[go_sem] def l76_1 (_ : Unit) : KL := [kA 10 (.load (.t 3) 2 true),
  kA 11 (.mv (.t 1)),
  kA 12 (.mv (.t 2)),
  kA 13 (.call (n_impl_use) [(.t 10), (.t 11), (.t 12)]),
  kB 9 (.mv (.t 13)) [9],
  kA 14 (.ext (.t 9) 0),
  kA 15 (.ext (.t 9) 1),
  kA 7 (.mv (.t 14)),
  kB 8 (.mv (.t 15)) [8]]
@[go_sem] def l76_2 (_ : Unit) : KL := [kA 16 (.mv (.t 8)),
  kB 6 (.mv (.t 16)) [6]]
@[go_sem] def s76_3 (_ : Unit) : IR := (sQ [(kT l76_0), (kT l76_1), (kT l76_2), .ret])
theorem c76 : compFn Try.prog [(0, [], [oN, oS [1, 2, 3]]), (1, [], [oN, oN, oN, oN, oS [9], oN, oN, oN, oS [8]]), (2, [], [oN, oS [6]])] Try.f76 = some ⟨3, 17, [.t 6], (tH s76_3)⟩ := by kernel_rfl
theorem v_impl_usable (hl : vs.length = 3) (h : wpV Try.prog (tH s76_3) (postV [.t 6] RV) (envV vs) M) : VCall Try.prog n_impl_usable vs M RV :=
  vcall_of_wp (fun _ _ _ hl h => acall_of_wp mixed Try.func76 c76 (by kernel_rfl) hl h) hl h
@[go_sem] def l75_0 (_ : Unit) : KL := [kB 4 (.mv (.c (.bool false))) [0, 1, 2]]
@[go_sem] def l75_1 (_ : Unit) : KL := [kA 5 (.load (.t 1) 2 true),
  kA 6 (.mv (.t 0)),
  kA 7 (.load (.t 2) 1 false),
  kA 8 (.call (n_impl_usable) [(.t 5), (.t 6), (.t 7)]),
  kB 9 (.un .not (.t 8)) [9],
  kB 4 (.mv (.t 9)) [4]]
@[go_sem] def s75_2 (_ : Unit) : IR := (sQ [(kT l75_0), (kT l75_1), .ret])
theorem c75 : compFn Try.prog [(0, [], [oS [0, 1, 2]]), (1, [], [oN, oN, oN, oN, oS [9], oS [4]])] Try.f75 = some ⟨3, 10, [.t 4], (tH s75_2)⟩ := by kernel_rfl
theorem v_impl_RoundFair_1 (hl : vs.length = 3) (h : wpV Try.prog (tH s75_2) (postV [.t 4] RV) (envV vs) M) : VCall Try.prog n_impl_RoundFair_1 vs M RV :=
  vcall_of_wp (fun _ _ _ hl h => acall_of_wp mixed Try.func75 c75 (by kernel_rfl) hl h) hl h
@[go_sem] def l109_0 (_ : Unit) : KL := [kB 4 (.mv (cI 0)) [0, 1]]
@[go_sem] def l109_1 (_ : Unit) : KL := [kA 6 (.mv (.t 0)),
  kA 7 (.len (.t 6)),
  kB 8 (.mv (cI 0)) [0, 1, 7, 8]]
@[go_sem] def l109_2 (_ : Unit) : KL := [kB 9 (.bin .lss (.t 8) (.t 7)) [0, 1, 7, 8, 9]]
@[go_sem] def l109_3 (_ : Unit) : KL := [kA 10 (.mv (.t 8)),
  kB 5 (.mv (.t 10)) [0, 1, 5, 7, 8]]
@[go_sem] def l109_4 (_ : Unit) : KL := [kA 11 (.mv (.t 1)),
  kA 12 (.mv (.t 0)),
  kA 13 (.mv (.t 5)),
  kA 14 (.iaddr (.t 12) (.t 13) 1),
  kB 15 (.load (.t 14) 1 false) [0, 1, 5, 7, 8, 11, 15],
  kB 16 (.callv (.t 11) [(.t 15)]) [0, 1, 5, 7, 8, 16]]
@[go_sem] def l109_5 (_ : Unit) : KL := [kA 17 (.mv (.t 5)),
  kB 4 (.mv (.t 17)) [4]]
@[go_sem] def s109_6 (_ : Unit) : IR := (sQ [(kT l109_5), .ret])
@[go_sem] def s109_7 (_ : Unit) : IR := (sQ [(kT l109_3), (kT l109_4), (.cond (.t 16) (tH s109_6) .skip)])
@[go_sem] def s109_8 (_ : Unit) : IR := (.block 1 (tH s109_7))
@[go_sem] def l109_9 (_ : Unit) : KL := [kA 18 (.bin .add (.t 8) (cI 1)),
  kB 8 (.mv (.t 18)) [0, 1, 7, 8]]
@[go_sem] def s109_10 (_ : Unit) : IR := (sQ [(kT l109_2), (.cond (.t 9) .skip (.exit 0)), (tH s109_8), (kT l109_9)])
@[go_sem] def s109_11 (_ : Unit) : IR := (.loop (tH s109_10))
@[go_sem] def s109_12 (_ : Unit) : IR := (.block 0 (tH s109_11))
@[go_sem] def s109_13 (_ : Unit) : IR := (sQ [(kT l109_1), (tH s109_12)])
@[go_sem] def l109_14 (_ : Unit) : KL := [kB 4 (.mv (.c (.int .i64 (-1)))) [4]]
@[go_sem] def s109_15 (_ : Unit) : IR := (sQ [(kT l109_0), (tH s109_13), (kT l109_14), .ret])
theorem c109 : compFn Try.prog [(0, [], [oS [0, 1]]), (1, [], [oN, oN, oS [0, 1, 7, 8]]), (2, [], [oS [0, 1, 7, 8, 9]]), (3, [], [oN, oS [0, 1, 5, 7, 8]]), (4, [], [oN, oN, oN, oN, oS [0, 1, 5, 7, 8, 11, 15], oS [0, 1, 5, 7, 8, 16]]), (5, [], [oN, oS [4]]), (6, [], [oN, oS [0, 1, 7, 8]]), (7, [], [oS [4]])] Try.f109 = some ⟨2, 19, [.t 4], (tH s109_15)⟩ := by kernel_rfl
theorem v_slices_IndexFunc_SSint_Sint (hl : vs.length = 2) (h : wpV Try.prog (tH s109_15) (postV [.t 4] RV) (envV vs) M) : VCall Try.prog n_slices_IndexFunc_SSint_Sint vs M RV :=
  vcall_of_wp (fun _ _ _ hl h => acall_of_wp mixed Try.func109 c109 (by kernel_rfl) hl h) hl h
@[go_sem] def l74_0 (_ : Unit) : KL := [kB 4 (.mv (.c (.bool false))) [0, 1]]
@[go_sem] def l74_1 (_ : Unit) : KL := [kA 5 (.mv (.t 0)),
  kA 6 (.mv (.t 1)),
  kA 7 (.call (n_slices_IndexFunc_SSint_Sint) [(.t 5), (.t 6)]),
  kA 8 (.bin .geq (.t 7) (cI 0)),
  kB 4 (.mv (.t 8)) [4]]
@[go_sem] def s74_2 (_ : Unit) : IR := (sQ [(kT l74_0), (kT l74_1), .ret])
theorem c74 : compFn Try.prog [(0, [], [oS [0, 1]]), (1, [], [oN, oN, oN, oN, oS [4]])] Try.f74 = some ⟨2, 9, [.t 4], (tH s74_2)⟩ := by kernel_rfl
theorem v_slices_ContainsFunc_SSint_Sint (hl : vs.length = 2) (h : wpV Try.prog (tH s74_2) (postV [.t 4] RV) (envV vs) M) : VCall Try.prog n_slices_ContainsFunc_SSint_Sint vs M RV :=
  vcall_of_wp (fun _ _ _ hl h => acall_of_wp mixed Try.func74 c74 (by kernel_rfl) hl h) hl h
@[go_sem] def l77_0 (_ : Unit) : KL := [kB 4 (.mv (.c (.bool false))) [0, 1, 2]]
@[go_sem] def l77_1 (_ : Unit) : KL := [kA 5 (.load (.t 1) 2 true),
  kA 6 (.mv (.t 0)),
  kA 7 (.load (.t 2) 1 false),
  kA 8 (.call (n_impl_usable) [(.t 5), (.t 6), (.t 7)]),
  kB 4 (.mv (.t 8)) [4]]
@[go_sem] def s77_2 (_ : Unit) : IR := (sQ [(kT l77_0), (kT l77_1), .ret])
theorem c77 : compFn Try.prog [(0, [], [oS [0, 1, 2]]), (1, [], [oN, oN, oN, oN, oS [4]])] Try.f77 = some ⟨3, 9, [.t 4], (tH s77_2)⟩ := by kernel_rfl
theorem v_impl_RoundFair_2 (hl : vs.length = 3) (h : wpV Try.prog (tH s77_2) (postV [.t 4] RV) (envV vs) M) : VCall Try.prog n_impl_RoundFair_2 vs M RV :=
  vcall_of_wp (fun _ _ _ hl h => acall_of_wp mixed Try.func77 c77 (by kernel_rfl) hl h) hl h
@[go_sem] def l34_0 (_ : Unit) : KL := [kA 5 (.box (.t 0)),
  kB 10 (.mv (.c (.bool false))) [1, 2, 3, 4, 5]]
@[go_sem] def l34_1 (_ : Unit) : KL := [kA 18 (.load (.t 5) 2 true),
  kA 19 (.mv (.t 3)),
  kA 20 (.mv (.t 4)),
  kA 21 (.call (n_impl_RoundFrom) [(.t 18), (.t 19), (.t 20)]),
  kB 17 (.mv (.t 21)) [1, 2, 4, 5, 17],
  kA 22 (.ext (.t 17) 0),
  kA 23 (.ext (.t 17) 1),
  kA 11 (.mv (.t 22)),
  kB 12 (.mv (.t 23)) [1, 2, 4, 5, 11, 12]]
@[go_sem] def l34_2 (_ : Unit) : KL := [kA 24 (.mv (.t 12)),
  kA 25 (.un .not (.t 24)),
  kA 26 (.mv (.t 25)),
  (⟨(some 27), .load (.t 5) 2 true, (some (26, false))⟩, none),
  (⟨(some 28), .mv (.t 1), (some (26, false))⟩, (some [1, 2, 4, 5, 11, 26, 27, 28])),
  (⟨(some 29), .call (n_impl_rulesOk) [(.t 27), (.t 28)], (some (26, false))⟩, none),
  (⟨(some 30), .un .not (.t 29), (some (26, false))⟩, none),
  kA 31 (.pick (.t 26) (.c (.bool true)) (.t 30)),
  kA 32 (.mv (.t 31)),
  (⟨(some 33), .load (.t 5) 2 true, (some (32, false))⟩, (some [1, 2, 4, 5, 11, 32, 33])),
  (⟨(some 34), .mv (.t 2), (some (32, false))⟩, none),
  (⟨(some 35), .call (n_impl_rulesOk) [(.t 33), (.t 34)], (some (32, false))⟩, none),
  (⟨(some 36), .un .not (.t 35), (some (32, false))⟩, none),
  kB 37 (.pick (.t 32) (.c (.bool true)) (.t 36)) [1, 2, 4, 5, 11, 37]]
@[go_sem] def l34_3 (_ : Unit) : KL := [kB 10 (.mv (.c (.bool false))) [10]]
@[go_sem] def s34_4 (_ : Unit) : IR := (sQ [(kT l34_3), .ret])
@[go_sem] def s34_5 (_ : Unit) : IR := (sQ [(kT l34_2), (.cond (.t 37) (tH s34_4) .skip)])
@[go_sem] def l34_6 (_ : Unit) : KL := [kA 38 (.mv (.t 11)),
  kA 39 (.len (.t 38)),
  kB 40 (.bin .eql (.t 39) (cI 0)) [1, 2, 4, 5, 11, 40]]
@[go_sem] def l34_7 (_ : Unit) : KL := [kB 10 (.mv (.c (.bool true))) [10]]
@[go_sem] def s34_8 (_ : Unit) : IR := (sQ [(kT l34_7), .ret])
@[go_sem] def s34_9 (_ : Unit) : IR := (sQ [(kT l34_6), (.cond (.t 40) (tH s34_8) .skip)])
@[go_sem] def l34_10 (_ : Unit) : KL := [kA 41 (.mv (.t 1)),
  kA 42 (.len (.t 41)),
  kB 43 (.mv (cI 0)) [2, 4, 5, 11, 41, 42, 43]]
@[go_sem] def l34_11 (_ : Unit) : KL := [kB 44 (.bin .lss (.t 43) (.t 42)) [2, 4, 5, 11, 41, 42, 43, 44]]
@[go_sem] def l34_12 (_ : Unit) : KL := [kA 45 (.iaddr (.t 41) (.t 43) 1),
  kA 46 (.load (.t 45) 1 false),
  kA 14 (.alloc [(.int .i64 0)]),
  (⟨none, .store (.t 14) 1 (.t 46), none⟩, (some [2, 4, 5, 11, 14, 41, 42, 43]))]
@[go_sem] def l34_13 (_ : Unit) : KL := [kA 47 (.mv (.t 4)),
  kA 48 (.load (.t 14) 1 false),
  kA 49 (.call (n_slices_Contains_Sint_int) [(.t 47), (.t 48)]),
  kA 50 (.un .not (.t 49)),
  kB 51 (.mv (.t 50)) [2, 4, 5, 11, 14, 41, 42, 43, 51],
  (⟨(some 52), .mv (.t 11), (some (51, true))⟩, none),
  (⟨(some 53), .mkfn (n_impl_RoundFair_1) [(.t 5), (.t 14)], (some (51, true))⟩, none),
  (⟨(some 54), .call (n_slices_ContainsFunc_SSint_Sint) [(.t 52), (.t 53)], (some (51, true))⟩, none),
  (⟨(some 55), .un .not (.t 54), (some (51, true))⟩, none),
  kB 56 (.pick (.t 51) (.t 55) (.c (.bool false))) [2, 4, 5, 11, 41, 42, 43, 56]]
@[go_sem] def l34_14 (_ : Unit) : KL := [kB 10 (.mv (.c (.bool false))) [10]]
@[go_sem] def s34_15 (_ : Unit) : IR := (sQ [(kT l34_14), .ret])
@[go_sem] def s34_16 (_ : Unit) : IR := (sQ [(kT l34_12), (kT l34_13), (.cond (.t 56) (tH s34_15) .skip)])
@[go_sem] def s34_17 (_ : Unit) : IR := (.block 1 (tH s34_16))
@[go_sem] def l34_18 (_ : Unit) : KL := [kA 57 (.bin .add (.t 43) (cI 1)),
  kB 43 (.mv (.t 57)) [2, 4, 5, 11, 41, 42, 43]]
@[go_sem] def s34_19 (_ : Unit) : IR := (sQ [(kT l34_11), (.cond (.t 44) .skip (.exit 0)), (tH s34_17), (kT l34_18)])
@[go_sem] def s34_20 (_ : Unit) : IR := (.loop (tH s34_19))
@[go_sem] def s34_21 (_ : Unit) : IR := (.block 0 (tH s34_20))
@[go_sem] def s34_22 (_ : Unit) : IR := (sQ [(kT l34_10), (tH s34_21)])
@[go_sem] def l34_23 (_ : Unit) : KL := [kA 58 (.mv (.t 2)),
  kA 59 (.len (.t 58)),
  kB 60 (.mv (cI 0)) [4, 5, 11, 58, 59, 60]]
@[go_sem] def l34_24 (_ : Unit) : KL := [kB 61 (.bin .lss (.t 60) (.t 59)) [4, 5, 11, 58, 59, 60, 61]]
@[go_sem] def l34_25 (_ : Unit) : KL := [kA 62 (.iaddr (.t 58) (.t 60) 1),
  kA 63 (.load (.t 62) 1 false),
  kA 16 (.alloc [(.int .i64 0)]),
  (⟨none, .store (.t 16) 1 (.t 63), none⟩, (some [4, 5, 11, 16, 58, 59, 60]))]
@[go_sem] def l34_26 (_ : Unit) : KL := [kA 64 (.mv (.t 4)),
  kA 65 (.load (.t 16) 1 false),
  kA 66 (.call (n_slices_Contains_Sint_int) [(.t 64), (.t 65)]),
  kA 67 (.un .not (.t 66)),
  kB 68 (.mv (.t 67)) [4, 5, 11, 16, 58, 59, 60, 68],
  (⟨(some 69), .mv (.t 11), (some (68, true))⟩, none),
  (⟨(some 70), .mkfn (n_impl_RoundFair_2) [(.t 5), (.t 16)], (some (68, true))⟩, none),
  (⟨(some 71), .call (n_slices_ContainsFunc_SSint_Sint) [(.t 69), (.t 70)], (some (68, true))⟩, none),
  kB 72 (.pick (.t 68) (.t 71) (.c (.bool false))) [4, 5, 11, 58, 59, 60, 72]]
@[go_sem] def l34_27 (_ : Unit) : KL := [kB 10 (.mv (.c (.bool false))) [10]]
@[go_sem] def s34_28 (_ : Unit) : IR := (sQ [(kT l34_27), .ret])
@[go_sem] def s34_29 (_ : Unit) : IR := (sQ [(kT l34_25), (kT l34_26), (.cond (.t 72) (tH s34_28) .skip)])
@[go_sem] def s34_30 (_ : Unit) : IR := (.block 3 (tH s34_29))
@[go_sem] def l34_31 (_ : Unit) : KL := [kA 73 (.bin .add (.t 60) (cI 1)),
  kB 60 (.mv (.t 73)) [4, 5, 11, 58, 59, 60]]
@[go_sem] def s34_32 (_ : Unit) : IR := (sQ [(kT l34_24), (.cond (.t 61) .skip (.exit 2)), (tH s34_30), (kT l34_31)])
@[go_sem] def s34_33 (_ : Unit) : IR := (.loop (tH s34_32))
@[go_sem] def s34_34 (_ : Unit) : IR := (.block 2 (tH s34_33))
@[go_sem] def s34_35 (_ : Unit) : IR := (sQ [(kT l34_23), (tH s34_34)])
@[go_sem] def l34_36 (_ : Unit) : KL := [kB 10 (.mv (.c (.bool true))) [10]]
@[go_sem] def s34_37 (_ : Unit) : IR := (sQ [(kT l34_0), (kT l34_1), (tH s34_5), (tH s34_9), (tH s34_22), (tH s34_35), (kT l34_36), .ret])
theorem c34 : compFn Try.prog [(0, [], [oN, oS [1, 2, 3, 4, 5]]), (1, [], [oN, oN, oN, oN, oS [1, 2, 4, 5, 17], oN, oN, oN, oS [1, 2, 4, 5, 11, 12]]), (2, [], [oN, oN, oN, oN, oS [1, 2, 4, 5, 11, 26, 27, 28], oN, oN, oN, oN, oS [1, 2, 4, 5, 11, 32, 33], oN, oN, oN, oS [1, 2, 4, 5, 11, 37]]), (3, [], [oS [10]]), (4, [], [oN, oN, oS [1, 2, 4, 5, 11, 40]]), (5, [], [oS [10]]), (6, [], [oN, oN, oS [2, 4, 5, 11, 41, 42, 43]]), (7, [], [oS [2, 4, 5, 11, 41, 42, 43, 44]]), (8, [], [oN, oN, oN, oS [2, 4, 5, 11, 14, 41, 42, 43]]), (9, [], [oN, oN, oN, oN, oS [2, 4, 5, 11, 14, 41, 42, 43, 51], oN, oN, oN, oN, oS [2, 4, 5, 11, 41, 42, 43, 56]]), (10, [], [oS [10]]), (11, [], [oN, oS [2, 4, 5, 11, 41, 42, 43]]), (12, [], [oN, oN, oS [4, 5, 11, 58, 59, 60]]), (13, [], [oS [4, 5, 11, 58, 59, 60, 61]]), (14, [], [oN, oN, oN, oS [4, 5, 11, 16, 58, 59, 60]]), (15, [], [oN, oN, oN, oN, oS [4, 5, 11, 16, 58, 59, 60, 68], oN, oN, oN, oS [4, 5, 11, 58, 59, 60, 72]]), (16, [], [oS [10]]), (17, [], [oN, oS [4, 5, 11, 58, 59, 60]]), (18, [], [oS [10]])] Try.f34 = some ⟨5, 74, [.t 10], (tH s34_37)⟩ := by kernel_rfl
theorem v_impl_RoundFair (hl : vs.length = 5) (h : wpV Try.prog (tH s34_37) (postV [.t 10] RV) (envV vs) M) : VCall Try.prog n_impl_RoundFair vs M RV :=
  vcall_of_wp (fun _ _ _ hl h => acall_of_wp mixed Try.func34 c34 (by kernel_rfl) hl h) hl h
@[go_sem] def l87_0 (_ : Unit) : KL := [kA 2 (.box (.t 0)),
  kA 3 (.box (.t 1)),
  kB 4 (.mv (.c (.bool false))) [2, 3]]
@[go_sem] def l87_1 (_ : Unit) : KL := [kA 5 (.faddr (.t 2) 0),
  kA 6 (.load (.t 5) 1 false),
  kA 7 (.faddr (.t 3) 0),
  kA 8 (.load (.t 7) 1 false),
  kB 9 (.bin .neq (.t 6) (.t 8)) [2, 3, 9]]
@[go_sem] def l87_2 (_ : Unit) : KL := [kB 4 (.mv (.c (.bool false))) [4]]
@[go_sem] def s87_3 (_ : Unit) : IR := (sQ [(kT l87_2), .ret])
@[go_sem] def s87_4 (_ : Unit) : IR := (sQ [(kT l87_1), (.cond (.t 9) (tH s87_3) .skip)])
@[go_sem] def l87_5 (_ : Unit) : KL := [kA 10 (.faddr (.t 2) 1),
  kA 11 (.load (.t 10) 1 false),
  kA 12 (.faddr (.t 3) 1),
  kA 13 (.load (.t 12) 1 false),
  kB 14 (.bin .neq (.t 11) (.t 13)) [2, 3, 14]]
@[go_sem] def l87_6 (_ : Unit) : KL := [kB 4 (.mv (.c (.bool false))) [4]]
@[go_sem] def s87_7 (_ : Unit) : IR := (sQ [(kT l87_6), .ret])
@[go_sem] def s87_8 (_ : Unit) : IR := (sQ [(kT l87_5), (.cond (.t 14) (tH s87_7) .skip)])
@[go_sem] def l87_9 (_ : Unit) : KL := [kA 15 (.faddr (.t 2) 2),
  kA 16 (.load (.t 15) 1 false),
  kA 17 (.faddr (.t 3) 2),
  kA 18 (.load (.t 17) 1 false),
  kB 19 (.bin .neq (.t 16) (.t 18)) [19]]
@[go_sem] def l87_10 (_ : Unit) : KL := [kB 4 (.mv (.c (.bool false))) [4]]
@[go_sem] def s87_11 (_ : Unit) : IR := (sQ [(kT l87_10), .ret])
@[go_sem] def s87_12 (_ : Unit) : IR := (sQ [(kT l87_9), (.cond (.t 19) (tH s87_11) .skip)])
@[go_sem] def l87_13 (_ : Unit) : KL := [kB 4 (.mv (.c (.bool true))) [4]]
@[go_sem] def s87_14 (_ : Unit) : IR := (sQ [(kT l87_0), (tH s87_4), (tH s87_8), (tH s87_12), (kT l87_13), .ret])
theorem c87 : compFn Try.prog [(0, [], [oN, oN, oS [2, 3]]), (1, [], [oN, oN, oN, oN, oS [2, 3, 9]]), (2, [], [oS [4]]), (3, [], [oN, oN, oN, oN, oS [2, 3, 14]]), (4, [], [oS [4]]), (5, [], [oN, oN, oN, oN, oS [19]]), (6, [], [oS [4]]), (7, [], [oS [4]])] Try.f87 = some ⟨2, 20, [.t 4], (tH s87_14)⟩ := by kernel_rfl
theorem v_laws_eqVar (hl : vs.length = 2) (h : wpV Try.prog (tH s87_14) (postV [.t 4] RV) (envV vs) M) : VCall Try.prog n_laws_eqVar vs M RV :=
  vcall_of_wp (fun _ _ _ hl h => acall_of_wp mixed Try.func87 c87 (by kernel_rfl) hl h) hl h
@[go_sem] def l43_0 (_ : Unit) : KL := [kB 4 (.mv (.c (.bool false))) [0, 1]]
@[go_sem] def l43_1 (_ : Unit) : KL := [kA 6 (.mv (.t 0)),
  kA 7 (.len (.t 6)),
  kA 8 (.mv (.t 1)),
  kA 9 (.len (.t 8)),
  kB 10 (.bin .neq (.t 7) (.t 9)) [0, 1, 10]]
@[go_sem] def l43_2 (_ : Unit) : KL := [kB 4 (.mv (.c (.bool false))) [4]]
@[go_sem] def s43_3 (_ : Unit) : IR := (sQ [(kT l43_2), .ret])
@[go_sem] def s43_4 (_ : Unit) : IR := (sQ [(kT l43_1), (.cond (.t 10) (tH s43_3) .skip)])
@[go_sem] def l43_5 (_ : Unit) : KL := [kB 5 (.mv (cI 0)) [0, 1, 5]]
@[go_sem] def l43_6 (_ : Unit) : KL := [kA 11 (.mv (.t 5)),
  kA 12 (.mv (.t 0)),
  kA 13 (.len (.t 12)),
  kB 14 (.bin .lss (.t 11) (.t 13)) [0, 1, 5, 14]]
@[go_sem] def s43_7 (_ : Unit) : IR := (sQ [(kT l43_6), (.cond (.t 14) .skip (.exit 0))])
@[go_sem] def l43_8 : Nat → GOp
  | 0 => ⟨(some 17), .mv (.t 0), none⟩
  | 1 => ⟨(some 18), .mv (.t 5), none⟩
  | 2 => ⟨(some 19), .iaddr (.t 17) (.t 18) 3, none⟩
  | 3 => ⟨(some 20), .load (.t 19) 3 true, none⟩
  | 4 => ⟨(some 21), .mv (.t 1), none⟩
  | 5 => ⟨(some 22), .mv (.t 5), none⟩
  | 6 => ⟨(some 23), .iaddr (.t 21) (.t 22) 3, none⟩
  | 7 => ⟨(some 24), .load (.t 23) 3 true, none⟩
  | 8 => ⟨(some 25), .call (n_laws_eqVar) [(.t 20), (.t 24)], none⟩
  | 9 => ⟨(some 26), .un .not (.t 25), none⟩
  | _ => ⟨none, .mkmap, none⟩
@[go_sem] def l43_9 (_ : Unit) : KL := [kB 4 (.mv (.c (.bool false))) [4]]
@[go_sem] def s43_10 (_ : Unit) : IR := (sQ [(kT l43_9), .ret])
@[go_sem] def s43_11 (_ : Unit) : IR := (sQ [(.kd (oF l43_8 10) [(0, []), (1, []), (2, []), (3, []), (4, []), (5, []), (6, []), (7, []), (8, []), (9, [])] [0, 1, 5, 26]), (.cond (.t 26) (tH s43_10) .skip)])
@[go_sem] def s43_12 (_ : Unit) : IR := (.block 1 (tH s43_11))
@[go_sem] def l43_13 (_ : Unit) : KL := [kA 15 (.mv (.t 5)),
  kA 16 (.bin .add (.t 15) (cI 1)),
  kB 5 (.mv (.t 16)) [0, 1, 5]]
@[go_sem] def s43_14 (_ : Unit) : IR := (sQ [(tH s43_7), (tH s43_12), (kT l43_13)])
@[go_sem] def s43_15 (_ : Unit) : IR := (.loop (tH s43_14))
@[go_sem] def s43_16 (_ : Unit) : IR := (.block 0 (tH s43_15))
@[go_sem] def s43_17 (_ : Unit) : IR := (sQ [(kT l43_5), (tH s43_16)])
@[go_sem] def l43_18 (_ : Unit) : KL := [kB 4 (.mv (.c (.bool true))) [4]]
@[go_sem] def s43_19 (_ : Unit) : IR := (sQ [(kT l43_0), (tH s43_4), (tH s43_17), (kT l43_18), .ret])
theorem c43 : compFn Try.prog [(0, [], [oS [0, 1]]), (1, [], [oN, oN, oN, oN, oS [0, 1, 10]]), (2, [], [oS [4]]), (3, [], [oS [0, 1, 5]]), (4, [], [oN, oN, oN, oS [0, 1, 5, 14]]), (6, [(0, []), (1, []), (2, []), (3, []), (4, []), (5, []), (6, []), (7, []), (8, []), (9, [])], [oS [0, 1, 5, 26]]), (7, [], [oS [4]]), (5, [], [oN, oN, oS [0, 1, 5]]), (8, [], [oS [4]])] Try.f43 = some ⟨2, 27, [.t 4], (tH s43_19)⟩ := by kernel_rfl
theorem v_laws_eqVarS (hl : vs.length = 2) (h : wpV Try.prog (tH s43_19) (postV [.t 4] RV) (envV vs) M) : VCall Try.prog n_laws_eqVarS vs M RV :=
  vcall_of_wp (fun _ _ _ hl h => acall_of_wp mixed Try.func43 c43 (by kernel_rfl) hl h) hl h
@[go_sem] def l130_0 (_ : Unit) : KL := [kA 2 (.box (.t 0)),
  kA 3 (.box (.t 1)),
  kB 4 (.mv (.c (.bool false))) [2, 3]]
@[go_sem] def l130_1 (_ : Unit) : KL := [kA 5 (.faddr (.t 2) 0),
  kA 6 (.load (.t 5) 1 false),
  kA 7 (.faddr (.t 3) 0),
  kA 8 (.load (.t 7) 1 false),
  kB 9 (.bin .neq (.t 6) (.t 8)) [2, 3, 9]]
@[go_sem] def l130_2 (_ : Unit) : KL := [kB 4 (.mv (.c (.bool false))) [4]]
@[go_sem] def s130_3 (_ : Unit) : IR := (sQ [(kT l130_2), .ret])
@[go_sem] def s130_4 (_ : Unit) : IR := (sQ [(kT l130_1), (.cond (.t 9) (tH s130_3) .skip)])
@[go_sem] def l130_5 (_ : Unit) : KL := [kA 10 (.faddr (.t 2) 1),
  kA 11 (.load (.t 10) 1 false),
  kA 12 (.faddr (.t 3) 1),
  kA 13 (.load (.t 12) 1 false),
  kB 14 (.bin .neq (.t 11) (.t 13)) [2, 3, 14]]
@[go_sem] def l130_6 (_ : Unit) : KL := [kB 4 (.mv (.c (.bool false))) [4]]
@[go_sem] def s130_7 (_ : Unit) : IR := (sQ [(kT l130_6), .ret])
@[go_sem] def s130_8 (_ : Unit) : IR := (sQ [(kT l130_5), (.cond (.t 14) (tH s130_7) .skip)])
@[go_sem] def l130_9 (_ : Unit) : KL := [kA 15 (.faddr (.t 2) 2),
  kA 16 (.load (.t 15) 1 false),
  kA 17 (.faddr (.t 3) 2),
  kA 18 (.load (.t 17) 1 false),
  kB 19 (.bin .neq (.t 16) (.t 18)) [2, 3, 19]]
@[go_sem] def l130_10 (_ : Unit) : KL := [kB 4 (.mv (.c (.bool false))) [4]]
@[go_sem] def s130_11 (_ : Unit) : IR := (sQ [(kT l130_10), .ret])
@[go_sem] def s130_12 (_ : Unit) : IR := (sQ [(kT l130_9), (.cond (.t 19) (tH s130_11) .skip)])
@[go_sem] def l130_13 (_ : Unit) : KL := [kA 20 (.faddr (.t 2) 3),
  kA 21 (.load (.t 20) 1 false),
  kA 22 (.faddr (.t 3) 3),
  kA 23 (.load (.t 22) 1 false),
  kB 24 (.bin .neq (.t 21) (.t 23)) [24]]
@[go_sem] def l130_14 (_ : Unit) : KL := [kB 4 (.mv (.c (.bool false))) [4]]
@[go_sem] def s130_15 (_ : Unit) : IR := (sQ [(kT l130_14), .ret])
@[go_sem] def s130_16 (_ : Unit) : IR := (sQ [(kT l130_13), (.cond (.t 24) (tH s130_15) .skip)])
@[go_sem] def l130_17 (_ : Unit) : KL := [kB 4 (.mv (.c (.bool true))) [4]]
@[go_sem] def s130_18 (_ : Unit) : IR := (sQ [(kT l130_0), (tH s130_4), (tH s130_8), (tH s130_12), (tH s130_16), (kT l130_17), .ret])
theorem c130 : compFn Try.prog [(0, [], [oN, oN, oS [2, 3]]), (1, [], [oN, oN, oN, oN, oS [2, 3, 9]]), (2, [], [oS [4]]), (3, [], [oN, oN, oN, oN, oS [2, 3, 14]]), (4, [], [oS [4]]), (5, [], [oN, oN, oN, oN, oS [2, 3, 19]]), (6, [], [oS [4]]), (7, [], [oN, oN, oN, oN, oS [24]]), (8, [], [oS [4]]), (9, [], [oS [4]])] Try.f130 = some ⟨2, 25, [.t 4], (tH s130_18)⟩ := by kernel_rfl
theorem v_laws_eqTerm (hl : vs.length = 2) (h : wpV Try.prog (tH s130_18) (postV [.t 4] RV) (envV vs) M) : VCall Try.prog n_laws_eqTerm vs M RV :=
  vcall_of_wp (fun _ _ _ hl h => acall_of_wp mixed Try.func130 c130 (by kernel_rfl) hl h) hl h
@[go_sem] def l119_0 (_ : Unit) : KL := [kB 4 (.mv (.c (.bool false))) [0, 1]]
@[go_sem] def l119_1 (_ : Unit) : KL := [kA 6 (.mv (.t 0)),
  kA 7 (.len (.t 6)),
  kA 8 (.mv (.t 1)),
  kA 9 (.len (.t 8)),
  kB 10 (.bin .neq (.t 7) (.t 9)) [0, 1, 10]]
@[go_sem] def l119_2 (_ : Unit) : KL := [kB 4 (.mv (.c (.bool false))) [4]]
@[go_sem] def s119_3 (_ : Unit) : IR := (sQ [(kT l119_2), .ret])
@[go_sem] def s119_4 (_ : Unit) : IR := (sQ [(kT l119_1), (.cond (.t 10) (tH s119_3) .skip)])
@[go_sem] def l119_5 (_ : Unit) : KL := [kB 5 (.mv (cI 0)) [0, 1, 5]]
@[go_sem] def l119_6 (_ : Unit) : KL := [kA 11 (.mv (.t 5)),
  kA 12 (.mv (.t 0)),
  kA 13 (.len (.t 12)),
  kB 14 (.bin .lss (.t 11) (.t 13)) [0, 1, 5, 14]]
@[go_sem] def s119_7 (_ : Unit) : IR := (sQ [(kT l119_6), (.cond (.t 14) .skip (.exit 0))])
@[go_sem] def l119_8 : Nat → GOp
  | 0 => ⟨(some 17), .mv (.t 0), none⟩
  | 1 => ⟨(some 18), .mv (.t 5), none⟩
  | 2 => ⟨(some 19), .iaddr (.t 17) (.t 18) 4, none⟩
  | 3 => ⟨(some 20), .load (.t 19) 4 true, none⟩
  | 4 => ⟨(some 21), .mv (.t 1), none⟩
  | 5 => ⟨(some 22), .mv (.t 5), none⟩
  | 6 => ⟨(some 23), .iaddr (.t 21) (.t 22) 4, none⟩
  | 7 => ⟨(some 24), .load (.t 23) 4 true, none⟩
  | 8 => ⟨(some 25), .call (n_laws_eqTerm) [(.t 20), (.t 24)], none⟩
  | 9 => ⟨(some 26), .un .not (.t 25), none⟩
  | _ => ⟨none, .mkmap, none⟩
@[go_sem] def l119_9 (_ : Unit) : KL := [kB 4 (.mv (.c (.bool false))) [4]]
@[go_sem] def s119_10 (_ : Unit) : IR := (sQ [(kT l119_9), .ret])
@[go_sem] def s119_11 (_ : Unit) : IR := (sQ [(.kd (oF l119_8 10) [(0, []), (1, []), (2, []), (3, []), (4, []), (5, []), (6, []), (7, []), (8, []), (9, [])] [0, 1, 5, 26]), (.cond (.t 26) (tH s119_10) .skip)])
@[go_sem] def s119_12 (_ : Unit) : IR := (.block 1 (tH s119_11))
@[go_sem] def l119_13 (_ : Unit) : KL := [kA 15 (.mv (.t 5)),
  kA 16 (.bin .add (.t 15) (cI 1)),
  kB 5 (.mv (.t 16)) [0, 1, 5]]
@[go_sem] def s119_14 (_ : Unit) : IR := (sQ [(tH s119_7), (tH s119_12), (kT l119_13)])
@[go_sem] def s119_15 (_ : Unit) : IR := (.loop (tH s119_14))
@[go_sem] def s119_16 (_ : Unit) : IR := (.block 0 (tH s119_15))
@[go_sem] def s119_17 (_ : Unit) : IR := (sQ [(kT l119_5), (tH s119_16)])
@[go_sem] def l119_18 (_ : Unit) : KL := [kB 4 (.mv (.c (.bool true))) [4]]
@[go_sem] def s119_19 (_ : Unit) : IR := (sQ [(kT l119_0), (tH s119_4), (tH s119_17), (kT l119_18), .ret])
theorem c119 : compFn Try.prog [(0, [], [oS [0, 1]]), (1, [], [oN, oN, oN, oN, oS [0, 1, 10]]), (2, [], [oS [4]]), (3, [], [oS [0, 1, 5]]), (4, [], [oN, oN, oN, oS [0, 1, 5, 14]]), (6, [(0, []), (1, []), (2, []), (3, []), (4, []), (5, []), (6, []), (7, []), (8, []), (9, [])], [oS [0, 1, 5, 26]]), (7, [], [oS [4]]), (5, [], [oN, oN, oS [0, 1, 5]]), (8, [], [oS [4]])] Try.f119 = some ⟨2, 27, [.t 4], (tH s119_19)⟩ := by kernel_rfl
theorem v_laws_eqTermS (hl : vs.length = 2) (h : wpV Try.prog (tH s119_19) (postV [.t 4] RV) (envV vs) M) : VCall Try.prog n_laws_eqTermS vs M RV :=
  vcall_of_wp (fun _ _ _ hl h => acall_of_wp mixed Try.func119 c119 (by kernel_rfl) hl h) hl h
@[go_sem] def l15_0 (_ : Unit) : KL := [kB 4 (.mv (.c (.bool false))) [0, 1]]
@[go_sem] def l15_1 (_ : Unit) : KL := [kA 6 (.mv (.t 0)),
  kA 7 (.len (.t 6)),
  kA 8 (.mv (.t 1)),
  kA 9 (.len (.t 8)),
  kB 10 (.bin .neq (.t 7) (.t 9)) [0, 1, 10]]
@[go_sem] def l15_2 (_ : Unit) : KL := [kB 4 (.mv (.c (.bool false))) [4]]
@[go_sem] def s15_3 (_ : Unit) : IR := (sQ [(kT l15_2), .ret])
@[go_sem] def s15_4 (_ : Unit) : IR := (sQ [(kT l15_1), (.cond (.t 10) (tH s15_3) .skip)])
@[go_sem] def l15_5 (_ : Unit) : KL := [kB 5 (.mv (cI 0)) [0, 1, 5]]
@[go_sem] def l15_6 (_ : Unit) : KL := [kA 11 (.mv (.t 5)),
  kA 12 (.mv (.t 0)),
  kA 13 (.len (.t 12)),
  kB 14 (.bin .lss (.t 11) (.t 13)) [0, 1, 5, 14]]
@[go_sem] def s15_7 (_ : Unit) : IR := (sQ [(kT l15_6), (.cond (.t 14) .skip (.exit 0))])
@[go_sem] def l15_8 : Nat → GOp
  | 0 => ⟨(some 17), .mv (.t 0), none⟩
  | 1 => ⟨(some 18), .mv (.t 5), none⟩
  | 2 => ⟨(some 19), .iaddr (.t 17) (.t 18) 1, none⟩
  | 3 => ⟨(some 20), .load (.t 19) 1 false, none⟩
  | 4 => ⟨(some 21), .mv (.t 1), none⟩
  | 5 => ⟨(some 22), .mv (.t 5), none⟩
  | 6 => ⟨(some 23), .iaddr (.t 21) (.t 22) 1, none⟩
  | 7 => ⟨(some 24), .load (.t 23) 1 false, none⟩
  | 8 => ⟨(some 25), .bin .neq (.t 20) (.t 24), none⟩
  | _ => ⟨none, .mkmap, none⟩
@[go_sem] def l15_9 (_ : Unit) : KL := [kB 4 (.mv (.c (.bool false))) [4]]
@[go_sem] def s15_10 (_ : Unit) : IR := (sQ [(kT l15_9), .ret])
@[go_sem] def s15_11 (_ : Unit) : IR := (sQ [(.kd (oF l15_8 9) [(0, []), (1, []), (2, []), (3, []), (4, []), (5, []), (6, []), (7, []), (8, [])] [0, 1, 5, 25]), (.cond (.t 25) (tH s15_10) .skip)])
@[go_sem] def s15_12 (_ : Unit) : IR := (.block 1 (tH s15_11))
@[go_sem] def l15_13 (_ : Unit) : KL := [kA 15 (.mv (.t 5)),
  kA 16 (.bin .add (.t 15) (cI 1)),
  kB 5 (.mv (.t 16)) [0, 1, 5]]
@[go_sem] def s15_14 (_ : Unit) : IR := (sQ [(tH s15_7), (tH s15_12), (kT l15_13)])
@[go_sem] def s15_15 (_ : Unit) : IR := (.loop (tH s15_14))
@[go_sem] def s15_16 (_ : Unit) : IR := (.block 0 (tH s15_15))
@[go_sem] def s15_17 (_ : Unit) : IR := (sQ [(kT l15_5), (tH s15_16)])
@[go_sem] def l15_18 (_ : Unit) : KL := [kB 4 (.mv (.c (.bool true))) [4]]
@[go_sem] def s15_19 (_ : Unit) : IR := (sQ [(kT l15_0), (tH s15_4), (tH s15_17), (kT l15_18), .ret])
theorem c15 : compFn Try.prog [(0, [], [oS [0, 1]]), (1, [], [oN, oN, oN, oN, oS [0, 1, 10]]), (2, [], [oS [4]]), (3, [], [oS [0, 1, 5]]), (4, [], [oN, oN, oN, oS [0, 1, 5, 14]]), (6, [(0, []), (1, []), (2, []), (3, []), (4, []), (5, []), (6, []), (7, []), (8, [])], [oS [0, 1, 5, 25]]), (7, [], [oS [4]]), (5, [], [oN, oN, oS [0, 1, 5]]), (8, [], [oS [4]])] Try.f15 = some ⟨2, 26, [.t 4], (tH s15_19)⟩ := by kernel_rfl
theorem v_laws_eqIntS (hl : vs.length = 2) (h : wpV Try.prog (tH s15_19) (postV [.t 4] RV) (envV vs) M) : VCall Try.prog n_laws_eqIntS vs M RV :=
  vcall_of_wp (fun _ _ _ hl h => acall_of_wp mixed Try.func15 c15 (by kernel_rfl) hl h) hl h
end Go.M2
