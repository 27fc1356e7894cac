/- The functions, turned: printed by program. -/
import Derived.Test.YtkojebodimpfaaaKt3
import Derived.Test.YtkojebodimpfaaaProg
import Derived.KernelRfl
set_option linter.unusedVariables false
set_option linter.unusedSimpArgs false
set_option maxRecDepth 10000
set_option maxHeartbeats 4000000
namespace Go.M2
open Go.Proofs
variable {M : MH} {vs : List V} {RV : V → MH → Prop}
theorem mixed : Try.prog.follows .mixedOrders = true := by kernel_rfl
def n_laws_szVarS : Nat := 35
def n_laws_szTermS : Nat := 110
def n_laws_szIntS : Nat := 52
def n_laws_szTermSS : Nat := 111
def n_laws_szRule : Nat := 78
def n_laws_szRuleS : Nat := 36
def n_laws_szSystem : Nat := 8
def n_laws_szIntSS : Nat := 22
def n_laws_toVar : Nat := 80
def n_laws_toVarS : Nat := 39
def n_laws_toTerm : Nat := 126
def n_laws_toTermS : Nat := 113
def n_laws_toIntS : Nat := 11
def n_laws_toTermSS : Nat := 114
def n_laws_toRule : Nat := 81
def n_laws_toRuleS : Nat := 40
def n_laws_toSystem : Nat := 10
def n_laws_toIntSS : Nat := 24
def n_spec_l1In : Nat := 48
def n_spec_l2Var : Nat := 93
def n_spec_l1One : Nat := 141
def n_spec_l1Kind : Nat := 139
def n_spec_KindsOf : Nat := 132
def n_spec_l2Is : Nat := 122
def n_spec_l2Rule : Nat := 94
def n_spec_SystemValid : Nat := 53
def n_spec_FirstState : Nat := 54
def n_spec_l2Same : Nat := 50
def n_spec_l3Copy : Nat := 55
def n_spec_l2In : Nat := 56
def n_spec_l1Held : Nat := 137
def n_spec_l1Truth : Nat := 138
def n_spec_l1Do : Nat := 131
def n_spec_l1Values : Nat := 121
def n_spec_l2Last : Nat := 91
def n_spec_l2Use : Nat := 49
def n_spec_l3Between : Nat := 57
def n_spec_TraceOf : Nat := 23
def n_impl_in : Nat := 59
def n_slices_IndexFunc_Simpl_Var_impl_Var : Nat := 123
def n_slices_ContainsFunc_Simpl_Var_impl_Var : Nat := 95
def n_impl_varOk : Nat := 97
def n_impl_SystemValid_1 : Nat := 96
def n_impl_size : Nat := 98
def n_impl_parts : Nat := 140
def n_impl_kindsOf : Nat := 133
def n_impl_kindOf : Nat := 125
def n_impl_ruleOk : Nat := 101
def n_impl_SystemValid_2 : Nat := 100
def n_slices_IndexFunc_Simpl_Rule_impl_Rule : Nat := 124
def n_slices_ContainsFunc_Simpl_Rule_impl_Rule : Nat := 99
def n_impl_SystemValid : Nat := 58
def n_impl_clone_int : Nat := 64
def n_impl_first : Nat := 61
def n_slices_Equal_Sint_int : Nat := 60
def n_impl_clone_Sint : Nat := 67
def n_impl_lists : Nat := 62
def n_impl_inRange : Nat := 82
def n_impl_InRange : Nat := 41
def n_impl_held : Nat := 134
def n_impl_bit : Nat := 135
def n_impl_do : Nat := 127
def n_impl_eval : Nat := 115
def n_impl_use : Nat := 83
def n_impl_ruleBetween : Nat := 102
def n_impl_RuleBetween : Nat := 63
def n_impl_TraceOf : Nat := 25
def n_laws_eqIntS : Nat := 15
def n_laws_eqIntSS : Nat := 13
def n_laws_eqTrace : Nat := 26
def n_laws_eqVar : Nat := 87
def n_laws_eqVarS : Nat := 43
def n_laws_eqTerm : Nat := 130
def n_laws_eqTermS : Nat := 119
def n_laws_eqTermSS : Nat := 120
def n_laws_eqRule : Nat := 88
def n_laws_eqRuleS : Nat := 44
def n_laws_eqSystem : Nat := 14
def n_laws_markVarS : Nat := 45
def n_laws_markTermS : Nat := 89
def n_laws_markIntS : Nat := 17
def n_laws_markTermSS : Nat := 90
def n_laws_markRuleS : Nat := 46
def n_laws_markSystem : Nat := 16
def n_laws_markIntSS : Nat := 18
def n_laws_markTrace : Nat := 27
def n_laws_heldIntS : Nat := 47
def n_laws_heldIntSS : Nat := 19
def n_laws_heldTrace : Nat := 28
def n_laws_FnExactTraceOf : Nat := 5
@[go_sem] def l35_0 (_ : Unit) : KL := [kB 4 (.mv (cI 0)) [0, 1]]
@[go_sem] def l35_1 (_ : Unit) : KL := [kA 5 (.mv (.t 1)),
  kA 6 (.mv (.t 0)),
  kA 7 (.len (.t 6)),
  kA 8 (.bin .sub (.t 5) (.t 7)),
  kB 1 (.mv (.t 8)) [1]]
@[go_sem] def l35_2 (_ : Unit) : KL := [kA 9 (.mv (.t 1)),
  kB 10 (.bin .lss (.t 9) (cI 0)) [1, 10]]
@[go_sem] def l35_3 (_ : Unit) : KL := [kB 4 (.mv (.c (.int .i64 (-1)))) [4]]
@[go_sem] def s35_4 (_ : Unit) : IR := (sQ [(kT l35_3), .ret])
@[go_sem] def s35_5 (_ : Unit) : IR := (sQ [(kT l35_2), (.cond (.t 10) (tH s35_4) .skip)])
@[go_sem] def l35_6 (_ : Unit) : KL := [kA 11 (.mv (.t 1)),
  kB 4 (.mv (.t 11)) [4]]
@[go_sem] def s35_7 (_ : Unit) : IR := (sQ [(kT l35_0), (kT l35_1), (tH s35_5), (kT l35_6), .ret])
theorem c35 : compFn Try.prog [(0, [], [oS [0, 1]]), (1, [], [oN, oN, oN, oN, oS [1]]), (2, [], [oN, oS [1, 10]]), (3, [], [oS [4]]), (4, [], [oN, oS [4]])] Try.f35 = some ⟨2, 12, [.t 4], (tH s35_7)⟩ := by kernel_rfl
theorem v_laws_szVarS (hl : vs.length = 2) (h : wpV Try.prog (tH s35_7) (postV [.t 4] RV) (envV vs) M) : VCall Try.prog n_laws_szVarS vs M RV :=
  vcall_of_wp (fun _ _ _ hl h => acall_of_wp mixed Try.func35 c35 (by kernel_rfl) hl h) hl h
@[go_sem] def l110_0 (_ : Unit) : KL := [kB 4 (.mv (cI 0)) [0, 1]]
@[go_sem] def l110_1 (_ : Unit) : KL := [kA 5 (.mv (.t 1)),
  kA 6 (.mv (.t 0)),
  kA 7 (.len (.t 6)),
  kA 8 (.bin .sub (.t 5) (.t 7)),
  kB 1 (.mv (.t 8)) [1]]
@[go_sem] def l110_2 (_ : Unit) : KL := [kA 9 (.mv (.t 1)),
  kB 10 (.bin .lss (.t 9) (cI 0)) [1, 10]]
@[go_sem] def l110_3 (_ : Unit) : KL := [kB 4 (.mv (.c (.int .i64 (-1)))) [4]]
@[go_sem] def s110_4 (_ : Unit) : IR := (sQ [(kT l110_3), .ret])
@[go_sem] def s110_5 (_ : Unit) : IR := (sQ [(kT l110_2), (.cond (.t 10) (tH s110_4) .skip)])
@[go_sem] def l110_6 (_ : Unit) : KL := [kA 11 (.mv (.t 1)),
  kB 4 (.mv (.t 11)) [4]]
@[go_sem] def s110_7 (_ : Unit) : IR := (sQ [(kT l110_0), (kT l110_1), (tH s110_5), (kT l110_6), .ret])
theorem c110 : compFn Try.prog [(0, [], [oS [0, 1]]), (1, [], [oN, oN, oN, oN, oS [1]]), (2, [], [oN, oS [1, 10]]), (3, [], [oS [4]]), (4, [], [oN, oS [4]])] Try.f110 = some ⟨2, 12, [.t 4], (tH s110_7)⟩ := by kernel_rfl
theorem v_laws_szTermS (hl : vs.length = 2) (h : wpV Try.prog (tH s110_7) (postV [.t 4] RV) (envV vs) M) : VCall Try.prog n_laws_szTermS vs M RV :=
  vcall_of_wp (fun _ _ _ hl h => acall_of_wp mixed Try.func110 c110 (by kernel_rfl) hl h) hl h
@[go_sem] def l52_0 (_ : Unit) : KL := [kB 4 (.mv (cI 0)) [0, 1]]
@[go_sem] def l52_1 (_ : Unit) : KL := [kA 5 (.mv (.t 1)),
  kA 6 (.mv (.t 0)),
  kA 7 (.len (.t 6)),
  kA 8 (.bin .sub (.t 5) (.t 7)),
  kB 1 (.mv (.t 8)) [1]]
@[go_sem] def l52_2 (_ : Unit) : KL := [kA 9 (.mv (.t 1)),
  kB 10 (.bin .lss (.t 9) (cI 0)) [1, 10]]
@[go_sem] def l52_3 (_ : Unit) : KL := [kB 4 (.mv (.c (.int .i64 (-1)))) [4]]
@[go_sem] def s52_4 (_ : Unit) : IR := (sQ [(kT l52_3), .ret])
@[go_sem] def s52_5 (_ : Unit) : IR := (sQ [(kT l52_2), (.cond (.t 10) (tH s52_4) .skip)])
@[go_sem] def l52_6 (_ : Unit) : KL := [kA 11 (.mv (.t 1)),
  kB 4 (.mv (.t 11)) [4]]
@[go_sem] def s52_7 (_ : Unit) : IR := (sQ [(kT l52_0), (kT l52_1), (tH s52_5), (kT l52_6), .ret])
theorem c52 : compFn Try.prog [(0, [], [oS [0, 1]]), (1, [], [oN, oN, oN, oN, oS [1]]), (2, [], [oN, oS [1, 10]]), (3, [], [oS [4]]), (4, [], [oN, oS [4]])] Try.f52 = some ⟨2, 12, [.t 4], (tH s52_7)⟩ := by kernel_rfl
theorem v_laws_szIntS (hl : vs.length = 2) (h : wpV Try.prog (tH s52_7) (postV [.t 4] RV) (envV vs) M) : VCall Try.prog n_laws_szIntS vs M RV :=
  vcall_of_wp (fun _ _ _ hl h => acall_of_wp mixed Try.func52 c52 (by kernel_rfl) hl h) hl h
@[go_sem] def l111_0 (_ : Unit) : KL := [kB 4 (.mv (cI 0)) [0, 1]]
@[go_sem] def l111_1 (_ : Unit) : KL := [kA 6 (.mv (.t 1)),
  kA 7 (.mv (.t 0)),
  kA 8 (.len (.t 7)),
  kA 9 (.bin .sub (.t 6) (.t 8)),
  kB 1 (.mv (.t 9)) [0, 1]]
@[go_sem] def l111_2 (_ : Unit) : KL := [kA 10 (.mv (.t 1)),
  kB 11 (.bin .lss (.t 10) (cI 0)) [0, 1, 11]]
@[go_sem] def l111_3 (_ : Unit) : KL := [kB 4 (.mv (.c (.int .i64 (-1)))) [4]]
@[go_sem] def s111_4 (_ : Unit) : IR := (sQ [(kT l111_3), .ret])
@[go_sem] def s111_5 (_ : Unit) : IR := (sQ [(kT l111_2), (.cond (.t 11) (tH s111_4) .skip)])
@[go_sem] def l111_6 (_ : Unit) : KL := [kB 5 (.mv (cI 0)) [0, 1, 5]]
@[go_sem] def l111_7 (_ : Unit) : KL := [kA 12 (.mv (.t 5)),
  kA 13 (.mv (.t 0)),
  kA 14 (.len (.t 13)),
  kB 15 (.bin .lss (.t 12) (.t 14)) [0, 1, 5, 15]]
@[go_sem] def s111_8 (_ : Unit) : IR := (sQ [(kT l111_7), (.cond (.t 15) .skip (.exit 0))])
@[go_sem] def l111_9 (_ : Unit) : KL := [kA 18 (.mv (.t 0)),
  kA 19 (.mv (.t 5)),
  kA 20 (.iaddr (.t 18) (.t 19) 1),
  kA 21 (.load (.t 20) 1 false),
  kB 22 (.mv (.t 1)) [0, 5, 21, 22],
  kA 23 (.call (n_laws_szTermS) [(.t 21), (.t 22)]),
  kB 1 (.mv (.t 23)) [0, 1, 5]]
@[go_sem] def l111_10 (_ : Unit) : KL := [kA 24 (.mv (.t 1)),
  kB 25 (.bin .lss (.t 24) (cI 0)) [0, 1, 5, 25]]
@[go_sem] def l111_11 (_ : Unit) : KL := [kB 4 (.mv (.c (.int .i64 (-1)))) [4]]
@[go_sem] def s111_12 (_ : Unit) : IR := (sQ [(kT l111_11), .ret])
@[go_sem] def s111_13 (_ : Unit) : IR := (sQ [(kT l111_9), (kT l111_10), (.cond (.t 25) (tH s111_12) .skip)])
@[go_sem] def s111_14 (_ : Unit) : IR := (.block 1 (tH s111_13))
@[go_sem] def l111_15 (_ : Unit) : KL := [kA 16 (.mv (.t 5)),
  kA 17 (.bin .add (.t 16) (cI 1)),
  kB 5 (.mv (.t 17)) [0, 1, 5]]
@[go_sem] def s111_16 (_ : Unit) : IR := (sQ [(tH s111_8), (tH s111_14), (kT l111_15)])
@[go_sem] def s111_17 (_ : Unit) : IR := (.loop (tH s111_16))
@[go_sem] def s111_18 (_ : Unit) : IR := (.block 0 (tH s111_17))
@[go_sem] def s111_19 (_ : Unit) : IR := (sQ [(kT l111_6), (tH s111_18)])
@[go_sem] def l111_20 (_ : Unit) : KL := [kA 26 (.mv (.t 1)),
  kB 4 (.mv (.t 26)) [4]]
@[go_sem] def s111_21 (_ : Unit) : IR := (sQ [(kT l111_0), (kT l111_1), (tH s111_5), (tH s111_19), (kT l111_20), .ret])
theorem c111 : compFn Try.prog [(0, [], [oS [0, 1]]), (1, [], [oN, oN, oN, oN, oS [0, 1]]), (2, [], [oN, oS [0, 1, 11]]), (3, [], [oS [4]]), (4, [], [oS [0, 1, 5]]), (5, [], [oN, oN, oN, oS [0, 1, 5, 15]]), (7, [], [oN, oN, oN, oN, oS [0, 5, 21, 22], oN, oS [0, 1, 5]]), (8, [], [oN, oS [0, 1, 5, 25]]), (9, [], [oS [4]]), (6, [], [oN, oN, oS [0, 1, 5]]), (10, [], [oN, oS [4]])] Try.f111 = some ⟨2, 27, [.t 4], (tH s111_21)⟩ := by kernel_rfl
theorem v_laws_szTermSS (hl : vs.length = 2) (h : wpV Try.prog (tH s111_21) (postV [.t 4] RV) (envV vs) M) : VCall Try.prog n_laws_szTermSS vs M RV :=
  vcall_of_wp (fun _ _ _ hl h => acall_of_wp mixed Try.func111 c111 (by kernel_rfl) hl h) hl h
@[go_sem] def l78_0 (_ : Unit) : KL := [kA 2 (.box (.t 0)),
  kB 4 (.mv (cI 0)) [1, 2]]
@[go_sem] def l78_1 (_ : Unit) : KL := [kA 5 (.faddr (.t 2) 0),
  kA 6 (.load (.t 5) 1 false),
  kA 7 (.mv (.t 1)),
  kA 8 (.call (n_laws_szTermS) [(.t 6), (.t 7)]),
  kB 1 (.mv (.t 8)) [1, 2]]
@[go_sem] def l78_2 (_ : Unit) : KL := [kA 9 (.mv (.t 1)),
  kB 10 (.bin .lss (.t 9) (cI 0)) [1, 2, 10]]
@[go_sem] def l78_3 (_ : Unit) : KL := [kB 4 (.mv (.c (.int .i64 (-1)))) [4]]
@[go_sem] def s78_4 (_ : Unit) : IR := (sQ [(kT l78_3), .ret])
@[go_sem] def s78_5 (_ : Unit) : IR := (sQ [(kT l78_2), (.cond (.t 10) (tH s78_4) .skip)])
@[go_sem] def l78_6 (_ : Unit) : KL := [kA 11 (.faddr (.t 2) 1),
  kA 12 (.load (.t 11) 1 false),
  kA 13 (.mv (.t 1)),
  kA 14 (.call (n_laws_szIntS) [(.t 12), (.t 13)]),
  kB 1 (.mv (.t 14)) [1, 2]]
@[go_sem] def l78_7 (_ : Unit) : KL := [kA 15 (.mv (.t 1)),
  kB 16 (.bin .lss (.t 15) (cI 0)) [1, 2, 16]]
@[go_sem] def l78_8 (_ : Unit) : KL := [kB 4 (.mv (.c (.int .i64 (-1)))) [4]]
@[go_sem] def s78_9 (_ : Unit) : IR := (sQ [(kT l78_8), .ret])
@[go_sem] def s78_10 (_ : Unit) : IR := (sQ [(kT l78_7), (.cond (.t 16) (tH s78_9) .skip)])
@[go_sem] def l78_11 (_ : Unit) : KL := [kA 17 (.faddr (.t 2) 2),
  kA 18 (.load (.t 17) 1 false),
  kA 19 (.mv (.t 1)),
  kA 20 (.call (n_laws_szTermSS) [(.t 18), (.t 19)]),
  kB 1 (.mv (.t 20)) [1]]
@[go_sem] def l78_12 (_ : Unit) : KL := [kA 21 (.mv (.t 1)),
  kB 22 (.bin .lss (.t 21) (cI 0)) [1, 22]]
@[go_sem] def l78_13 (_ : Unit) : KL := [kB 4 (.mv (.c (.int .i64 (-1)))) [4]]
@[go_sem] def s78_14 (_ : Unit) : IR := (sQ [(kT l78_13), .ret])
@[go_sem] def s78_15 (_ : Unit) : IR := (sQ [(kT l78_12), (.cond (.t 22) (tH s78_14) .skip)])
@[go_sem] def l78_16 (_ : Unit) : KL := [kA 23 (.mv (.t 1)),
  kB 4 (.mv (.t 23)) [4]]
@[go_sem] def s78_17 (_ : Unit) : IR := (sQ [(kT l78_0), (kT l78_1), (tH s78_5), (kT l78_6), (tH s78_10), (kT l78_11), (tH s78_15), (kT l78_16), .ret])
theorem c78 : compFn Try.prog [(0, [], [oN, oS [1, 2]]), (1, [], [oN, oN, oN, oN, oS [1, 2]]), (2, [], [oN, oS [1, 2, 10]]), (3, [], [oS [4]]), (4, [], [oN, oN, oN, oN, oS [1, 2]]), (5, [], [oN, oS [1, 2, 16]]), (6, [], [oS [4]]), (7, [], [oN, oN, oN, oN, oS [1]]), (8, [], [oN, oS [1, 22]]), (9, [], [oS [4]]), (10, [], [oN, oS [4]])] Try.f78 = some ⟨2, 24, [.t 4], (tH s78_17)⟩ := by kernel_rfl
theorem v_laws_szRule (hl : vs.length = 2) (h : wpV Try.prog (tH s78_17) (postV [.t 4] RV) (envV vs) M) : VCall Try.prog n_laws_szRule vs M RV :=
  vcall_of_wp (fun _ _ _ hl h => acall_of_wp mixed Try.func78 c78 (by kernel_rfl) hl h) hl h
@[go_sem] def l36_0 (_ : Unit) : KL := [kB 4 (.mv (cI 0)) [0, 1]]
@[go_sem] def l36_1 (_ : Unit) : KL := [kA 6 (.mv (.t 1)),
  kA 7 (.mv (.t 0)),
  kA 8 (.len (.t 7)),
  kA 9 (.bin .sub (.t 6) (.t 8)),
  kB 1 (.mv (.t 9)) [0, 1]]
@[go_sem] def l36_2 (_ : Unit) : KL := [kA 10 (.mv (.t 1)),
  kB 11 (.bin .lss (.t 10) (cI 0)) [0, 1, 11]]
@[go_sem] def l36_3 (_ : Unit) : KL := [kB 4 (.mv (.c (.int .i64 (-1)))) [4]]
@[go_sem] def s36_4 (_ : Unit) : IR := (sQ [(kT l36_3), .ret])
@[go_sem] def s36_5 (_ : Unit) : IR := (sQ [(kT l36_2), (.cond (.t 11) (tH s36_4) .skip)])
@[go_sem] def l36_6 (_ : Unit) : KL := [kB 5 (.mv (cI 0)) [0, 1, 5]]
@[go_sem] def l36_7 (_ : Unit) : KL := [kA 12 (.mv (.t 5)),
  kA 13 (.mv (.t 0)),
  kA 14 (.len (.t 13)),
  kB 15 (.bin .lss (.t 12) (.t 14)) [0, 1, 5, 15]]
@[go_sem] def s36_8 (_ : Unit) : IR := (sQ [(kT l36_7), (.cond (.t 15) .skip (.exit 0))])
@[go_sem] def l36_9 (_ : Unit) : KL := [kA 18 (.mv (.t 0)),
  kA 19 (.mv (.t 5)),
  kA 20 (.iaddr (.t 18) (.t 19) 3),
  kA 21 (.load (.t 20) 3 true),
  kB 22 (.mv (.t 1)) [0, 5, 21, 22],
  kA 23 (.call (n_laws_szRule) [(.t 21), (.t 22)]),
  kB 1 (.mv (.t 23)) [0, 1, 5]]
@[go_sem] def l36_10 (_ : Unit) : KL := [kA 24 (.mv (.t 1)),
  kB 25 (.bin .lss (.t 24) (cI 0)) [0, 1, 5, 25]]
@[go_sem] def l36_11 (_ : Unit) : KL := [kB 4 (.mv (.c (.int .i64 (-1)))) [4]]
@[go_sem] def s36_12 (_ : Unit) : IR := (sQ [(kT l36_11), .ret])
@[go_sem] def s36_13 (_ : Unit) : IR := (sQ [(kT l36_9), (kT l36_10), (.cond (.t 25) (tH s36_12) .skip)])
@[go_sem] def s36_14 (_ : Unit) : IR := (.block 1 (tH s36_13))
@[go_sem] def l36_15 (_ : Unit) : KL := [kA 16 (.mv (.t 5)),
  kA 17 (.bin .add (.t 16) (cI 1)),
  kB 5 (.mv (.t 17)) [0, 1, 5]]
@[go_sem] def s36_16 (_ : Unit) : IR := (sQ [(tH s36_8), (tH s36_14), (kT l36_15)])
@[go_sem] def s36_17 (_ : Unit) : IR := (.loop (tH s36_16))
@[go_sem] def s36_18 (_ : Unit) : IR := (.block 0 (tH s36_17))
@[go_sem] def s36_19 (_ : Unit) : IR := (sQ [(kT l36_6), (tH s36_18)])
@[go_sem] def l36_20 (_ : Unit) : KL := [kA 26 (.mv (.t 1)),
  kB 4 (.mv (.t 26)) [4]]
@[go_sem] def s36_21 (_ : Unit) : IR := (sQ [(kT l36_0), (kT l36_1), (tH s36_5), (tH s36_19), (kT l36_20), .ret])
theorem c36 : compFn Try.prog [(0, [], [oS [0, 1]]), (1, [], [oN, oN, oN, oN, oS [0, 1]]), (2, [], [oN, oS [0, 1, 11]]), (3, [], [oS [4]]), (4, [], [oS [0, 1, 5]]), (5, [], [oN, oN, oN, oS [0, 1, 5, 15]]), (7, [], [oN, oN, oN, oN, oS [0, 5, 21, 22], oN, oS [0, 1, 5]]), (8, [], [oN, oS [0, 1, 5, 25]]), (9, [], [oS [4]]), (6, [], [oN, oN, oS [0, 1, 5]]), (10, [], [oN, oS [4]])] Try.f36 = some ⟨2, 27, [.t 4], (tH s36_21)⟩ := by kernel_rfl
theorem v_laws_szRuleS (hl : vs.length = 2) (h : wpV Try.prog (tH s36_21) (postV [.t 4] RV) (envV vs) M) : VCall Try.prog n_laws_szRuleS vs M RV :=
  vcall_of_wp (fun _ _ _ hl h => acall_of_wp mixed Try.func36 c36 (by kernel_rfl) hl h) hl h
@[go_sem] def l8_0 (_ : Unit) : KL := [kA 2 (.box (.t 0)),
  kB 4 (.mv (cI 0)) [1, 2]]
@[go_sem] def l8_1 (_ : Unit) : KL := [kA 5 (.faddr (.t 2) 0),
  kA 6 (.load (.t 5) 1 false),
  kA 7 (.mv (.t 1)),
  kA 8 (.call (n_laws_szVarS) [(.t 6), (.t 7)]),
  kB 1 (.mv (.t 8)) [1, 2]]
@[go_sem] def l8_2 (_ : Unit) : KL := [kA 9 (.mv (.t 1)),
  kB 10 (.bin .lss (.t 9) (cI 0)) [1, 2, 10]]
@[go_sem] def l8_3 (_ : Unit) : KL := [kB 4 (.mv (.c (.int .i64 (-1)))) [4]]
@[go_sem] def s8_4 (_ : Unit) : IR := (sQ [(kT l8_3), .ret])
@[go_sem] def s8_5 (_ : Unit) : IR := (sQ [(kT l8_2), (.cond (.t 10) (tH s8_4) .skip)])
@[go_sem] def l8_6 (_ : Unit) : KL := [kA 11 (.faddr (.t 2) 1),
  kA 12 (.load (.t 11) 1 false),
  kA 13 (.mv (.t 1)),
  kA 14 (.call (n_laws_szRuleS) [(.t 12), (.t 13)]),
  kB 1 (.mv (.t 14)) [1]]
@[go_sem] def l8_7 (_ : Unit) : KL := [kA 15 (.mv (.t 1)),
  kB 16 (.bin .lss (.t 15) (cI 0)) [1, 16]]
@[go_sem] def l8_8 (_ : Unit) : KL := [kB 4 (.mv (.c (.int .i64 (-1)))) [4]]
@[go_sem] def s8_9 (_ : Unit) : IR := (sQ [(kT l8_8), .ret])
@[go_sem] def s8_10 (_ : Unit) : IR := (sQ [(kT l8_7), (.cond (.t 16) (tH s8_9) .skip)])
@[go_sem] def l8_11 (_ : Unit) : KL := [kA 17 (.mv (.t 1)),
  kB 4 (.mv (.t 17)) [4]]
@[go_sem] def s8_12 (_ : Unit) : IR := (sQ [(kT l8_0), (kT l8_1), (tH s8_5), (kT l8_6), (tH s8_10), (kT l8_11), .ret])
theorem c8 : compFn Try.prog [(0, [], [oN, oS [1, 2]]), (1, [], [oN, oN, oN, oN, oS [1, 2]]), (2, [], [oN, oS [1, 2, 10]]), (3, [], [oS [4]]), (4, [], [oN, oN, oN, oN, oS [1]]), (5, [], [oN, oS [1, 16]]), (6, [], [oS [4]]), (7, [], [oN, oS [4]])] Try.f8 = some ⟨2, 18, [.t 4], (tH s8_12)⟩ := by kernel_rfl
theorem v_laws_szSystem (hl : vs.length = 2) (h : wpV Try.prog (tH s8_12) (postV [.t 4] RV) (envV vs) M) : VCall Try.prog n_laws_szSystem vs M RV :=
  vcall_of_wp (fun _ _ _ hl h => acall_of_wp mixed Try.func8 c8 (by kernel_rfl) hl h) hl h
@[go_sem] def l22_0 (_ : Unit) : KL := [kB 4 (.mv (cI 0)) [0, 1]]
@[go_sem] def l22_1 (_ : Unit) : KL := [kA 6 (.mv (.t 1)),
  kA 7 (.mv (.t 0)),
  kA 8 (.len (.t 7)),
  kA 9 (.bin .sub (.t 6) (.t 8)),
  kB 1 (.mv (.t 9)) [0, 1]]
@[go_sem] def l22_2 (_ : Unit) : KL := [kA 10 (.mv (.t 1)),
  kB 11 (.bin .lss (.t 10) (cI 0)) [0, 1, 11]]
@[go_sem] def l22_3 (_ : Unit) : KL := [kB 4 (.mv (.c (.int .i64 (-1)))) [4]]
@[go_sem] def s22_4 (_ : Unit) : IR := (sQ [(kT l22_3), .ret])
@[go_sem] def s22_5 (_ : Unit) : IR := (sQ [(kT l22_2), (.cond (.t 11) (tH s22_4) .skip)])
@[go_sem] def l22_6 (_ : Unit) : KL := [kB 5 (.mv (cI 0)) [0, 1, 5]]
@[go_sem] def l22_7 (_ : Unit) : KL := [kA 12 (.mv (.t 5)),
  kA 13 (.mv (.t 0)),
  kA 14 (.len (.t 13)),
  kB 15 (.bin .lss (.t 12) (.t 14)) [0, 1, 5, 15]]
@[go_sem] def s22_8 (_ : Unit) : IR := (sQ [(kT l22_7), (.cond (.t 15) .skip (.exit 0))])
@[go_sem] def l22_9 (_ : Unit) : KL := [kA 18 (.mv (.t 0)),
  kA 19 (.mv (.t 5)),
  kA 20 (.iaddr (.t 18) (.t 19) 1),
  kA 21 (.load (.t 20) 1 false),
  kB 22 (.mv (.t 1)) [0, 5, 21, 22],
  kA 23 (.call (n_laws_szIntS) [(.t 21), (.t 22)]),
  kB 1 (.mv (.t 23)) [0, 1, 5]]
@[go_sem] def l22_10 (_ : Unit) : KL := [kA 24 (.mv (.t 1)),
  kB 25 (.bin .lss (.t 24) (cI 0)) [0, 1, 5, 25]]
@[go_sem] def l22_11 (_ : Unit) : KL := [kB 4 (.mv (.c (.int .i64 (-1)))) [4]]
@[go_sem] def s22_12 (_ : Unit) : IR := (sQ [(kT l22_11), .ret])
@[go_sem] def s22_13 (_ : Unit) : IR := (sQ [(kT l22_9), (kT l22_10), (.cond (.t 25) (tH s22_12) .skip)])
@[go_sem] def s22_14 (_ : Unit) : IR := (.block 1 (tH s22_13))
@[go_sem] def l22_15 (_ : Unit) : KL := [kA 16 (.mv (.t 5)),
  kA 17 (.bin .add (.t 16) (cI 1)),
  kB 5 (.mv (.t 17)) [0, 1, 5]]
@[go_sem] def s22_16 (_ : Unit) : IR := (sQ [(tH s22_8), (tH s22_14), (kT l22_15)])
@[go_sem] def s22_17 (_ : Unit) : IR := (.loop (tH s22_16))
@[go_sem] def s22_18 (_ : Unit) : IR := (.block 0 (tH s22_17))
@[go_sem] def s22_19 (_ : Unit) : IR := (sQ [(kT l22_6), (tH s22_18)])
@[go_sem] def l22_20 (_ : Unit) : KL := [kA 26 (.mv (.t 1)),
  kB 4 (.mv (.t 26)) [4]]
@[go_sem] def s22_21 (_ : Unit) : IR := (sQ [(kT l22_0), (kT l22_1), (tH s22_5), (tH s22_19), (kT l22_20), .ret])
theorem c22 : compFn Try.prog [(0, [], [oS [0, 1]]), (1, [], [oN, oN, oN, oN, oS [0, 1]]), (2, [], [oN, oS [0, 1, 11]]), (3, [], [oS [4]]), (4, [], [oS [0, 1, 5]]), (5, [], [oN, oN, oN, oS [0, 1, 5, 15]]), (7, [], [oN, oN, oN, oN, oS [0, 5, 21, 22], oN, oS [0, 1, 5]]), (8, [], [oN, oS [0, 1, 5, 25]]), (9, [], [oS [4]]), (6, [], [oN, oN, oS [0, 1, 5]]), (10, [], [oN, oS [4]])] Try.f22 = some ⟨2, 27, [.t 4], (tH s22_21)⟩ := by kernel_rfl
theorem v_laws_szIntSS (hl : vs.length = 2) (h : wpV Try.prog (tH s22_21) (postV [.t 4] RV) (envV vs) M) : VCall Try.prog n_laws_szIntSS vs M RV :=
  vcall_of_wp (fun _ _ _ hl h => acall_of_wp mixed Try.func22 c22 (by kernel_rfl) hl h) hl h
@[go_sem] def l80_0 (_ : Unit) : KL := [kA 1 (.box (.t 0)),
  kB 2 (.alloc [(.int .i64 0), (.int .i64 0), (.int .i64 0)]) [1, 2]]
@[go_sem] def l80_1 (_ : Unit) : KL := [kB 3 (.alloc [(.int .i64 0), (.int .i64 0), (.int .i64 0)]) [1, 2, 3]]
@[go_sem] def l80_2 (_ : Unit) : KL := [kA 4 (.faddr (.t 1) 0),
  kA 5 (.load (.t 4) 1 false),
  kA 6 (.faddr (.t 3) 0),
  (⟨none, .store (.t 6) 1 (.t 5), none⟩, (some [1, 2, 3]))]
@[go_sem] def l80_3 (_ : Unit) : KL := [kA 7 (.faddr (.t 1) 1),
  kA 8 (.load (.t 7) 1 false),
  kA 9 (.faddr (.t 3) 1),
  (⟨none, .store (.t 9) 1 (.t 8), none⟩, (some [1, 2, 3]))]
@[go_sem] def l80_4 (_ : Unit) : KL := [kA 10 (.faddr (.t 1) 2),
  kA 11 (.load (.t 10) 1 false),
  kA 12 (.faddr (.t 3) 2),
  (⟨none, .store (.t 12) 1 (.t 11), none⟩, (some [2, 3]))]
@[go_sem] def l80_5 (_ : Unit) : KL := [kA 13 (.load (.t 3) 3 true),
  (⟨none, .store (.t 2) 3 (.t 13), none⟩, (some [2]))]
@[go_sem] def s80_6 (_ : Unit) : IR := (sQ [(kT l80_0), (kT l80_1), (kT l80_2), (kT l80_3), (kT l80_4), (kT l80_5), .ret])
theorem c80 : compFn Try.prog [(0, [], [oN, oS [1, 2]]), (1, [], [oS [1, 2, 3]]), (2, [], [oN, oN, oN, oS [1, 2, 3]]), (3, [], [oN, oN, oN, oS [1, 2, 3]]), (4, [], [oN, oN, oN, oS [2, 3]]), (5, [], [oN, oS [2]])] Try.f80 = some ⟨1, 14, [.c 2 3 true], (tH s80_6)⟩ := by kernel_rfl
theorem v_laws_toVar (hl : vs.length = 1) (h : wpV Try.prog (tH s80_6) (postV [.c 2 3 true] RV) (envV vs) M) : VCall Try.prog n_laws_toVar vs M RV :=
  vcall_of_wp (fun _ _ _ hl h => acall_of_wp mixed Try.func80 c80 (by kernel_rfl) hl h) hl h
@[go_sem] def l39_0 (_ : Unit) : KL := [kB 2 (.mv (.c (.sl none 0 0 true 0))) [0]]
@[go_sem] def l39_1 (_ : Unit) : KL := [kA 5 (.mv (.t 0)),
  kA 6 (.len (.t 5)),
  kA 7 (.mks [(.int .i64 0), (.int .i64 0), (.int .i64 0)] 24 (.t 6)),
  kB 3 (.mv (.t 7)) [0, 3]]
@[go_sem] def l39_2 (_ : Unit) : KL := [kB 4 (.mv (cI 0)) [0, 3, 4]]
@[go_sem] def l39_3 (_ : Unit) : KL := [kA 8 (.mv (.t 4)),
  kA 9 (.mv (.t 0)),
  kA 10 (.len (.t 9)),
  kB 11 (.bin .lss (.t 8) (.t 10)) [0, 3, 4, 11]]
@[go_sem] def s39_4 (_ : Unit) : IR := (sQ [(kT l39_3), (.cond (.t 11) .skip (.exit 0))])
@[go_sem] def l39_5 (_ : Unit) : KL := [kA 14 (.mv (.t 3)),
  kA 15 (.mv (.t 4)),
  kA 16 (.mv (.t 0)),
  kA 17 (.mv (.t 4)),
  kB 18 (.iaddr (.t 16) (.t 17) 3) [0, 3, 4, 14, 15, 18],
  kA 19 (.load (.t 18) 3 true),
  kA 20 (.call (n_laws_toVar) [(.t 19)]),
  kA 21 (.iaddr (.t 14) (.t 15) 3),
  (⟨none, .store (.t 21) 3 (.t 20), none⟩, (some [0, 3, 4]))]
@[go_sem] def s39_6 (_ : Unit) : IR := (.block 1 (kT l39_5))
@[go_sem] def l39_7 (_ : Unit) : KL := [kA 12 (.mv (.t 4)),
  kA 13 (.bin .add (.t 12) (cI 1)),
  kB 4 (.mv (.t 13)) [0, 3, 4]]
@[go_sem] def s39_8 (_ : Unit) : IR := (sQ [(tH s39_4), (tH s39_6), (kT l39_7)])
@[go_sem] def s39_9 (_ : Unit) : IR := (.loop (tH s39_8))
@[go_sem] def s39_10 (_ : Unit) : IR := (.block 0 (tH s39_9))
@[go_sem] def s39_11 (_ : Unit) : IR := (sQ [(kT l39_2), (tH s39_10)])
@[go_sem] def l39_12 (_ : Unit) : KL := [kA 22 (.mv (.t 3)),
  kB 2 (.mv (.t 22)) [2]]
@[go_sem] def s39_13 (_ : Unit) : IR := (sQ [(kT l39_0), (kT l39_1), (tH s39_11), (kT l39_12), .ret])
theorem c39 : compFn Try.prog [(0, [], [oS [0]]), (1, [], [oN, oN, oN, oS [0, 3]]), (2, [], [oS [0, 3, 4]]), (3, [], [oN, oN, oN, oS [0, 3, 4, 11]]), (5, [], [oN, oN, oN, oN, oS [0, 3, 4, 14, 15, 18], oN, oN, oN, oS [0, 3, 4]]), (4, [], [oN, oN, oS [0, 3, 4]]), (6, [], [oN, oS [2]])] Try.f39 = some ⟨1, 23, [.t 2], (tH s39_13)⟩ := by kernel_rfl
theorem v_laws_toVarS (hl : vs.length = 1) (h : wpV Try.prog (tH s39_13) (postV [.t 2] RV) (envV vs) M) : VCall Try.prog n_laws_toVarS vs M RV :=
  vcall_of_wp (fun _ _ _ hl h => acall_of_wp mixed Try.func39 c39 (by kernel_rfl) hl h) hl h
@[go_sem] def l126_0 (_ : Unit) : KL := [kA 1 (.box (.t 0)),
  kB 2 (.alloc [(.int .i64 0), (.int .i64 0), (.int .i64 0), (.int .i64 0)]) [1, 2]]
@[go_sem] def l126_1 (_ : Unit) : KL := [kB 3 (.alloc [(.int .i64 0), (.int .i64 0), (.int .i64 0), (.int .i64 0)]) [1, 2, 3]]
@[go_sem] def l126_2 (_ : Unit) : KL := [kA 4 (.faddr (.t 1) 0),
  kA 5 (.load (.t 4) 1 false),
  kA 6 (.faddr (.t 3) 0),
  (⟨none, .store (.t 6) 1 (.t 5), none⟩, (some [1, 2, 3]))]
@[go_sem] def l126_3 (_ : Unit) : KL := [kA 7 (.faddr (.t 1) 1),
  kA 8 (.load (.t 7) 1 false),
  kA 9 (.faddr (.t 3) 1),
  (⟨none, .store (.t 9) 1 (.t 8), none⟩, (some [1, 2, 3]))]
@[go_sem] def l126_4 (_ : Unit) : KL := [kA 10 (.faddr (.t 1) 2),
  kA 11 (.load (.t 10) 1 false),
  kA 12 (.faddr (.t 3) 2),
  (⟨none, .store (.t 12) 1 (.t 11), none⟩, (some [1, 2, 3]))]
@[go_sem] def l126_5 (_ : Unit) : KL := [kA 13 (.faddr (.t 1) 3),
  kA 14 (.load (.t 13) 1 false),
  kA 15 (.faddr (.t 3) 3),
  (⟨none, .store (.t 15) 1 (.t 14), none⟩, (some [2, 3]))]
@[go_sem] def l126_6 (_ : Unit) : KL := [kA 16 (.load (.t 3) 4 true),
  (⟨none, .store (.t 2) 4 (.t 16), none⟩, (some [2]))]
@[go_sem] def s126_7 (_ : Unit) : IR := (sQ [(kT l126_0), (kT l126_1), (kT l126_2), (kT l126_3), (kT l126_4), (kT l126_5), (kT l126_6), .ret])
theorem c126 : compFn Try.prog [(0, [], [oN, oS [1, 2]]), (1, [], [oS [1, 2, 3]]), (2, [], [oN, oN, oN, oS [1, 2, 3]]), (3, [], [oN, oN, oN, oS [1, 2, 3]]), (4, [], [oN, oN, oN, oS [1, 2, 3]]), (5, [], [oN, oN, oN, oS [2, 3]]), (6, [], [oN, oS [2]])] Try.f126 = some ⟨1, 17, [.c 2 4 true], (tH s126_7)⟩ := by kernel_rfl
theorem v_laws_toTerm (hl : vs.length = 1) (h : wpV Try.prog (tH s126_7) (postV [.c 2 4 true] RV) (envV vs) M) : VCall Try.prog n_laws_toTerm vs M RV :=
  vcall_of_wp (fun _ _ _ hl h => acall_of_wp mixed Try.func126 c126 (by kernel_rfl) hl h) hl h
@[go_sem] def l113_0 (_ : Unit) : KL := [kB 2 (.mv (.c (.sl none 0 0 true 0))) [0]]
@[go_sem] def l113_1 (_ : Unit) : KL := [kA 5 (.mv (.t 0)),
  kA 6 (.len (.t 5)),
  kA 7 (.mks [(.int .i64 0), (.int .i64 0), (.int .i64 0), (.int .i64 0)] 32 (.t 6)),
  kB 3 (.mv (.t 7)) [0, 3]]
@[go_sem] def l113_2 (_ : Unit) : KL := [kB 4 (.mv (cI 0)) [0, 3, 4]]
@[go_sem] def l113_3 (_ : Unit) : KL := [kA 8 (.mv (.t 4)),
  kA 9 (.mv (.t 0)),
  kA 10 (.len (.t 9)),
  kB 11 (.bin .lss (.t 8) (.t 10)) [0, 3, 4, 11]]
@[go_sem] def s113_4 (_ : Unit) : IR := (sQ [(kT l113_3), (.cond (.t 11) .skip (.exit 0))])
@[go_sem] def l113_5 (_ : Unit) : KL := [kA 14 (.mv (.t 3)),
  kA 15 (.mv (.t 4)),
  kA 16 (.mv (.t 0)),
  kA 17 (.mv (.t 4)),
  kB 18 (.iaddr (.t 16) (.t 17) 4) [0, 3, 4, 14, 15, 18],
  kA 19 (.load (.t 18) 4 true),
  kA 20 (.call (n_laws_toTerm) [(.t 19)]),
  kA 21 (.iaddr (.t 14) (.t 15) 4),
  (⟨none, .store (.t 21) 4 (.t 20), none⟩, (some [0, 3, 4]))]
@[go_sem] def s113_6 (_ : Unit) : IR := (.block 1 (kT l113_5))
@[go_sem] def l113_7 (_ : Unit) : KL := [kA 12 (.mv (.t 4)),
  kA 13 (.bin .add (.t 12) (cI 1)),
  kB 4 (.mv (.t 13)) [0, 3, 4]]
@[go_sem] def s113_8 (_ : Unit) : IR := (sQ [(tH s113_4), (tH s113_6), (kT l113_7)])
@[go_sem] def s113_9 (_ : Unit) : IR := (.loop (tH s113_8))
@[go_sem] def s113_10 (_ : Unit) : IR := (.block 0 (tH s113_9))
@[go_sem] def s113_11 (_ : Unit) : IR := (sQ [(kT l113_2), (tH s113_10)])
@[go_sem] def l113_12 (_ : Unit) : KL := [kA 22 (.mv (.t 3)),
  kB 2 (.mv (.t 22)) [2]]
@[go_sem] def s113_13 (_ : Unit) : IR := (sQ [(kT l113_0), (kT l113_1), (tH s113_11), (kT l113_12), .ret])
theorem c113 : compFn Try.prog [(0, [], [oS [0]]), (1, [], [oN, oN, oN, oS [0, 3]]), (2, [], [oS [0, 3, 4]]), (3, [], [oN, oN, oN, oS [0, 3, 4, 11]]), (5, [], [oN, oN, oN, oN, oS [0, 3, 4, 14, 15, 18], oN, oN, oN, oS [0, 3, 4]]), (4, [], [oN, oN, oS [0, 3, 4]]), (6, [], [oN, oS [2]])] Try.f113 = some ⟨1, 23, [.t 2], (tH s113_13)⟩ := by kernel_rfl
theorem v_laws_toTermS (hl : vs.length = 1) (h : wpV Try.prog (tH s113_13) (postV [.t 2] RV) (envV vs) M) : VCall Try.prog n_laws_toTermS vs M RV :=
  vcall_of_wp (fun _ _ _ hl h => acall_of_wp mixed Try.func113 c113 (by kernel_rfl) hl h) hl h
@[go_sem] def l11_0 (_ : Unit) : KL := [kB 2 (.mv (.c (.sl none 0 0 true 0))) [0]]
@[go_sem] def l11_1 (_ : Unit) : KL := [kA 5 (.mv (.t 0)),
  kA 6 (.len (.t 5)),
  kA 7 (.mks [(.int .i64 0)] 8 (.t 6)),
  kB 3 (.mv (.t 7)) [0, 3]]
@[go_sem] def l11_2 (_ : Unit) : KL := [kB 4 (.mv (cI 0)) [0, 3, 4]]
@[go_sem] def l11_3 (_ : Unit) : KL := [kA 8 (.mv (.t 4)),
  kA 9 (.mv (.t 0)),
  kA 10 (.len (.t 9)),
  kB 11 (.bin .lss (.t 8) (.t 10)) [0, 3, 4, 11]]
@[go_sem] def s11_4 (_ : Unit) : IR := (sQ [(kT l11_3), (.cond (.t 11) .skip (.exit 0))])
@[go_sem] def l11_5 (_ : Unit) : KL := [kA 14 (.mv (.t 3)),
  kA 15 (.mv (.t 4)),
  kA 16 (.mv (.t 0)),
  kA 17 (.mv (.t 4)),
  kB 18 (.iaddr (.t 16) (.t 17) 1) [0, 3, 4, 14, 15, 18],
  kA 19 (.load (.t 18) 1 false),
  kA 20 (.iaddr (.t 14) (.t 15) 1),
  (⟨none, .store (.t 20) 1 (.t 19), none⟩, (some [0, 3, 4]))]
@[go_sem] def s11_6 (_ : Unit) : IR := (.block 1 (kT l11_5))
@[go_sem] def l11_7 (_ : Unit) : KL := [kA 12 (.mv (.t 4)),
  kA 13 (.bin .add (.t 12) (cI 1)),
  kB 4 (.mv (.t 13)) [0, 3, 4]]
@[go_sem] def s11_8 (_ : Unit) : IR := (sQ [(tH s11_4), (tH s11_6), (kT l11_7)])
@[go_sem] def s11_9 (_ : Unit) : IR := (.loop (tH s11_8))
@[go_sem] def s11_10 (_ : Unit) : IR := (.block 0 (tH s11_9))
@[go_sem] def s11_11 (_ : Unit) : IR := (sQ [(kT l11_2), (tH s11_10)])
@[go_sem] def l11_12 (_ : Unit) : KL := [kA 21 (.mv (.t 3)),
  kB 2 (.mv (.t 21)) [2]]
@[go_sem] def s11_13 (_ : Unit) : IR := (sQ [(kT l11_0), (kT l11_1), (tH s11_11), (kT l11_12), .ret])
theorem c11 : compFn Try.prog [(0, [], [oS [0]]), (1, [], [oN, oN, oN, oS [0, 3]]), (2, [], [oS [0, 3, 4]]), (3, [], [oN, oN, oN, oS [0, 3, 4, 11]]), (5, [], [oN, oN, oN, oN, oS [0, 3, 4, 14, 15, 18], oN, oN, oS [0, 3, 4]]), (4, [], [oN, oN, oS [0, 3, 4]]), (6, [], [oN, oS [2]])] Try.f11 = some ⟨1, 22, [.t 2], (tH s11_13)⟩ := by kernel_rfl
theorem v_laws_toIntS (hl : vs.length = 1) (h : wpV Try.prog (tH s11_13) (postV [.t 2] RV) (envV vs) M) : VCall Try.prog n_laws_toIntS vs M RV :=
  vcall_of_wp (fun _ _ _ hl h => acall_of_wp mixed Try.func11 c11 (by kernel_rfl) hl h) hl h
@[go_sem] def l114_0 (_ : Unit) : KL := [kB 2 (.mv (.c (.sl none 0 0 true 0))) [0]]
@[go_sem] def l114_1 (_ : Unit) : KL := [kA 5 (.mv (.t 0)),
  kA 6 (.len (.t 5)),
  kA 7 (.mks [(.sl none 0 0 true 0)] 24 (.t 6)),
  kB 3 (.mv (.t 7)) [0, 3]]
@[go_sem] def l114_2 (_ : Unit) : KL := [kB 4 (.mv (cI 0)) [0, 3, 4]]
@[go_sem] def l114_3 (_ : Unit) : KL := [kA 8 (.mv (.t 4)),
  kA 9 (.mv (.t 0)),
  kA 10 (.len (.t 9)),
  kB 11 (.bin .lss (.t 8) (.t 10)) [0, 3, 4, 11]]
@[go_sem] def s114_4 (_ : Unit) : IR := (sQ [(kT l114_3), (.cond (.t 11) .skip (.exit 0))])
@[go_sem] def l114_5 (_ : Unit) : KL := [kA 14 (.mv (.t 3)),
  kA 15 (.mv (.t 4)),
  kA 16 (.mv (.t 0)),
  kA 17 (.mv (.t 4)),
  kB 18 (.iaddr (.t 16) (.t 17) 1) [0, 3, 4, 14, 15, 18],
  kA 19 (.load (.t 18) 1 false),
  kA 20 (.call (n_laws_toTermS) [(.t 19)]),
  kA 21 (.iaddr (.t 14) (.t 15) 1),
  (⟨none, .store (.t 21) 1 (.t 20), none⟩, (some [0, 3, 4]))]
@[go_sem] def s114_6 (_ : Unit) : IR := (.block 1 (kT l114_5))
@[go_sem] def l114_7 (_ : Unit) : KL := [kA 12 (.mv (.t 4)),
  kA 13 (.bin .add (.t 12) (cI 1)),
  kB 4 (.mv (.t 13)) [0, 3, 4]]
@[go_sem] def s114_8 (_ : Unit) : IR := (sQ [(tH s114_4), (tH s114_6), (kT l114_7)])
@[go_sem] def s114_9 (_ : Unit) : IR := (.loop (tH s114_8))
@[go_sem] def s114_10 (_ : Unit) : IR := (.block 0 (tH s114_9))
@[go_sem] def s114_11 (_ : Unit) : IR := (sQ [(kT l114_2), (tH s114_10)])
@[go_sem] def l114_12 (_ : Unit) : KL := [kA 22 (.mv (.t 3)),
  kB 2 (.mv (.t 22)) [2]]
@[go_sem] def s114_13 (_ : Unit) : IR := (sQ [(kT l114_0), (kT l114_1), (tH s114_11), (kT l114_12), .ret])
theorem c114 : compFn Try.prog [(0, [], [oS [0]]), (1, [], [oN, oN, oN, oS [0, 3]]), (2, [], [oS [0, 3, 4]]), (3, [], [oN, oN, oN, oS [0, 3, 4, 11]]), (5, [], [oN, oN, oN, oN, oS [0, 3, 4, 14, 15, 18], oN, oN, oN, oS [0, 3, 4]]), (4, [], [oN, oN, oS [0, 3, 4]]), (6, [], [oN, oS [2]])] Try.f114 = some ⟨1, 23, [.t 2], (tH s114_13)⟩ := by kernel_rfl
theorem v_laws_toTermSS (hl : vs.length = 1) (h : wpV Try.prog (tH s114_13) (postV [.t 2] RV) (envV vs) M) : VCall Try.prog n_laws_toTermSS vs M RV :=
  vcall_of_wp (fun _ _ _ hl h => acall_of_wp mixed Try.func114 c114 (by kernel_rfl) hl h) hl h
@[go_sem] def l81_0 (_ : Unit) : KL := [kA 1 (.box (.t 0)),
  kB 2 (.alloc [(.sl none 0 0 true 0), (.sl none 0 0 true 0), (.sl none 0 0 true 0)]) [1, 2]]
@[go_sem] def l81_1 (_ : Unit) : KL := [kB 3 (.alloc [(.sl none 0 0 true 0), (.sl none 0 0 true 0), (.sl none 0 0 true 0)]) [1, 2, 3]]
@[go_sem] def l81_2 (_ : Unit) : KL := [kA 4 (.faddr (.t 1) 0),
  kA 5 (.load (.t 4) 1 false),
  kA 6 (.call (n_laws_toTermS) [(.t 5)]),
  kA 7 (.faddr (.t 3) 0),
  (⟨none, .store (.t 7) 1 (.t 6), none⟩, (some [1, 2, 3]))]
@[go_sem] def l81_3 (_ : Unit) : KL := [kA 8 (.faddr (.t 1) 1),
  kA 9 (.load (.t 8) 1 false),
  kA 10 (.call (n_laws_toIntS) [(.t 9)]),
  kA 11 (.faddr (.t 3) 1),
  (⟨none, .store (.t 11) 1 (.t 10), none⟩, (some [1, 2, 3]))]
@[go_sem] def l81_4 (_ : Unit) : KL := [kA 12 (.faddr (.t 1) 2),
  kA 13 (.load (.t 12) 1 false),
  kA 14 (.call (n_laws_toTermSS) [(.t 13)]),
  kA 15 (.faddr (.t 3) 2),
  (⟨none, .store (.t 15) 1 (.t 14), none⟩, (some [2, 3]))]
@[go_sem] def l81_5 (_ : Unit) : KL := [kA 16 (.load (.t 3) 3 true),
  (⟨none, .store (.t 2) 3 (.t 16), none⟩, (some [2]))]
@[go_sem] def s81_6 (_ : Unit) : IR := (sQ [(kT l81_0), (kT l81_1), (kT l81_2), (kT l81_3), (kT l81_4), (kT l81_5), .ret])
theorem c81 : compFn Try.prog [(0, [], [oN, oS [1, 2]]), (1, [], [oS [1, 2, 3]]), (2, [], [oN, oN, oN, oN, oS [1, 2, 3]]), (3, [], [oN, oN, oN, oN, oS [1, 2, 3]]), (4, [], [oN, oN, oN, oN, oS [2, 3]]), (5, [], [oN, oS [2]])] Try.f81 = some ⟨1, 17, [.c 2 3 true], (tH s81_6)⟩ := by kernel_rfl
theorem v_laws_toRule (hl : vs.length = 1) (h : wpV Try.prog (tH s81_6) (postV [.c 2 3 true] RV) (envV vs) M) : VCall Try.prog n_laws_toRule vs M RV :=
  vcall_of_wp (fun _ _ _ hl h => acall_of_wp mixed Try.func81 c81 (by kernel_rfl) hl h) hl h
@[go_sem] def l40_0 (_ : Unit) : KL := [kB 2 (.mv (.c (.sl none 0 0 true 0))) [0]]
@[go_sem] def l40_1 (_ : Unit) : KL := [kA 5 (.mv (.t 0)),
  kA 6 (.len (.t 5)),
  kA 7 (.mks [(.sl none 0 0 true 0), (.sl none 0 0 true 0), (.sl none 0 0 true 0)] 72 (.t 6)),
  kB 3 (.mv (.t 7)) [0, 3]]
@[go_sem] def l40_2 (_ : Unit) : KL := [kB 4 (.mv (cI 0)) [0, 3, 4]]
@[go_sem] def l40_3 (_ : Unit) : KL := [kA 8 (.mv (.t 4)),
  kA 9 (.mv (.t 0)),
  kA 10 (.len (.t 9)),
  kB 11 (.bin .lss (.t 8) (.t 10)) [0, 3, 4, 11]]
@[go_sem] def s40_4 (_ : Unit) : IR := (sQ [(kT l40_3), (.cond (.t 11) .skip (.exit 0))])
@[go_sem] def l40_5 (_ : Unit) : KL := [kA 14 (.mv (.t 3)),
  kA 15 (.mv (.t 4)),
  kA 16 (.mv (.t 0)),
  kA 17 (.mv (.t 4)),
  kB 18 (.iaddr (.t 16) (.t 17) 3) [0, 3, 4, 14, 15, 18],
  kA 19 (.load (.t 18) 3 true),
  kA 20 (.call (n_laws_toRule) [(.t 19)]),
  kA 21 (.iaddr (.t 14) (.t 15) 3),
  (⟨none, .store (.t 21) 3 (.t 20), none⟩, (some [0, 3, 4]))]
@[go_sem] def s40_6 (_ : Unit) : IR := (.block 1 (kT l40_5))
@[go_sem] def l40_7 (_ : Unit) : KL := [kA 12 (.mv (.t 4)),
  kA 13 (.bin .add (.t 12) (cI 1)),
  kB 4 (.mv (.t 13)) [0, 3, 4]]
@[go_sem] def s40_8 (_ : Unit) : IR := (sQ [(tH s40_4), (tH s40_6), (kT l40_7)])
@[go_sem] def s40_9 (_ : Unit) : IR := (.loop (tH s40_8))
@[go_sem] def s40_10 (_ : Unit) : IR := (.block 0 (tH s40_9))
@[go_sem] def s40_11 (_ : Unit) : IR := (sQ [(kT l40_2), (tH s40_10)])
@[go_sem] def l40_12 (_ : Unit) : KL := [kA 22 (.mv (.t 3)),
  kB 2 (.mv (.t 22)) [2]]
@[go_sem] def s40_13 (_ : Unit) : IR := (sQ [(kT l40_0), (kT l40_1), (tH s40_11), (kT l40_12), .ret])
theorem c40 : compFn Try.prog [(0, [], [oS [0]]), (1, [], [oN, oN, oN, oS [0, 3]]), (2, [], [oS [0, 3, 4]]), (3, [], [oN, oN, oN, oS [0, 3, 4, 11]]), (5, [], [oN, oN, oN, oN, oS [0, 3, 4, 14, 15, 18], oN, oN, oN, oS [0, 3, 4]]), (4, [], [oN, oN, oS [0, 3, 4]]), (6, [], [oN, oS [2]])] Try.f40 = some ⟨1, 23, [.t 2], (tH s40_13)⟩ := by kernel_rfl
theorem v_laws_toRuleS (hl : vs.length = 1) (h : wpV Try.prog (tH s40_13) (postV [.t 2] RV) (envV vs) M) : VCall Try.prog n_laws_toRuleS vs M RV :=
  vcall_of_wp (fun _ _ _ hl h => acall_of_wp mixed Try.func40 c40 (by kernel_rfl) hl h) hl h
@[go_sem] def l10_0 (_ : Unit) : KL := [kA 1 (.box (.t 0)),
  kB 2 (.alloc [(.sl none 0 0 true 0), (.sl none 0 0 true 0)]) [1, 2]]
@[go_sem] def l10_1 (_ : Unit) : KL := [kB 3 (.alloc [(.sl none 0 0 true 0), (.sl none 0 0 true 0)]) [1, 2, 3]]
@[go_sem] def l10_2 (_ : Unit) : KL := [kA 4 (.faddr (.t 1) 0),
  kA 5 (.load (.t 4) 1 false),
  kA 6 (.call (n_laws_toVarS) [(.t 5)]),
  kA 7 (.faddr (.t 3) 0),
  (⟨none, .store (.t 7) 1 (.t 6), none⟩, (some [1, 2, 3]))]
@[go_sem] def l10_3 (_ : Unit) : KL := [kA 8 (.faddr (.t 1) 1),
  kA 9 (.load (.t 8) 1 false),
  kA 10 (.call (n_laws_toRuleS) [(.t 9)]),
  kA 11 (.faddr (.t 3) 1),
  (⟨none, .store (.t 11) 1 (.t 10), none⟩, (some [2, 3]))]
@[go_sem] def l10_4 (_ : Unit) : KL := [kA 12 (.load (.t 3) 2 true),
  (⟨none, .store (.t 2) 2 (.t 12), none⟩, (some [2]))]
@[go_sem] def s10_5 (_ : Unit) : IR := (sQ [(kT l10_0), (kT l10_1), (kT l10_2), (kT l10_3), (kT l10_4), .ret])
theorem c10 : compFn Try.prog [(0, [], [oN, oS [1, 2]]), (1, [], [oS [1, 2, 3]]), (2, [], [oN, oN, oN, oN, oS [1, 2, 3]]), (3, [], [oN, oN, oN, oN, oS [2, 3]]), (4, [], [oN, oS [2]])] Try.f10 = some ⟨1, 13, [.c 2 2 true], (tH s10_5)⟩ := by kernel_rfl
theorem v_laws_toSystem (hl : vs.length = 1) (h : wpV Try.prog (tH s10_5) (postV [.c 2 2 true] RV) (envV vs) M) : VCall Try.prog n_laws_toSystem vs M RV :=
  vcall_of_wp (fun _ _ _ hl h => acall_of_wp mixed Try.func10 c10 (by kernel_rfl) hl h) hl h
@[go_sem] def l24_0 (_ : Unit) : KL := [kB 2 (.mv (.c (.sl none 0 0 true 0))) [0]]
@[go_sem] def l24_1 (_ : Unit) : KL := [kA 5 (.mv (.t 0)),
  kA 6 (.len (.t 5)),
  kA 7 (.mks [(.sl none 0 0 true 0)] 24 (.t 6)),
  kB 3 (.mv (.t 7)) [0, 3]]
@[go_sem] def l24_2 (_ : Unit) : KL := [kB 4 (.mv (cI 0)) [0, 3, 4]]
@[go_sem] def l24_3 (_ : Unit) : KL := [kA 8 (.mv (.t 4)),
  kA 9 (.mv (.t 0)),
  kA 10 (.len (.t 9)),
  kB 11 (.bin .lss (.t 8) (.t 10)) [0, 3, 4, 11]]
@[go_sem] def s24_4 (_ : Unit) : IR := (sQ [(kT l24_3), (.cond (.t 11) .skip (.exit 0))])
@[go_sem] def l24_5 (_ : Unit) : KL := [kA 14 (.mv (.t 3)),
  kA 15 (.mv (.t 4)),
  kA 16 (.mv (.t 0)),
  kA 17 (.mv (.t 4)),
  kB 18 (.iaddr (.t 16) (.t 17) 1) [0, 3, 4, 14, 15, 18],
  kA 19 (.load (.t 18) 1 false),
  kA 20 (.call (n_laws_toIntS) [(.t 19)]),
  kA 21 (.iaddr (.t 14) (.t 15) 1),
  (⟨none, .store (.t 21) 1 (.t 20), none⟩, (some [0, 3, 4]))]
@[go_sem] def s24_6 (_ : Unit) : IR := (.block 1 (kT l24_5))
@[go_sem] def l24_7 (_ : Unit) : KL := [kA 12 (.mv (.t 4)),
  kA 13 (.bin .add (.t 12) (cI 1)),
  kB 4 (.mv (.t 13)) [0, 3, 4]]
@[go_sem] def s24_8 (_ : Unit) : IR := (sQ [(tH s24_4), (tH s24_6), (kT l24_7)])
@[go_sem] def s24_9 (_ : Unit) : IR := (.loop (tH s24_8))
@[go_sem] def s24_10 (_ : Unit) : IR := (.block 0 (tH s24_9))
@[go_sem] def s24_11 (_ : Unit) : IR := (sQ [(kT l24_2), (tH s24_10)])
@[go_sem] def l24_12 (_ : Unit) : KL := [kA 22 (.mv (.t 3)),
  kB 2 (.mv (.t 22)) [2]]
@[go_sem] def s24_13 (_ : Unit) : IR := (sQ [(kT l24_0), (kT l24_1), (tH s24_11), (kT l24_12), .ret])
theorem c24 : compFn Try.prog [(0, [], [oS [0]]), (1, [], [oN, oN, oN, oS [0, 3]]), (2, [], [oS [0, 3, 4]]), (3, [], [oN, oN, oN, oS [0, 3, 4, 11]]), (5, [], [oN, oN, oN, oN, oS [0, 3, 4, 14, 15, 18], oN, oN, oN, oS [0, 3, 4]]), (4, [], [oN, oN, oS [0, 3, 4]]), (6, [], [oN, oS [2]])] Try.f24 = some ⟨1, 23, [.t 2], (tH s24_13)⟩ := by kernel_rfl
theorem v_laws_toIntSS (hl : vs.length = 1) (h : wpV Try.prog (tH s24_13) (postV [.t 2] RV) (envV vs) M) : VCall Try.prog n_laws_toIntSS vs M RV :=
  vcall_of_wp (fun _ _ _ hl h => acall_of_wp mixed Try.func24 c24 (by kernel_rfl) hl h) hl h
@[go_sem] def l48_0 (_ : Unit) : KL := [kB 6 (.mv (.c (.bool false))) [0, 1, 2]]
@[go_sem] def l48_1 (_ : Unit) : KL := [kA 7 (.mv (.t 0)),
  kA 8 (.mv (.t 1)),
  kA 9 (.bin .geq (.t 7) (.t 8)),
  kA 10 (.mv (.t 9)),
  (⟨(some 11), .mv (.t 0), (some (10, true))⟩, (some [2, 10, 11])),
  (⟨(some 12), .mv (.t 2), (some (10, true))⟩, none),
  (⟨(some 13), .bin .leq (.t 11) (.t 12), (some (10, true))⟩, none),
  kA 14 (.pick (.t 10) (.t 13) (.c (.bool false))),
  kB 6 (.mv (.t 14)) [6]]
@[go_sem] def s48_2 (_ : Unit) : IR := (sQ [(kT l48_0), (kT l48_1), .ret])
theorem c48 : compFn Try.prog [(0, [], [oS [0, 1, 2]]), (1, [], [oN, oN, oN, oN, oS [2, 10, 11], oN, oN, oN, oS [6]])] Try.f48 = some ⟨3, 15, [.t 6], (tH s48_2)⟩ := by kernel_rfl
theorem v_spec_l1In (hl : vs.length = 3) (h : wpV Try.prog (tH s48_2) (postV [.t 6] RV) (envV vs) M) : VCall Try.prog n_spec_l1In vs M RV :=
  vcall_of_wp (fun _ _ _ hl h => acall_of_wp mixed Try.func48 c48 (by kernel_rfl) hl h) hl h
@[go_sem] def l93_0 (_ : Unit) : KL := [kA 1 (.box (.t 0)),
  kB 2 (.mv (.c (.bool false))) [1]]
@[go_sem] def l93_1 (_ : Unit) : KL := [kA 3 (.faddr (.t 1) 0),
  kA 4 (.load (.t 3) 1 false),
  kA 5 (.call (n_spec_l1In) [(.t 4), (.c (.int .i64 (-9999))), (.c (.int .i64 9999))]),
  kA 6 (.mv (.t 5)),
  (⟨(some 7), .faddr (.t 1) 1, (some (6, true))⟩, (some [1, 6, 7])),
  (⟨(some 8), .load (.t 7) 1 false, (some (6, true))⟩, none),
  (⟨(some 9), .faddr (.t 1) 0, (some (6, true))⟩, none),
  (⟨(some 10), .load (.t 9) 1 false, (some (6, true))⟩, none),
  (⟨(some 11), .call (n_spec_l1In) [(.t 8), (.t 10), (.c (.int .i64 9999))], (some (6, true))⟩, none),
  kB 12 (.pick (.t 6) (.t 11) (.c (.bool false))) [1, 12],
  kA 13 (.mv (.t 12)),
  (⟨(some 14), .faddr (.t 1) 1, (some (13, true))⟩, none),
  (⟨(some 15), .load (.t 14) 1 false, (some (13, true))⟩, none),
  (⟨(some 16), .faddr (.t 1) 0, (some (13, true))⟩, none),
  (⟨(some 17), .load (.t 16) 1 false, (some (13, true))⟩, (some [1, 13, 15, 17])),
  (⟨(some 18), .bin .sub (.t 15) (.t 17), (some (13, true))⟩, none),
  (⟨(some 19), .bin .lss (.t 18) (.c (.int .i64 20)), (some (13, true))⟩, none),
  kA 20 (.pick (.t 13) (.t 19) (.c (.bool false))),
  kA 21 (.mv (.t 20)),
  (⟨(some 22), .faddr (.t 1) 2, (some (21, true))⟩, (some [1, 21, 22])),
  (⟨(some 23), .load (.t 22) 1 false, (some (21, true))⟩, none),
  (⟨(some 24), .faddr (.t 1) 0, (some (21, true))⟩, none),
  (⟨(some 25), .load (.t 24) 1 false, (some (21, true))⟩, none),
  (⟨(some 26), .faddr (.t 1) 1, (some (21, true))⟩, none),
  (⟨(some 27), .load (.t 26) 1 false, (some (21, true))⟩, (some [21, 23, 25, 27])),
  (⟨(some 28), .call (n_spec_l1In) [(.t 23), (.t 25), (.t 27)], (some (21, true))⟩, none),
  kA 29 (.pick (.t 21) (.t 28) (.c (.bool false))),
  kB 2 (.mv (.t 29)) [2]]
@[go_sem] def s93_2 (_ : Unit) : IR := (sQ [(kT l93_0), (kT l93_1), .ret])
theorem c93 : compFn Try.prog [(0, [], [oN, oS [1]]), (1, [], [oN, oN, oN, oN, oS [1, 6, 7], oN, oN, oN, oN, oS [1, 12], oN, oN, oN, oN, oS [1, 13, 15, 17], oN, oN, oN, oN, oS [1, 21, 22], oN, oN, oN, oN, oS [21, 23, 25, 27], oN, oN, oS [2]])] Try.f93 = some ⟨1, 30, [.t 2], (tH s93_2)⟩ := by kernel_rfl
theorem v_spec_l2Var (hl : vs.length = 1) (h : wpV Try.prog (tH s93_2) (postV [.t 2] RV) (envV vs) M) : VCall Try.prog n_spec_l2Var vs M RV :=
  vcall_of_wp (fun _ _ _ hl h => acall_of_wp mixed Try.func93 c93 (by kernel_rfl) hl h) hl h
@[go_sem] def l141_0 (_ : Unit) : KL := [kB 2 (.mv (.c (.bool false))) [0]]
@[go_sem] def l141_1 (_ : Unit) : KL := [kA 3 (.mv (.t 0)),
  kA 4 (.bin .eql (.t 3) (.c (.int .i64 7))),
  kB 2 (.mv (.t 4)) [2]]
@[go_sem] def s141_2 (_ : Unit) : IR := (sQ [(kT l141_0), (kT l141_1), .ret])
theorem c141 : compFn Try.prog [(0, [], [oS [0]]), (1, [], [oN, oN, oS [2]])] Try.f141 = some ⟨1, 5, [.t 2], (tH s141_2)⟩ := by kernel_rfl
theorem v_spec_l1One (hl : vs.length = 1) (h : wpV Try.prog (tH s141_2) (postV [.t 2] RV) (envV vs) M) : VCall Try.prog n_spec_l1One vs M RV :=
  vcall_of_wp (fun _ _ _ hl h => acall_of_wp mixed Try.func141 c141 (by kernel_rfl) hl h) hl h
@[go_sem] def l139_0 (_ : Unit) : KL := [kA 3 (.box (.t 0)),
  kB 6 (.mv (cI 0)) [1, 2, 3]]
@[go_sem] def l139_1 (_ : Unit) : KL := [kA 8 (.faddr (.t 3) 0),
  kA 9 (.load (.t 8) 1 false),
  kA 10 (.bin .eql (.t 9) (cI 0)),
  kA 11 (.mv (.t 10)),
  (⟨(some 12), .faddr (.t 3) 1, (some (11, true))⟩, (some [1, 2, 3, 11, 12])),
  (⟨(some 13), .load (.t 12) 1 false, (some (11, true))⟩, none),
  (⟨(some 14), .call (n_spec_l1In) [(.t 13), (.c (.int .i64 (-9999))), (.c (.int .i64 9999))], (some (11, true))⟩, none),
  kA 15 (.pick (.t 11) (.t 14) (.c (.bool false))),
  kA 16 (.mv (.t 15)),
  (⟨(some 17), .faddr (.t 3) 2, (some (16, true))⟩, (some [1, 2, 3, 16, 17])),
  (⟨(some 18), .load (.t 17) 1 false, (some (16, true))⟩, none),
  (⟨(some 19), .bin .eql (.t 18) (cI 0), (some (16, true))⟩, none),
  kA 20 (.pick (.t 16) (.t 19) (.c (.bool false))),
  kA 21 (.mv (.t 20)),
  (⟨(some 22), .faddr (.t 3) 3, (some (21, true))⟩, (some [1, 2, 3, 21, 22])),
  (⟨(some 23), .load (.t 22) 1 false, (some (21, true))⟩, none),
  (⟨(some 24), .bin .eql (.t 23) (cI 0), (some (21, true))⟩, none),
  kB 25 (.pick (.t 21) (.t 24) (.c (.bool false))) [1, 2, 3, 25]]
@[go_sem] def l139_2 (_ : Unit) : KL := [kB 6 (.mv (cI 1)) [6]]
@[go_sem] def s139_3 (_ : Unit) : IR := (sQ [(kT l139_2), .ret])
@[go_sem] def s139_4 (_ : Unit) : IR := (sQ [(kT l139_1), (.cond (.t 25) (tH s139_3) .skip)])
@[go_sem] def l139_5 (_ : Unit) : KL := [kA 26 (.faddr (.t 3) 0),
  kA 27 (.load (.t 26) 1 false),
  kA 28 (.bin .eql (.t 27) (cI 1)),
  kA 29 (.mv (.t 28)),
  (⟨(some 30), .faddr (.t 3) 1, (some (29, true))⟩, (some [1, 2, 3, 29, 30])),
  (⟨(some 31), .load (.t 30) 1 false, (some (29, true))⟩, none),
  (⟨(some 32), .mv (.t 2), (some (29, true))⟩, none),
  (⟨(some 33), .bin .sub (.t 32) (cI 1), (some (29, true))⟩, none),
  (⟨(some 34), .call (n_spec_l1In) [(.t 31), (cI 0), (.t 33)], (some (29, true))⟩, none),
  kB 35 (.pick (.t 29) (.t 34) (.c (.bool false))) [1, 3, 35],
  kA 36 (.mv (.t 35)),
  (⟨(some 37), .faddr (.t 3) 2, (some (36, true))⟩, none),
  (⟨(some 38), .load (.t 37) 1 false, (some (36, true))⟩, none),
  (⟨(some 39), .bin .eql (.t 38) (cI 0), (some (36, true))⟩, none),
  kB 40 (.pick (.t 36) (.t 39) (.c (.bool false))) [1, 3, 40],
  kA 41 (.mv (.t 40)),
  (⟨(some 42), .faddr (.t 3) 3, (some (41, true))⟩, none),
  (⟨(some 43), .load (.t 42) 1 false, (some (41, true))⟩, none),
  (⟨(some 44), .bin .eql (.t 43) (cI 0), (some (41, true))⟩, none),
  kB 45 (.pick (.t 41) (.t 44) (.c (.bool false))) [1, 3, 45]]
@[go_sem] def l139_6 (_ : Unit) : KL := [kB 6 (.mv (cI 1)) [6]]
@[go_sem] def s139_7 (_ : Unit) : IR := (sQ [(kT l139_6), .ret])
@[go_sem] def s139_8 (_ : Unit) : IR := (sQ [(kT l139_5), (.cond (.t 45) (tH s139_7) .skip)])
@[go_sem] def l139_9 (_ : Unit) : KL := [kA 46 (.faddr (.t 3) 0),
  kA 47 (.load (.t 46) 1 false),
  kA 48 (.call (n_spec_l1In) [(.t 47), (.c (.int .i64 2)), (.c (.int .i64 9))]),
  kA 49 (.un .not (.t 48)),
  kB 50 (.mv (.t 49)) [1, 3, 50],
  (⟨(some 51), .faddr (.t 3) 1, (some (50, false))⟩, none),
  (⟨(some 52), .load (.t 51) 1 false, (some (50, false))⟩, none),
  (⟨(some 53), .bin .neq (.t 52) (cI 0), (some (50, false))⟩, none),
  kA 54 (.pick (.t 50) (.c (.bool true)) (.t 53)),
  kB 55 (.mv (.t 54)) [1, 3, 55],
  (⟨(some 56), .faddr (.t 3) 2, (some (55, false))⟩, none),
  (⟨(some 57), .load (.t 56) 1 false, (some (55, false))⟩, none),
  (⟨(some 58), .mv (.t 1), (some (55, false))⟩, none),
  (⟨(some 59), .len (.t 58), (some (55, false))⟩, none),
  (⟨(some 60), .bin .sub (.t 59) (cI 1), (some (55, false))⟩, (some [1, 3, 55, 57, 60])),
  (⟨(some 61), .call (n_spec_l1In) [(.t 57), (cI 0), (.t 60)], (some (55, false))⟩, none),
  (⟨(some 62), .un .not (.t 61), (some (55, false))⟩, none),
  kA 63 (.pick (.t 55) (.c (.bool true)) (.t 62)),
  kA 64 (.mv (.t 63)),
  (⟨(some 65), .faddr (.t 3) 3, (some (64, false))⟩, (some [1, 3, 64, 65])),
  (⟨(some 66), .load (.t 65) 1 false, (some (64, false))⟩, none),
  (⟨(some 67), .mv (.t 1), (some (64, false))⟩, none),
  (⟨(some 68), .len (.t 67), (some (64, false))⟩, none),
  (⟨(some 69), .bin .sub (.t 68) (cI 1), (some (64, false))⟩, none),
  (⟨(some 70), .call (n_spec_l1In) [(.t 66), (cI 0), (.t 69)], (some (64, false))⟩, (some [1, 3, 64, 70])),
  (⟨(some 71), .un .not (.t 70), (some (64, false))⟩, none),
  kB 72 (.pick (.t 64) (.c (.bool true)) (.t 71)) [1, 3, 72]]
@[go_sem] def l139_10 (_ : Unit) : KL := [kB 6 (.mv (cI 0)) [6]]
@[go_sem] def s139_11 (_ : Unit) : IR := (sQ [(kT l139_10), .ret])
@[go_sem] def s139_12 (_ : Unit) : IR := (sQ [(kT l139_9), (.cond (.t 72) (tH s139_11) .skip)])
@[go_sem] def l139_13 (_ : Unit) : KL := [kB 7 (.mv (cI 1)) [1, 3, 7]]
@[go_sem] def l139_14 (_ : Unit) : KL := [kA 73 (.faddr (.t 3) 0),
  kA 74 (.load (.t 73) 1 false),
  kB 75 (.bin .geq (.t 74) (.c (.int .i64 7))) [1, 3, 7, 75]]
@[go_sem] def l139_15 (_ : Unit) : KL := [kB 7 (.mv (.c (.int .i64 2))) [1, 3, 7]]
@[go_sem] def s139_16 (_ : Unit) : IR := (sQ [(kT l139_14), (.cond (.t 75) (kT l139_15) .skip)])
@[go_sem] def l139_17 (_ : Unit) : KL := [kA 76 (.mv (.t 1)),
  kA 77 (.faddr (.t 3) 2),
  kA 78 (.load (.t 77) 1 false),
  kA 79 (.iaddr (.t 76) (.t 78) 1),
  kB 80 (.load (.t 79) 1 false) [1, 3, 7, 80],
  kA 81 (.mv (.t 7)),
  kA 82 (.bin .neq (.t 80) (.t 81)),
  kA 83 (.mv (.t 82)),
  (⟨(some 84), .mv (.t 1), (some (83, false))⟩, none),
  (⟨(some 85), .faddr (.t 3) 3, (some (83, false))⟩, (some [3, 7, 83, 84, 85])),
  (⟨(some 86), .load (.t 85) 1 false, (some (83, false))⟩, none),
  (⟨(some 87), .iaddr (.t 84) (.t 86) 1, (some (83, false))⟩, none),
  (⟨(some 88), .load (.t 87) 1 false, (some (83, false))⟩, none),
  (⟨(some 89), .mv (.t 7), (some (83, false))⟩, none),
  (⟨(some 90), .bin .neq (.t 88) (.t 89), (some (83, false))⟩, (some [3, 83, 90])),
  kA 91 (.pick (.t 83) (.c (.bool true)) (.t 90)),
  kA 92 (.mv (.t 91)),
  (⟨(some 93), .faddr (.t 3) 0, (some (92, false))⟩, none),
  (⟨(some 94), .load (.t 93) 1 false, (some (92, false))⟩, none),
  (⟨(some 95), .call (n_spec_l1One) [(.t 94)], (some (92, false))⟩, (some [3, 92, 95])),
  (⟨(some 96), .mv (.t 95), (some (92, false))⟩, none),
  (⟨(some 97), .faddr (.t 3) 3, (some (96, true))⟩, none),
  (⟨(some 98), .load (.t 97) 1 false, (some (96, true))⟩, none),
  (⟨(some 99), .faddr (.t 3) 2, (some (96, true))⟩, none),
  (⟨(some 100), .load (.t 99) 1 false, (some (96, true))⟩, (some [3, 92, 96, 98, 100])),
  (⟨(some 101), .bin .neq (.t 98) (.t 100), (some (96, true))⟩, none),
  (⟨(some 102), .pick (.t 96) (.t 101) (.c (.bool false)), (some (92, false))⟩, none),
  kB 103 (.pick (.t 92) (.c (.bool true)) (.t 102)) [3, 103]]
@[go_sem] def l139_18 (_ : Unit) : KL := [kB 6 (.mv (cI 0)) [6]]
@[go_sem] def s139_19 (_ : Unit) : IR := (sQ [(kT l139_18), .ret])
@[go_sem] def s139_20 (_ : Unit) : IR := (sQ [(kT l139_17), (.cond (.t 103) (tH s139_19) .skip)])
@[go_sem] def l139_21 (_ : Unit) : KL := [kA 104 (.faddr (.t 3) 0),
  kA 105 (.load (.t 104) 1 false),
  kB 106 (.bin .geq (.t 105) (.c (.int .i64 5))) [106]]
@[go_sem] def l139_22 (_ : Unit) : KL := [kB 6 (.mv (.c (.int .i64 2))) [6]]
@[go_sem] def s139_23 (_ : Unit) : IR := (sQ [(kT l139_22), .ret])
@[go_sem] def s139_24 (_ : Unit) : IR := (sQ [(kT l139_21), (.cond (.t 106) (tH s139_23) .skip)])
@[go_sem] def l139_25 (_ : Unit) : KL := [kB 6 (.mv (cI 1)) [6]]
@[go_sem] def s139_26 (_ : Unit) : IR := (sQ [(kT l139_0), (tH s139_4), (tH s139_8), (tH s139_12), (kT l139_13), (tH s139_16), (tH s139_20), (tH s139_24), (kT l139_25), .ret])
theorem c139 : compFn Try.prog [(0, [], [oN, oS [1, 2, 3]]), (1, [], [oN, oN, oN, oN, oS [1, 2, 3, 11, 12], oN, oN, oN, oN, oS [1, 2, 3, 16, 17], oN, oN, oN, oN, oS [1, 2, 3, 21, 22], oN, oN, oS [1, 2, 3, 25]]), (2, [], [oS [6]]), (3, [], [oN, oN, oN, oN, oS [1, 2, 3, 29, 30], oN, oN, oN, oN, oS [1, 3, 35], oN, oN, oN, oN, oS [1, 3, 40], oN, oN, oN, oN, oS [1, 3, 45]]), (4, [], [oS [6]]), (5, [], [oN, oN, oN, oN, oS [1, 3, 50], oN, oN, oN, oN, oS [1, 3, 55], oN, oN, oN, oN, oS [1, 3, 55, 57, 60], oN, oN, oN, oN, oS [1, 3, 64, 65], oN, oN, oN, oN, oS [1, 3, 64, 70], oN, oS [1, 3, 72]]), (6, [], [oS [6]]), (7, [], [oS [1, 3, 7]]), (8, [], [oN, oN, oS [1, 3, 7, 75]]), (9, [], [oS [1, 3, 7]]), (10, [], [oN, oN, oN, oN, oS [1, 3, 7, 80], oN, oN, oN, oN, oS [3, 7, 83, 84, 85], oN, oN, oN, oN, oS [3, 83, 90], oN, oN, oN, oN, oS [3, 92, 95], oN, oN, oN, oN, oS [3, 92, 96, 98, 100], oN, oN, oS [3, 103]]), (11, [], [oS [6]]), (12, [], [oN, oN, oS [106]]), (13, [], [oS [6]]), (14, [], [oS [6]])] Try.f139 = some ⟨3, 107, [.t 6], (tH s139_26)⟩ := by kernel_rfl
theorem v_spec_l1Kind (hl : vs.length = 3) (h : wpV Try.prog (tH s139_26) (postV [.t 6] RV) (envV vs) M) : VCall Try.prog n_spec_l1Kind vs M RV :=
  vcall_of_wp (fun _ _ _ hl h => acall_of_wp mixed Try.func139 c139 (by kernel_rfl) hl h) hl h
@[go_sem] def l132_0 (_ : Unit) : KL := [kB 4 (.mv (.c (.sl none 0 0 true 0))) [0, 1]]
@[go_sem] def l132_1 (_ : Unit) : KL := [kA 8 (.mv (.t 1)),
  kA 9 (.call (n_spec_l1In) [(.t 8), (cI 0), (.c (.int .i64 5))]),
  kA 10 (.un .not (.t 9)),
  kA 11 (.mv (.t 10)),
  (⟨(some 12), .mv (.t 0), (some (11, false))⟩, (some [0, 1, 11, 12])),
  (⟨(some 13), .len (.t 12), (some (11, false))⟩, none),
  (⟨(some 14), .call (n_spec_l1In) [(.t 13), (cI 1), (.c (.int .i64 40))], (some (11, false))⟩, none),
  (⟨(some 15), .un .not (.t 14), (some (11, false))⟩, none),
  kB 16 (.pick (.t 11) (.c (.bool true)) (.t 15)) [0, 1, 16]]
@[go_sem] def l132_2 (_ : Unit) : KL := [kB 4 (.mv (.c (.sl none 0 0 true 0))) [4]]
@[go_sem] def s132_3 (_ : Unit) : IR := (sQ [(kT l132_2), .ret])
@[go_sem] def s132_4 (_ : Unit) : IR := (sQ [(kT l132_1), (.cond (.t 16) (tH s132_3) .skip)])
@[go_sem] def l132_5 (_ : Unit) : KL := [kA 17 (.bslc 1 0 [(.int .i64 0)] []),
  kB 5 (.mv (.t 17)) [0, 1, 5]]
@[go_sem] def l132_6 (_ : Unit) : KL := [kB 6 (.mv (cI 0)) [0, 1, 5, 6]]
@[go_sem] def l132_7 (_ : Unit) : KL := [kA 18 (.mv (.t 6)),
  kA 19 (.mv (.t 0)),
  kA 20 (.len (.t 19)),
  kB 21 (.bin .lss (.t 18) (.t 20)) [0, 1, 5, 6, 21]]
@[go_sem] def s132_8 (_ : Unit) : IR := (sQ [(kT l132_7), (.cond (.t 21) .skip (.exit 0))])
@[go_sem] def l132_9 (_ : Unit) : KL := [kA 24 (.mv (.t 0)),
  kA 25 (.mv (.t 6)),
  kA 26 (.iaddr (.t 24) (.t 25) 4),
  kA 27 (.load (.t 26) 4 true),
  kB 28 (.mv (.t 5)) [0, 1, 5, 6, 27, 28],
  kA 29 (.mv (.t 1)),
  kA 30 (.call (n_spec_l1Kind) [(.t 27), (.t 28), (.t 29)]),
  kB 7 (.mv (.t 30)) [0, 1, 5, 6, 7]]
@[go_sem] def l132_10 (_ : Unit) : KL := [kA 31 (.mv (.t 7)),
  kB 32 (.bin .eql (.t 31) (cI 0)) [0, 1, 5, 6, 7, 32]]
@[go_sem] def l132_11 (_ : Unit) : KL := [kB 4 (.mv (.c (.sl none 0 0 true 0))) [4]]
@[go_sem] def s132_12 (_ : Unit) : IR := (sQ [(kT l132_11), .ret])
@[go_sem] def s132_13 (_ : Unit) : IR := (sQ [(kT l132_10), (.cond (.t 32) (tH s132_12) .skip)])
@[go_sem] def l132_14 (_ : Unit) : KL := [kA 33 (.mv (.t 5)),
  kA 34 (.mv (.t 7)),
  kA 35 (.bslc 1 1 [(.int .i64 0)] [(0, (.t 34))]),
  kA 36 (.app 1 8 (.t 33) (.t 35)),
  kB 5 (.mv (.t 36)) [0, 1, 5, 6]]
@[go_sem] def s132_15 (_ : Unit) : IR := (sQ [(kT l132_9), (tH s132_13), (kT l132_14)])
@[go_sem] def s132_16 (_ : Unit) : IR := (.block 1 (tH s132_15))
@[go_sem] def l132_17 (_ : Unit) : KL := [kA 22 (.mv (.t 6)),
  kA 23 (.bin .add (.t 22) (cI 1)),
  kB 6 (.mv (.t 23)) [0, 1, 5, 6]]
@[go_sem] def s132_18 (_ : Unit) : IR := (sQ [(tH s132_8), (tH s132_16), (kT l132_17)])
@[go_sem] def s132_19 (_ : Unit) : IR := (.loop (tH s132_18))
@[go_sem] def s132_20 (_ : Unit) : IR := (.block 0 (tH s132_19))
@[go_sem] def s132_21 (_ : Unit) : IR := (sQ [(kT l132_6), (tH s132_20)])
@[go_sem] def l132_22 (_ : Unit) : KL := [kA 37 (.mv (.t 5)),
  kB 4 (.mv (.t 37)) [4]]
@[go_sem] def s132_23 (_ : Unit) : IR := (sQ [(kT l132_0), (tH s132_4), (kT l132_5), (tH s132_21), (kT l132_22), .ret])
theorem c132 : compFn Try.prog [(0, [], [oS [0, 1]]), (1, [], [oN, oN, oN, oN, oS [0, 1, 11, 12], oN, oN, oN, oS [0, 1, 16]]), (2, [], [oS [4]]), (3, [], [oN, oS [0, 1, 5]]), (4, [], [oS [0, 1, 5, 6]]), (5, [], [oN, oN, oN, oS [0, 1, 5, 6, 21]]), (7, [], [oN, oN, oN, oN, oS [0, 1, 5, 6, 27, 28], oN, oN, oS [0, 1, 5, 6, 7]]), (8, [], [oN, oS [0, 1, 5, 6, 7, 32]]), (9, [], [oS [4]]), (10, [], [oN, oN, oN, oN, oS [0, 1, 5, 6]]), (6, [], [oN, oN, oS [0, 1, 5, 6]]), (11, [], [oN, oS [4]])] Try.f132 = some ⟨2, 38, [.t 4], (tH s132_23)⟩ := by kernel_rfl
theorem v_spec_KindsOf (hl : vs.length = 2) (h : wpV Try.prog (tH s132_23) (postV [.t 4] RV) (envV vs) M) : VCall Try.prog n_spec_KindsOf vs M RV :=
  vcall_of_wp (fun _ _ _ hl h => acall_of_wp mixed Try.func132 c132 (by kernel_rfl) hl h) hl h
@[go_sem] def l122_0 (_ : Unit) : KL := [kB 6 (.mv (.c (.bool false))) [0, 1, 2]]
@[go_sem] def l122_1 (_ : Unit) : KL := [kA 8 (.mv (.t 0)),
  kA 9 (.mv (.t 1)),
  kA 10 (.call (n_spec_KindsOf) [(.t 8), (.t 9)]),
  kB 7 (.mv (.t 10)) [2, 7]]
@[go_sem] def l122_2 (_ : Unit) : KL := [kA 11 (.mv (.t 7)),
  kA 12 (.len (.t 11)),
  kA 13 (.bin .gtr (.t 12) (cI 0)),
  kA 14 (.mv (.t 13)),
  (⟨(some 15), .mv (.t 7), (some (14, true))⟩, (some [2, 7, 14, 15])),
  (⟨(some 16), .mv (.t 7), (some (14, true))⟩, none),
  (⟨(some 17), .len (.t 16), (some (14, true))⟩, none),
  (⟨(some 18), .bin .sub (.t 17) (cI 1), (some (14, true))⟩, none),
  (⟨(some 19), .iaddr (.t 15) (.t 18) 1, (some (14, true))⟩, none),
  (⟨(some 20), .load (.t 19) 1 false, (some (14, true))⟩, (some [2, 14, 20])),
  (⟨(some 21), .mv (.t 2), (some (14, true))⟩, none),
  (⟨(some 22), .bin .eql (.t 20) (.t 21), (some (14, true))⟩, none),
  kA 23 (.pick (.t 14) (.t 22) (.c (.bool false))),
  kB 6 (.mv (.t 23)) [6]]
@[go_sem] def s122_3 (_ : Unit) : IR := (sQ [(kT l122_0), (kT l122_1), (kT l122_2), .ret])
theorem c122 : compFn Try.prog [(0, [], [oS [0, 1, 2]]), (1, [], [oN, oN, oN, oS [2, 7]]), (2, [], [oN, oN, oN, oN, oS [2, 7, 14, 15], oN, oN, oN, oN, oS [2, 14, 20], oN, oN, oN, oS [6]])] Try.f122 = some ⟨3, 24, [.t 6], (tH s122_3)⟩ := by kernel_rfl
theorem v_spec_l2Is (hl : vs.length = 3) (h : wpV Try.prog (tH s122_3) (postV [.t 6] RV) (envV vs) M) : VCall Try.prog n_spec_l2Is vs M RV :=
  vcall_of_wp (fun _ _ _ hl h => acall_of_wp mixed Try.func122 c122 (by kernel_rfl) hl h) hl h
@[go_sem] def l94_0 (_ : Unit) : KL := [kA 2 (.box (.t 0)),
  kB 4 (.mv (.c (.bool false))) [1, 2]]
@[go_sem] def l94_1 (_ : Unit) : KL := [kA 6 (.faddr (.t 2) 0),
  kA 7 (.load (.t 6) 1 false),
  kA 8 (.mv (.t 1)),
  kA 9 (.call (n_spec_l2Is) [(.t 7), (.t 8), (.c (.int .i64 2))]),
  kB 10 (.un .not (.t 9)) [1, 2, 10],
  kA 11 (.mv (.t 10)),
  (⟨(some 12), .faddr (.t 2) 1, (some (11, false))⟩, none),
  (⟨(some 13), .load (.t 12) 1 false, (some (11, false))⟩, none),
  (⟨(some 14), .len (.t 13), (some (11, false))⟩, none),
  (⟨(some 15), .faddr (.t 2) 2, (some (11, false))⟩, (some [1, 2, 11, 14, 15])),
  (⟨(some 16), .load (.t 15) 1 false, (some (11, false))⟩, none),
  (⟨(some 17), .len (.t 16), (some (11, false))⟩, none),
  (⟨(some 18), .bin .neq (.t 14) (.t 17), (some (11, false))⟩, none),
  kA 19 (.pick (.t 11) (.c (.bool true)) (.t 18)),
  kB 20 (.mv (.t 19)) [1, 2, 20],
  (⟨(some 21), .faddr (.t 2) 1, (some (20, false))⟩, none),
  (⟨(some 22), .load (.t 21) 1 false, (some (20, false))⟩, none),
  (⟨(some 23), .len (.t 22), (some (20, false))⟩, none),
  (⟨(some 24), .mv (.t 1), (some (20, false))⟩, none),
  (⟨(some 25), .bin .gtr (.t 23) (.t 24), (some (20, false))⟩, (some [1, 2, 20, 25])),
  kB 26 (.pick (.t 20) (.c (.bool true)) (.t 25)) [1, 2, 26]]
@[go_sem] def l94_2 (_ : Unit) : KL := [kB 4 (.mv (.c (.bool false))) [4]]
@[go_sem] def s94_3 (_ : Unit) : IR := (sQ [(kT l94_2), .ret])
@[go_sem] def s94_4 (_ : Unit) : IR := (sQ [(kT l94_1), (.cond (.t 26) (tH s94_3) .skip)])
@[go_sem] def l94_5 (_ : Unit) : KL := [kB 5 (.mv (cI 0)) [1, 2, 5]]
@[go_sem] def l94_6 (_ : Unit) : KL := [kA 27 (.mv (.t 5)),
  kA 28 (.faddr (.t 2) 1),
  kA 29 (.load (.t 28) 1 false),
  kA 30 (.len (.t 29)),
  kB 31 (.bin .lss (.t 27) (.t 30)) [1, 2, 5, 31]]
@[go_sem] def s94_7 (_ : Unit) : IR := (sQ [(kT l94_6), (.cond (.t 31) .skip (.exit 0))])
@[go_sem] def l94_8 : Nat → GOp
  | 0 => ⟨(some 34), .faddr (.t 2) 1, none⟩
  | 1 => ⟨(some 35), .load (.t 34) 1 false, none⟩
  | 2 => ⟨(some 36), .mv (.t 5), none⟩
  | 3 => ⟨(some 37), .iaddr (.t 35) (.t 36) 1, none⟩
  | 4 => ⟨(some 38), .load (.t 37) 1 false, none⟩
  | 5 => ⟨(some 39), .mv (.t 1), none⟩
  | 6 => ⟨(some 40), .bin .sub (.t 39) (cI 1), none⟩
  | 7 => ⟨(some 41), .call (n_spec_l1In) [(.t 38), (cI 0), (.t 40)], none⟩
  | 8 => ⟨(some 42), .un .not (.t 41), none⟩
  | 9 => ⟨(some 43), .mv (.t 42), none⟩
  | 10 => ⟨(some 44), .mv (.t 5), (some (43, false))⟩
  | 11 => ⟨(some 45), .bin .gtr (.t 44) (cI 0), (some (43, false))⟩
  | 12 => ⟨(some 46), .mv (.t 45), (some (43, false))⟩
  | 13 => ⟨(some 47), .faddr (.t 2) 1, (some (46, true))⟩
  | 14 => ⟨(some 48), .load (.t 47) 1 false, (some (46, true))⟩
  | 15 => ⟨(some 49), .mv (.t 5), (some (46, true))⟩
  | 16 => ⟨(some 50), .iaddr (.t 48) (.t 49) 1, (some (46, true))⟩
  | 17 => ⟨(some 51), .load (.t 50) 1 false, (some (46, true))⟩
  | 18 => ⟨(some 52), .faddr (.t 2) 1, (some (46, true))⟩
  | 19 => ⟨(some 53), .load (.t 52) 1 false, (some (46, true))⟩
  | 20 => ⟨(some 54), .mv (.t 5), (some (46, true))⟩
  | 21 => ⟨(some 55), .bin .sub (.t 54) (cI 1), (some (46, true))⟩
  | 22 => ⟨(some 56), .iaddr (.t 53) (.t 55) 1, (some (46, true))⟩
  | 23 => ⟨(some 57), .load (.t 56) 1 false, (some (46, true))⟩
  | 24 => ⟨(some 58), .bin .leq (.t 51) (.t 57), (some (46, true))⟩
  | 25 => ⟨(some 59), .pick (.t 46) (.t 58) (.c (.bool false)), (some (43, false))⟩
  | 26 => ⟨(some 60), .pick (.t 43) (.c (.bool true)) (.t 59), none⟩
  | 27 => ⟨(some 61), .mv (.t 60), none⟩
  | 28 => ⟨(some 62), .faddr (.t 2) 2, (some (61, false))⟩
  | 29 => ⟨(some 63), .load (.t 62) 1 false, (some (61, false))⟩
  | 30 => ⟨(some 64), .mv (.t 5), (some (61, false))⟩
  | 31 => ⟨(some 65), .iaddr (.t 63) (.t 64) 1, (some (61, false))⟩
  | 32 => ⟨(some 66), .load (.t 65) 1 false, (some (61, false))⟩
  | 33 => ⟨(some 67), .mv (.t 1), (some (61, false))⟩
  | 34 => ⟨(some 68), .call (n_spec_l2Is) [(.t 66), (.t 67), (cI 1)], (some (61, false))⟩
  | 35 => ⟨(some 69), .un .not (.t 68), (some (61, false))⟩
  | 36 => ⟨(some 70), .pick (.t 61) (.c (.bool true)) (.t 69), none⟩
  | _ => ⟨none, .mkmap, none⟩
@[go_sem] def l94_9 (_ : Unit) : KL := [kB 4 (.mv (.c (.bool false))) [4]]
@[go_sem] def s94_10 (_ : Unit) : IR := (sQ [(kT l94_9), .ret])
@[go_sem] def s94_11 (_ : Unit) : IR := (sQ [(.kd (oF l94_8 37) [(0, []), (1, []), (2, []), (3, []), (4, []), (5, []), (6, []), (7, []), (8, []), (9, []), (10, []), (11, []), (12, []), (13, []), (14, []), (15, []), (16, []), (17, []), (18, []), (19, []), (20, []), (21, []), (22, []), (23, []), (24, []), (25, []), (26, []), (27, []), (28, []), (29, []), (30, []), (31, []), (32, []), (33, []), (34, []), (35, []), (36, [])] [1, 2, 5, 70]), (.cond (.t 70) (tH s94_10) .skip)])
@[go_sem] def s94_12 (_ : Unit) : IR := (.block 1 (tH s94_11))
@[go_sem] def l94_13 (_ : Unit) : KL := [kA 32 (.mv (.t 5)),
  kA 33 (.bin .add (.t 32) (cI 1)),
  kB 5 (.mv (.t 33)) [1, 2, 5]]
@[go_sem] def s94_14 (_ : Unit) : IR := (sQ [(tH s94_7), (tH s94_12), (kT l94_13)])
@[go_sem] def s94_15 (_ : Unit) : IR := (.loop (tH s94_14))
@[go_sem] def s94_16 (_ : Unit) : IR := (.block 0 (tH s94_15))
@[go_sem] def s94_17 (_ : Unit) : IR := (sQ [(kT l94_5), (tH s94_16)])
@[go_sem] def l94_18 (_ : Unit) : KL := [kB 4 (.mv (.c (.bool true))) [4]]
@[go_sem] def s94_19 (_ : Unit) : IR := (sQ [(kT l94_0), (tH s94_4), (tH s94_17), (kT l94_18), .ret])
theorem c94 : compFn Try.prog [(0, [], [oN, oS [1, 2]]), (1, [], [oN, oN, oN, oN, oS [1, 2, 10], oN, oN, oN, oN, oS [1, 2, 11, 14, 15], oN, oN, oN, oN, oS [1, 2, 20], oN, oN, oN, oN, oS [1, 2, 20, 25], oS [1, 2, 26]]), (2, [], [oS [4]]), (3, [], [oS [1, 2, 5]]), (4, [], [oN, oN, oN, oN, oS [1, 2, 5, 31]]), (6, [(0, []), (1, []), (2, []), (3, []), (4, []), (5, []), (6, []), (7, []), (8, []), (9, []), (10, []), (11, []), (12, []), (13, []), (14, []), (15, []), (16, []), (17, []), (18, []), (19, []), (20, []), (21, []), (22, []), (23, []), (24, []), (25, []), (26, []), (27, []), (28, []), (29, []), (30, []), (31, []), (32, []), (33, []), (34, []), (35, []), (36, [])], [oS [1, 2, 5, 70]]), (7, [], [oS [4]]), (5, [], [oN, oN, oS [1, 2, 5]]), (8, [], [oS [4]])] Try.f94 = some ⟨2, 71, [.t 4], (tH s94_19)⟩ := by kernel_rfl
theorem v_spec_l2Rule (hl : vs.length = 2) (h : wpV Try.prog (tH s94_19) (postV [.t 4] RV) (envV vs) M) : VCall Try.prog n_spec_l2Rule vs M RV :=
  vcall_of_wp (fun _ _ _ hl h => acall_of_wp mixed Try.func94 c94 (by kernel_rfl) hl h) hl h
@[go_sem] def l53_0 (_ : Unit) : KL := [kA 1 (.box (.t 0)),
  kB 2 (.mv (.c (.bool false))) [1]]
@[go_sem] def l53_1 (_ : Unit) : KL := [kA 6 (.faddr (.t 1) 0),
  kA 7 (.load (.t 6) 1 false),
  kA 8 (.len (.t 7)),
  kA 9 (.call (n_spec_l1In) [(.t 8), (cI 1), (.c (.int .i64 5))]),
  kB 10 (.un .not (.t 9)) [1, 10],
  kA 11 (.mv (.t 10)),
  (⟨(some 12), .faddr (.t 1) 1, (some (11, false))⟩, none),
  (⟨(some 13), .load (.t 12) 1 false, (some (11, false))⟩, none),
  (⟨(some 14), .len (.t 13), (some (11, false))⟩, none),
  (⟨(some 15), .bin .gtr (.t 14) (.c (.int .i64 8)), (some (11, false))⟩, (some [1, 11, 15])),
  kB 16 (.pick (.t 11) (.c (.bool true)) (.t 15)) [1, 16]]
@[go_sem] def l53_2 (_ : Unit) : KL := [kB 2 (.mv (.c (.bool false))) [2]]
@[go_sem] def s53_3 (_ : Unit) : IR := (sQ [(kT l53_2), .ret])
@[go_sem] def s53_4 (_ : Unit) : IR := (sQ [(kT l53_1), (.cond (.t 16) (tH s53_3) .skip)])
@[go_sem] def l53_5 (_ : Unit) : KL := [kB 3 (.mv (cI 1)) [1, 3]]
@[go_sem] def l53_6 (_ : Unit) : KL := [kB 4 (.mv (cI 0)) [1, 3, 4]]
@[go_sem] def l53_7 (_ : Unit) : KL := [kA 17 (.mv (.t 4)),
  kA 18 (.faddr (.t 1) 0),
  kA 19 (.load (.t 18) 1 false),
  kA 20 (.len (.t 19)),
  kB 21 (.bin .lss (.t 17) (.t 20)) [1, 3, 4, 21]]
@[go_sem] def s53_8 (_ : Unit) : IR := (sQ [(kT l53_7), (.cond (.t 21) .skip (.exit 0))])
@[go_sem] def l53_9 (_ : Unit) : KL := [kA 24 (.faddr (.t 1) 0),
  kA 25 (.load (.t 24) 1 false),
  kA 26 (.mv (.t 4)),
  kA 27 (.iaddr (.t 25) (.t 26) 3),
  kB 28 (.load (.t 27) 3 true) [1, 3, 4, 28],
  kA 29 (.call (n_spec_l2Var) [(.t 28)]),
  kB 30 (.un .not (.t 29)) [1, 3, 4, 30]]
@[go_sem] def l53_10 (_ : Unit) : KL := [kB 2 (.mv (.c (.bool false))) [2]]
@[go_sem] def s53_11 (_ : Unit) : IR := (sQ [(kT l53_10), .ret])
@[go_sem] def s53_12 (_ : Unit) : IR := (sQ [(kT l53_9), (.cond (.t 30) (tH s53_11) .skip)])
@[go_sem] def l53_13 : Nat → GOp
  | 0 => ⟨(some 31), .mv (.t 3), none⟩
  | 1 => ⟨(some 32), .faddr (.t 1) 0, none⟩
  | 2 => ⟨(some 33), .load (.t 32) 1 false, none⟩
  | 3 => ⟨(some 34), .mv (.t 4), none⟩
  | 4 => ⟨(some 35), .iaddr (.t 33) (.t 34) 3, none⟩
  | 5 => ⟨(some 36), .faddr (.t 35) 1, none⟩
  | 6 => ⟨(some 37), .load (.t 36) 1 false, none⟩
  | 7 => ⟨(some 38), .faddr (.t 1) 0, none⟩
  | 8 => ⟨(some 39), .load (.t 38) 1 false, none⟩
  | 9 => ⟨(some 40), .mv (.t 4), none⟩
  | 10 => ⟨(some 41), .iaddr (.t 39) (.t 40) 3, none⟩
  | 11 => ⟨(some 42), .faddr (.t 41) 0, none⟩
  | 12 => ⟨(some 43), .load (.t 42) 1 false, none⟩
  | 13 => ⟨(some 44), .bin .sub (.t 37) (.t 43), none⟩
  | 14 => ⟨(some 45), .bin .add (.t 44) (cI 1), none⟩
  | 15 => ⟨(some 46), .bin .mul (.t 31) (.t 45), none⟩
  | 16 => ⟨(some 3), .mv (.t 46), none⟩
  | _ => ⟨none, .mkmap, none⟩
@[go_sem] def s53_14 (_ : Unit) : IR := (sQ [(tH s53_12), (.kd (oF l53_13 17) [(0, []), (1, []), (2, []), (3, []), (4, []), (5, []), (6, []), (7, []), (8, []), (9, []), (10, []), (11, []), (12, []), (13, []), (14, []), (15, []), (16, [])] [1, 3, 4])])
@[go_sem] def s53_15 (_ : Unit) : IR := (.block 1 (tH s53_14))
@[go_sem] def l53_16 (_ : Unit) : KL := [kA 22 (.mv (.t 4)),
  kA 23 (.bin .add (.t 22) (cI 1)),
  kB 4 (.mv (.t 23)) [1, 3, 4]]
@[go_sem] def s53_17 (_ : Unit) : IR := (sQ [(tH s53_8), (tH s53_15), (kT l53_16)])
@[go_sem] def s53_18 (_ : Unit) : IR := (.loop (tH s53_17))
@[go_sem] def s53_19 (_ : Unit) : IR := (.block 0 (tH s53_18))
@[go_sem] def s53_20 (_ : Unit) : IR := (sQ [(kT l53_6), (tH s53_19)])
@[go_sem] def l53_21 (_ : Unit) : KL := [kB 5 (.mv (cI 0)) [1, 3, 5]]
@[go_sem] def l53_22 (_ : Unit) : KL := [kA 47 (.mv (.t 5)),
  kA 48 (.faddr (.t 1) 1),
  kA 49 (.load (.t 48) 1 false),
  kA 50 (.len (.t 49)),
  kB 51 (.bin .lss (.t 47) (.t 50)) [1, 3, 5, 51]]
@[go_sem] def s53_23 (_ : Unit) : IR := (sQ [(kT l53_22), (.cond (.t 51) .skip (.exit 2))])
@[go_sem] def l53_24 : Nat → GOp
  | 0 => ⟨(some 54), .faddr (.t 1) 1, none⟩
  | 1 => ⟨(some 55), .load (.t 54) 1 false, none⟩
  | 2 => ⟨(some 56), .mv (.t 5), none⟩
  | 3 => ⟨(some 57), .iaddr (.t 55) (.t 56) 3, none⟩
  | 4 => ⟨(some 58), .load (.t 57) 3 true, none⟩
  | 5 => ⟨(some 59), .faddr (.t 1) 0, none⟩
  | 6 => ⟨(some 60), .load (.t 59) 1 false, none⟩
  | 7 => ⟨(some 61), .len (.t 60), none⟩
  | 8 => ⟨(some 62), .call (n_spec_l2Rule) [(.t 58), (.t 61)], none⟩
  | 9 => ⟨(some 63), .un .not (.t 62), none⟩
  | _ => ⟨none, .mkmap, none⟩
@[go_sem] def l53_25 (_ : Unit) : KL := [kB 2 (.mv (.c (.bool false))) [2]]
@[go_sem] def s53_26 (_ : Unit) : IR := (sQ [(kT l53_25), .ret])
@[go_sem] def s53_27 (_ : Unit) : IR := (sQ [(.kd (oF l53_24 10) [(0, []), (1, []), (2, []), (3, []), (4, []), (5, []), (6, []), (7, []), (8, []), (9, [])] [1, 3, 5, 63]), (.cond (.t 63) (tH s53_26) .skip)])
@[go_sem] def s53_28 (_ : Unit) : IR := (.block 3 (tH s53_27))
@[go_sem] def l53_29 (_ : Unit) : KL := [kA 52 (.mv (.t 5)),
  kA 53 (.bin .add (.t 52) (cI 1)),
  kB 5 (.mv (.t 53)) [1, 3, 5]]
@[go_sem] def s53_30 (_ : Unit) : IR := (sQ [(tH s53_23), (tH s53_28), (kT l53_29)])
@[go_sem] def s53_31 (_ : Unit) : IR := (.loop (tH s53_30))
@[go_sem] def s53_32 (_ : Unit) : IR := (.block 2 (tH s53_31))
@[go_sem] def s53_33 (_ : Unit) : IR := (sQ [(kT l53_21), (tH s53_32)])
@[go_sem] def l53_34 (_ : Unit) : KL := [kA 64 (.mv (.t 3)),
  kA 65 (.bin .leq (.t 64) (.c (.int .i64 400))),
  kB 2 (.mv (.t 65)) [2]]
@[go_sem] def s53_35 (_ : Unit) : IR := (sQ [(kT l53_0), (tH s53_4), (kT l53_5), (tH s53_20), (tH s53_33), (kT l53_34), .ret])
theorem c53 : compFn Try.prog [(0, [], [oN, oS [1]]), (1, [], [oN, oN, oN, oN, oS [1, 10], oN, oN, oN, oN, oS [1, 11, 15], oS [1, 16]]), (2, [], [oS [2]]), (3, [], [oS [1, 3]]), (4, [], [oS [1, 3, 4]]), (5, [], [oN, oN, oN, oN, oS [1, 3, 4, 21]]), (7, [], [oN, oN, oN, oN, oS [1, 3, 4, 28], oN, oS [1, 3, 4, 30]]), (8, [], [oS [2]]), (9, [(0, []), (1, []), (2, []), (3, []), (4, []), (5, []), (6, []), (7, []), (8, []), (9, []), (10, []), (11, []), (12, []), (13, []), (14, []), (15, []), (16, [])], [oS [1, 3, 4]]), (6, [], [oN, oN, oS [1, 3, 4]]), (10, [], [oS [1, 3, 5]]), (11, [], [oN, oN, oN, oN, oS [1, 3, 5, 51]]), (13, [(0, []), (1, []), (2, []), (3, []), (4, []), (5, []), (6, []), (7, []), (8, []), (9, [])], [oS [1, 3, 5, 63]]), (14, [], [oS [2]]), (12, [], [oN, oN, oS [1, 3, 5]]), (15, [], [oN, oN, oS [2]])] Try.f53 = some ⟨1, 66, [.t 2], (tH s53_35)⟩ := by kernel_rfl
theorem v_spec_SystemValid (hl : vs.length = 1) (h : wpV Try.prog (tH s53_35) (postV [.t 2] RV) (envV vs) M) : VCall Try.prog n_spec_SystemValid vs M RV :=
  vcall_of_wp (fun _ _ _ hl h => acall_of_wp mixed Try.func53 c53 (by kernel_rfl) hl h) hl h
@[go_sem] def l54_0 (_ : Unit) : KL := [kA 1 (.box (.t 0)),
  kB 2 (.mv (.c (.sl none 0 0 true 0))) [1]]
@[go_sem] def l54_1 (_ : Unit) : KL := [kA 5 (.bslc 1 0 [(.int .i64 0)] []),
  kB 3 (.mv (.t 5)) [1, 3]]
@[go_sem] def l54_2 (_ : Unit) : KL := [kB 4 (.mv (cI 0)) [1, 3, 4]]
@[go_sem] def l54_3 (_ : Unit) : KL := [kA 6 (.mv (.t 4)),
  kA 7 (.faddr (.t 1) 0),
  kA 8 (.load (.t 7) 1 false),
  kA 9 (.len (.t 8)),
  kB 10 (.bin .lss (.t 6) (.t 9)) [1, 3, 4, 10],
  kA 11 (.mv (.t 10)),
  (⟨(some 12), .load (.t 1) 2 true, (some (11, true))⟩, none),
  (⟨(some 13), .call (n_spec_SystemValid) [(.t 12)], (some (11, true))⟩, none),
  kB 14 (.pick (.t 11) (.t 13) (.c (.bool false))) [1, 3, 4, 14]]
@[go_sem] def s54_4 (_ : Unit) : IR := (sQ [(kT l54_3), (.cond (.t 14) .skip (.exit 0))])
@[go_sem] def l54_5 (_ : Unit) : KL := [kA 17 (.mv (.t 3)),
  kA 18 (.faddr (.t 1) 0),
  kA 19 (.load (.t 18) 1 false),
  kA 20 (.mv (.t 4)),
  kB 21 (.iaddr (.t 19) (.t 20) 3) [1, 4, 17, 21],
  kA 22 (.faddr (.t 21) 2),
  kA 23 (.load (.t 22) 1 false),
  kA 24 (.bslc 1 1 [(.int .i64 0)] [(0, (.t 23))]),
  kA 25 (.app 1 8 (.t 17) (.t 24)),
  kB 3 (.mv (.t 25)) [1, 3, 4]]
@[go_sem] def s54_6 (_ : Unit) : IR := (.block 1 (kT l54_5))
@[go_sem] def l54_7 (_ : Unit) : KL := [kA 15 (.mv (.t 4)),
  kA 16 (.bin .add (.t 15) (cI 1)),
  kB 4 (.mv (.t 16)) [1, 3, 4]]
@[go_sem] def s54_8 (_ : Unit) : IR := (sQ [(tH s54_4), (tH s54_6), (kT l54_7)])
@[go_sem] def s54_9 (_ : Unit) : IR := (.loop (tH s54_8))
@[go_sem] def s54_10 (_ : Unit) : IR := (.block 0 (tH s54_9))
@[go_sem] def s54_11 (_ : Unit) : IR := (sQ [(kT l54_2), (tH s54_10)])
@[go_sem] def l54_12 (_ : Unit) : KL := [kA 26 (.mv (.t 3)),
  kB 2 (.mv (.t 26)) [2]]
@[go_sem] def s54_13 (_ : Unit) : IR := (sQ [(kT l54_0), (kT l54_1), (tH s54_11), (kT l54_12), .ret])
theorem c54 : compFn Try.prog [(0, [], [oN, oS [1]]), (1, [], [oN, oS [1, 3]]), (2, [], [oS [1, 3, 4]]), (3, [], [oN, oN, oN, oN, oS [1, 3, 4, 10], oN, oN, oN, oS [1, 3, 4, 14]]), (5, [], [oN, oN, oN, oN, oS [1, 4, 17, 21], oN, oN, oN, oN, oS [1, 3, 4]]), (4, [], [oN, oN, oS [1, 3, 4]]), (6, [], [oN, oS [2]])] Try.f54 = some ⟨1, 27, [.t 2], (tH s54_13)⟩ := by kernel_rfl
theorem v_spec_FirstState (hl : vs.length = 1) (h : wpV Try.prog (tH s54_13) (postV [.t 2] RV) (envV vs) M) : VCall Try.prog n_spec_FirstState vs M RV :=
  vcall_of_wp (fun _ _ _ hl h => acall_of_wp mixed Try.func54 c54 (by kernel_rfl) hl h) hl h
@[go_sem] def l50_0 (_ : Unit) : KL := [kB 4 (.mv (.c (.bool false))) [0, 1]]
@[go_sem] def l50_1 (_ : Unit) : KL := [kA 6 (.mv (.t 0)),
  kA 7 (.len (.t 6)),
  kA 8 (.mv (.t 1)),
  kA 9 (.len (.t 8)),
  kB 10 (.bin .neq (.t 7) (.t 9)) [0, 1, 10]]
@[go_sem] def l50_2 (_ : Unit) : KL := [kB 4 (.mv (.c (.bool false))) [4]]
@[go_sem] def s50_3 (_ : Unit) : IR := (sQ [(kT l50_2), .ret])
@[go_sem] def s50_4 (_ : Unit) : IR := (sQ [(kT l50_1), (.cond (.t 10) (tH s50_3) .skip)])
@[go_sem] def l50_5 (_ : Unit) : KL := [kB 5 (.mv (cI 0)) [0, 1, 5]]
@[go_sem] def l50_6 (_ : Unit) : KL := [kA 11 (.mv (.t 5)),
  kA 12 (.mv (.t 0)),
  kA 13 (.len (.t 12)),
  kB 14 (.bin .lss (.t 11) (.t 13)) [0, 1, 5, 14]]
@[go_sem] def s50_7 (_ : Unit) : IR := (sQ [(kT l50_6), (.cond (.t 14) .skip (.exit 0))])
@[go_sem] def l50_8 : Nat → GOp
  | 0 => ⟨(some 17), .mv (.t 0), none⟩
  | 1 => ⟨(some 18), .mv (.t 5), none⟩
  | 2 => ⟨(some 19), .iaddr (.t 17) (.t 18) 1, none⟩
  | 3 => ⟨(some 20), .load (.t 19) 1 false, none⟩
  | 4 => ⟨(some 21), .mv (.t 1), none⟩
  | 5 => ⟨(some 22), .mv (.t 5), none⟩
  | 6 => ⟨(some 23), .iaddr (.t 21) (.t 22) 1, none⟩
  | 7 => ⟨(some 24), .load (.t 23) 1 false, none⟩
  | 8 => ⟨(some 25), .bin .neq (.t 20) (.t 24), none⟩
  | _ => ⟨none, .mkmap, none⟩
@[go_sem] def l50_9 (_ : Unit) : KL := [kB 4 (.mv (.c (.bool false))) [4]]
@[go_sem] def s50_10 (_ : Unit) : IR := (sQ [(kT l50_9), .ret])
@[go_sem] def s50_11 (_ : Unit) : IR := (sQ [(.kd (oF l50_8 9) [(0, []), (1, []), (2, []), (3, []), (4, []), (5, []), (6, []), (7, []), (8, [])] [0, 1, 5, 25]), (.cond (.t 25) (tH s50_10) .skip)])
@[go_sem] def s50_12 (_ : Unit) : IR := (.block 1 (tH s50_11))
@[go_sem] def l50_13 (_ : Unit) : KL := [kA 15 (.mv (.t 5)),
  kA 16 (.bin .add (.t 15) (cI 1)),
  kB 5 (.mv (.t 16)) [0, 1, 5]]
@[go_sem] def s50_14 (_ : Unit) : IR := (sQ [(tH s50_7), (tH s50_12), (kT l50_13)])
@[go_sem] def s50_15 (_ : Unit) : IR := (.loop (tH s50_14))
@[go_sem] def s50_16 (_ : Unit) : IR := (.block 0 (tH s50_15))
@[go_sem] def s50_17 (_ : Unit) : IR := (sQ [(kT l50_5), (tH s50_16)])
@[go_sem] def l50_18 (_ : Unit) : KL := [kB 4 (.mv (.c (.bool true))) [4]]
@[go_sem] def s50_19 (_ : Unit) : IR := (sQ [(kT l50_0), (tH s50_4), (tH s50_17), (kT l50_18), .ret])
theorem c50 : compFn Try.prog [(0, [], [oS [0, 1]]), (1, [], [oN, oN, oN, oN, oS [0, 1, 10]]), (2, [], [oS [4]]), (3, [], [oS [0, 1, 5]]), (4, [], [oN, oN, oN, oS [0, 1, 5, 14]]), (6, [(0, []), (1, []), (2, []), (3, []), (4, []), (5, []), (6, []), (7, []), (8, [])], [oS [0, 1, 5, 25]]), (7, [], [oS [4]]), (5, [], [oN, oN, oS [0, 1, 5]]), (8, [], [oS [4]])] Try.f50 = some ⟨2, 26, [.t 4], (tH s50_19)⟩ := by kernel_rfl
theorem v_spec_l2Same (hl : vs.length = 2) (h : wpV Try.prog (tH s50_19) (postV [.t 4] RV) (envV vs) M) : VCall Try.prog n_spec_l2Same vs M RV :=
  vcall_of_wp (fun _ _ _ hl h => acall_of_wp mixed Try.func50 c50 (by kernel_rfl) hl h) hl h
@[go_sem] def l55_0 (_ : Unit) : KL := [kB 2 (.mv (.c (.sl none 0 0 true 0))) [0]]
@[go_sem] def l55_1 (_ : Unit) : KL := [kA 5 (.bslc 1 0 [(.int .i64 0)] []),
  kB 3 (.mv (.t 5)) [0, 3]]
@[go_sem] def l55_2 (_ : Unit) : KL := [kB 4 (.mv (cI 0)) [0, 3, 4]]
@[go_sem] def l55_3 (_ : Unit) : KL := [kA 6 (.mv (.t 4)),
  kA 7 (.mv (.t 0)),
  kA 8 (.len (.t 7)),
  kB 9 (.bin .lss (.t 6) (.t 8)) [0, 3, 4, 9]]
@[go_sem] def s55_4 (_ : Unit) : IR := (sQ [(kT l55_3), (.cond (.t 9) .skip (.exit 0))])
@[go_sem] def l55_5 (_ : Unit) : KL := [kA 12 (.mv (.t 3)),
  kA 13 (.mv (.t 0)),
  kA 14 (.mv (.t 4)),
  kA 15 (.iaddr (.t 13) (.t 14) 1),
  kB 16 (.load (.t 15) 1 false) [0, 4, 12, 16],
  kA 17 (.bslc 1 1 [(.int .i64 0)] [(0, (.t 16))]),
  kA 18 (.app 1 8 (.t 12) (.t 17)),
  kB 3 (.mv (.t 18)) [0, 3, 4]]
@[go_sem] def s55_6 (_ : Unit) : IR := (.block 1 (kT l55_5))
@[go_sem] def l55_7 (_ : Unit) : KL := [kA 10 (.mv (.t 4)),
  kA 11 (.bin .add (.t 10) (cI 1)),
  kB 4 (.mv (.t 11)) [0, 3, 4]]
@[go_sem] def s55_8 (_ : Unit) : IR := (sQ [(tH s55_4), (tH s55_6), (kT l55_7)])
@[go_sem] def s55_9 (_ : Unit) : IR := (.loop (tH s55_8))
@[go_sem] def s55_10 (_ : Unit) : IR := (.block 0 (tH s55_9))
@[go_sem] def s55_11 (_ : Unit) : IR := (sQ [(kT l55_2), (tH s55_10)])
@[go_sem] def l55_12 (_ : Unit) : KL := [kA 19 (.mv (.t 3)),
  kB 2 (.mv (.t 19)) [2]]
@[go_sem] def s55_13 (_ : Unit) : IR := (sQ [(kT l55_0), (kT l55_1), (tH s55_11), (kT l55_12), .ret])
theorem c55 : compFn Try.prog [(0, [], [oS [0]]), (1, [], [oN, oS [0, 3]]), (2, [], [oS [0, 3, 4]]), (3, [], [oN, oN, oN, oS [0, 3, 4, 9]]), (5, [], [oN, oN, oN, oN, oS [0, 4, 12, 16], oN, oN, oS [0, 3, 4]]), (4, [], [oN, oN, oS [0, 3, 4]]), (6, [], [oN, oS [2]])] Try.f55 = some ⟨1, 20, [.t 2], (tH s55_13)⟩ := by kernel_rfl
theorem v_spec_l3Copy (hl : vs.length = 1) (h : wpV Try.prog (tH s55_13) (postV [.t 2] RV) (envV vs) M) : VCall Try.prog n_spec_l3Copy vs M RV :=
  vcall_of_wp (fun _ _ _ hl h => acall_of_wp mixed Try.func55 c55 (by kernel_rfl) hl h) hl h
@[go_sem] def l56_0 (_ : Unit) : KL := [kA 2 (.box (.t 0)),
  kB 4 (.mv (.c (.bool false))) [1, 2]]
@[go_sem] def l56_1 (_ : Unit) : KL := [kA 6 (.mv (.t 1)),
  kA 7 (.len (.t 6)),
  kA 8 (.faddr (.t 2) 0),
  kA 9 (.load (.t 8) 1 false),
  kB 10 (.len (.t 9)) [1, 2, 7, 10],
  kB 11 (.bin .neq (.t 7) (.t 10)) [1, 2, 11]]
@[go_sem] def l56_2 (_ : Unit) : KL := [kB 4 (.mv (.c (.bool false))) [4]]
@[go_sem] def s56_3 (_ : Unit) : IR := (sQ [(kT l56_2), .ret])
@[go_sem] def s56_4 (_ : Unit) : IR := (sQ [(kT l56_1), (.cond (.t 11) (tH s56_3) .skip)])
@[go_sem] def l56_5 (_ : Unit) : KL := [kB 5 (.mv (cI 0)) [1, 2, 5]]
@[go_sem] def l56_6 (_ : Unit) : KL := [kA 12 (.mv (.t 5)),
  kA 13 (.mv (.t 1)),
  kA 14 (.len (.t 13)),
  kB 15 (.bin .lss (.t 12) (.t 14)) [1, 2, 5, 15]]
@[go_sem] def s56_7 (_ : Unit) : IR := (sQ [(kT l56_6), (.cond (.t 15) .skip (.exit 0))])
@[go_sem] def l56_8 : Nat → GOp
  | 0 => ⟨(some 18), .mv (.t 1), none⟩
  | 1 => ⟨(some 19), .mv (.t 5), none⟩
  | 2 => ⟨(some 20), .iaddr (.t 18) (.t 19) 1, none⟩
  | 3 => ⟨(some 21), .load (.t 20) 1 false, none⟩
  | 4 => ⟨(some 22), .faddr (.t 2) 0, none⟩
  | 5 => ⟨(some 23), .load (.t 22) 1 false, none⟩
  | 6 => ⟨(some 24), .mv (.t 5), none⟩
  | 7 => ⟨(some 25), .iaddr (.t 23) (.t 24) 3, none⟩
  | 8 => ⟨(some 26), .faddr (.t 25) 0, none⟩
  | 9 => ⟨(some 27), .load (.t 26) 1 false, none⟩
  | 10 => ⟨(some 28), .faddr (.t 2) 0, none⟩
  | 11 => ⟨(some 29), .load (.t 28) 1 false, none⟩
  | 12 => ⟨(some 30), .mv (.t 5), none⟩
  | 13 => ⟨(some 31), .iaddr (.t 29) (.t 30) 3, none⟩
  | 14 => ⟨(some 32), .faddr (.t 31) 1, none⟩
  | 15 => ⟨(some 33), .load (.t 32) 1 false, none⟩
  | 16 => ⟨(some 34), .call (n_spec_l1In) [(.t 21), (.t 27), (.t 33)], none⟩
  | 17 => ⟨(some 35), .un .not (.t 34), none⟩
  | _ => ⟨none, .mkmap, none⟩
@[go_sem] def l56_9 (_ : Unit) : KL := [kB 4 (.mv (.c (.bool false))) [4]]
@[go_sem] def s56_10 (_ : Unit) : IR := (sQ [(kT l56_9), .ret])
@[go_sem] def s56_11 (_ : Unit) : IR := (sQ [(.kd (oF l56_8 18) [(0, []), (1, []), (2, []), (3, []), (4, []), (5, []), (6, []), (7, []), (8, []), (9, []), (10, []), (11, []), (12, []), (13, []), (14, []), (15, []), (16, []), (17, [])] [1, 2, 5, 35]), (.cond (.t 35) (tH s56_10) .skip)])
@[go_sem] def s56_12 (_ : Unit) : IR := (.block 1 (tH s56_11))
@[go_sem] def l56_13 (_ : Unit) : KL := [kA 16 (.mv (.t 5)),
  kA 17 (.bin .add (.t 16) (cI 1)),
  kB 5 (.mv (.t 17)) [1, 2, 5]]
@[go_sem] def s56_14 (_ : Unit) : IR := (sQ [(tH s56_7), (tH s56_12), (kT l56_13)])
@[go_sem] def s56_15 (_ : Unit) : IR := (.loop (tH s56_14))
@[go_sem] def s56_16 (_ : Unit) : IR := (.block 0 (tH s56_15))
@[go_sem] def s56_17 (_ : Unit) : IR := (sQ [(kT l56_5), (tH s56_16)])
@[go_sem] def l56_18 (_ : Unit) : KL := [kB 4 (.mv (.c (.bool true))) [4]]
@[go_sem] def s56_19 (_ : Unit) : IR := (sQ [(kT l56_0), (tH s56_4), (tH s56_17), (kT l56_18), .ret])
theorem c56 : compFn Try.prog [(0, [], [oN, oS [1, 2]]), (1, [], [oN, oN, oN, oN, oS [1, 2, 7, 10], oS [1, 2, 11]]), (2, [], [oS [4]]), (3, [], [oS [1, 2, 5]]), (4, [], [oN, oN, oN, oS [1, 2, 5, 15]]), (6, [(0, []), (1, []), (2, []), (3, []), (4, []), (5, []), (6, []), (7, []), (8, []), (9, []), (10, []), (11, []), (12, []), (13, []), (14, []), (15, []), (16, []), (17, [])], [oS [1, 2, 5, 35]]), (7, [], [oS [4]]), (5, [], [oN, oN, oS [1, 2, 5]]), (8, [], [oS [4]])] Try.f56 = some ⟨2, 36, [.t 4], (tH s56_19)⟩ := by kernel_rfl
theorem v_spec_l2In (hl : vs.length = 2) (h : wpV Try.prog (tH s56_19) (postV [.t 4] RV) (envV vs) M) : VCall Try.prog n_spec_l2In vs M RV :=
  vcall_of_wp (fun _ _ _ hl h => acall_of_wp mixed Try.func56 c56 (by kernel_rfl) hl h) hl h
@[go_sem] def l137_0 (_ : Unit) : KL := [kB 2 (.mv (cI 0)) [0]]
@[go_sem] def l137_1 (_ : Unit) : KL := [kA 3 (.mv (.t 0)),
  kB 4 (.bin .gtr (.t 3) (.c (.int .i64 9999))) [0, 4]]
@[go_sem] def l137_2 (_ : Unit) : KL := [kB 2 (.mv (.c (.int .i64 9999))) [2]]
@[go_sem] def s137_3 (_ : Unit) : IR := (sQ [(kT l137_2), .ret])
@[go_sem] def s137_4 (_ : Unit) : IR := (sQ [(kT l137_1), (.cond (.t 4) (tH s137_3) .skip)])
@[go_sem] def l137_5 (_ : Unit) : KL := [kA 5 (.mv (.t 0)),
  kB 6 (.bin .lss (.t 5) (.c (.int .i64 (-9999)))) [0, 6]]
@[go_sem] def l137_6 (_ : Unit) : KL := [kB 2 (.mv (.c (.int .i64 (-9999)))) [2]]
@[go_sem] def s137_7 (_ : Unit) : IR := (sQ [(kT l137_6), .ret])
@[go_sem] def s137_8 (_ : Unit) : IR := (sQ [(kT l137_5), (.cond (.t 6) (tH s137_7) .skip)])
@[go_sem] def l137_9 (_ : Unit) : KL := [kA 7 (.mv (.t 0)),
  kB 2 (.mv (.t 7)) [2]]
@[go_sem] def s137_10 (_ : Unit) : IR := (sQ [(kT l137_0), (tH s137_4), (tH s137_8), (kT l137_9), .ret])
theorem c137 : compFn Try.prog [(0, [], [oS [0]]), (1, [], [oN, oS [0, 4]]), (2, [], [oS [2]]), (3, [], [oN, oS [0, 6]]), (4, [], [oS [2]]), (5, [], [oN, oS [2]])] Try.f137 = some ⟨1, 8, [.t 2], (tH s137_10)⟩ := by kernel_rfl
theorem v_spec_l1Held (hl : vs.length = 1) (h : wpV Try.prog (tH s137_10) (postV [.t 2] RV) (envV vs) M) : VCall Try.prog n_spec_l1Held vs M RV :=
  vcall_of_wp (fun _ _ _ hl h => acall_of_wp mixed Try.func137 c137 (by kernel_rfl) hl h) hl h
@[go_sem] def l138_0 (_ : Unit) : KL := [kB 2 (.mv (cI 0)) [0]]
@[go_sem] def l138_1 (_ : Unit) : KL := [kB 3 (.mv (.t 0)) [3]]
@[go_sem] def l138_2 (_ : Unit) : KL := [kB 2 (.mv (cI 1)) [2]]
@[go_sem] def s138_3 (_ : Unit) : IR := (sQ [(kT l138_2), .ret])
@[go_sem] def s138_4 (_ : Unit) : IR := (sQ [(kT l138_1), (.cond (.t 3) (tH s138_3) .skip)])
@[go_sem] def l138_5 (_ : Unit) : KL := [kB 2 (.mv (cI 0)) [2]]
@[go_sem] def s138_6 (_ : Unit) : IR := (sQ [(kT l138_0), (tH s138_4), (kT l138_5), .ret])
theorem c138 : compFn Try.prog [(0, [], [oS [0]]), (1, [], [oS [3]]), (2, [], [oS [2]]), (3, [], [oS [2]])] Try.f138 = some ⟨1, 4, [.t 2], (tH s138_6)⟩ := by kernel_rfl
theorem v_spec_l1Truth (hl : vs.length = 1) (h : wpV Try.prog (tH s138_6) (postV [.t 2] RV) (envV vs) M) : VCall Try.prog n_spec_l1Truth vs M RV :=
  vcall_of_wp (fun _ _ _ hl h => acall_of_wp mixed Try.func138 c138 (by kernel_rfl) hl h) hl h
@[go_sem] def l131_0 (_ : Unit) : KL := [kB 6 (.mv (cI 0)) [0, 1, 2]]
@[go_sem] def l131_1 (_ : Unit) : KL := [kA 7 (.mv (.t 0)),
  kB 8 (.bin .eql (.t 7) (.c (.int .i64 2))) [0, 1, 2, 8]]
@[go_sem] def l131_2 (_ : Unit) : KL := [kA 9 (.mv (.t 1)),
  kA 10 (.mv (.t 2)),
  kA 11 (.bin .add (.t 9) (.t 10)),
  kA 12 (.call (n_spec_l1Held) [(.t 11)]),
  kB 6 (.mv (.t 12)) [6]]
@[go_sem] def s131_3 (_ : Unit) : IR := (sQ [(kT l131_2), .ret])
@[go_sem] def s131_4 (_ : Unit) : IR := (sQ [(kT l131_1), (.cond (.t 8) (tH s131_3) .skip)])
@[go_sem] def l131_5 (_ : Unit) : KL := [kA 13 (.mv (.t 0)),
  kB 14 (.bin .eql (.t 13) (.c (.int .i64 3))) [0, 1, 2, 14]]
@[go_sem] def l131_6 (_ : Unit) : KL := [kA 15 (.mv (.t 1)),
  kA 16 (.mv (.t 2)),
  kA 17 (.bin .sub (.t 15) (.t 16)),
  kA 18 (.call (n_spec_l1Held) [(.t 17)]),
  kB 6 (.mv (.t 18)) [6]]
@[go_sem] def s131_7 (_ : Unit) : IR := (sQ [(kT l131_6), .ret])
@[go_sem] def s131_8 (_ : Unit) : IR := (sQ [(kT l131_5), (.cond (.t 14) (tH s131_7) .skip)])
@[go_sem] def l131_9 (_ : Unit) : KL := [kA 19 (.mv (.t 0)),
  kB 20 (.bin .eql (.t 19) (.c (.int .i64 4))) [0, 1, 2, 20]]
@[go_sem] def l131_10 (_ : Unit) : KL := [kA 21 (.mv (.t 1)),
  kA 22 (.mv (.t 2)),
  kA 23 (.bin .mul (.t 21) (.t 22)),
  kA 24 (.call (n_spec_l1Held) [(.t 23)]),
  kB 6 (.mv (.t 24)) [6]]
@[go_sem] def s131_11 (_ : Unit) : IR := (sQ [(kT l131_10), .ret])
@[go_sem] def s131_12 (_ : Unit) : IR := (sQ [(kT l131_9), (.cond (.t 20) (tH s131_11) .skip)])
@[go_sem] def l131_13 (_ : Unit) : KL := [kA 25 (.mv (.t 0)),
  kB 26 (.bin .eql (.t 25) (.c (.int .i64 5))) [0, 1, 2, 26]]
@[go_sem] def l131_14 (_ : Unit) : KL := [kA 27 (.mv (.t 1)),
  kA 28 (.mv (.t 2)),
  kA 29 (.bin .lss (.t 27) (.t 28)),
  kA 30 (.call (n_spec_l1Truth) [(.t 29)]),
  kB 6 (.mv (.t 30)) [6]]
@[go_sem] def s131_15 (_ : Unit) : IR := (sQ [(kT l131_14), .ret])
@[go_sem] def s131_16 (_ : Unit) : IR := (sQ [(kT l131_13), (.cond (.t 26) (tH s131_15) .skip)])
@[go_sem] def l131_17 (_ : Unit) : KL := [kA 31 (.mv (.t 0)),
  kB 32 (.bin .eql (.t 31) (.c (.int .i64 6))) [0, 1, 2, 32]]
@[go_sem] def l131_18 (_ : Unit) : KL := [kA 33 (.mv (.t 1)),
  kA 34 (.mv (.t 2)),
  kA 35 (.bin .eql (.t 33) (.t 34)),
  kA 36 (.call (n_spec_l1Truth) [(.t 35)]),
  kB 6 (.mv (.t 36)) [6]]
@[go_sem] def s131_19 (_ : Unit) : IR := (sQ [(kT l131_18), .ret])
@[go_sem] def s131_20 (_ : Unit) : IR := (sQ [(kT l131_17), (.cond (.t 32) (tH s131_19) .skip)])
@[go_sem] def l131_21 (_ : Unit) : KL := [kA 37 (.mv (.t 0)),
  kB 38 (.bin .eql (.t 37) (.c (.int .i64 7))) [0, 1, 2, 38]]
@[go_sem] def l131_22 (_ : Unit) : KL := [kA 39 (.mv (.t 1)),
  kA 40 (.bin .sub (cI 1) (.t 39)),
  kB 6 (.mv (.t 40)) [6]]
@[go_sem] def s131_23 (_ : Unit) : IR := (sQ [(kT l131_22), .ret])
@[go_sem] def s131_24 (_ : Unit) : IR := (sQ [(kT l131_21), (.cond (.t 38) (tH s131_23) .skip)])
@[go_sem] def l131_25 (_ : Unit) : KL := [kA 41 (.mv (.t 0)),
  kB 42 (.bin .eql (.t 41) (.c (.int .i64 8))) [1, 2, 42]]
@[go_sem] def l131_26 (_ : Unit) : KL := [kA 43 (.mv (.t 1)),
  kA 44 (.mv (.t 2)),
  kA 45 (.bin .mul (.t 43) (.t 44)),
  kB 6 (.mv (.t 45)) [6]]
@[go_sem] def s131_27 (_ : Unit) : IR := (sQ [(kT l131_26), .ret])
@[go_sem] def s131_28 (_ : Unit) : IR := (sQ [(kT l131_25), (.cond (.t 42) (tH s131_27) .skip)])
@[go_sem] def l131_29 (_ : Unit) : KL := [kA 46 (.mv (.t 1)),
  kA 47 (.mv (.t 2)),
  kA 48 (.bin .add (.t 46) (.t 47)),
  kA 49 (.bin .gtr (.t 48) (cI 0)),
  kB 50 (.call (n_spec_l1Truth) [(.t 49)]) [50],
  kB 6 (.mv (.t 50)) [6]]
@[go_sem] def s131_30 (_ : Unit) : IR := (sQ [(kT l131_0), (tH s131_4), (tH s131_8), (tH s131_12), (tH s131_16), (tH s131_20), (tH s131_24), (tH s131_28), (kT l131_29), .ret])
theorem c131 : compFn Try.prog [(0, [], [oS [0, 1, 2]]), (1, [], [oN, oS [0, 1, 2, 8]]), (2, [], [oN, oN, oN, oN, oS [6]]), (3, [], [oN, oS [0, 1, 2, 14]]), (4, [], [oN, oN, oN, oN, oS [6]]), (5, [], [oN, oS [0, 1, 2, 20]]), (6, [], [oN, oN, oN, oN, oS [6]]), (7, [], [oN, oS [0, 1, 2, 26]]), (8, [], [oN, oN, oN, oN, oS [6]]), (9, [], [oN, oS [0, 1, 2, 32]]), (10, [], [oN, oN, oN, oN, oS [6]]), (11, [], [oN, oS [0, 1, 2, 38]]), (12, [], [oN, oN, oS [6]]), (13, [], [oN, oS [1, 2, 42]]), (14, [], [oN, oN, oN, oS [6]]), (15, [], [oN, oN, oN, oN, oS [50], oS [6]])] Try.f131 = some ⟨3, 51, [.t 6], (tH s131_30)⟩ := by kernel_rfl
theorem v_spec_l1Do (hl : vs.length = 3) (h : wpV Try.prog (tH s131_30) (postV [.t 6] RV) (envV vs) M) : VCall Try.prog n_spec_l1Do vs M RV :=
  vcall_of_wp (fun _ _ _ hl h => acall_of_wp mixed Try.func131 c131 (by kernel_rfl) hl h) hl h
@[go_sem] def l121_0 (_ : Unit) : KL := [kB 4 (.mv (.c (.sl none 0 0 true 0))) [0, 1]]
@[go_sem] def l121_1 (_ : Unit) : KL := [kA 8 (.bslc 1 0 [(.int .i64 0)] []),
  kB 5 (.mv (.t 8)) [0, 1, 5]]
@[go_sem] def l121_2 (_ : Unit) : KL := [kB 6 (.mv (cI 0)) [0, 1, 5, 6]]
@[go_sem] def l121_3 (_ : Unit) : KL := [kA 9 (.mv (.t 6)),
  kA 10 (.mv (.t 0)),
  kA 11 (.len (.t 10)),
  kB 12 (.bin .lss (.t 9) (.t 11)) [0, 1, 5, 6, 12]]
@[go_sem] def s121_4 (_ : Unit) : IR := (sQ [(kT l121_3), (.cond (.t 12) .skip (.exit 0))])
@[go_sem] def l121_5 (_ : Unit) : KL := [kA 15 (.mv (.t 0)),
  kA 16 (.mv (.t 6)),
  kA 17 (.iaddr (.t 15) (.t 16) 4),
  kA 18 (.load (.t 17) 4 true),
  kB 7 (.alloc [(.int .i64 0), (.int .i64 0), (.int .i64 0), (.int .i64 0)]) [0, 1, 5, 6, 7, 18],
  (⟨none, .store (.t 7) 4 (.t 18), none⟩, (some [0, 1, 5, 6, 7]))]
@[go_sem] def l121_6 (_ : Unit) : KL := [kA 19 (.faddr (.t 7) 0),
  kA 20 (.load (.t 19) 1 false),
  kB 21 (.bin .eql (.t 20) (cI 0)) [0, 1, 5, 6, 7, 21]]
@[go_sem] def l121_7 (_ : Unit) : KL := [kA 22 (.mv (.t 5)),
  kA 23 (.faddr (.t 7) 1),
  kA 24 (.load (.t 23) 1 false),
  kA 25 (.bslc 1 1 [(.int .i64 0)] [(0, (.t 24))]),
  kB 26 (.app 1 8 (.t 22) (.t 25)) [0, 1, 6, 26],
  kB 5 (.mv (.t 26)) [0, 1, 5, 6]]
@[go_sem] def l121_8 (_ : Unit) : KL := [kA 27 (.faddr (.t 7) 0),
  kA 28 (.load (.t 27) 1 false),
  kB 29 (.bin .eql (.t 28) (cI 1)) [0, 1, 5, 6, 7, 29]]
@[go_sem] def l121_9 (_ : Unit) : KL := [kA 30 (.mv (.t 5)),
  kA 31 (.mv (.t 1)),
  kA 32 (.faddr (.t 7) 1),
  kA 33 (.load (.t 32) 1 false),
  kB 34 (.iaddr (.t 31) (.t 33) 1) [0, 1, 6, 30, 34],
  kA 35 (.load (.t 34) 1 false),
  kA 36 (.bslc 1 1 [(.int .i64 0)] [(0, (.t 35))]),
  kA 37 (.app 1 8 (.t 30) (.t 36)),
  kB 5 (.mv (.t 37)) [0, 1, 5, 6]]
@[go_sem] def l121_10 : Nat → GOp
  | 0 => ⟨(some 38), .mv (.t 5), none⟩
  | 1 => ⟨(some 39), .faddr (.t 7) 0, none⟩
  | 2 => ⟨(some 40), .load (.t 39) 1 false, none⟩
  | 3 => ⟨(some 41), .mv (.t 5), none⟩
  | 4 => ⟨(some 42), .faddr (.t 7) 2, none⟩
  | 5 => ⟨(some 43), .load (.t 42) 1 false, none⟩
  | 6 => ⟨(some 44), .iaddr (.t 41) (.t 43) 1, none⟩
  | 7 => ⟨(some 45), .load (.t 44) 1 false, none⟩
  | 8 => ⟨(some 46), .mv (.t 5), none⟩
  | 9 => ⟨(some 47), .faddr (.t 7) 3, none⟩
  | 10 => ⟨(some 48), .load (.t 47) 1 false, none⟩
  | 11 => ⟨(some 49), .iaddr (.t 46) (.t 48) 1, none⟩
  | 12 => ⟨(some 50), .load (.t 49) 1 false, none⟩
  | 13 => ⟨(some 51), .call (n_spec_l1Do) [(.t 40), (.t 45), (.t 50)], none⟩
  | 14 => ⟨(some 52), .bslc 1 1 [(.int .i64 0)] [(0, (.t 51))], none⟩
  | 15 => ⟨(some 53), .app 1 8 (.t 38) (.t 52), none⟩
  | 16 => ⟨(some 5), .mv (.t 53), none⟩
  | _ => ⟨none, .mkmap, none⟩
@[go_sem] def s121_11 (_ : Unit) : IR := (sQ [(kT l121_8), (.cond (.t 29) (kT l121_9) (.kd (oF l121_10 17) [(0, []), (1, []), (2, []), (3, []), (4, []), (5, []), (6, []), (7, []), (8, []), (9, []), (10, []), (11, []), (12, []), (13, []), (14, []), (15, []), (16, [])] [0, 1, 5, 6]))])
@[go_sem] def s121_12 (_ : Unit) : IR := (sQ [(kT l121_5), (kT l121_6), (.cond (.t 21) (kT l121_7) (tH s121_11))])
@[go_sem] def s121_13 (_ : Unit) : IR := (.block 1 (tH s121_12))
@[go_sem] def l121_14 (_ : Unit) : KL := [kA 13 (.mv (.t 6)),
  kA 14 (.bin .add (.t 13) (cI 1)),
  kB 6 (.mv (.t 14)) [0, 1, 5, 6]]
@[go_sem] def s121_15 (_ : Unit) : IR := (sQ [(tH s121_4), (tH s121_13), (kT l121_14)])
@[go_sem] def s121_16 (_ : Unit) : IR := (.loop (tH s121_15))
@[go_sem] def s121_17 (_ : Unit) : IR := (.block 0 (tH s121_16))
@[go_sem] def s121_18 (_ : Unit) : IR := (sQ [(kT l121_2), (tH s121_17)])
@[go_sem] def l121_19 (_ : Unit) : KL := [kA 54 (.mv (.t 5)),
  kB 4 (.mv (.t 54)) [4]]
@[go_sem] def s121_20 (_ : Unit) : IR := (sQ [(kT l121_0), (kT l121_1), (tH s121_18), (kT l121_19), .ret])
theorem c121 : compFn Try.prog [(0, [], [oS [0, 1]]), (1, [], [oN, oS [0, 1, 5]]), (2, [], [oS [0, 1, 5, 6]]), (3, [], [oN, oN, oN, oS [0, 1, 5, 6, 12]]), (5, [], [oN, oN, oN, oN, oS [0, 1, 5, 6, 7, 18], oS [0, 1, 5, 6, 7]]), (6, [], [oN, oN, oS [0, 1, 5, 6, 7, 21]]), (7, [], [oN, oN, oN, oN, oS [0, 1, 6, 26], oS [0, 1, 5, 6]]), (8, [], [oN, oN, oS [0, 1, 5, 6, 7, 29]]), (9, [], [oN, oN, oN, oN, oS [0, 1, 6, 30, 34], oN, oN, oN, oS [0, 1, 5, 6]]), (10, [(0, []), (1, []), (2, []), (3, []), (4, []), (5, []), (6, []), (7, []), (8, []), (9, []), (10, []), (11, []), (12, []), (13, []), (14, []), (15, []), (16, [])], [oS [0, 1, 5, 6]]), (4, [], [oN, oN, oS [0, 1, 5, 6]]), (11, [], [oN, oS [4]])] Try.f121 = some ⟨2, 55, [.t 4], (tH s121_20)⟩ := by kernel_rfl
theorem v_spec_l1Values (hl : vs.length = 2) (h : wpV Try.prog (tH s121_20) (postV [.t 4] RV) (envV vs) M) : VCall Try.prog n_spec_l1Values vs M RV :=
  vcall_of_wp (fun _ _ _ hl h => acall_of_wp mixed Try.func121 c121 (by kernel_rfl) hl h) hl h
@[go_sem] def l91_0 (_ : Unit) : KL := [kB 4 (.mv (cI 0)) [0, 1]]
@[go_sem] def l91_1 (_ : Unit) : KL := [kA 5 (.mv (.t 0)),
  kA 6 (.mv (.t 1)),
  kA 7 (.call (n_spec_l1Values) [(.t 5), (.t 6)]),
  kA 8 (.mv (.t 0)),
  kB 9 (.len (.t 8)) [7, 9],
  kA 10 (.bin .sub (.t 9) (cI 1)),
  kA 11 (.iaddr (.t 7) (.t 10) 1),
  kA 12 (.load (.t 11) 1 false),
  kB 4 (.mv (.t 12)) [4]]
@[go_sem] def s91_2 (_ : Unit) : IR := (sQ [(kT l91_0), (kT l91_1), .ret])
theorem c91 : compFn Try.prog [(0, [], [oS [0, 1]]), (1, [], [oN, oN, oN, oN, oS [7, 9], oN, oN, oN, oS [4]])] Try.f91 = some ⟨2, 13, [.t 4], (tH s91_2)⟩ := by kernel_rfl
theorem v_spec_l2Last (hl : vs.length = 2) (h : wpV Try.prog (tH s91_2) (postV [.t 4] RV) (envV vs) M) : VCall Try.prog n_spec_l2Last vs M RV :=
  vcall_of_wp (fun _ _ _ hl h => acall_of_wp mixed Try.func91 c91 (by kernel_rfl) hl h) hl h
@[go_sem] def l49_0 (_ : Unit) : KL := [kA 3 (.box (.t 0)),
  kB 6 (.mv (.c (.sl none 0 0 true 0))) [1, 2, 3]]
@[go_sem] def l49_1 (_ : Unit) : KL := [kA 11 (.faddr (.t 3) 1),
  kA 12 (.load (.t 11) 1 false),
  kA 13 (.mv (.t 2)),
  kA 14 (.iaddr (.t 12) (.t 13) 3),
  kB 15 (.load (.t 14) 3 true) [1, 3, 15],
  kA 7 (.alloc [(.sl none 0 0 true 0), (.sl none 0 0 true 0), (.sl none 0 0 true 0)]),
  (⟨none, .store (.t 7) 3 (.t 15), none⟩, (some [1, 3, 7]))]
@[go_sem] def l49_2 (_ : Unit) : KL := [kA 16 (.faddr (.t 7) 0),
  kA 17 (.load (.t 16) 1 false),
  kA 18 (.mv (.t 1)),
  kA 19 (.call (n_spec_l2Last) [(.t 17), (.t 18)]),
  kB 20 (.bin .eql (.t 19) (cI 0)) [1, 3, 7, 20]]
@[go_sem] def l49_3 (_ : Unit) : KL := [kB 6 (.mv (.c (.sl none 0 0 true 0))) [6]]
@[go_sem] def s49_4 (_ : Unit) : IR := (sQ [(kT l49_3), .ret])
@[go_sem] def s49_5 (_ : Unit) : IR := (sQ [(kT l49_2), (.cond (.t 20) (tH s49_4) .skip)])
@[go_sem] def l49_6 (_ : Unit) : KL := [kA 21 (.bslc 1 0 [(.int .i64 0)] []),
  kB 8 (.mv (.t 21)) [1, 3, 7, 8]]
@[go_sem] def l49_7 (_ : Unit) : KL := [kB 9 (.mv (cI 0)) [1, 3, 7, 8, 9]]
@[go_sem] def l49_8 (_ : Unit) : KL := [kA 22 (.mv (.t 9)),
  kA 23 (.mv (.t 1)),
  kA 24 (.len (.t 23)),
  kB 25 (.bin .lss (.t 22) (.t 24)) [1, 3, 7, 8, 9, 25]]
@[go_sem] def s49_9 (_ : Unit) : IR := (sQ [(kT l49_8), (.cond (.t 25) .skip (.exit 0))])
@[go_sem] def l49_10 (_ : Unit) : KL := [kA 28 (.mv (.t 8)),
  kA 29 (.mv (.t 1)),
  kA 30 (.mv (.t 9)),
  kA 31 (.iaddr (.t 29) (.t 30) 1),
  kB 32 (.load (.t 31) 1 false) [1, 3, 7, 9, 28, 32],
  kA 33 (.bslc 1 1 [(.int .i64 0)] [(0, (.t 32))]),
  kA 34 (.app 1 8 (.t 28) (.t 33)),
  kB 8 (.mv (.t 34)) [1, 3, 7, 8, 9]]
@[go_sem] def s49_11 (_ : Unit) : IR := (.block 1 (kT l49_10))
@[go_sem] def l49_12 (_ : Unit) : KL := [kA 26 (.mv (.t 9)),
  kA 27 (.bin .add (.t 26) (cI 1)),
  kB 9 (.mv (.t 27)) [1, 3, 7, 8, 9]]
@[go_sem] def s49_13 (_ : Unit) : IR := (sQ [(tH s49_9), (tH s49_11), (kT l49_12)])
@[go_sem] def s49_14 (_ : Unit) : IR := (.loop (tH s49_13))
@[go_sem] def s49_15 (_ : Unit) : IR := (.block 0 (tH s49_14))
@[go_sem] def s49_16 (_ : Unit) : IR := (sQ [(kT l49_7), (tH s49_15)])
@[go_sem] def l49_17 (_ : Unit) : KL := [kB 10 (.mv (cI 0)) [1, 3, 7, 8, 10]]
@[go_sem] def l49_18 (_ : Unit) : KL := [kA 35 (.mv (.t 10)),
  kA 36 (.faddr (.t 7) 1),
  kA 37 (.load (.t 36) 1 false),
  kA 38 (.len (.t 37)),
  kB 39 (.bin .lss (.t 35) (.t 38)) [1, 3, 7, 8, 10, 39]]
@[go_sem] def s49_19 (_ : Unit) : IR := (sQ [(kT l49_18), (.cond (.t 39) .skip (.exit 2))])
@[go_sem] def l49_20 : Nat → GOp
  | 0 => ⟨(some 42), .mv (.t 8), none⟩
  | 1 => ⟨(some 43), .faddr (.t 7) 1, none⟩
  | 2 => ⟨(some 44), .load (.t 43) 1 false, none⟩
  | 3 => ⟨(some 45), .mv (.t 10), none⟩
  | 4 => ⟨(some 46), .iaddr (.t 44) (.t 45) 1, none⟩
  | 5 => ⟨(some 47), .load (.t 46) 1 false, none⟩
  | 6 => ⟨(some 48), .faddr (.t 7) 2, none⟩
  | 7 => ⟨(some 49), .load (.t 48) 1 false, none⟩
  | 8 => ⟨(some 50), .mv (.t 10), none⟩
  | 9 => ⟨(some 51), .iaddr (.t 49) (.t 50) 1, none⟩
  | 10 => ⟨(some 52), .load (.t 51) 1 false, none⟩
  | 11 => ⟨(some 53), .mv (.t 1), none⟩
  | 12 => ⟨(some 54), .call (n_spec_l2Last) [(.t 52), (.t 53)], none⟩
  | 13 => ⟨(some 55), .iaddr (.t 42) (.t 47) 1, none⟩
  | 14 => ⟨none, .store (.t 55) 1 (.t 54), none⟩
  | _ => ⟨none, .mkmap, none⟩
@[go_sem] def s49_21 (_ : Unit) : IR := (.block 3 (.kd (oF l49_20 15) [(0, []), (1, []), (2, []), (3, []), (4, []), (5, []), (6, []), (7, []), (8, []), (9, []), (10, []), (11, []), (12, [2, 5]), (13, []), (14, [])] [1, 3, 7, 8, 10]))
@[go_sem] def l49_22 (_ : Unit) : KL := [kA 40 (.mv (.t 10)),
  kA 41 (.bin .add (.t 40) (cI 1)),
  kB 10 (.mv (.t 41)) [1, 3, 7, 8, 10]]
@[go_sem] def s49_23 (_ : Unit) : IR := (sQ [(tH s49_19), (tH s49_21), (kT l49_22)])
@[go_sem] def s49_24 (_ : Unit) : IR := (.loop (tH s49_23))
@[go_sem] def s49_25 (_ : Unit) : IR := (.block 2 (tH s49_24))
@[go_sem] def s49_26 (_ : Unit) : IR := (sQ [(kT l49_17), (tH s49_25)])
@[go_sem] def l49_27 (_ : Unit) : KL := [kA 56 (.load (.t 3) 2 true),
  kA 57 (.mv (.t 8)),
  kA 58 (.call (n_spec_l2In) [(.t 56), (.t 57)]),
  kB 59 (.un .not (.t 58)) [8, 59]]
@[go_sem] def l49_28 (_ : Unit) : KL := [kB 6 (.mv (.c (.sl none 0 0 true 0))) [6]]
@[go_sem] def s49_29 (_ : Unit) : IR := (sQ [(kT l49_28), .ret])
@[go_sem] def s49_30 (_ : Unit) : IR := (sQ [(kT l49_27), (.cond (.t 59) (tH s49_29) .skip)])
@[go_sem] def l49_31 (_ : Unit) : KL := [kA 60 (.mv (.t 8)),
  kB 6 (.mv (.t 60)) [6]]
@[go_sem] def s49_32 (_ : Unit) : IR := (sQ [(kT l49_0), (kT l49_1), (tH s49_5), (kT l49_6), (tH s49_16), (tH s49_26), (tH s49_30), (kT l49_31), .ret])
theorem c49 : compFn Try.prog [(0, [], [oN, oS [1, 2, 3]]), (1, [], [oN, oN, oN, oN, oS [1, 3, 15], oN, oS [1, 3, 7]]), (2, [], [oN, oN, oN, oN, oS [1, 3, 7, 20]]), (3, [], [oS [6]]), (4, [], [oN, oS [1, 3, 7, 8]]), (5, [], [oS [1, 3, 7, 8, 9]]), (6, [], [oN, oN, oN, oS [1, 3, 7, 8, 9, 25]]), (8, [], [oN, oN, oN, oN, oS [1, 3, 7, 9, 28, 32], oN, oN, oS [1, 3, 7, 8, 9]]), (7, [], [oN, oN, oS [1, 3, 7, 8, 9]]), (9, [], [oS [1, 3, 7, 8, 10]]), (10, [], [oN, oN, oN, oN, oS [1, 3, 7, 8, 10, 39]]), (12, [(0, []), (1, []), (2, []), (3, []), (4, []), (5, []), (6, []), (7, []), (8, []), (9, []), (10, []), (11, []), (12, [2, 5]), (13, []), (14, [])], [oS [1, 3, 7, 8, 10]]), (11, [], [oN, oN, oS [1, 3, 7, 8, 10]]), (13, [], [oN, oN, oN, oS [8, 59]]), (14, [], [oS [6]]), (15, [], [oN, oS [6]])] Try.f49 = some ⟨3, 61, [.t 6], (tH s49_32)⟩ := by kernel_rfl
theorem v_spec_l2Use (hl : vs.length = 3) (h : wpV Try.prog (tH s49_32) (postV [.t 6] RV) (envV vs) M) : VCall Try.prog n_spec_l2Use vs M RV :=
  vcall_of_wp (fun _ _ _ hl h => acall_of_wp mixed Try.func49 c49 (by kernel_rfl) hl h) hl h
@[go_sem] def l57_0 (_ : Unit) : KL := [kA 3 (.box (.t 0)),
  kB 6 (.mv (cI 0)) [1, 2, 3]]
@[go_sem] def l57_1 (_ : Unit) : KL := [kB 7 (.mv (cI 0)) [1, 2, 3, 7]]
@[go_sem] def l57_2 (_ : Unit) : KL := [kA 9 (.mv (.t 7)),
  kA 10 (.faddr (.t 3) 1),
  kA 11 (.load (.t 10) 1 false),
  kA 12 (.len (.t 11)),
  kB 13 (.bin .lss (.t 9) (.t 12)) [1, 2, 3, 7, 13]]
@[go_sem] def s57_3 (_ : Unit) : IR := (sQ [(kT l57_2), (.cond (.t 13) .skip (.exit 0))])
@[go_sem] def l57_4 (_ : Unit) : KL := [kA 16 (.load (.t 3) 2 true),
  kA 17 (.mv (.t 1)),
  kA 18 (.mv (.t 7)),
  kA 19 (.call (n_spec_l2Use) [(.t 16), (.t 17), (.t 18)]),
  kB 8 (.mv (.t 19)) [1, 2, 3, 7, 8]]
@[go_sem] def l57_5 (_ : Unit) : KL := [kA 20 (.mv (.t 8)),
  kA 21 (.len (.t 20)),
  kA 22 (.bin .gtr (.t 21) (cI 0)),
  kA 23 (.mv (.t 22)),
  (⟨(some 24), .mv (.t 8), (some (23, true))⟩, (some [1, 2, 3, 7, 23, 24])),
  (⟨(some 25), .mv (.t 2), (some (23, true))⟩, none),
  (⟨(some 26), .call (n_spec_l2Same) [(.t 24), (.t 25)], (some (23, true))⟩, none),
  kB 27 (.pick (.t 23) (.t 26) (.c (.bool false))) [1, 2, 3, 7, 27]]
@[go_sem] def l57_6 (_ : Unit) : KL := [kA 28 (.mv (.t 7)),
  kB 6 (.mv (.t 28)) [6]]
@[go_sem] def s57_7 (_ : Unit) : IR := (sQ [(kT l57_6), .ret])
@[go_sem] def s57_8 (_ : Unit) : IR := (sQ [(kT l57_4), (kT l57_5), (.cond (.t 27) (tH s57_7) .skip)])
@[go_sem] def s57_9 (_ : Unit) : IR := (.block 1 (tH s57_8))
@[go_sem] def l57_10 (_ : Unit) : KL := [kA 14 (.mv (.t 7)),
  kA 15 (.bin .add (.t 14) (cI 1)),
  kB 7 (.mv (.t 15)) [1, 2, 3, 7]]
@[go_sem] def s57_11 (_ : Unit) : IR := (sQ [(tH s57_3), (tH s57_9), (kT l57_10)])
@[go_sem] def s57_12 (_ : Unit) : IR := (.loop (tH s57_11))
@[go_sem] def s57_13 (_ : Unit) : IR := (.block 0 (tH s57_12))
@[go_sem] def s57_14 (_ : Unit) : IR := (sQ [(kT l57_1), (tH s57_13)])
@[go_sem] def l57_15 (_ : Unit) : KL := [kB 6 (.mv (.c (.int .i64 (-1)))) [6]]
@[go_sem] def s57_16 (_ : Unit) : IR := (sQ [(kT l57_0), (tH s57_14), (kT l57_15), .ret])
theorem c57 : compFn Try.prog [(0, [], [oN, oS [1, 2, 3]]), (1, [], [oS [1, 2, 3, 7]]), (2, [], [oN, oN, oN, oN, oS [1, 2, 3, 7, 13]]), (4, [], [oN, oN, oN, oN, oS [1, 2, 3, 7, 8]]), (5, [], [oN, oN, oN, oN, oS [1, 2, 3, 7, 23, 24], oN, oN, oS [1, 2, 3, 7, 27]]), (6, [], [oN, oS [6]]), (3, [], [oN, oN, oS [1, 2, 3, 7]]), (7, [], [oS [6]])] Try.f57 = some ⟨3, 29, [.t 6], (tH s57_16)⟩ := by kernel_rfl
theorem v_spec_l3Between (hl : vs.length = 3) (h : wpV Try.prog (tH s57_16) (postV [.t 6] RV) (envV vs) M) : VCall Try.prog n_spec_l3Between vs M RV :=
  vcall_of_wp (fun _ _ _ hl h => acall_of_wp mixed Try.func57 c57 (by kernel_rfl) hl h) hl h
@[go_sem] def l23_0 (_ : Unit) : KL := [kA 2 (.box (.t 0)),
  kA 4 (.alloc [(.sl none 0 0 true 0), (.sl none 0 0 true 0)]),
  kB 5 (.mv (.c (.bool false))) [1, 2, 4]]
@[go_sem] def l23_1 : Nat → GOp
  | 0 => ⟨(some 9), .load (.t 2) 2 true, none⟩
  | 1 => ⟨(some 10), .call (n_spec_SystemValid) [(.t 9)], none⟩
  | 2 => ⟨(some 11), .un .not (.t 10), none⟩
  | 3 => ⟨(some 12), .mv (.t 11), none⟩
  | 4 => ⟨(some 13), .mv (.t 1), (some (12, false))⟩
  | 5 => ⟨(some 14), .len (.t 13), (some (12, false))⟩
  | 6 => ⟨(some 15), .call (n_spec_l1In) [(.t 14), (cI 1), (.c (.int .i64 500))], (some (12, false))⟩
  | 7 => ⟨(some 16), .un .not (.t 15), (some (12, false))⟩
  | 8 => ⟨(some 17), .pick (.t 12) (.c (.bool true)) (.t 16), none⟩
  | 9 => ⟨(some 18), .mv (.t 17), none⟩
  | 10 => ⟨(some 19), .mv (.t 1), (some (18, false))⟩
  | 11 => ⟨(some 20), .iaddr (.t 19) (cI 0) 1, (some (18, false))⟩
  | 12 => ⟨(some 21), .load (.t 20) 1 false, (some (18, false))⟩
  | 13 => ⟨(some 22), .load (.t 2) 2 true, (some (18, false))⟩
  | 14 => ⟨(some 23), .call (n_spec_FirstState) [(.t 22)], (some (18, false))⟩
  | 15 => ⟨(some 24), .call (n_spec_l2Same) [(.t 21), (.t 23)], (some (18, false))⟩
  | 16 => ⟨(some 25), .un .not (.t 24), (some (18, false))⟩
  | 17 => ⟨(some 26), .pick (.t 18) (.c (.bool true)) (.t 25), none⟩
  | _ => ⟨none, .mkmap, none⟩
@[go_sem] def l23_2 (_ : Unit) : KL := [kA 27 (.bld [(.sl none 0 0 true 0), (.sl none 0 0 true 0)] []),
  (⟨none, .store (.t 4) 2 (.t 27), none⟩, none),
  kB 5 (.mv (.c (.bool false))) [4, 5]]
@[go_sem] def s23_3 (_ : Unit) : IR := (sQ [(kT l23_2), .ret])
@[go_sem] def s23_4 (_ : Unit) : IR := (sQ [(.kd (oF l23_1 18) [(0, []), (1, []), (2, []), (3, []), (4, []), (5, []), (6, []), (7, []), (8, []), (9, []), (10, []), (11, []), (12, []), (13, []), (14, [12]), (15, []), (16, []), (17, [])] [1, 2, 4, 26]), (.cond (.t 26) (tH s23_3) .skip)])
@[go_sem] def l23_5 (_ : Unit) : KL := [kA 28 (.mv (.t 1)),
  kA 29 (.iaddr (.t 28) (cI 0) 1),
  kA 30 (.load (.t 29) 1 false),
  kA 31 (.call (n_spec_l3Copy) [(.t 30)]),
  kB 32 (.bslc 1 1 [(.sl none 0 0 true 0)] [(0, (.t 31))]) [1, 2, 4, 32],
  kA 33 (.bld [(.sl none 0 0 true 0), (.sl none 0 0 true 0)] [(0, 1, (.t 32))]),
  kA 6 (.alloc [(.sl none 0 0 true 0), (.sl none 0 0 true 0)]),
  (⟨none, .store (.t 6) 2 (.t 33), none⟩, (some [1, 2, 4, 6]))]
@[go_sem] def l23_6 (_ : Unit) : KL := [kB 7 (.mv (cI 1)) [1, 2, 4, 6, 7]]
@[go_sem] def l23_7 (_ : Unit) : KL := [kA 34 (.mv (.t 7)),
  kA 35 (.mv (.t 1)),
  kA 36 (.len (.t 35)),
  kB 37 (.bin .lss (.t 34) (.t 36)) [1, 2, 4, 6, 7, 37]]
@[go_sem] def s23_8 (_ : Unit) : IR := (sQ [(kT l23_7), (.cond (.t 37) .skip (.exit 0))])
@[go_sem] def l23_9 : Nat → GOp
  | 0 => ⟨(some 40), .load (.t 2) 2 true, none⟩
  | 1 => ⟨(some 41), .mv (.t 1), none⟩
  | 2 => ⟨(some 42), .mv (.t 7), none⟩
  | 3 => ⟨(some 43), .iaddr (.t 41) (.t 42) 1, none⟩
  | 4 => ⟨(some 44), .load (.t 43) 1 false, none⟩
  | 5 => ⟨(some 45), .call (n_spec_l2In) [(.t 40), (.t 44)], none⟩
  | 6 => ⟨(some 46), .un .not (.t 45), none⟩
  | _ => ⟨none, .mkmap, none⟩
@[go_sem] def l23_10 (_ : Unit) : KL := [kA 47 (.bld [(.sl none 0 0 true 0), (.sl none 0 0 true 0)] []),
  (⟨none, .store (.t 4) 2 (.t 47), none⟩, none),
  kB 5 (.mv (.c (.bool false))) [4, 5]]
@[go_sem] def s23_11 (_ : Unit) : IR := (sQ [(kT l23_10), .ret])
@[go_sem] def s23_12 (_ : Unit) : IR := (sQ [(.kd (oF l23_9 7) [(0, []), (1, []), (2, []), (3, []), (4, []), (5, []), (6, [])] [1, 2, 4, 6, 7, 46]), (.cond (.t 46) (tH s23_11) .skip)])
@[go_sem] def l23_13 : Nat → GOp
  | 0 => ⟨(some 48), .load (.t 2) 2 true, none⟩
  | 1 => ⟨(some 49), .mv (.t 1), none⟩
  | 2 => ⟨(some 50), .mv (.t 7), none⟩
  | 3 => ⟨(some 51), .bin .sub (.t 50) (cI 1), none⟩
  | 4 => ⟨(some 52), .iaddr (.t 49) (.t 51) 1, none⟩
  | 5 => ⟨(some 53), .load (.t 52) 1 false, none⟩
  | 6 => ⟨(some 54), .mv (.t 1), none⟩
  | 7 => ⟨(some 55), .mv (.t 7), none⟩
  | 8 => ⟨(some 56), .iaddr (.t 54) (.t 55) 1, none⟩
  | 9 => ⟨(some 57), .load (.t 56) 1 false, none⟩
  | 10 => ⟨(some 58), .call (n_spec_l3Between) [(.t 48), (.t 53), (.t 57)], none⟩
  | 11 => ⟨(some 8), .mv (.t 58), none⟩
  | _ => ⟨none, .mkmap, none⟩
@[go_sem] def l23_14 (_ : Unit) : KL := [kA 59 (.mv (.t 8)),
  kB 60 (.bin .lss (.t 59) (cI 0)) [1, 2, 4, 6, 7, 8, 60]]
@[go_sem] def l23_15 (_ : Unit) : KL := [kA 61 (.bld [(.sl none 0 0 true 0), (.sl none 0 0 true 0)] []),
  (⟨none, .store (.t 4) 2 (.t 61), none⟩, none),
  kB 5 (.mv (.c (.bool false))) [4, 5]]
@[go_sem] def s23_16 (_ : Unit) : IR := (sQ [(kT l23_15), .ret])
@[go_sem] def s23_17 (_ : Unit) : IR := (sQ [(kT l23_14), (.cond (.t 60) (tH s23_16) .skip)])
@[go_sem] def l23_18 : Nat → GOp
  | 0 => ⟨(some 62), .faddr (.t 6) 0, none⟩
  | 1 => ⟨(some 63), .load (.t 62) 1 false, none⟩
  | 2 => ⟨(some 64), .mv (.t 1), none⟩
  | 3 => ⟨(some 65), .mv (.t 7), none⟩
  | 4 => ⟨(some 66), .iaddr (.t 64) (.t 65) 1, none⟩
  | 5 => ⟨(some 67), .load (.t 66) 1 false, none⟩
  | 6 => ⟨(some 68), .call (n_spec_l3Copy) [(.t 67)], none⟩
  | 7 => ⟨(some 69), .bslc 1 1 [(.sl none 0 0 true 0)] [(0, (.t 68))], none⟩
  | 8 => ⟨(some 70), .app 1 24 (.t 63) (.t 69), none⟩
  | 9 => ⟨(some 71), .faddr (.t 6) 0, none⟩
  | 10 => ⟨none, .store (.t 71) 1 (.t 70), none⟩
  | _ => ⟨none, .mkmap, none⟩
@[go_sem] def l23_19 (_ : Unit) : KL := [kA 72 (.faddr (.t 6) 1),
  kA 73 (.load (.t 72) 1 false),
  kA 74 (.mv (.t 8)),
  kA 75 (.bslc 1 1 [(.int .i64 0)] [(0, (.t 74))]),
  kB 76 (.app 1 8 (.t 73) (.t 75)) [1, 2, 4, 6, 7, 76],
  kA 77 (.faddr (.t 6) 1),
  (⟨none, .store (.t 77) 1 (.t 76), none⟩, (some [1, 2, 4, 6, 7]))]
@[go_sem] def s23_20 (_ : Unit) : IR := (sQ [(tH s23_12), (.kd (oF l23_13 12) [(0, []), (1, []), (2, []), (3, []), (4, []), (5, []), (6, []), (7, []), (8, []), (9, []), (10, []), (11, [])] [1, 2, 4, 6, 7, 8]), (tH s23_17), (.kd (oF l23_18 11) [(0, []), (1, []), (2, []), (3, []), (4, []), (5, []), (6, [1]), (7, []), (8, []), (9, []), (10, [])] [1, 2, 4, 6, 7, 8]), (kT l23_19)])
@[go_sem] def s23_21 (_ : Unit) : IR := (.block 1 (tH s23_20))
@[go_sem] def l23_22 (_ : Unit) : KL := [kA 38 (.mv (.t 7)),
  kA 39 (.bin .add (.t 38) (cI 1)),
  kB 7 (.mv (.t 39)) [1, 2, 4, 6, 7]]
@[go_sem] def s23_23 (_ : Unit) : IR := (sQ [(tH s23_8), (tH s23_21), (kT l23_22)])
@[go_sem] def s23_24 (_ : Unit) : IR := (.loop (tH s23_23))
@[go_sem] def s23_25 (_ : Unit) : IR := (.block 0 (tH s23_24))
@[go_sem] def s23_26 (_ : Unit) : IR := (sQ [(kT l23_6), (tH s23_25)])
@[go_sem] def l23_27 (_ : Unit) : KL := [kA 78 (.load (.t 6) 2 true),
  (⟨none, .store (.t 4) 2 (.t 78), none⟩, none),
  kB 5 (.mv (.c (.bool true))) [4, 5]]
@[go_sem] def s23_28 (_ : Unit) : IR := (sQ [(kT l23_0), (tH s23_4), (kT l23_5), (tH s23_26), (kT l23_27), .ret])
theorem c23 : compFn Try.prog [(0, [], [oN, oN, oS [1, 2, 4]]), (1, [(0, []), (1, []), (2, []), (3, []), (4, []), (5, []), (6, []), (7, []), (8, []), (9, []), (10, []), (11, []), (12, []), (13, []), (14, [12]), (15, []), (16, []), (17, [])], [oS [1, 2, 4, 26]]), (2, [], [oN, oN, oS [4, 5]]), (3, [], [oN, oN, oN, oN, oS [1, 2, 4, 32], oN, oN, oS [1, 2, 4, 6]]), (4, [], [oS [1, 2, 4, 6, 7]]), (5, [], [oN, oN, oN, oS [1, 2, 4, 6, 7, 37]]), (7, [(0, []), (1, []), (2, []), (3, []), (4, []), (5, []), (6, [])], [oS [1, 2, 4, 6, 7, 46]]), (8, [], [oN, oN, oS [4, 5]]), (9, [(0, []), (1, []), (2, []), (3, []), (4, []), (5, []), (6, []), (7, []), (8, []), (9, []), (10, []), (11, [])], [oS [1, 2, 4, 6, 7, 8]]), (10, [], [oN, oS [1, 2, 4, 6, 7, 8, 60]]), (11, [], [oN, oN, oS [4, 5]]), (12, [(0, []), (1, []), (2, []), (3, []), (4, []), (5, []), (6, [1]), (7, []), (8, []), (9, []), (10, [])], [oS [1, 2, 4, 6, 7, 8]]), (13, [], [oN, oN, oN, oN, oS [1, 2, 4, 6, 7, 76], oN, oS [1, 2, 4, 6, 7]]), (6, [], [oN, oN, oS [1, 2, 4, 6, 7]]), (14, [], [oN, oN, oS [4, 5]])] Try.f23 = some ⟨2, 79, [.c 4 2 true, .t 5], (tH s23_28)⟩ := by kernel_rfl
theorem v_spec_TraceOf (hl : vs.length = 2) (h : wpV Try.prog (tH s23_28) (postV [.c 4 2 true, .t 5] RV) (envV vs) M) : VCall Try.prog n_spec_TraceOf vs M RV :=
  vcall_of_wp (fun _ _ _ hl h => acall_of_wp mixed Try.func23 c23 (by kernel_rfl) hl h) hl h
@[go_sem] def l59_0 (_ : Unit) : KL := [kB 6 (.mv (.c (.bool false))) [0, 1, 2]]
@[go_sem] def l59_1 (_ : Unit) : KL := [kA 7 (.mv (.t 0)),
  kA 8 (.mv (.t 1)),
  kA 9 (.bin .geq (.t 7) (.t 8)),
  kA 10 (.mv (.t 9)),
  (⟨(some 11), .mv (.t 0), (some (10, true))⟩, (some [2, 10, 11])),
  (⟨(some 12), .mv (.t 2), (some (10, true))⟩, none),
  (⟨(some 13), .bin .leq (.t 11) (.t 12), (some (10, true))⟩, none),
  kA 14 (.pick (.t 10) (.t 13) (.c (.bool false))),
  kB 6 (.mv (.t 14)) [6]]
@[go_sem] def s59_2 (_ : Unit) : IR := (sQ [(kT l59_0), (kT l59_1), .ret])
theorem c59 : compFn Try.prog [(0, [], [oS [0, 1, 2]]), (1, [], [oN, oN, oN, oN, oS [2, 10, 11], oN, oN, oN, oS [6]])] Try.f59 = some ⟨3, 15, [.t 6], (tH s59_2)⟩ := by kernel_rfl
theorem v_impl_in (hl : vs.length = 3) (h : wpV Try.prog (tH s59_2) (postV [.t 6] RV) (envV vs) M) : VCall Try.prog n_impl_in vs M RV :=
  vcall_of_wp (fun _ _ _ hl h => acall_of_wp mixed Try.func59 c59 (by kernel_rfl) hl h) hl h
@[go_sem] def l123_0 (_ : Unit) : KL := [kB 4 (.mv (cI 0)) [0, 1]]
@[go_sem] def l123_1 (_ : Unit) : KL := [kA 6 (.mv (.t 0)),
  kA 7 (.len (.t 6)),
  kB 8 (.mv (cI 0)) [0, 1, 7, 8]]
@[go_sem] def l123_2 (_ : Unit) : KL := [kB 9 (.bin .lss (.t 8) (.t 7)) [0, 1, 7, 8, 9]]
@[go_sem] def l123_3 (_ : Unit) : KL := [kA 10 (.mv (.t 8)),
  kB 5 (.mv (.t 10)) [0, 1, 5, 7, 8]]
@[go_sem] def l123_4 (_ : Unit) : KL := [kA 11 (.mv (.t 1)),
  kA 12 (.mv (.t 0)),
  kA 13 (.mv (.t 5)),
  kA 14 (.iaddr (.t 12) (.t 13) 3),
  kB 15 (.load (.t 14) 3 true) [0, 1, 5, 7, 8, 11, 15],
  kB 16 (.callv (.t 11) [(.t 15)]) [0, 1, 5, 7, 8, 16]]
@[go_sem] def l123_5 (_ : Unit) : KL := [kA 17 (.mv (.t 5)),
  kB 4 (.mv (.t 17)) [4]]
@[go_sem] def s123_6 (_ : Unit) : IR := (sQ [(kT l123_5), .ret])
@[go_sem] def s123_7 (_ : Unit) : IR := (sQ [(kT l123_3), (kT l123_4), (.cond (.t 16) (tH s123_6) .skip)])
@[go_sem] def s123_8 (_ : Unit) : IR := (.block 1 (tH s123_7))
@[go_sem] def l123_9 (_ : Unit) : KL := [kA 18 (.bin .add (.t 8) (cI 1)),
  kB 8 (.mv (.t 18)) [0, 1, 7, 8]]
@[go_sem] def s123_10 (_ : Unit) : IR := (sQ [(kT l123_2), (.cond (.t 9) .skip (.exit 0)), (tH s123_8), (kT l123_9)])
@[go_sem] def s123_11 (_ : Unit) : IR := (.loop (tH s123_10))
@[go_sem] def s123_12 (_ : Unit) : IR := (.block 0 (tH s123_11))
@[go_sem] def s123_13 (_ : Unit) : IR := (sQ [(kT l123_1), (tH s123_12)])
@[go_sem] def l123_14 (_ : Unit) : KL := [kB 4 (.mv (.c (.int .i64 (-1)))) [4]]
@[go_sem] def s123_15 (_ : Unit) : IR := (sQ [(kT l123_0), (tH s123_13), (kT l123_14), .ret])
theorem c123 : compFn Try.prog [(0, [], [oS [0, 1]]), (1, [], [oN, oN, oS [0, 1, 7, 8]]), (2, [], [oS [0, 1, 7, 8, 9]]), (3, [], [oN, oS [0, 1, 5, 7, 8]]), (4, [], [oN, oN, oN, oN, oS [0, 1, 5, 7, 8, 11, 15], oS [0, 1, 5, 7, 8, 16]]), (5, [], [oN, oS [4]]), (6, [], [oN, oS [0, 1, 7, 8]]), (7, [], [oS [4]])] Try.f123 = some ⟨2, 19, [.t 4], (tH s123_15)⟩ := by kernel_rfl
theorem v_slices_IndexFunc_Simpl_Var_impl_Var (hl : vs.length = 2) (h : wpV Try.prog (tH s123_15) (postV [.t 4] RV) (envV vs) M) : VCall Try.prog n_slices_IndexFunc_Simpl_Var_impl_Var vs M RV :=
  vcall_of_wp (fun _ _ _ hl h => acall_of_wp mixed Try.func123 c123 (by kernel_rfl) hl h) hl h
@[go_sem] def l95_0 (_ : Unit) : KL := [kB 4 (.mv (.c (.bool false))) [0, 1]]
@[go_sem] def l95_1 (_ : Unit) : KL := [kA 5 (.mv (.t 0)),
  kA 6 (.mv (.t 1)),
  kA 7 (.call (n_slices_IndexFunc_Simpl_Var_impl_Var) [(.t 5), (.t 6)]),
  kA 8 (.bin .geq (.t 7) (cI 0)),
  kB 4 (.mv (.t 8)) [4]]
@[go_sem] def s95_2 (_ : Unit) : IR := (sQ [(kT l95_0), (kT l95_1), .ret])
theorem c95 : compFn Try.prog [(0, [], [oS [0, 1]]), (1, [], [oN, oN, oN, oN, oS [4]])] Try.f95 = some ⟨2, 9, [.t 4], (tH s95_2)⟩ := by kernel_rfl
theorem v_slices_ContainsFunc_Simpl_Var_impl_Var (hl : vs.length = 2) (h : wpV Try.prog (tH s95_2) (postV [.t 4] RV) (envV vs) M) : VCall Try.prog n_slices_ContainsFunc_Simpl_Var_impl_Var vs M RV :=
  vcall_of_wp (fun _ _ _ hl h => acall_of_wp mixed Try.func95 c95 (by kernel_rfl) hl h) hl h
@[go_sem] def l97_0 (_ : Unit) : KL := [kA 1 (.box (.t 0)),
  kB 2 (.mv (.c (.bool false))) [1]]
@[go_sem] def l97_1 (_ : Unit) : KL := [kA 3 (.faddr (.t 1) 0),
  kA 4 (.load (.t 3) 1 false),
  kA 5 (.call (n_impl_in) [(.t 4), (.c (.int .i64 (-9999))), (.c (.int .i64 9999))]),
  kA 6 (.mv (.t 5)),
  (⟨(some 7), .faddr (.t 1) 1, (some (6, true))⟩, (some [1, 6, 7])),
  (⟨(some 8), .load (.t 7) 1 false, (some (6, true))⟩, none),
  (⟨(some 9), .faddr (.t 1) 0, (some (6, true))⟩, none),
  (⟨(some 10), .load (.t 9) 1 false, (some (6, true))⟩, none),
  (⟨(some 11), .call (n_impl_in) [(.t 8), (.t 10), (.c (.int .i64 9999))], (some (6, true))⟩, none),
  kB 12 (.pick (.t 6) (.t 11) (.c (.bool false))) [1, 12],
  kA 13 (.mv (.t 12)),
  (⟨(some 14), .faddr (.t 1) 1, (some (13, true))⟩, none),
  (⟨(some 15), .load (.t 14) 1 false, (some (13, true))⟩, none),
  (⟨(some 16), .faddr (.t 1) 0, (some (13, true))⟩, none),
  (⟨(some 17), .load (.t 16) 1 false, (some (13, true))⟩, (some [1, 13, 15, 17])),
  (⟨(some 18), .bin .sub (.t 15) (.t 17), (some (13, true))⟩, none),
  (⟨(some 19), .bin .lss (.t 18) (.c (.int .i64 20)), (some (13, true))⟩, none),
  kA 20 (.pick (.t 13) (.t 19) (.c (.bool false))),
  kA 21 (.mv (.t 20)),
  (⟨(some 22), .faddr (.t 1) 2, (some (21, true))⟩, (some [1, 21, 22])),
  (⟨(some 23), .load (.t 22) 1 false, (some (21, true))⟩, none),
  (⟨(some 24), .faddr (.t 1) 0, (some (21, true))⟩, none),
  (⟨(some 25), .load (.t 24) 1 false, (some (21, true))⟩, none),
  (⟨(some 26), .faddr (.t 1) 1, (some (21, true))⟩, none),
  (⟨(some 27), .load (.t 26) 1 false, (some (21, true))⟩, (some [21, 23, 25, 27])),
  (⟨(some 28), .call (n_impl_in) [(.t 23), (.t 25), (.t 27)], (some (21, true))⟩, none),
  kA 29 (.pick (.t 21) (.t 28) (.c (.bool false))),
  kB 2 (.mv (.t 29)) [2]]
@[go_sem] def s97_2 (_ : Unit) : IR := (sQ [(kT l97_0), (kT l97_1), .ret])
theorem c97 : compFn Try.prog [(0, [], [oN, oS [1]]), (1, [], [oN, oN, oN, oN, oS [1, 6, 7], oN, oN, oN, oN, oS [1, 12], oN, oN, oN, oN, oS [1, 13, 15, 17], oN, oN, oN, oN, oS [1, 21, 22], oN, oN, oN, oN, oS [21, 23, 25, 27], oN, oN, oS [2]])] Try.f97 = some ⟨1, 30, [.t 2], (tH s97_2)⟩ := by kernel_rfl
theorem v_impl_varOk (hl : vs.length = 1) (h : wpV Try.prog (tH s97_2) (postV [.t 2] RV) (envV vs) M) : VCall Try.prog n_impl_varOk vs M RV :=
  vcall_of_wp (fun _ _ _ hl h => acall_of_wp mixed Try.func97 c97 (by kernel_rfl) hl h) hl h
@[go_sem] def l96_0 (_ : Unit) : KL := [kA 1 (.box (.t 0)),
  kB 2 (.mv (.c (.bool false))) [1]]
@[go_sem] def l96_1 (_ : Unit) : KL := [kA 3 (.load (.t 1) 3 true),
  kA 4 (.call (n_impl_varOk) [(.t 3)]),
  kA 5 (.un .not (.t 4)),
  kB 2 (.mv (.t 5)) [2]]
@[go_sem] def s96_2 (_ : Unit) : IR := (sQ [(kT l96_0), (kT l96_1), .ret])
theorem c96 : compFn Try.prog [(0, [], [oN, oS [1]]), (1, [], [oN, oN, oN, oS [2]])] Try.f96 = some ⟨1, 6, [.t 2], (tH s96_2)⟩ := by kernel_rfl
theorem v_impl_SystemValid_1 (hl : vs.length = 1) (h : wpV Try.prog (tH s96_2) (postV [.t 2] RV) (envV vs) M) : VCall Try.prog n_impl_SystemValid_1 vs M RV :=
  vcall_of_wp (fun _ _ _ hl h => acall_of_wp mixed Try.func96 c96 (by kernel_rfl) hl h) hl h
@[go_sem] def l98_0 (_ : Unit) : KL := [kB 2 (.mv (cI 0)) [0]]
@[go_sem] def l98_1 (_ : Unit) : KL := [kB 3 (.mv (cI 1)) [0, 3]]
@[go_sem] def l98_2 (_ : Unit) : KL := [kA 6 (.mv (.t 0)),
  kA 7 (.len (.t 6)),
  kB 8 (.mv (cI 0)) [3, 6, 7, 8]]
@[go_sem] def l98_3 (_ : Unit) : KL := [kB 9 (.bin .lss (.t 8) (.t 7)) [3, 6, 7, 8, 9]]
@[go_sem] def l98_4 (_ : Unit) : KL := [kA 10 (.iaddr (.t 6) (.t 8) 3),
  kA 11 (.load (.t 10) 3 true),
  kA 5 (.alloc [(.int .i64 0), (.int .i64 0), (.int .i64 0)]),
  (⟨none, .store (.t 5) 3 (.t 11), none⟩, (some [3, 5, 6, 7, 8]))]
@[go_sem] def l98_5 (_ : Unit) : KL := [kA 12 (.mv (.t 3)),
  kA 13 (.faddr (.t 5) 1),
  kA 14 (.load (.t 13) 1 false),
  kA 15 (.faddr (.t 5) 0),
  kB 16 (.load (.t 15) 1 false) [6, 7, 8, 12, 14, 16],
  kA 17 (.bin .sub (.t 14) (.t 16)),
  kA 18 (.bin .add (.t 17) (cI 1)),
  kA 19 (.bin .mul (.t 12) (.t 18)),
  kB 3 (.mv (.t 19)) [3, 6, 7, 8]]
@[go_sem] def s98_6 (_ : Unit) : IR := (sQ [(kT l98_4), (kT l98_5)])
@[go_sem] def s98_7 (_ : Unit) : IR := (.block 1 (tH s98_6))
@[go_sem] def l98_8 (_ : Unit) : KL := [kA 20 (.bin .add (.t 8) (cI 1)),
  kB 8 (.mv (.t 20)) [3, 6, 7, 8]]
@[go_sem] def s98_9 (_ : Unit) : IR := (sQ [(kT l98_3), (.cond (.t 9) .skip (.exit 0)), (tH s98_7), (kT l98_8)])
@[go_sem] def s98_10 (_ : Unit) : IR := (.loop (tH s98_9))
@[go_sem] def s98_11 (_ : Unit) : IR := (.block 0 (tH s98_10))
@[go_sem] def s98_12 (_ : Unit) : IR := (sQ [(kT l98_2), (tH s98_11)])
@[go_sem] def l98_13 (_ : Unit) : KL := [kA 21 (.mv (.t 3)),
  kB 2 (.mv (.t 21)) [2]]
@[go_sem] def s98_14 (_ : Unit) : IR := (sQ [(kT l98_0), (kT l98_1), (tH s98_12), (kT l98_13), .ret])
theorem c98 : compFn Try.prog [(0, [], [oS [0]]), (1, [], [oS [0, 3]]), (2, [], [oN, oN, oS [3, 6, 7, 8]]), (3, [], [oS [3, 6, 7, 8, 9]]), (4, [], [oN, oN, oN, oS [3, 5, 6, 7, 8]]), (5, [], [oN, oN, oN, oN, oS [6, 7, 8, 12, 14, 16], oN, oN, oN, oS [3, 6, 7, 8]]), (6, [], [oN, oS [3, 6, 7, 8]]), (7, [], [oN, oS [2]])] Try.f98 = some ⟨1, 22, [.t 2], (tH s98_14)⟩ := by kernel_rfl
theorem v_impl_size (hl : vs.length = 1) (h : wpV Try.prog (tH s98_14) (postV [.t 2] RV) (envV vs) M) : VCall Try.prog n_impl_size vs M RV :=
  vcall_of_wp (fun _ _ _ hl h => acall_of_wp mixed Try.func98 c98 (by kernel_rfl) hl h) hl h
@[go_sem] def l140_0 (_ : Unit) : KL := [kA 2 (.mv (cI 0)),
  kA 3 (.mv (cI 0)),
  kB 4 (.mv (cI 0)) [0]]
@[go_sem] def l140_1 (_ : Unit) : KL := [kB 5 (.mv (.t 0)) [5]]
@[go_sem] def l140_2 (_ : Unit) : KL := [kA 7 (.bin .eql (.t 5) (.c (.int .i64 2))),
  kB 6 (.mv (.t 7)) [5, 6]]
@[go_sem] def l140_3 (_ : Unit) : KL := [kA 8 (.bin .eql (.t 5) (.c (.int .i64 3))),
  kB 6 (.mv (.t 8)) [5, 6]]
@[go_sem] def l140_4 (_ : Unit) : KL := [kA 9 (.bin .eql (.t 5) (.c (.int .i64 4))),
  kB 6 (.mv (.t 9)) [5, 6]]
@[go_sem] def s140_5 (_ : Unit) : IR := (sQ [(kT l140_3), (.cond (.t 6) .skip (kT l140_4))])
@[go_sem] def s140_6 (_ : Unit) : IR := (sQ [(kT l140_2), (.cond (.t 6) .skip (tH s140_5))])
@[go_sem] def l140_7 (_ : Unit) : KL := [kA 2 (.mv (.c (.int .i64 2))),
  kA 3 (.mv (cI 1)),
  kB 4 (.mv (cI 1)) [2, 3, 4]]
@[go_sem] def s140_8 (_ : Unit) : IR := (sQ [(kT l140_7), .ret])
@[go_sem] def l140_9 (_ : Unit) : KL := [kA 11 (.bin .eql (.t 5) (.c (.int .i64 5))),
  kB 10 (.mv (.t 11)) [5, 10]]
@[go_sem] def l140_10 (_ : Unit) : KL := [kA 12 (.bin .eql (.t 5) (.c (.int .i64 6))),
  kB 10 (.mv (.t 12)) [5, 10]]
@[go_sem] def s140_11 (_ : Unit) : IR := (sQ [(kT l140_9), (.cond (.t 10) .skip (kT l140_10))])
@[go_sem] def l140_12 (_ : Unit) : KL := [kA 2 (.mv (.c (.int .i64 2))),
  kA 3 (.mv (cI 1)),
  kB 4 (.mv (.c (.int .i64 2))) [2, 3, 4]]
@[go_sem] def s140_13 (_ : Unit) : IR := (sQ [(kT l140_12), .ret])
@[go_sem] def l140_14 (_ : Unit) : KL := [kA 14 (.bin .eql (.t 5) (.c (.int .i64 7))),
  kB 13 (.mv (.t 14)) [5, 13]]
@[go_sem] def l140_15 (_ : Unit) : KL := [kA 2 (.mv (cI 1)),
  kA 3 (.mv (.c (.int .i64 2))),
  kB 4 (.mv (.c (.int .i64 2))) [2, 3, 4]]
@[go_sem] def s140_16 (_ : Unit) : IR := (sQ [(kT l140_15), .ret])
@[go_sem] def l140_17 (_ : Unit) : KL := [kA 16 (.bin .eql (.t 5) (.c (.int .i64 8))),
  kB 15 (.mv (.t 16)) [5, 15]]
@[go_sem] def l140_18 (_ : Unit) : KL := [kA 17 (.bin .eql (.t 5) (.c (.int .i64 9))),
  kB 15 (.mv (.t 17)) [15]]
@[go_sem] def s140_19 (_ : Unit) : IR := (sQ [(kT l140_17), (.cond (.t 15) .skip (kT l140_18))])
@[go_sem] def l140_20 (_ : Unit) : KL := [kA 2 (.mv (.c (.int .i64 2))),
  kA 3 (.mv (.c (.int .i64 2))),
  kB 4 (.mv (.c (.int .i64 2))) [2, 3, 4]]
@[go_sem] def s140_21 (_ : Unit) : IR := (sQ [(kT l140_20), .ret])
@[go_sem] def s140_22 (_ : Unit) : IR := (sQ [(tH s140_19), (.cond (.t 15) (tH s140_21) .skip)])
@[go_sem] def s140_23 (_ : Unit) : IR := (sQ [(kT l140_14), (.cond (.t 13) (tH s140_16) (tH s140_22))])
@[go_sem] def s140_24 (_ : Unit) : IR := (sQ [(tH s140_11), (.cond (.t 10) (tH s140_13) (tH s140_23))])
@[go_sem] def s140_25 (_ : Unit) : IR := (sQ [(tH s140_6), (.cond (.t 6) (tH s140_8) (tH s140_24))])
@[go_sem] def s140_26 (_ : Unit) : IR := (.block 0 (tH s140_25))
@[go_sem] def s140_27 (_ : Unit) : IR := (sQ [(kT l140_1), (tH s140_26)])
@[go_sem] def l140_28 (_ : Unit) : KL := [kA 2 (.mv (cI 0)),
  kA 3 (.mv (cI 0)),
  kB 4 (.mv (cI 1)) [2, 3, 4]]
@[go_sem] def s140_29 (_ : Unit) : IR := (sQ [(kT l140_0), (tH s140_27), (kT l140_28), .ret])
theorem c140 : compFn Try.prog [(0, [], [oN, oN, oS [0]]), (1, [], [oS [5]]), (2, [], [oN, oS [5, 6]]), (3, [], [oN, oS [5, 6]]), (4, [], [oN, oS [5, 6]]), (5, [], [oN, oN, oS [2, 3, 4]]), (6, [], [oN, oS [5, 10]]), (7, [], [oN, oS [5, 10]]), (8, [], [oN, oN, oS [2, 3, 4]]), (9, [], [oN, oS [5, 13]]), (10, [], [oN, oN, oS [2, 3, 4]]), (11, [], [oN, oS [5, 15]]), (12, [], [oN, oS [15]]), (13, [], [oN, oN, oS [2, 3, 4]]), (14, [], [oN, oN, oS [2, 3, 4]])] Try.f140 = some ⟨1, 18, [.t 2, .t 3, .t 4], (tH s140_29)⟩ := by kernel_rfl
theorem v_impl_parts (hl : vs.length = 1) (h : wpV Try.prog (tH s140_29) (postV [.t 2, .t 3, .t 4] RV) (envV vs) M) : VCall Try.prog n_impl_parts vs M RV :=
  vcall_of_wp (fun _ _ _ hl h => acall_of_wp mixed Try.func140 c140 (by kernel_rfl) hl h) hl h
@[go_sem] def l133_0 (_ : Unit) : KL := [kB 4 (.mv (.c (.sl none 0 0 true 0))) [0, 1]]
@[go_sem] def l133_1 (_ : Unit) : KL := [kA 12 (.mv (.t 1)),
  kA 13 (.call (n_impl_in) [(.t 12), (cI 0), (.c (.int .i64 5))]),
  kA 14 (.un .not (.t 13)),
  kA 15 (.mv (.t 14)),
  (⟨(some 16), .mv (.t 0), (some (15, false))⟩, (some [0, 1, 15, 16])),
  (⟨(some 17), .len (.t 16), (some (15, false))⟩, none),
  (⟨(some 18), .call (n_impl_in) [(.t 17), (cI 1), (.c (.int .i64 40))], (some (15, false))⟩, none),
  (⟨(some 19), .un .not (.t 18), (some (15, false))⟩, none),
  kB 20 (.pick (.t 15) (.c (.bool true)) (.t 19)) [0, 1, 20]]
@[go_sem] def l133_2 (_ : Unit) : KL := [kB 4 (.mv (.c (.sl none 0 0 true 0))) [4]]
@[go_sem] def s133_3 (_ : Unit) : IR := (sQ [(kT l133_2), .ret])
@[go_sem] def s133_4 (_ : Unit) : IR := (sQ [(kT l133_1), (.cond (.t 20) (tH s133_3) .skip)])
@[go_sem] def l133_5 (_ : Unit) : KL := [kA 21 (.mv (.t 0)),
  kA 22 (.len (.t 21)),
  kA 23 (.mkc [(.int .i64 0)] 8 (cI 0) (.t 22)),
  kB 5 (.mv (.t 23)) [0, 1, 5]]
@[go_sem] def l133_6 (_ : Unit) : KL := [kA 24 (.mv (.t 0)),
  kA 25 (.len (.t 24)),
  kB 26 (.mv (cI 0)) [1, 5, 24, 25, 26]]
@[go_sem] def l133_7 (_ : Unit) : KL := [kB 27 (.bin .lss (.t 26) (.t 25)) [1, 5, 24, 25, 26, 27]]
@[go_sem] def l133_8 (_ : Unit) : KL := [kA 28 (.mv (.t 26)),
  kA 29 (.iaddr (.t 24) (.t 26) 4),
  kA 30 (.load (.t 29) 4 true),
  kA 7 (.alloc [(.int .i64 0), (.int .i64 0), (.int .i64 0), (.int .i64 0)]),
  kB 6 (.mv (.t 28)) [1, 5, 6, 7, 24, 25, 26, 30],
  (⟨none, .store (.t 7) 4 (.t 30), none⟩, (some [1, 5, 6, 7, 24, 25, 26]))]
@[go_sem] def l133_9 (_ : Unit) : KL := [kA 32 (.faddr (.t 7) 0),
  kA 33 (.load (.t 32) 1 false),
  kA 34 (.call (n_impl_parts) [(.t 33)]),
  kA 31 (.mv (.t 34)),
  kB 35 (.ext (.t 31) 0) [1, 5, 6, 7, 24, 25, 26, 31, 35],
  kA 36 (.ext (.t 31) 1),
  kA 37 (.ext (.t 31) 2),
  kA 8 (.mv (.t 35)),
  kA 9 (.mv (.t 36)),
  kB 10 (.mv (.t 37)) [1, 5, 6, 7, 8, 9, 10, 24, 25, 26]]
@[go_sem] def l133_10 (_ : Unit) : KL := [kA 38 (.faddr (.t 7) 0),
  kA 39 (.load (.t 38) 1 false),
  kA 40 (.call (n_impl_in) [(.t 39), (cI 0), (.c (.int .i64 9))]),
  kB 11 (.mv (.t 40)) [1, 5, 6, 7, 8, 9, 10, 11, 24, 25, 26]]
@[go_sem] def l133_11 (_ : Unit) : KL := [kA 42 (.faddr (.t 7) 0),
  kA 43 (.load (.t 42) 1 false),
  kA 44 (.bin .eql (.t 43) (cI 0)),
  kB 41 (.mv (.t 44)) [1, 5, 6, 7, 8, 9, 10, 11, 24, 25, 26, 41]]
@[go_sem] def l133_12 (_ : Unit) : KL := [kA 45 (.faddr (.t 7) 1),
  kA 46 (.load (.t 45) 1 false),
  kA 47 (.call (n_impl_in) [(.t 46), (.c (.int .i64 (-9999))), (.c (.int .i64 9999))]),
  kA 48 (.mv (.t 47)),
  (⟨(some 49), .faddr (.t 7) 2, (some (48, true))⟩, (some [1, 5, 7, 10, 24, 25, 26, 48, 49])),
  (⟨(some 50), .load (.t 49) 1 false, (some (48, true))⟩, none),
  (⟨(some 51), .bin .eql (.t 50) (cI 0), (some (48, true))⟩, none),
  kA 52 (.pick (.t 48) (.t 51) (.c (.bool false))),
  kA 53 (.mv (.t 52)),
  (⟨(some 54), .faddr (.t 7) 3, (some (53, true))⟩, (some [1, 5, 10, 24, 25, 26, 53, 54])),
  (⟨(some 55), .load (.t 54) 1 false, (some (53, true))⟩, none),
  (⟨(some 56), .bin .eql (.t 55) (cI 0), (some (53, true))⟩, none),
  kA 57 (.pick (.t 53) (.t 56) (.c (.bool false))),
  kB 11 (.mv (.t 57)) [1, 5, 10, 11, 24, 25, 26]]
@[go_sem] def l133_13 (_ : Unit) : KL := [kA 59 (.faddr (.t 7) 0),
  kA 60 (.load (.t 59) 1 false),
  kA 61 (.bin .eql (.t 60) (cI 1)),
  kB 58 (.mv (.t 61)) [1, 5, 6, 7, 8, 9, 10, 11, 24, 25, 26, 58]]
@[go_sem] def l133_14 (_ : Unit) : KL := [kA 62 (.faddr (.t 7) 1),
  kA 63 (.load (.t 62) 1 false),
  kA 64 (.mv (.t 1)),
  kA 65 (.bin .sub (.t 64) (cI 1)),
  kB 66 (.call (n_impl_in) [(.t 63), (cI 0), (.t 65)]) [1, 5, 7, 10, 24, 25, 26, 66],
  kA 67 (.mv (.t 66)),
  (⟨(some 68), .faddr (.t 7) 2, (some (67, true))⟩, none),
  (⟨(some 69), .load (.t 68) 1 false, (some (67, true))⟩, none),
  (⟨(some 70), .bin .eql (.t 69) (cI 0), (some (67, true))⟩, none),
  kB 71 (.pick (.t 67) (.t 70) (.c (.bool false))) [1, 5, 7, 10, 24, 25, 26, 71],
  kA 72 (.mv (.t 71)),
  (⟨(some 73), .faddr (.t 7) 3, (some (72, true))⟩, none),
  (⟨(some 74), .load (.t 73) 1 false, (some (72, true))⟩, none),
  (⟨(some 75), .bin .eql (.t 74) (cI 0), (some (72, true))⟩, none),
  kB 76 (.pick (.t 72) (.t 75) (.c (.bool false))) [1, 5, 10, 24, 25, 26, 76],
  kB 11 (.mv (.t 76)) [1, 5, 10, 11, 24, 25, 26]]
@[go_sem] def l133_15 (_ : Unit) : KL := [kA 78 (.mv (.t 11)),
  kB 77 (.mv (.t 78)) [1, 5, 6, 7, 8, 9, 10, 11, 24, 25, 26, 77]]
@[go_sem] def l133_16 (_ : Unit) : KL := [kA 79 (.faddr (.t 7) 1),
  kA 80 (.load (.t 79) 1 false),
  kA 81 (.bin .eql (.t 80) (cI 0)),
  kA 82 (.mv (.t 81)),
  (⟨(some 83), .faddr (.t 7) 2, (some (82, true))⟩, (some [1, 5, 6, 7, 8, 9, 10, 24, 25, 26, 82, 83])),
  (⟨(some 84), .load (.t 83) 1 false, (some (82, true))⟩, none),
  (⟨(some 85), .mv (.t 6), (some (82, true))⟩, none),
  (⟨(some 86), .bin .sub (.t 85) (cI 1), (some (82, true))⟩, none),
  (⟨(some 87), .call (n_impl_in) [(.t 84), (cI 0), (.t 86)], (some (82, true))⟩, none),
  kB 88 (.pick (.t 82) (.t 87) (.c (.bool false))) [1, 5, 6, 7, 8, 9, 10, 24, 25, 26, 88],
  kA 89 (.mv (.t 88)),
  (⟨(some 90), .faddr (.t 7) 3, (some (89, true))⟩, none),
  (⟨(some 91), .load (.t 90) 1 false, (some (89, true))⟩, none),
  (⟨(some 92), .mv (.t 6), (some (89, true))⟩, none),
  (⟨(some 93), .bin .sub (.t 92) (cI 1), (some (89, true))⟩, (some [1, 5, 7, 8, 9, 10, 24, 25, 26, 89, 91, 93])),
  (⟨(some 94), .call (n_impl_in) [(.t 91), (cI 0), (.t 93)], (some (89, true))⟩, none),
  kA 95 (.pick (.t 89) (.t 94) (.c (.bool false))),
  kA 96 (.mv (.t 95)),
  (⟨(some 97), .mv (.t 5), (some (96, true))⟩, none),
  (⟨(some 98), .faddr (.t 7) 2, (some (96, true))⟩, (some [1, 5, 7, 8, 9, 10, 24, 25, 26, 96, 97, 98])),
  (⟨(some 99), .load (.t 98) 1 false, (some (96, true))⟩, none),
  (⟨(some 100), .iaddr (.t 97) (.t 99) 1, (some (96, true))⟩, none),
  (⟨(some 101), .load (.t 100) 1 false, (some (96, true))⟩, none),
  (⟨(some 102), .mv (.t 9), (some (96, true))⟩, none),
  (⟨(some 103), .bin .eql (.t 101) (.t 102), (some (96, true))⟩, (some [1, 5, 7, 8, 9, 10, 24, 25, 26, 96, 103])),
  kA 104 (.pick (.t 96) (.t 103) (.c (.bool false))),
  kA 105 (.mv (.t 104)),
  (⟨(some 106), .mv (.t 5), (some (105, true))⟩, none),
  (⟨(some 107), .faddr (.t 7) 3, (some (105, true))⟩, none),
  (⟨(some 108), .load (.t 107) 1 false, (some (105, true))⟩, (some [1, 5, 7, 8, 9, 10, 24, 25, 26, 105, 106, 108])),
  (⟨(some 109), .iaddr (.t 106) (.t 108) 1, (some (105, true))⟩, none),
  (⟨(some 110), .load (.t 109) 1 false, (some (105, true))⟩, none),
  (⟨(some 111), .mv (.t 9), (some (105, true))⟩, none),
  (⟨(some 112), .bin .eql (.t 110) (.t 111), (some (105, true))⟩, none),
  kB 113 (.pick (.t 105) (.t 112) (.c (.bool false))) [1, 5, 7, 8, 10, 24, 25, 26, 113],
  kA 114 (.mv (.t 113)),
  (⟨(some 115), .mv (.t 8), (some (114, true))⟩, none),
  (⟨(some 116), .bin .eql (.t 115) (.c (.int .i64 2)), (some (114, true))⟩, none),
  (⟨(some 117), .mv (.t 116), (some (114, true))⟩, none),
  (⟨(some 118), .faddr (.t 7) 2, (some (117, false))⟩, (some [1, 5, 7, 10, 24, 25, 26, 114, 117, 118])),
  (⟨(some 119), .load (.t 118) 1 false, (some (117, false))⟩, none),
  (⟨(some 120), .faddr (.t 7) 3, (some (117, false))⟩, none),
  (⟨(some 121), .load (.t 120) 1 false, (some (117, false))⟩, none),
  (⟨(some 122), .bin .eql (.t 119) (.t 121), (some (117, false))⟩, none),
  (⟨(some 123), .pick (.t 117) (.c (.bool true)) (.t 122), (some (114, true))⟩, (some [1, 5, 10, 24, 25, 26, 114, 123])),
  kA 124 (.pick (.t 114) (.t 123) (.c (.bool false))),
  kB 11 (.mv (.t 124)) [1, 5, 10, 11, 24, 25, 26]]
@[go_sem] def s133_17 (_ : Unit) : IR := (sQ [(kT l133_15), (.cond (.t 77) (kT l133_16) .skip)])
@[go_sem] def s133_18 (_ : Unit) : IR := (sQ [(kT l133_13), (.cond (.t 58) (kT l133_14) (tH s133_17))])
@[go_sem] def s133_19 (_ : Unit) : IR := (sQ [(kT l133_11), (.cond (.t 41) (kT l133_12) (tH s133_18))])
@[go_sem] def s133_20 (_ : Unit) : IR := (.block 2 (tH s133_19))
@[go_sem] def l133_21 (_ : Unit) : KL := [kA 125 (.mv (.t 11)),
  kB 126 (.un .not (.t 125)) [1, 5, 10, 24, 25, 26, 126]]
@[go_sem] def l133_22 (_ : Unit) : KL := [kB 4 (.mv (.c (.sl none 0 0 true 0))) [4]]
@[go_sem] def s133_23 (_ : Unit) : IR := (sQ [(kT l133_22), .ret])
@[go_sem] def s133_24 (_ : Unit) : IR := (sQ [(kT l133_21), (.cond (.t 126) (tH s133_23) .skip)])
@[go_sem] def l133_25 (_ : Unit) : KL := [kA 127 (.mv (.t 5)),
  kA 128 (.mv (.t 10)),
  kA 129 (.bslc 1 1 [(.int .i64 0)] [(0, (.t 128))]),
  kA 130 (.app 1 8 (.t 127) (.t 129)),
  kB 5 (.mv (.t 130)) [1, 5, 24, 25, 26]]
@[go_sem] def s133_26 (_ : Unit) : IR := (sQ [(kT l133_8), (kT l133_9), (kT l133_10), (tH s133_20), (tH s133_24), (kT l133_25)])
@[go_sem] def s133_27 (_ : Unit) : IR := (.block 1 (tH s133_26))
@[go_sem] def l133_28 (_ : Unit) : KL := [kA 131 (.bin .add (.t 26) (cI 1)),
  kB 26 (.mv (.t 131)) [1, 5, 24, 25, 26]]
@[go_sem] def s133_29 (_ : Unit) : IR := (sQ [(kT l133_7), (.cond (.t 27) .skip (.exit 0)), (tH s133_27), (kT l133_28)])
@[go_sem] def s133_30 (_ : Unit) : IR := (.loop (tH s133_29))
@[go_sem] def s133_31 (_ : Unit) : IR := (.block 0 (tH s133_30))
@[go_sem] def s133_32 (_ : Unit) : IR := (sQ [(kT l133_6), (tH s133_31)])
@[go_sem] def l133_33 (_ : Unit) : KL := [kA 132 (.mv (.t 5)),
  kB 4 (.mv (.t 132)) [4]]
@[go_sem] def s133_34 (_ : Unit) : IR := (sQ [(kT l133_0), (tH s133_4), (kT l133_5), (tH s133_32), (kT l133_33), .ret])
theorem c133 : compFn Try.prog [(0, [], [oS [0, 1]]), (1, [], [oN, oN, oN, oN, oS [0, 1, 15, 16], oN, oN, oN, oS [0, 1, 20]]), (2, [], [oS [4]]), (3, [], [oN, oN, oN, oS [0, 1, 5]]), (4, [], [oN, oN, oS [1, 5, 24, 25, 26]]), (5, [], [oS [1, 5, 24, 25, 26, 27]]), (6, [], [oN, oN, oN, oN, oS [1, 5, 6, 7, 24, 25, 26, 30], oS [1, 5, 6, 7, 24, 25, 26]]), (7, [], [oN, oN, oN, oN, oS [1, 5, 6, 7, 24, 25, 26, 31, 35], oN, oN, oN, oN, oS [1, 5, 6, 7, 8, 9, 10, 24, 25, 26]]), (8, [], [oN, oN, oN, oS [1, 5, 6, 7, 8, 9, 10, 11, 24, 25, 26]]), (9, [], [oN, oN, oN, oS [1, 5, 6, 7, 8, 9, 10, 11, 24, 25, 26, 41]]), (10, [], [oN, oN, oN, oN, oS [1, 5, 7, 10, 24, 25, 26, 48, 49], oN, oN, oN, oN, oS [1, 5, 10, 24, 25, 26, 53, 54], oN, oN, oN, oS [1, 5, 10, 11, 24, 25, 26]]), (11, [], [oN, oN, oN, oS [1, 5, 6, 7, 8, 9, 10, 11, 24, 25, 26, 58]]), (12, [], [oN, oN, oN, oN, oS [1, 5, 7, 10, 24, 25, 26, 66], oN, oN, oN, oN, oS [1, 5, 7, 10, 24, 25, 26, 71], oN, oN, oN, oN, oS [1, 5, 10, 24, 25, 26, 76], oS [1, 5, 10, 11, 24, 25, 26]]), (13, [], [oN, oS [1, 5, 6, 7, 8, 9, 10, 11, 24, 25, 26, 77]]), (14, [], [oN, oN, oN, oN, oS [1, 5, 6, 7, 8, 9, 10, 24, 25, 26, 82, 83], oN, oN, oN, oN, oS [1, 5, 6, 7, 8, 9, 10, 24, 25, 26, 88], oN, oN, oN, oN, oS [1, 5, 7, 8, 9, 10, 24, 25, 26, 89, 91, 93], oN, oN, oN, oN, oS [1, 5, 7, 8, 9, 10, 24, 25, 26, 96, 97, 98], oN, oN, oN, oN, oS [1, 5, 7, 8, 9, 10, 24, 25, 26, 96, 103], oN, oN, oN, oN, oS [1, 5, 7, 8, 9, 10, 24, 25, 26, 105, 106, 108], oN, oN, oN, oN, oS [1, 5, 7, 8, 10, 24, 25, 26, 113], oN, oN, oN, oN, oS [1, 5, 7, 10, 24, 25, 26, 114, 117, 118], oN, oN, oN, oN, oS [1, 5, 10, 24, 25, 26, 114, 123], oN, oS [1, 5, 10, 11, 24, 25, 26]]), (15, [], [oN, oS [1, 5, 10, 24, 25, 26, 126]]), (16, [], [oS [4]]), (17, [], [oN, oN, oN, oN, oS [1, 5, 24, 25, 26]]), (18, [], [oN, oS [1, 5, 24, 25, 26]]), (19, [], [oN, oS [4]])] Try.f133 = some ⟨2, 133, [.t 4], (tH s133_34)⟩ := by kernel_rfl
theorem v_impl_kindsOf (hl : vs.length = 2) (h : wpV Try.prog (tH s133_34) (postV [.t 4] RV) (envV vs) M) : VCall Try.prog n_impl_kindsOf vs M RV :=
  vcall_of_wp (fun _ _ _ hl h => acall_of_wp mixed Try.func133 c133 (by kernel_rfl) hl h) hl h
@[go_sem] def l125_0 (_ : Unit) : KL := [kB 4 (.mv (cI 0)) [0, 1]]
@[go_sem] def l125_1 (_ : Unit) : KL := [kA 6 (.mv (.t 0)),
  kA 7 (.mv (.t 1)),
  kA 8 (.call (n_impl_kindsOf) [(.t 6), (.t 7)]),
  kB 5 (.mv (.t 8)) [5]]
@[go_sem] def l125_2 (_ : Unit) : KL := [kA 9 (.mv (.t 5)),
  kB 10 (.eqn false .sl (.t 9)) [5, 10]]
@[go_sem] def l125_3 (_ : Unit) : KL := [kB 4 (.mv (cI 0)) [4]]
@[go_sem] def s125_4 (_ : Unit) : IR := (sQ [(kT l125_3), .ret])
@[go_sem] def s125_5 (_ : Unit) : IR := (sQ [(kT l125_2), (.cond (.t 10) (tH s125_4) .skip)])
@[go_sem] def l125_6 (_ : Unit) : KL := [kA 11 (.mv (.t 5)),
  kA 12 (.mv (.t 5)),
  kA 13 (.len (.t 12)),
  kA 14 (.bin .sub (.t 13) (cI 1)),
  kB 15 (.iaddr (.t 11) (.t 14) 1) [15],
  kA 16 (.load (.t 15) 1 false),
  kB 4 (.mv (.t 16)) [4]]
@[go_sem] def s125_7 (_ : Unit) : IR := (sQ [(kT l125_0), (kT l125_1), (tH s125_5), (kT l125_6), .ret])
theorem c125 : compFn Try.prog [(0, [], [oS [0, 1]]), (1, [], [oN, oN, oN, oS [5]]), (2, [], [oN, oS [5, 10]]), (3, [], [oS [4]]), (4, [], [oN, oN, oN, oN, oS [15], oN, oS [4]])] Try.f125 = some ⟨2, 17, [.t 4], (tH s125_7)⟩ := by kernel_rfl
theorem v_impl_kindOf (hl : vs.length = 2) (h : wpV Try.prog (tH s125_7) (postV [.t 4] RV) (envV vs) M) : VCall Try.prog n_impl_kindOf vs M RV :=
  vcall_of_wp (fun _ _ _ hl h => acall_of_wp mixed Try.func125 c125 (by kernel_rfl) hl h) hl h
@[go_sem] def l101_0 (_ : Unit) : KL := [kA 2 (.box (.t 0)),
  kB 4 (.mv (.c (.bool false))) [1, 2]]
@[go_sem] def l101_1 (_ : Unit) : KL := [kA 7 (.faddr (.t 2) 0),
  kA 8 (.load (.t 7) 1 false),
  kA 9 (.mv (.t 1)),
  kA 10 (.call (n_impl_kindOf) [(.t 8), (.t 9)]),
  kB 11 (.bin .neq (.t 10) (.c (.int .i64 2))) [1, 2, 11],
  kA 12 (.mv (.t 11)),
  (⟨(some 13), .faddr (.t 2) 1, (some (12, false))⟩, none),
  (⟨(some 14), .load (.t 13) 1 false, (some (12, false))⟩, none),
  (⟨(some 15), .len (.t 14), (some (12, false))⟩, none),
  (⟨(some 16), .faddr (.t 2) 2, (some (12, false))⟩, (some [1, 2, 12, 15, 16])),
  (⟨(some 17), .load (.t 16) 1 false, (some (12, false))⟩, none),
  (⟨(some 18), .len (.t 17), (some (12, false))⟩, none),
  (⟨(some 19), .bin .neq (.t 15) (.t 18), (some (12, false))⟩, none),
  kB 20 (.pick (.t 12) (.c (.bool true)) (.t 19)) [1, 2, 20]]
@[go_sem] def l101_2 (_ : Unit) : KL := [kB 4 (.mv (.c (.bool false))) [4]]
@[go_sem] def s101_3 (_ : Unit) : IR := (sQ [(kT l101_2), .ret])
@[go_sem] def s101_4 (_ : Unit) : IR := (sQ [(kT l101_1), (.cond (.t 20) (tH s101_3) .skip)])
@[go_sem] def l101_5 (_ : Unit) : KL := [kA 21 (.faddr (.t 2) 1),
  kA 22 (.load (.t 21) 1 false),
  kA 23 (.len (.t 22)),
  kB 24 (.mv (cI 0)) [1, 2, 22, 23, 24]]
@[go_sem] def l101_6 (_ : Unit) : KL := [kB 25 (.bin .lss (.t 24) (.t 23)) [1, 2, 22, 23, 24, 25]]
@[go_sem] def l101_7 (_ : Unit) : KL := [kA 26 (.mv (.t 24)),
  kA 27 (.iaddr (.t 22) (.t 24) 1),
  kA 28 (.load (.t 27) 1 false),
  kA 5 (.mv (.t 26)),
  kB 6 (.mv (.t 28)) [1, 2, 5, 6, 22, 23, 24]]
@[go_sem] def l101_8 (_ : Unit) : KL := [kA 29 (.mv (.t 6)),
  kA 30 (.mv (.t 1)),
  kA 31 (.bin .sub (.t 30) (cI 1)),
  kA 32 (.call (n_impl_in) [(.t 29), (cI 0), (.t 31)]),
  kB 33 (.un .not (.t 32)) [1, 2, 5, 6, 22, 23, 24, 33],
  kA 34 (.mv (.t 33)),
  (⟨(some 35), .mv (.t 5), (some (34, false))⟩, none),
  (⟨(some 36), .bin .gtr (.t 35) (cI 0), (some (34, false))⟩, none),
  (⟨(some 37), .mv (.t 36), (some (34, false))⟩, none),
  (⟨(some 38), .faddr (.t 2) 1, (some (37, true))⟩, (some [1, 2, 5, 6, 22, 23, 24, 34, 37, 38])),
  (⟨(some 39), .load (.t 38) 1 false, (some (37, true))⟩, none),
  (⟨(some 40), .mv (.t 5), (some (37, true))⟩, none),
  (⟨(some 41), .bin .sub (.t 40) (cI 1), (some (37, true))⟩, none),
  (⟨(some 42), .iaddr (.t 39) (.t 41) 1, (some (37, true))⟩, none),
  (⟨(some 43), .load (.t 42) 1 false, (some (37, true))⟩, (some [1, 2, 5, 6, 22, 23, 24, 34, 37, 43])),
  (⟨(some 44), .mv (.t 6), (some (37, true))⟩, none),
  (⟨(some 45), .bin .geq (.t 43) (.t 44), (some (37, true))⟩, none),
  (⟨(some 46), .pick (.t 37) (.t 45) (.c (.bool false)), (some (34, false))⟩, none),
  kA 47 (.pick (.t 34) (.c (.bool true)) (.t 46)),
  kB 48 (.mv (.t 47)) [1, 2, 5, 22, 23, 24, 48],
  (⟨(some 49), .faddr (.t 2) 2, (some (48, false))⟩, none),
  (⟨(some 50), .load (.t 49) 1 false, (some (48, false))⟩, none),
  (⟨(some 51), .mv (.t 5), (some (48, false))⟩, none),
  (⟨(some 52), .iaddr (.t 50) (.t 51) 1, (some (48, false))⟩, none),
  (⟨(some 53), .load (.t 52) 1 false, (some (48, false))⟩, (some [1, 2, 22, 23, 24, 48, 53])),
  (⟨(some 54), .mv (.t 1), (some (48, false))⟩, none),
  (⟨(some 55), .call (n_impl_kindOf) [(.t 53), (.t 54)], (some (48, false))⟩, none),
  (⟨(some 56), .bin .neq (.t 55) (cI 1), (some (48, false))⟩, none),
  kB 57 (.pick (.t 48) (.c (.bool true)) (.t 56)) [1, 2, 22, 23, 24, 57]]
@[go_sem] def l101_9 (_ : Unit) : KL := [kB 4 (.mv (.c (.bool false))) [4]]
@[go_sem] def s101_10 (_ : Unit) : IR := (sQ [(kT l101_9), .ret])
@[go_sem] def s101_11 (_ : Unit) : IR := (sQ [(kT l101_7), (kT l101_8), (.cond (.t 57) (tH s101_10) .skip)])
@[go_sem] def s101_12 (_ : Unit) : IR := (.block 1 (tH s101_11))
@[go_sem] def l101_13 (_ : Unit) : KL := [kA 58 (.bin .add (.t 24) (cI 1)),
  kB 24 (.mv (.t 58)) [1, 2, 22, 23, 24]]
@[go_sem] def s101_14 (_ : Unit) : IR := (sQ [(kT l101_6), (.cond (.t 25) .skip (.exit 0)), (tH s101_12), (kT l101_13)])
@[go_sem] def s101_15 (_ : Unit) : IR := (.loop (tH s101_14))
@[go_sem] def s101_16 (_ : Unit) : IR := (.block 0 (tH s101_15))
@[go_sem] def s101_17 (_ : Unit) : IR := (sQ [(kT l101_5), (tH s101_16)])
@[go_sem] def l101_18 (_ : Unit) : KL := [kB 4 (.mv (.c (.bool true))) [4]]
@[go_sem] def s101_19 (_ : Unit) : IR := (sQ [(kT l101_0), (tH s101_4), (tH s101_17), (kT l101_18), .ret])
theorem c101 : compFn Try.prog [(0, [], [oN, oS [1, 2]]), (1, [], [oN, oN, oN, oN, oS [1, 2, 11], oN, oN, oN, oN, oS [1, 2, 12, 15, 16], oN, oN, oN, oS [1, 2, 20]]), (2, [], [oS [4]]), (3, [], [oN, oN, oN, oS [1, 2, 22, 23, 24]]), (4, [], [oS [1, 2, 22, 23, 24, 25]]), (5, [], [oN, oN, oN, oN, oS [1, 2, 5, 6, 22, 23, 24]]), (6, [], [oN, oN, oN, oN, oS [1, 2, 5, 6, 22, 23, 24, 33], oN, oN, oN, oN, oS [1, 2, 5, 6, 22, 23, 24, 34, 37, 38], oN, oN, oN, oN, oS [1, 2, 5, 6, 22, 23, 24, 34, 37, 43], oN, oN, oN, oN, oS [1, 2, 5, 22, 23, 24, 48], oN, oN, oN, oN, oS [1, 2, 22, 23, 24, 48, 53], oN, oN, oN, oS [1, 2, 22, 23, 24, 57]]), (7, [], [oS [4]]), (8, [], [oN, oS [1, 2, 22, 23, 24]]), (9, [], [oS [4]])] Try.f101 = some ⟨2, 59, [.t 4], (tH s101_19)⟩ := by kernel_rfl
theorem v_impl_ruleOk (hl : vs.length = 2) (h : wpV Try.prog (tH s101_19) (postV [.t 4] RV) (envV vs) M) : VCall Try.prog n_impl_ruleOk vs M RV :=
  vcall_of_wp (fun _ _ _ hl h => acall_of_wp mixed Try.func101 c101 (by kernel_rfl) hl h) hl h
@[go_sem] def l100_0 (_ : Unit) : KL := [kA 2 (.box (.t 0)),
  kB 3 (.mv (.c (.bool false))) [1, 2]]
@[go_sem] def l100_1 (_ : Unit) : KL := [kA 4 (.load (.t 2) 3 true),
  kA 5 (.faddr (.t 1) 0),
  kA 6 (.load (.t 5) 1 false),
  kA 7 (.len (.t 6)),
  kB 8 (.call (n_impl_ruleOk) [(.t 4), (.t 7)]) [8],
  kA 9 (.un .not (.t 8)),
  kB 3 (.mv (.t 9)) [3]]
@[go_sem] def s100_2 (_ : Unit) : IR := (sQ [(kT l100_0), (kT l100_1), .ret])
theorem c100 : compFn Try.prog [(0, [], [oN, oS [1, 2]]), (1, [], [oN, oN, oN, oN, oS [8], oN, oS [3]])] Try.f100 = some ⟨2, 10, [.t 3], (tH s100_2)⟩ := by kernel_rfl
theorem v_impl_SystemValid_2 (hl : vs.length = 2) (h : wpV Try.prog (tH s100_2) (postV [.t 3] RV) (envV vs) M) : VCall Try.prog n_impl_SystemValid_2 vs M RV :=
  vcall_of_wp (fun _ _ _ hl h => acall_of_wp mixed Try.func100 c100 (by kernel_rfl) hl h) hl h
@[go_sem] def l124_0 (_ : Unit) : KL := [kB 4 (.mv (cI 0)) [0, 1]]
@[go_sem] def l124_1 (_ : Unit) : KL := [kA 6 (.mv (.t 0)),
  kA 7 (.len (.t 6)),
  kB 8 (.mv (cI 0)) [0, 1, 7, 8]]
@[go_sem] def l124_2 (_ : Unit) : KL := [kB 9 (.bin .lss (.t 8) (.t 7)) [0, 1, 7, 8, 9]]
@[go_sem] def l124_3 (_ : Unit) : KL := [kA 10 (.mv (.t 8)),
  kB 5 (.mv (.t 10)) [0, 1, 5, 7, 8]]
@[go_sem] def l124_4 (_ : Unit) : KL := [kA 11 (.mv (.t 1)),
  kA 12 (.mv (.t 0)),
  kA 13 (.mv (.t 5)),
  kA 14 (.iaddr (.t 12) (.t 13) 3),
  kB 15 (.load (.t 14) 3 true) [0, 1, 5, 7, 8, 11, 15],
  kB 16 (.callv (.t 11) [(.t 15)]) [0, 1, 5, 7, 8, 16]]
@[go_sem] def l124_5 (_ : Unit) : KL := [kA 17 (.mv (.t 5)),
  kB 4 (.mv (.t 17)) [4]]
@[go_sem] def s124_6 (_ : Unit) : IR := (sQ [(kT l124_5), .ret])
@[go_sem] def s124_7 (_ : Unit) : IR := (sQ [(kT l124_3), (kT l124_4), (.cond (.t 16) (tH s124_6) .skip)])
@[go_sem] def s124_8 (_ : Unit) : IR := (.block 1 (tH s124_7))
@[go_sem] def l124_9 (_ : Unit) : KL := [kA 18 (.bin .add (.t 8) (cI 1)),
  kB 8 (.mv (.t 18)) [0, 1, 7, 8]]
@[go_sem] def s124_10 (_ : Unit) : IR := (sQ [(kT l124_2), (.cond (.t 9) .skip (.exit 0)), (tH s124_8), (kT l124_9)])
@[go_sem] def s124_11 (_ : Unit) : IR := (.loop (tH s124_10))
@[go_sem] def s124_12 (_ : Unit) : IR := (.block 0 (tH s124_11))
@[go_sem] def s124_13 (_ : Unit) : IR := (sQ [(kT l124_1), (tH s124_12)])
@[go_sem] def l124_14 (_ : Unit) : KL := [kB 4 (.mv (.c (.int .i64 (-1)))) [4]]
@[go_sem] def s124_15 (_ : Unit) : IR := (sQ [(kT l124_0), (tH s124_13), (kT l124_14), .ret])
theorem c124 : compFn Try.prog [(0, [], [oS [0, 1]]), (1, [], [oN, oN, oS [0, 1, 7, 8]]), (2, [], [oS [0, 1, 7, 8, 9]]), (3, [], [oN, oS [0, 1, 5, 7, 8]]), (4, [], [oN, oN, oN, oN, oS [0, 1, 5, 7, 8, 11, 15], oS [0, 1, 5, 7, 8, 16]]), (5, [], [oN, oS [4]]), (6, [], [oN, oS [0, 1, 7, 8]]), (7, [], [oS [4]])] Try.f124 = some ⟨2, 19, [.t 4], (tH s124_15)⟩ := by kernel_rfl
theorem v_slices_IndexFunc_Simpl_Rule_impl_Rule (hl : vs.length = 2) (h : wpV Try.prog (tH s124_15) (postV [.t 4] RV) (envV vs) M) : VCall Try.prog n_slices_IndexFunc_Simpl_Rule_impl_Rule vs M RV :=
  vcall_of_wp (fun _ _ _ hl h => acall_of_wp mixed Try.func124 c124 (by kernel_rfl) hl h) hl h
@[go_sem] def l99_0 (_ : Unit) : KL := [kB 4 (.mv (.c (.bool false))) [0, 1]]
@[go_sem] def l99_1 (_ : Unit) : KL := [kA 5 (.mv (.t 0)),
  kA 6 (.mv (.t 1)),
  kA 7 (.call (n_slices_IndexFunc_Simpl_Rule_impl_Rule) [(.t 5), (.t 6)]),
  kA 8 (.bin .geq (.t 7) (cI 0)),
  kB 4 (.mv (.t 8)) [4]]
@[go_sem] def s99_2 (_ : Unit) : IR := (sQ [(kT l99_0), (kT l99_1), .ret])
theorem c99 : compFn Try.prog [(0, [], [oS [0, 1]]), (1, [], [oN, oN, oN, oN, oS [4]])] Try.f99 = some ⟨2, 9, [.t 4], (tH s99_2)⟩ := by kernel_rfl
theorem v_slices_ContainsFunc_Simpl_Rule_impl_Rule (hl : vs.length = 2) (h : wpV Try.prog (tH s99_2) (postV [.t 4] RV) (envV vs) M) : VCall Try.prog n_slices_ContainsFunc_Simpl_Rule_impl_Rule vs M RV :=
  vcall_of_wp (fun _ _ _ hl h => acall_of_wp mixed Try.func99 c99 (by kernel_rfl) hl h) hl h
@[go_sem] def l58_0 (_ : Unit) : KL := [kA 1 (.box (.t 0)),
  kB 2 (.mv (.c (.bool false))) [1]]
@[go_sem] def l58_1 (_ : Unit) : KL := [kA 3 (.faddr (.t 1) 0),
  kA 4 (.load (.t 3) 1 false),
  kA 5 (.len (.t 4)),
  kA 6 (.call (n_impl_in) [(.t 5), (cI 1), (.c (.int .i64 5))]),
  kB 7 (.un .not (.t 6)) [1, 7],
  kA 8 (.mv (.t 7)),
  (⟨(some 9), .faddr (.t 1) 1, (some (8, false))⟩, none),
  (⟨(some 10), .load (.t 9) 1 false, (some (8, false))⟩, none),
  (⟨(some 11), .len (.t 10), (some (8, false))⟩, none),
  (⟨(some 12), .bin .gtr (.t 11) (.c (.int .i64 8)), (some (8, false))⟩, (some [1, 8, 12])),
  kA 13 (.pick (.t 8) (.c (.bool true)) (.t 12)),
  kA 14 (.mv (.t 13)),
  (⟨(some 15), .faddr (.t 1) 0, (some (14, false))⟩, none),
  (⟨(some 16), .load (.t 15) 1 false, (some (14, false))⟩, none),
  (⟨(some 17), .call (n_slices_ContainsFunc_Simpl_Var_impl_Var) [(.t 16), (.c (.fn (n_impl_SystemValid_1) []))], (some (14, false))⟩, (some [1, 14, 17])),
  kA 18 (.pick (.t 14) (.c (.bool true)) (.t 17)),
  kA 19 (.mv (.t 18)),
  (⟨(some 20), .faddr (.t 1) 0, (some (19, false))⟩, none),
  (⟨(some 21), .load (.t 20) 1 false, (some (19, false))⟩, none),
  (⟨(some 22), .call (n_impl_size) [(.t 21)], (some (19, false))⟩, (some [1, 19, 22])),
  (⟨(some 23), .bin .gtr (.t 22) (.c (.int .i64 400)), (some (19, false))⟩, none),
  kB 24 (.pick (.t 19) (.c (.bool true)) (.t 23)) [1, 24]]
@[go_sem] def l58_2 (_ : Unit) : KL := [kB 2 (.mv (.c (.bool false))) [2]]
@[go_sem] def s58_3 (_ : Unit) : IR := (sQ [(kT l58_2), .ret])
@[go_sem] def s58_4 (_ : Unit) : IR := (sQ [(kT l58_1), (.cond (.t 24) (tH s58_3) .skip)])
@[go_sem] def l58_5 (_ : Unit) : KL := [kA 25 (.faddr (.t 1) 1),
  kA 26 (.load (.t 25) 1 false),
  kA 27 (.mkfn (n_impl_SystemValid_2) [(.t 1)]),
  kA 28 (.call (n_slices_ContainsFunc_Simpl_Rule_impl_Rule) [(.t 26), (.t 27)]),
  kB 29 (.un .not (.t 28)) [29],
  kB 2 (.mv (.t 29)) [2]]
@[go_sem] def s58_6 (_ : Unit) : IR := (sQ [(kT l58_0), (tH s58_4), (kT l58_5), .ret])
theorem c58 : compFn Try.prog [(0, [], [oN, oS [1]]), (1, [], [oN, oN, oN, oN, oS [1, 7], oN, oN, oN, oN, oS [1, 8, 12], oN, oN, oN, oN, oS [1, 14, 17], oN, oN, oN, oN, oS [1, 19, 22], oN, oS [1, 24]]), (2, [], [oS [2]]), (3, [], [oN, oN, oN, oN, oS [29], oS [2]])] Try.f58 = some ⟨1, 30, [.t 2], (tH s58_6)⟩ := by kernel_rfl
theorem v_impl_SystemValid (hl : vs.length = 1) (h : wpV Try.prog (tH s58_6) (postV [.t 2] RV) (envV vs) M) : VCall Try.prog n_impl_SystemValid vs M RV :=
  vcall_of_wp (fun _ _ _ hl h => acall_of_wp mixed Try.func58 c58 (by kernel_rfl) hl h) hl h
@[go_sem] def l64_0 (_ : Unit) : KL := [kB 2 (.mv (.c (.sl none 0 0 true 0))) [0]]
@[go_sem] def l64_1 (_ : Unit) : KL := [kA 4 (.mv (.t 0)),
  kA 5 (.len (.t 4)),
  kB 6 (.bin .eql (.t 5) (cI 0)) [0, 6]]
@[go_sem] def l64_2 (_ : Unit) : KL := [kB 2 (.mv (.c (.sl none 0 0 true 0))) [2]]
@[go_sem] def s64_3 (_ : Unit) : IR := (sQ [(kT l64_2), .ret])
@[go_sem] def s64_4 (_ : Unit) : IR := (sQ [(kT l64_1), (.cond (.t 6) (tH s64_3) .skip)])
@[go_sem] def l64_5 (_ : Unit) : KL := [kA 7 (.mv (.t 0)),
  kA 8 (.len (.t 7)),
  kA 9 (.mks [(.int .i64 0)] 8 (.t 8)),
  kB 3 (.mv (.t 9)) [0, 3]]
@[go_sem] def l64_6 (_ : Unit) : KL := [kA 10 (.mv (.t 3)),
  kA 11 (.mv (.t 0)),
  kB 12 (.copy 1 (.t 10) (.t 11)) [3]]
@[go_sem] def l64_7 (_ : Unit) : KL := [kA 13 (.mv (.t 3)),
  kB 2 (.mv (.t 13)) [2]]
@[go_sem] def s64_8 (_ : Unit) : IR := (sQ [(kT l64_0), (tH s64_4), (kT l64_5), (kT l64_6), (kT l64_7), .ret])
theorem c64 : compFn Try.prog [(0, [], [oS [0]]), (1, [], [oN, oN, oS [0, 6]]), (2, [], [oS [2]]), (3, [], [oN, oN, oN, oS [0, 3]]), (4, [], [oN, oN, oS [3]]), (5, [], [oN, oS [2]])] Try.f64 = some ⟨1, 14, [.t 2], (tH s64_8)⟩ := by kernel_rfl
theorem v_impl_clone_int (hl : vs.length = 1) (h : wpV Try.prog (tH s64_8) (postV [.t 2] RV) (envV vs) M) : VCall Try.prog n_impl_clone_int vs M RV :=
  vcall_of_wp (fun _ _ _ hl h => acall_of_wp mixed Try.func64 c64 (by kernel_rfl) hl h) hl h
@[go_sem] def l61_0 (_ : Unit) : KL := [kA 1 (.box (.t 0)),
  kB 2 (.mv (.c (.sl none 0 0 true 0))) [1]]
@[go_sem] def l61_1 (_ : Unit) : KL := [kB 3 (.mv (.c (.sl none 0 0 true 0))) [1, 3]]
@[go_sem] def l61_2 (_ : Unit) : KL := [kA 6 (.faddr (.t 1) 0),
  kA 7 (.load (.t 6) 1 false),
  kA 8 (.len (.t 7)),
  kB 9 (.mv (cI 0)) [3, 7, 8, 9]]
@[go_sem] def l61_3 (_ : Unit) : KL := [kB 10 (.bin .lss (.t 9) (.t 8)) [3, 7, 8, 9, 10]]
@[go_sem] def l61_4 (_ : Unit) : KL := [kA 11 (.iaddr (.t 7) (.t 9) 3),
  kA 12 (.load (.t 11) 3 true),
  kA 5 (.alloc [(.int .i64 0), (.int .i64 0), (.int .i64 0)]),
  (⟨none, .store (.t 5) 3 (.t 12), none⟩, (some [3, 5, 7, 8, 9]))]
@[go_sem] def l61_5 (_ : Unit) : KL := [kA 13 (.mv (.t 3)),
  kA 14 (.faddr (.t 5) 2),
  kA 15 (.load (.t 14) 1 false),
  kA 16 (.bslc 1 1 [(.int .i64 0)] [(0, (.t 15))]),
  kB 17 (.app 1 8 (.t 13) (.t 16)) [7, 8, 9, 17],
  kB 3 (.mv (.t 17)) [3, 7, 8, 9]]
@[go_sem] def s61_6 (_ : Unit) : IR := (sQ [(kT l61_4), (kT l61_5)])
@[go_sem] def s61_7 (_ : Unit) : IR := (.block 1 (tH s61_6))
@[go_sem] def l61_8 (_ : Unit) : KL := [kA 18 (.bin .add (.t 9) (cI 1)),
  kB 9 (.mv (.t 18)) [3, 7, 8, 9]]
@[go_sem] def s61_9 (_ : Unit) : IR := (sQ [(kT l61_3), (.cond (.t 10) .skip (.exit 0)), (tH s61_7), (kT l61_8)])
@[go_sem] def s61_10 (_ : Unit) : IR := (.loop (tH s61_9))
@[go_sem] def s61_11 (_ : Unit) : IR := (.block 0 (tH s61_10))
@[go_sem] def s61_12 (_ : Unit) : IR := (sQ [(kT l61_2), (tH s61_11)])
@[go_sem] def l61_13 (_ : Unit) : KL := [kA 19 (.mv (.t 3)),
  kA 20 (.call (n_impl_clone_int) [(.t 19)]),
  kB 2 (.mv (.t 20)) [2]]
@[go_sem] def s61_14 (_ : Unit) : IR := (sQ [(kT l61_0), (kT l61_1), (tH s61_12), (kT l61_13), .ret])
theorem c61 : compFn Try.prog [(0, [], [oN, oS [1]]), (1, [], [oS [1, 3]]), (2, [], [oN, oN, oN, oS [3, 7, 8, 9]]), (3, [], [oS [3, 7, 8, 9, 10]]), (4, [], [oN, oN, oN, oS [3, 5, 7, 8, 9]]), (5, [], [oN, oN, oN, oN, oS [7, 8, 9, 17], oS [3, 7, 8, 9]]), (6, [], [oN, oS [3, 7, 8, 9]]), (7, [], [oN, oN, oS [2]])] Try.f61 = some ⟨1, 21, [.t 2], (tH s61_14)⟩ := by kernel_rfl
theorem v_impl_first (hl : vs.length = 1) (h : wpV Try.prog (tH s61_14) (postV [.t 2] RV) (envV vs) M) : VCall Try.prog n_impl_first vs M RV :=
  vcall_of_wp (fun _ _ _ hl h => acall_of_wp mixed Try.func61 c61 (by kernel_rfl) hl h) hl h
@[go_sem] def l60_0 (_ : Unit) : KL := [kB 4 (.mv (.c (.bool false))) [0, 1]]
@[go_sem] def l60_1 (_ : Unit) : KL := [kA 6 (.mv (.t 0)),
  kA 7 (.len (.t 6)),
  kA 8 (.mv (.t 1)),
  kA 9 (.len (.t 8)),
  kB 10 (.bin .neq (.t 7) (.t 9)) [0, 1, 10]]
@[go_sem] def l60_2 (_ : Unit) : KL := [kB 4 (.mv (.c (.bool false))) [4]]
@[go_sem] def s60_3 (_ : Unit) : IR := (sQ [(kT l60_2), .ret])
@[go_sem] def s60_4 (_ : Unit) : IR := (sQ [(kT l60_1), (.cond (.t 10) (tH s60_3) .skip)])
@[go_sem] def l60_5 (_ : Unit) : KL := [kA 11 (.mv (.t 0)),
  kA 12 (.len (.t 11)),
  kB 13 (.mv (cI 0)) [0, 1, 12, 13]]
@[go_sem] def l60_6 (_ : Unit) : KL := [kB 14 (.bin .lss (.t 13) (.t 12)) [0, 1, 12, 13, 14]]
@[go_sem] def l60_7 (_ : Unit) : KL := [kA 15 (.mv (.t 13)),
  kB 5 (.mv (.t 15)) [0, 1, 5, 12, 13]]
@[go_sem] def l60_8 : Nat → GOp
  | 0 => ⟨(some 16), .mv (.t 0), none⟩
  | 1 => ⟨(some 17), .mv (.t 5), none⟩
  | 2 => ⟨(some 18), .iaddr (.t 16) (.t 17) 1, none⟩
  | 3 => ⟨(some 19), .load (.t 18) 1 false, none⟩
  | 4 => ⟨(some 20), .mv (.t 1), none⟩
  | 5 => ⟨(some 21), .mv (.t 5), none⟩
  | 6 => ⟨(some 22), .iaddr (.t 20) (.t 21) 1, none⟩
  | 7 => ⟨(some 23), .load (.t 22) 1 false, none⟩
  | 8 => ⟨(some 24), .bin .neq (.t 19) (.t 23), none⟩
  | _ => ⟨none, .mkmap, none⟩
@[go_sem] def l60_9 (_ : Unit) : KL := [kB 4 (.mv (.c (.bool false))) [4]]
@[go_sem] def s60_10 (_ : Unit) : IR := (sQ [(kT l60_9), .ret])
@[go_sem] def s60_11 (_ : Unit) : IR := (sQ [(kT l60_7), (.kd (oF l60_8 9) [(0, []), (1, []), (2, []), (3, []), (4, []), (5, []), (6, []), (7, []), (8, [])] [0, 1, 12, 13, 24]), (.cond (.t 24) (tH s60_10) .skip)])
@[go_sem] def s60_12 (_ : Unit) : IR := (.block 1 (tH s60_11))
@[go_sem] def l60_13 (_ : Unit) : KL := [kA 25 (.bin .add (.t 13) (cI 1)),
  kB 13 (.mv (.t 25)) [0, 1, 12, 13]]
@[go_sem] def s60_14 (_ : Unit) : IR := (sQ [(kT l60_6), (.cond (.t 14) .skip (.exit 0)), (tH s60_12), (kT l60_13)])
@[go_sem] def s60_15 (_ : Unit) : IR := (.loop (tH s60_14))
@[go_sem] def s60_16 (_ : Unit) : IR := (.block 0 (tH s60_15))
@[go_sem] def s60_17 (_ : Unit) : IR := (sQ [(kT l60_5), (tH s60_16)])
@[go_sem] def l60_18 (_ : Unit) : KL := [kB 4 (.mv (.c (.bool true))) [4]]
@[go_sem] def s60_19 (_ : Unit) : IR := (sQ [(kT l60_0), (tH s60_4), (tH s60_17), (kT l60_18), .ret])
theorem c60 : compFn Try.prog [(0, [], [oS [0, 1]]), (1, [], [oN, oN, oN, oN, oS [0, 1, 10]]), (2, [], [oS [4]]), (3, [], [oN, oN, oS [0, 1, 12, 13]]), (4, [], [oS [0, 1, 12, 13, 14]]), (5, [], [oN, oS [0, 1, 5, 12, 13]]), (6, [(0, []), (1, []), (2, []), (3, []), (4, []), (5, []), (6, []), (7, []), (8, [])], [oS [0, 1, 12, 13, 24]]), (7, [], [oS [4]]), (8, [], [oN, oS [0, 1, 12, 13]]), (9, [], [oS [4]])] Try.f60 = some ⟨2, 26, [.t 4], (tH s60_19)⟩ := by kernel_rfl
theorem v_slices_Equal_Sint_int (hl : vs.length = 2) (h : wpV Try.prog (tH s60_19) (postV [.t 4] RV) (envV vs) M) : VCall Try.prog n_slices_Equal_Sint_int vs M RV :=
  vcall_of_wp (fun _ _ _ hl h => acall_of_wp mixed Try.func60 c60 (by kernel_rfl) hl h) hl h
@[go_sem] def l67_0 (_ : Unit) : KL := [kB 2 (.mv (.c (.sl none 0 0 true 0))) [0]]
@[go_sem] def l67_1 (_ : Unit) : KL := [kA 4 (.mv (.t 0)),
  kA 5 (.len (.t 4)),
  kB 6 (.bin .eql (.t 5) (cI 0)) [0, 6]]
@[go_sem] def l67_2 (_ : Unit) : KL := [kB 2 (.mv (.c (.sl none 0 0 true 0))) [2]]
@[go_sem] def s67_3 (_ : Unit) : IR := (sQ [(kT l67_2), .ret])
@[go_sem] def s67_4 (_ : Unit) : IR := (sQ [(kT l67_1), (.cond (.t 6) (tH s67_3) .skip)])
@[go_sem] def l67_5 (_ : Unit) : KL := [kA 7 (.mv (.t 0)),
  kA 8 (.len (.t 7)),
  kA 9 (.mks [(.sl none 0 0 true 0)] 24 (.t 8)),
  kB 3 (.mv (.t 9)) [0, 3]]
@[go_sem] def l67_6 (_ : Unit) : KL := [kA 10 (.mv (.t 3)),
  kA 11 (.mv (.t 0)),
  kB 12 (.copy 1 (.t 10) (.t 11)) [3]]
@[go_sem] def l67_7 (_ : Unit) : KL := [kA 13 (.mv (.t 3)),
  kB 2 (.mv (.t 13)) [2]]
@[go_sem] def s67_8 (_ : Unit) : IR := (sQ [(kT l67_0), (tH s67_4), (kT l67_5), (kT l67_6), (kT l67_7), .ret])
theorem c67 : compFn Try.prog [(0, [], [oS [0]]), (1, [], [oN, oN, oS [0, 6]]), (2, [], [oS [2]]), (3, [], [oN, oN, oN, oS [0, 3]]), (4, [], [oN, oN, oS [3]]), (5, [], [oN, oS [2]])] Try.f67 = some ⟨1, 14, [.t 2], (tH s67_8)⟩ := by kernel_rfl
theorem v_impl_clone_Sint (hl : vs.length = 1) (h : wpV Try.prog (tH s67_8) (postV [.t 2] RV) (envV vs) M) : VCall Try.prog n_impl_clone_Sint vs M RV :=
  vcall_of_wp (fun _ _ _ hl h => acall_of_wp mixed Try.func67 c67 (by kernel_rfl) hl h) hl h
@[go_sem] def l62_0 (_ : Unit) : KL := [kB 2 (.mv (.c (.sl none 0 0 true 0))) [0]]
@[go_sem] def l62_1 (_ : Unit) : KL := [kB 3 (.mv (.c (.sl none 0 0 true 0))) [0, 3]]
@[go_sem] def l62_2 (_ : Unit) : KL := [kA 6 (.mv (.t 0)),
  kA 7 (.len (.t 6)),
  kB 8 (.mv (cI 0)) [3, 6, 7, 8]]
@[go_sem] def l62_3 (_ : Unit) : KL := [kB 9 (.bin .lss (.t 8) (.t 7)) [3, 6, 7, 8, 9]]
@[go_sem] def l62_4 (_ : Unit) : KL := [kA 10 (.iaddr (.t 6) (.t 8) 1),
  kA 11 (.load (.t 10) 1 false),
  kB 5 (.mv (.t 11)) [3, 5, 6, 7, 8]]
@[go_sem] def l62_5 (_ : Unit) : KL := [kA 12 (.mv (.t 3)),
  kA 13 (.mv (.t 5)),
  kA 14 (.call (n_impl_clone_int) [(.t 13)]),
  kA 15 (.bslc 1 1 [(.sl none 0 0 true 0)] [(0, (.t 14))]),
  kB 16 (.app 1 24 (.t 12) (.t 15)) [6, 7, 8, 16],
  kB 3 (.mv (.t 16)) [3, 6, 7, 8]]
@[go_sem] def s62_6 (_ : Unit) : IR := (sQ [(kT l62_4), (kT l62_5)])
@[go_sem] def s62_7 (_ : Unit) : IR := (.block 1 (tH s62_6))
@[go_sem] def l62_8 (_ : Unit) : KL := [kA 17 (.bin .add (.t 8) (cI 1)),
  kB 8 (.mv (.t 17)) [3, 6, 7, 8]]
@[go_sem] def s62_9 (_ : Unit) : IR := (sQ [(kT l62_3), (.cond (.t 9) .skip (.exit 0)), (tH s62_7), (kT l62_8)])
@[go_sem] def s62_10 (_ : Unit) : IR := (.loop (tH s62_9))
@[go_sem] def s62_11 (_ : Unit) : IR := (.block 0 (tH s62_10))
@[go_sem] def s62_12 (_ : Unit) : IR := (sQ [(kT l62_2), (tH s62_11)])
@[go_sem] def l62_13 (_ : Unit) : KL := [kA 18 (.mv (.t 3)),
  kA 19 (.call (n_impl_clone_Sint) [(.t 18)]),
  kB 2 (.mv (.t 19)) [2]]
@[go_sem] def s62_14 (_ : Unit) : IR := (sQ [(kT l62_0), (kT l62_1), (tH s62_12), (kT l62_13), .ret])
theorem c62 : compFn Try.prog [(0, [], [oS [0]]), (1, [], [oS [0, 3]]), (2, [], [oN, oN, oS [3, 6, 7, 8]]), (3, [], [oS [3, 6, 7, 8, 9]]), (4, [], [oN, oN, oS [3, 5, 6, 7, 8]]), (5, [], [oN, oN, oN, oN, oS [6, 7, 8, 16], oS [3, 6, 7, 8]]), (6, [], [oN, oS [3, 6, 7, 8]]), (7, [], [oN, oN, oS [2]])] Try.f62 = some ⟨1, 20, [.t 2], (tH s62_14)⟩ := by kernel_rfl
theorem v_impl_lists (hl : vs.length = 1) (h : wpV Try.prog (tH s62_14) (postV [.t 2] RV) (envV vs) M) : VCall Try.prog n_impl_lists vs M RV :=
  vcall_of_wp (fun _ _ _ hl h => acall_of_wp mixed Try.func62 c62 (by kernel_rfl) hl h) hl h
@[go_sem] def l82_0 (_ : Unit) : KL := [kA 2 (.box (.t 0)),
  kB 4 (.mv (.c (.bool false))) [1, 2]]
@[go_sem] def l82_1 (_ : Unit) : KL := [kA 7 (.mv (.t 1)),
  kA 8 (.len (.t 7)),
  kA 9 (.faddr (.t 2) 0),
  kA 10 (.load (.t 9) 1 false),
  kB 11 (.len (.t 10)) [1, 2, 8, 11],
  kB 12 (.bin .neq (.t 8) (.t 11)) [1, 2, 12]]
@[go_sem] def l82_2 (_ : Unit) : KL := [kB 4 (.mv (.c (.bool false))) [4]]
@[go_sem] def s82_3 (_ : Unit) : IR := (sQ [(kT l82_2), .ret])
@[go_sem] def s82_4 (_ : Unit) : IR := (sQ [(kT l82_1), (.cond (.t 12) (tH s82_3) .skip)])
@[go_sem] def l82_5 (_ : Unit) : KL := [kA 13 (.faddr (.t 2) 0),
  kA 14 (.load (.t 13) 1 false),
  kA 15 (.len (.t 14)),
  kB 16 (.mv (cI 0)) [1, 14, 15, 16]]
@[go_sem] def l82_6 (_ : Unit) : KL := [kB 17 (.bin .lss (.t 16) (.t 15)) [1, 14, 15, 16, 17]]
@[go_sem] def l82_7 (_ : Unit) : KL := [kA 18 (.mv (.t 16)),
  kA 19 (.iaddr (.t 14) (.t 16) 3),
  kA 20 (.load (.t 19) 3 true),
  kA 6 (.alloc [(.int .i64 0), (.int .i64 0), (.int .i64 0)]),
  kB 5 (.mv (.t 18)) [1, 5, 6, 14, 15, 16, 20],
  (⟨none, .store (.t 6) 3 (.t 20), none⟩, (some [1, 5, 6, 14, 15, 16]))]
@[go_sem] def l82_8 : Nat → GOp
  | 0 => ⟨(some 21), .mv (.t 1), none⟩
  | 1 => ⟨(some 22), .mv (.t 5), none⟩
  | 2 => ⟨(some 23), .iaddr (.t 21) (.t 22) 1, none⟩
  | 3 => ⟨(some 24), .load (.t 23) 1 false, none⟩
  | 4 => ⟨(some 25), .faddr (.t 6) 0, none⟩
  | 5 => ⟨(some 26), .load (.t 25) 1 false, none⟩
  | 6 => ⟨(some 27), .faddr (.t 6) 1, none⟩
  | 7 => ⟨(some 28), .load (.t 27) 1 false, none⟩
  | 8 => ⟨(some 29), .call (n_impl_in) [(.t 24), (.t 26), (.t 28)], none⟩
  | 9 => ⟨(some 30), .un .not (.t 29), none⟩
  | _ => ⟨none, .mkmap, none⟩
@[go_sem] def l82_9 (_ : Unit) : KL := [kB 4 (.mv (.c (.bool false))) [4]]
@[go_sem] def s82_10 (_ : Unit) : IR := (sQ [(kT l82_9), .ret])
@[go_sem] def s82_11 (_ : Unit) : IR := (sQ [(kT l82_7), (.kd (oF l82_8 10) [(0, []), (1, []), (2, []), (3, []), (4, []), (5, []), (6, []), (7, []), (8, []), (9, [])] [1, 14, 15, 16, 30]), (.cond (.t 30) (tH s82_10) .skip)])
@[go_sem] def s82_12 (_ : Unit) : IR := (.block 1 (tH s82_11))
@[go_sem] def l82_13 (_ : Unit) : KL := [kA 31 (.bin .add (.t 16) (cI 1)),
  kB 16 (.mv (.t 31)) [1, 14, 15, 16]]
@[go_sem] def s82_14 (_ : Unit) : IR := (sQ [(kT l82_6), (.cond (.t 17) .skip (.exit 0)), (tH s82_12), (kT l82_13)])
@[go_sem] def s82_15 (_ : Unit) : IR := (.loop (tH s82_14))
@[go_sem] def s82_16 (_ : Unit) : IR := (.block 0 (tH s82_15))
@[go_sem] def s82_17 (_ : Unit) : IR := (sQ [(kT l82_5), (tH s82_16)])
@[go_sem] def l82_18 (_ : Unit) : KL := [kB 4 (.mv (.c (.bool true))) [4]]
@[go_sem] def s82_19 (_ : Unit) : IR := (sQ [(kT l82_0), (tH s82_4), (tH s82_17), (kT l82_18), .ret])
theorem c82 : compFn Try.prog [(0, [], [oN, oS [1, 2]]), (1, [], [oN, oN, oN, oN, oS [1, 2, 8, 11], oS [1, 2, 12]]), (2, [], [oS [4]]), (3, [], [oN, oN, oN, oS [1, 14, 15, 16]]), (4, [], [oS [1, 14, 15, 16, 17]]), (5, [], [oN, oN, oN, oN, oS [1, 5, 6, 14, 15, 16, 20], oS [1, 5, 6, 14, 15, 16]]), (6, [(0, []), (1, []), (2, []), (3, []), (4, []), (5, []), (6, []), (7, []), (8, []), (9, [])], [oS [1, 14, 15, 16, 30]]), (7, [], [oS [4]]), (8, [], [oN, oS [1, 14, 15, 16]]), (9, [], [oS [4]])] Try.f82 = some ⟨2, 32, [.t 4], (tH s82_19)⟩ := by kernel_rfl
theorem v_impl_inRange (hl : vs.length = 2) (h : wpV Try.prog (tH s82_19) (postV [.t 4] RV) (envV vs) M) : VCall Try.prog n_impl_inRange vs M RV :=
  vcall_of_wp (fun _ _ _ hl h => acall_of_wp mixed Try.func82 c82 (by kernel_rfl) hl h) hl h
@[go_sem] def l41_0 (_ : Unit) : KL := [kA 2 (.box (.t 0)),
  kB 4 (.mv (.c (.bool false))) [1, 2]]
@[go_sem] def l41_1 (_ : Unit) : KL := [kA 5 (.load (.t 2) 2 true),
  kA 6 (.call (n_impl_SystemValid) [(.t 5)]),
  kA 7 (.mv (.t 6)),
  (⟨(some 8), .load (.t 2) 2 true, (some (7, true))⟩, none),
  (⟨(some 9), .mv (.t 1), (some (7, true))⟩, (some [7, 8, 9])),
  (⟨(some 10), .call (n_impl_inRange) [(.t 8), (.t 9)], (some (7, true))⟩, none),
  kA 11 (.pick (.t 7) (.t 10) (.c (.bool false))),
  kB 4 (.mv (.t 11)) [4]]
@[go_sem] def s41_2 (_ : Unit) : IR := (sQ [(kT l41_0), (kT l41_1), .ret])
theorem c41 : compFn Try.prog [(0, [], [oN, oS [1, 2]]), (1, [], [oN, oN, oN, oN, oS [7, 8, 9], oN, oN, oS [4]])] Try.f41 = some ⟨2, 12, [.t 4], (tH s41_2)⟩ := by kernel_rfl
theorem v_impl_InRange (hl : vs.length = 2) (h : wpV Try.prog (tH s41_2) (postV [.t 4] RV) (envV vs) M) : VCall Try.prog n_impl_InRange vs M RV :=
  vcall_of_wp (fun _ _ _ hl h => acall_of_wp mixed Try.func41 c41 (by kernel_rfl) hl h) hl h
@[go_sem] def l134_0 (_ : Unit) : KL := [kB 2 (.mv (cI 0)) [0]]
@[go_sem] def l134_1 (_ : Unit) : KL := [kA 3 (.mv (.t 0)),
  kA 4 (.mnx false (.c (.int .i64 9999)) (.t 3)),
  kA 5 (.mnx true (.c (.int .i64 (-9999))) (.t 4)),
  kB 2 (.mv (.t 5)) [2]]
@[go_sem] def s134_2 (_ : Unit) : IR := (sQ [(kT l134_0), (kT l134_1), .ret])
theorem c134 : compFn Try.prog [(0, [], [oS [0]]), (1, [], [oN, oN, oN, oS [2]])] Try.f134 = some ⟨1, 6, [.t 2], (tH s134_2)⟩ := by kernel_rfl
theorem v_impl_held (hl : vs.length = 1) (h : wpV Try.prog (tH s134_2) (postV [.t 2] RV) (envV vs) M) : VCall Try.prog n_impl_held vs M RV :=
  vcall_of_wp (fun _ _ _ hl h => acall_of_wp mixed Try.func134 c134 (by kernel_rfl) hl h) hl h
@[go_sem] def l135_0 (_ : Unit) : KL := [kB 2 (.mv (cI 0)) [0]]
@[go_sem] def l135_1 (_ : Unit) : KL := [kB 3 (.mv (.t 0)) [3]]
@[go_sem] def l135_2 (_ : Unit) : KL := [kB 2 (.mv (cI 1)) [2]]
@[go_sem] def s135_3 (_ : Unit) : IR := (sQ [(kT l135_2), .ret])
@[go_sem] def s135_4 (_ : Unit) : IR := (sQ [(kT l135_1), (.cond (.t 3) (tH s135_3) .skip)])
@[go_sem] def l135_5 (_ : Unit) : KL := [kB 2 (.mv (cI 0)) [2]]
@[go_sem] def s135_6 (_ : Unit) : IR := (sQ [(kT l135_0), (tH s135_4), (kT l135_5), .ret])
theorem c135 : compFn Try.prog [(0, [], [oS [0]]), (1, [], [oS [3]]), (2, [], [oS [2]]), (3, [], [oS [2]])] Try.f135 = some ⟨1, 4, [.t 2], (tH s135_6)⟩ := by kernel_rfl
theorem v_impl_bit (hl : vs.length = 1) (h : wpV Try.prog (tH s135_6) (postV [.t 2] RV) (envV vs) M) : VCall Try.prog n_impl_bit vs M RV :=
  vcall_of_wp (fun _ _ _ hl h => acall_of_wp mixed Try.func135 c135 (by kernel_rfl) hl h) hl h
@[go_sem] def l127_0 (_ : Unit) : KL := [kB 6 (.mv (cI 0)) [0, 1, 2]]
@[go_sem] def l127_1 (_ : Unit) : KL := [kB 7 (.mv (.t 0)) [1, 2, 7]]
@[go_sem] def l127_2 (_ : Unit) : KL := [kA 9 (.bin .eql (.t 7) (.c (.int .i64 2))),
  kB 8 (.mv (.t 9)) [1, 2, 7, 8]]
@[go_sem] def l127_3 (_ : Unit) : KL := [kA 10 (.mv (.t 1)),
  kA 11 (.mv (.t 2)),
  kA 12 (.bin .add (.t 10) (.t 11)),
  kA 13 (.call (n_impl_held) [(.t 12)]),
  kB 6 (.mv (.t 13)) [6]]
@[go_sem] def s127_4 (_ : Unit) : IR := (sQ [(kT l127_3), .ret])
@[go_sem] def l127_5 (_ : Unit) : KL := [kA 15 (.bin .eql (.t 7) (.c (.int .i64 3))),
  kB 14 (.mv (.t 15)) [1, 2, 7, 14]]
@[go_sem] def l127_6 (_ : Unit) : KL := [kA 16 (.mv (.t 1)),
  kA 17 (.mv (.t 2)),
  kA 18 (.bin .sub (.t 16) (.t 17)),
  kA 19 (.call (n_impl_held) [(.t 18)]),
  kB 6 (.mv (.t 19)) [6]]
@[go_sem] def s127_7 (_ : Unit) : IR := (sQ [(kT l127_6), .ret])
@[go_sem] def l127_8 (_ : Unit) : KL := [kA 21 (.bin .eql (.t 7) (.c (.int .i64 4))),
  kB 20 (.mv (.t 21)) [1, 2, 7, 20]]
@[go_sem] def l127_9 (_ : Unit) : KL := [kA 22 (.mv (.t 1)),
  kA 23 (.mv (.t 2)),
  kA 24 (.bin .mul (.t 22) (.t 23)),
  kA 25 (.call (n_impl_held) [(.t 24)]),
  kB 6 (.mv (.t 25)) [6]]
@[go_sem] def s127_10 (_ : Unit) : IR := (sQ [(kT l127_9), .ret])
@[go_sem] def l127_11 (_ : Unit) : KL := [kA 27 (.bin .eql (.t 7) (.c (.int .i64 5))),
  kB 26 (.mv (.t 27)) [1, 2, 7, 26]]
@[go_sem] def l127_12 (_ : Unit) : KL := [kA 28 (.mv (.t 1)),
  kA 29 (.mv (.t 2)),
  kA 30 (.bin .lss (.t 28) (.t 29)),
  kA 31 (.call (n_impl_bit) [(.t 30)]),
  kB 6 (.mv (.t 31)) [6]]
@[go_sem] def s127_13 (_ : Unit) : IR := (sQ [(kT l127_12), .ret])
@[go_sem] def l127_14 (_ : Unit) : KL := [kA 33 (.bin .eql (.t 7) (.c (.int .i64 6))),
  kB 32 (.mv (.t 33)) [1, 2, 7, 32]]
@[go_sem] def l127_15 (_ : Unit) : KL := [kA 34 (.mv (.t 1)),
  kA 35 (.mv (.t 2)),
  kA 36 (.bin .eql (.t 34) (.t 35)),
  kA 37 (.call (n_impl_bit) [(.t 36)]),
  kB 6 (.mv (.t 37)) [6]]
@[go_sem] def s127_16 (_ : Unit) : IR := (sQ [(kT l127_15), .ret])
@[go_sem] def l127_17 (_ : Unit) : KL := [kA 39 (.bin .eql (.t 7) (.c (.int .i64 7))),
  kB 38 (.mv (.t 39)) [1, 2, 7, 38]]
@[go_sem] def l127_18 (_ : Unit) : KL := [kA 40 (.mv (.t 1)),
  kA 41 (.bin .sub (cI 1) (.t 40)),
  kB 6 (.mv (.t 41)) [6]]
@[go_sem] def s127_19 (_ : Unit) : IR := (sQ [(kT l127_18), .ret])
@[go_sem] def l127_20 (_ : Unit) : KL := [kA 43 (.bin .eql (.t 7) (.c (.int .i64 8))),
  kB 42 (.mv (.t 43)) [1, 2, 42]]
@[go_sem] def l127_21 (_ : Unit) : KL := [kA 44 (.mv (.t 1)),
  kA 45 (.mv (.t 2)),
  kA 46 (.mnx false (.t 44) (.t 45)),
  kB 6 (.mv (.t 46)) [6]]
@[go_sem] def s127_22 (_ : Unit) : IR := (sQ [(kT l127_21), .ret])
@[go_sem] def s127_23 (_ : Unit) : IR := (sQ [(kT l127_20), (.cond (.t 42) (tH s127_22) .skip)])
@[go_sem] def s127_24 (_ : Unit) : IR := (sQ [(kT l127_17), (.cond (.t 38) (tH s127_19) (tH s127_23))])
@[go_sem] def s127_25 (_ : Unit) : IR := (sQ [(kT l127_14), (.cond (.t 32) (tH s127_16) (tH s127_24))])
@[go_sem] def s127_26 (_ : Unit) : IR := (sQ [(kT l127_11), (.cond (.t 26) (tH s127_13) (tH s127_25))])
@[go_sem] def s127_27 (_ : Unit) : IR := (sQ [(kT l127_8), (.cond (.t 20) (tH s127_10) (tH s127_26))])
@[go_sem] def s127_28 (_ : Unit) : IR := (sQ [(kT l127_5), (.cond (.t 14) (tH s127_7) (tH s127_27))])
@[go_sem] def s127_29 (_ : Unit) : IR := (sQ [(kT l127_2), (.cond (.t 8) (tH s127_4) (tH s127_28))])
@[go_sem] def s127_30 (_ : Unit) : IR := (.block 0 (tH s127_29))
@[go_sem] def s127_31 (_ : Unit) : IR := (sQ [(kT l127_1), (tH s127_30)])
@[go_sem] def l127_32 (_ : Unit) : KL := [kA 47 (.mv (.t 1)),
  kA 48 (.mv (.t 2)),
  kA 49 (.mnx true (.t 47) (.t 48)),
  kB 6 (.mv (.t 49)) [6]]
@[go_sem] def s127_33 (_ : Unit) : IR := (sQ [(kT l127_0), (tH s127_31), (kT l127_32), .ret])
theorem c127 : compFn Try.prog [(0, [], [oS [0, 1, 2]]), (1, [], [oS [1, 2, 7]]), (2, [], [oN, oS [1, 2, 7, 8]]), (3, [], [oN, oN, oN, oN, oS [6]]), (4, [], [oN, oS [1, 2, 7, 14]]), (5, [], [oN, oN, oN, oN, oS [6]]), (6, [], [oN, oS [1, 2, 7, 20]]), (7, [], [oN, oN, oN, oN, oS [6]]), (8, [], [oN, oS [1, 2, 7, 26]]), (9, [], [oN, oN, oN, oN, oS [6]]), (10, [], [oN, oS [1, 2, 7, 32]]), (11, [], [oN, oN, oN, oN, oS [6]]), (12, [], [oN, oS [1, 2, 7, 38]]), (13, [], [oN, oN, oS [6]]), (14, [], [oN, oS [1, 2, 42]]), (15, [], [oN, oN, oN, oS [6]]), (16, [], [oN, oN, oN, oS [6]])] Try.f127 = some ⟨3, 50, [.t 6], (tH s127_33)⟩ := by kernel_rfl
theorem v_impl_do (hl : vs.length = 3) (h : wpV Try.prog (tH s127_33) (postV [.t 6] RV) (envV vs) M) : VCall Try.prog n_impl_do vs M RV :=
  vcall_of_wp (fun _ _ _ hl h => acall_of_wp mixed Try.func127 c127 (by kernel_rfl) hl h) hl h
@[go_sem] def l115_0 (_ : Unit) : KL := [kB 4 (.mv (cI 0)) [0, 1]]
@[go_sem] def l115_1 (_ : Unit) : KL := [kA 8 (.mv (.t 0)),
  kA 9 (.len (.t 8)),
  kA 10 (.mks [(.int .i64 0)] 8 (.t 9)),
  kB 5 (.mv (.t 10)) [0, 1, 5]]
@[go_sem] def l115_2 (_ : Unit) : KL := [kA 11 (.mv (.t 0)),
  kA 12 (.len (.t 11)),
  kB 13 (.mv (cI 0)) [1, 5, 11, 12, 13]]
@[go_sem] def l115_3 (_ : Unit) : KL := [kB 14 (.bin .lss (.t 13) (.t 12)) [1, 5, 11, 12, 13, 14]]
@[go_sem] def l115_4 (_ : Unit) : KL := [kA 15 (.mv (.t 13)),
  kA 16 (.iaddr (.t 11) (.t 13) 4),
  kA 17 (.load (.t 16) 4 true),
  kA 7 (.alloc [(.int .i64 0), (.int .i64 0), (.int .i64 0), (.int .i64 0)]),
  kB 6 (.mv (.t 15)) [1, 5, 6, 7, 11, 12, 13, 17],
  (⟨none, .store (.t 7) 4 (.t 17), none⟩, (some [1, 5, 6, 7, 11, 12, 13]))]
@[go_sem] def l115_5 (_ : Unit) : KL := [kA 18 (.faddr (.t 7) 0),
  kB 19 (.load (.t 18) 1 false) [1, 5, 6, 7, 11, 12, 13, 19]]
@[go_sem] def l115_6 (_ : Unit) : KL := [kA 37 (.bin .eql (.t 19) (cI 0)),
  kB 36 (.mv (.t 37)) [1, 5, 6, 7, 11, 12, 13, 19, 36]]
@[go_sem] def l115_7 (_ : Unit) : KL := [kA 38 (.mv (.t 5)),
  kA 39 (.mv (.t 6)),
  kA 40 (.faddr (.t 7) 1),
  kA 41 (.load (.t 40) 1 false),
  kB 42 (.iaddr (.t 38) (.t 39) 1) [1, 5, 11, 12, 13, 41, 42],
  (⟨none, .store (.t 42) 1 (.t 41), none⟩, (some [1, 5, 11, 12, 13]))]
@[go_sem] def l115_8 (_ : Unit) : KL := [kA 44 (.bin .eql (.t 19) (cI 1)),
  kB 43 (.mv (.t 44)) [1, 5, 6, 7, 11, 12, 13, 43]]
@[go_sem] def l115_9 (_ : Unit) : KL := [kA 45 (.mv (.t 5)),
  kA 46 (.mv (.t 6)),
  kA 47 (.mv (.t 1)),
  kA 48 (.faddr (.t 7) 1),
  kB 49 (.load (.t 48) 1 false) [1, 5, 11, 12, 13, 45, 46, 47, 49],
  kA 50 (.iaddr (.t 47) (.t 49) 1),
  kA 51 (.load (.t 50) 1 false),
  kA 52 (.iaddr (.t 45) (.t 46) 1),
  (⟨none, .store (.t 52) 1 (.t 51), none⟩, (some [1, 5, 11, 12, 13]))]
@[go_sem] def l115_10 : Nat → GOp
  | 0 => ⟨(some 20), .mv (.t 5), none⟩
  | 1 => ⟨(some 21), .mv (.t 6), none⟩
  | 2 => ⟨(some 22), .faddr (.t 7) 0, none⟩
  | 3 => ⟨(some 23), .load (.t 22) 1 false, none⟩
  | 4 => ⟨(some 24), .mv (.t 5), none⟩
  | 5 => ⟨(some 25), .faddr (.t 7) 2, none⟩
  | 6 => ⟨(some 26), .load (.t 25) 1 false, none⟩
  | 7 => ⟨(some 27), .iaddr (.t 24) (.t 26) 1, none⟩
  | 8 => ⟨(some 28), .load (.t 27) 1 false, none⟩
  | 9 => ⟨(some 29), .mv (.t 5), none⟩
  | 10 => ⟨(some 30), .faddr (.t 7) 3, none⟩
  | 11 => ⟨(some 31), .load (.t 30) 1 false, none⟩
  | 12 => ⟨(some 32), .iaddr (.t 29) (.t 31) 1, none⟩
  | 13 => ⟨(some 33), .load (.t 32) 1 false, none⟩
  | 14 => ⟨(some 34), .call (n_impl_do) [(.t 23), (.t 28), (.t 33)], none⟩
  | 15 => ⟨(some 35), .iaddr (.t 20) (.t 21) 1, none⟩
  | 16 => ⟨none, .store (.t 35) 1 (.t 34), none⟩
  | _ => ⟨none, .mkmap, none⟩
@[go_sem] def s115_11 (_ : Unit) : IR := (sQ [(kT l115_8), (.cond (.t 43) (kT l115_9) (.kd (oF l115_10 17) [(0, []), (1, []), (2, []), (3, []), (4, []), (5, []), (6, []), (7, []), (8, []), (9, []), (10, []), (11, []), (12, []), (13, []), (14, []), (15, []), (16, [])] [1, 5, 11, 12, 13]))])
@[go_sem] def s115_12 (_ : Unit) : IR := (sQ [(kT l115_6), (.cond (.t 36) (kT l115_7) (tH s115_11))])
@[go_sem] def s115_13 (_ : Unit) : IR := (.block 2 (tH s115_12))
@[go_sem] def s115_14 (_ : Unit) : IR := (sQ [(kT l115_4), (kT l115_5), (tH s115_13)])
@[go_sem] def s115_15 (_ : Unit) : IR := (.block 1 (tH s115_14))
@[go_sem] def l115_16 (_ : Unit) : KL := [kA 53 (.bin .add (.t 13) (cI 1)),
  kB 13 (.mv (.t 53)) [1, 5, 11, 12, 13]]
@[go_sem] def s115_17 (_ : Unit) : IR := (sQ [(kT l115_3), (.cond (.t 14) .skip (.exit 0)), (tH s115_15), (kT l115_16)])
@[go_sem] def s115_18 (_ : Unit) : IR := (.loop (tH s115_17))
@[go_sem] def s115_19 (_ : Unit) : IR := (.block 0 (tH s115_18))
@[go_sem] def s115_20 (_ : Unit) : IR := (sQ [(kT l115_2), (tH s115_19)])
@[go_sem] def l115_21 (_ : Unit) : KL := [kA 54 (.mv (.t 5)),
  kA 55 (.mv (.t 5)),
  kA 56 (.len (.t 55)),
  kA 57 (.bin .sub (.t 56) (cI 1)),
  kB 58 (.iaddr (.t 54) (.t 57) 1) [58],
  kA 59 (.load (.t 58) 1 false),
  kB 4 (.mv (.t 59)) [4]]
@[go_sem] def s115_22 (_ : Unit) : IR := (sQ [(kT l115_0), (kT l115_1), (tH s115_20), (kT l115_21), .ret])
theorem c115 : compFn Try.prog [(0, [], [oS [0, 1]]), (1, [], [oN, oN, oN, oS [0, 1, 5]]), (2, [], [oN, oN, oS [1, 5, 11, 12, 13]]), (3, [], [oS [1, 5, 11, 12, 13, 14]]), (4, [], [oN, oN, oN, oN, oS [1, 5, 6, 7, 11, 12, 13, 17], oS [1, 5, 6, 7, 11, 12, 13]]), (5, [], [oN, oS [1, 5, 6, 7, 11, 12, 13, 19]]), (7, [], [oN, oS [1, 5, 6, 7, 11, 12, 13, 19, 36]]), (8, [], [oN, oN, oN, oN, oS [1, 5, 11, 12, 13, 41, 42], oS [1, 5, 11, 12, 13]]), (9, [], [oN, oS [1, 5, 6, 7, 11, 12, 13, 43]]), (10, [], [oN, oN, oN, oN, oS [1, 5, 11, 12, 13, 45, 46, 47, 49], oN, oN, oN, oS [1, 5, 11, 12, 13]]), (6, [(0, []), (1, []), (2, []), (3, []), (4, []), (5, []), (6, []), (7, []), (8, []), (9, []), (10, []), (11, []), (12, []), (13, []), (14, []), (15, []), (16, [])], [oS [1, 5, 11, 12, 13]]), (11, [], [oN, oS [1, 5, 11, 12, 13]]), (12, [], [oN, oN, oN, oN, oS [58], oN, oS [4]])] Try.f115 = some ⟨2, 60, [.t 4], (tH s115_22)⟩ := by kernel_rfl
theorem v_impl_eval (hl : vs.length = 2) (h : wpV Try.prog (tH s115_22) (postV [.t 4] RV) (envV vs) M) : VCall Try.prog n_impl_eval vs M RV :=
  vcall_of_wp (fun _ _ _ hl h => acall_of_wp mixed Try.func115 c115 (by kernel_rfl) hl h) hl h
@[go_sem] def l83_0 (_ : Unit) : KL := [kA 3 (.box (.t 0)),
  kA 6 (.mv (.c (.sl none 0 0 true 0))),
  kB 7 (.mv (.c (.bool false))) [1, 2, 3]]
@[go_sem] def l83_1 (_ : Unit) : KL := [kA 12 (.faddr (.t 3) 1),
  kA 13 (.load (.t 12) 1 false),
  kA 14 (.mv (.t 2)),
  kA 15 (.iaddr (.t 13) (.t 14) 3),
  kB 16 (.load (.t 15) 3 true) [1, 3, 16],
  kA 8 (.alloc [(.sl none 0 0 true 0), (.sl none 0 0 true 0), (.sl none 0 0 true 0)]),
  (⟨none, .store (.t 8) 3 (.t 16), none⟩, (some [1, 3, 8]))]
@[go_sem] def l83_2 (_ : Unit) : KL := [kA 17 (.faddr (.t 8) 0),
  kA 18 (.load (.t 17) 1 false),
  kA 19 (.mv (.t 1)),
  kA 20 (.call (n_impl_eval) [(.t 18), (.t 19)]),
  kB 21 (.bin .eql (.t 20) (cI 0)) [1, 3, 8, 21]]
@[go_sem] def l83_3 (_ : Unit) : KL := [kA 6 (.mv (.c (.sl none 0 0 true 0))),
  kB 7 (.mv (.c (.bool false))) [6, 7]]
@[go_sem] def s83_4 (_ : Unit) : IR := (sQ [(kT l83_3), .ret])
@[go_sem] def s83_5 (_ : Unit) : IR := (sQ [(kT l83_2), (.cond (.t 21) (tH s83_4) .skip)])
@[go_sem] def l83_6 (_ : Unit) : KL := [kA 22 (.mv (.t 1)),
  kA 23 (.call (n_impl_clone_int) [(.t 22)]),
  kB 9 (.mv (.t 23)) [1, 3, 8, 9]]
@[go_sem] def l83_7 (_ : Unit) : KL := [kA 24 (.faddr (.t 8) 1),
  kA 25 (.load (.t 24) 1 false),
  kA 26 (.len (.t 25)),
  kB 27 (.mv (cI 0)) [1, 3, 8, 9, 25, 26, 27]]
@[go_sem] def l83_8 (_ : Unit) : KL := [kB 28 (.bin .lss (.t 27) (.t 26)) [1, 3, 8, 9, 25, 26, 27, 28]]
@[go_sem] def l83_9 (_ : Unit) : KL := [kA 29 (.mv (.t 27)),
  kA 30 (.iaddr (.t 25) (.t 27) 1),
  kA 31 (.load (.t 30) 1 false),
  kA 10 (.mv (.t 29)),
  kB 11 (.mv (.t 31)) [1, 3, 8, 9, 10, 11, 25, 26, 27]]
@[go_sem] def l83_10 (_ : Unit) : KL := [kA 32 (.mv (.t 9)),
  kA 33 (.mv (.t 11)),
  kA 34 (.faddr (.t 8) 2),
  kA 35 (.load (.t 34) 1 false),
  kB 36 (.mv (.t 10)) [1, 3, 8, 9, 25, 26, 27, 32, 33, 35, 36],
  kA 37 (.iaddr (.t 35) (.t 36) 1),
  kA 38 (.load (.t 37) 1 false),
  kA 39 (.mv (.t 1)),
  kA 40 (.call (n_impl_eval) [(.t 38), (.t 39)]),
  kB 41 (.iaddr (.t 32) (.t 33) 1) [1, 3, 8, 9, 25, 26, 27, 40, 41],
  (⟨none, .store (.t 41) 1 (.t 40), none⟩, (some [1, 3, 8, 9, 25, 26, 27]))]
@[go_sem] def s83_11 (_ : Unit) : IR := (sQ [(kT l83_9), (kT l83_10)])
@[go_sem] def s83_12 (_ : Unit) : IR := (.block 1 (tH s83_11))
@[go_sem] def l83_13 (_ : Unit) : KL := [kA 42 (.bin .add (.t 27) (cI 1)),
  kB 27 (.mv (.t 42)) [1, 3, 8, 9, 25, 26, 27]]
@[go_sem] def s83_14 (_ : Unit) : IR := (sQ [(kT l83_8), (.cond (.t 28) .skip (.exit 0)), (tH s83_12), (kT l83_13)])
@[go_sem] def s83_15 (_ : Unit) : IR := (.loop (tH s83_14))
@[go_sem] def s83_16 (_ : Unit) : IR := (.block 0 (tH s83_15))
@[go_sem] def s83_17 (_ : Unit) : IR := (sQ [(kT l83_7), (tH s83_16)])
@[go_sem] def l83_18 (_ : Unit) : KL := [kA 43 (.load (.t 3) 2 true),
  kA 44 (.mv (.t 9)),
  kA 45 (.call (n_impl_inRange) [(.t 43), (.t 44)]),
  kB 46 (.un .not (.t 45)) [9, 46]]
@[go_sem] def l83_19 (_ : Unit) : KL := [kA 6 (.mv (.c (.sl none 0 0 true 0))),
  kB 7 (.mv (.c (.bool false))) [6, 7]]
@[go_sem] def s83_20 (_ : Unit) : IR := (sQ [(kT l83_19), .ret])
@[go_sem] def s83_21 (_ : Unit) : IR := (sQ [(kT l83_18), (.cond (.t 46) (tH s83_20) .skip)])
@[go_sem] def l83_22 (_ : Unit) : KL := [kA 47 (.mv (.t 9)),
  kA 6 (.mv (.t 47)),
  kB 7 (.mv (.c (.bool true))) [6, 7]]
@[go_sem] def s83_23 (_ : Unit) : IR := (sQ [(kT l83_0), (kT l83_1), (tH s83_5), (kT l83_6), (tH s83_17), (tH s83_21), (kT l83_22), .ret])
theorem c83 : compFn Try.prog [(0, [], [oN, oN, oS [1, 2, 3]]), (1, [], [oN, oN, oN, oN, oS [1, 3, 16], oN, oS [1, 3, 8]]), (2, [], [oN, oN, oN, oN, oS [1, 3, 8, 21]]), (3, [], [oN, oS [6, 7]]), (4, [], [oN, oN, oS [1, 3, 8, 9]]), (5, [], [oN, oN, oN, oS [1, 3, 8, 9, 25, 26, 27]]), (6, [], [oS [1, 3, 8, 9, 25, 26, 27, 28]]), (7, [], [oN, oN, oN, oN, oS [1, 3, 8, 9, 10, 11, 25, 26, 27]]), (8, [], [oN, oN, oN, oN, oS [1, 3, 8, 9, 25, 26, 27, 32, 33, 35, 36], oN, oN, oN, oN, oS [1, 3, 8, 9, 25, 26, 27, 40, 41], oS [1, 3, 8, 9, 25, 26, 27]]), (9, [], [oN, oS [1, 3, 8, 9, 25, 26, 27]]), (10, [], [oN, oN, oN, oS [9, 46]]), (11, [], [oN, oS [6, 7]]), (12, [], [oN, oN, oS [6, 7]])] Try.f83 = some ⟨3, 48, [.t 6, .t 7], (tH s83_23)⟩ := by kernel_rfl
theorem v_impl_use (hl : vs.length = 3) (h : wpV Try.prog (tH s83_23) (postV [.t 6, .t 7] RV) (envV vs) M) : VCall Try.prog n_impl_use vs M RV :=
  vcall_of_wp (fun _ _ _ hl h => acall_of_wp mixed Try.func83 c83 (by kernel_rfl) hl h) hl h
@[go_sem] def l102_0 (_ : Unit) : KL := [kA 3 (.box (.t 0)),
  kB 6 (.mv (cI 0)) [1, 2, 3]]
@[go_sem] def l102_1 (_ : Unit) : KL := [kA 10 (.faddr (.t 3) 1),
  kA 11 (.load (.t 10) 1 false),
  kA 12 (.len (.t 11)),
  kB 13 (.mv (cI 0)) [1, 2, 3, 12, 13]]
@[go_sem] def l102_2 (_ : Unit) : KL := [kB 14 (.bin .lss (.t 13) (.t 12)) [1, 2, 3, 12, 13, 14]]
@[go_sem] def l102_3 (_ : Unit) : KL := [kA 15 (.mv (.t 13)),
  kB 7 (.mv (.t 15)) [1, 2, 3, 7, 12, 13]]
@[go_sem] def l102_4 (_ : Unit) : KL := [kA 17 (.load (.t 3) 2 true),
  kA 18 (.mv (.t 1)),
  kA 19 (.mv (.t 7)),
  kA 20 (.call (n_impl_use) [(.t 17), (.t 18), (.t 19)]),
  kB 16 (.mv (.t 20)) [1, 2, 3, 7, 12, 13, 16],
  kA 21 (.ext (.t 16) 0),
  kA 22 (.ext (.t 16) 1),
  kA 8 (.mv (.t 21)),
  kB 9 (.mv (.t 22)) [1, 2, 3, 7, 8, 9, 12, 13]]
@[go_sem] def l102_5 (_ : Unit) : KL := [kA 23 (.mv (.t 9)),
  kA 24 (.mv (.t 23)),
  (⟨(some 25), .mv (.t 8), (some (24, true))⟩, none),
  (⟨(some 26), .mv (.t 2), (some (24, true))⟩, none),
  (⟨(some 27), .call (n_slices_Equal_Sint_int) [(.t 25), (.t 26)], (some (24, true))⟩, (some [1, 2, 3, 7, 12, 13, 24, 27])),
  kB 28 (.pick (.t 24) (.t 27) (.c (.bool false))) [1, 2, 3, 7, 12, 13, 28]]
@[go_sem] def l102_6 (_ : Unit) : KL := [kA 29 (.mv (.t 7)),
  kB 6 (.mv (.t 29)) [6]]
@[go_sem] def s102_7 (_ : Unit) : IR := (sQ [(kT l102_6), .ret])
@[go_sem] def s102_8 (_ : Unit) : IR := (sQ [(kT l102_3), (kT l102_4), (kT l102_5), (.cond (.t 28) (tH s102_7) .skip)])
@[go_sem] def s102_9 (_ : Unit) : IR := (.block 1 (tH s102_8))
@[go_sem] def l102_10 (_ : Unit) : KL := [kA 30 (.bin .add (.t 13) (cI 1)),
  kB 13 (.mv (.t 30)) [1, 2, 3, 12, 13]]
@[go_sem] def s102_11 (_ : Unit) : IR := (sQ [(kT l102_2), (.cond (.t 14) .skip (.exit 0)), (tH s102_9), (kT l102_10)])
@[go_sem] def s102_12 (_ : Unit) : IR := (.loop (tH s102_11))
@[go_sem] def s102_13 (_ : Unit) : IR := (.block 0 (tH s102_12))
@[go_sem] def s102_14 (_ : Unit) : IR := (sQ [(kT l102_1), (tH s102_13)])
@[go_sem] def l102_15 (_ : Unit) : KL := [kB 6 (.mv (.c (.int .i64 (-1)))) [6]]
@[go_sem] def s102_16 (_ : Unit) : IR := (sQ [(kT l102_0), (tH s102_14), (kT l102_15), .ret])
theorem c102 : compFn Try.prog [(0, [], [oN, oS [1, 2, 3]]), (1, [], [oN, oN, oN, oS [1, 2, 3, 12, 13]]), (2, [], [oS [1, 2, 3, 12, 13, 14]]), (3, [], [oN, oS [1, 2, 3, 7, 12, 13]]), (4, [], [oN, oN, oN, oN, oS [1, 2, 3, 7, 12, 13, 16], oN, oN, oN, oS [1, 2, 3, 7, 8, 9, 12, 13]]), (5, [], [oN, oN, oN, oN, oS [1, 2, 3, 7, 12, 13, 24, 27], oS [1, 2, 3, 7, 12, 13, 28]]), (6, [], [oN, oS [6]]), (7, [], [oN, oS [1, 2, 3, 12, 13]]), (8, [], [oS [6]])] Try.f102 = some ⟨3, 31, [.t 6], (tH s102_16)⟩ := by kernel_rfl
theorem v_impl_ruleBetween (hl : vs.length = 3) (h : wpV Try.prog (tH s102_16) (postV [.t 6] RV) (envV vs) M) : VCall Try.prog n_impl_ruleBetween vs M RV :=
  vcall_of_wp (fun _ _ _ hl h => acall_of_wp mixed Try.func102 c102 (by kernel_rfl) hl h) hl h
@[go_sem] def l63_0 (_ : Unit) : KL := [kA 3 (.box (.t 0)),
  kB 6 (.mv (cI 0)) [1, 2, 3]]
@[go_sem] def l63_1 (_ : Unit) : KL := [kA 7 (.load (.t 3) 2 true),
  kA 8 (.mv (.t 1)),
  kA 9 (.call (n_impl_InRange) [(.t 7), (.t 8)]),
  kA 10 (.un .not (.t 9)),
  kB 11 (.mv (.t 10)) [1, 2, 3, 11],
  (⟨(some 12), .load (.t 3) 2 true, (some (11, false))⟩, none),
  (⟨(some 13), .mv (.t 2), (some (11, false))⟩, none),
  (⟨(some 14), .call (n_impl_inRange) [(.t 12), (.t 13)], (some (11, false))⟩, none),
  (⟨(some 15), .un .not (.t 14), (some (11, false))⟩, none),
  kB 16 (.pick (.t 11) (.c (.bool true)) (.t 15)) [1, 2, 3, 16]]
@[go_sem] def l63_2 (_ : Unit) : KL := [kB 6 (.mv (.c (.int .i64 (-1)))) [6]]
@[go_sem] def s63_3 (_ : Unit) : IR := (sQ [(kT l63_2), .ret])
@[go_sem] def s63_4 (_ : Unit) : IR := (sQ [(kT l63_1), (.cond (.t 16) (tH s63_3) .skip)])
@[go_sem] def l63_5 (_ : Unit) : KL := [kA 17 (.load (.t 3) 2 true),
  kA 18 (.mv (.t 1)),
  kA 19 (.mv (.t 2)),
  kA 20 (.call (n_impl_ruleBetween) [(.t 17), (.t 18), (.t 19)]),
  kB 6 (.mv (.t 20)) [6]]
@[go_sem] def s63_6 (_ : Unit) : IR := (sQ [(kT l63_0), (tH s63_4), (kT l63_5), .ret])
theorem c63 : compFn Try.prog [(0, [], [oN, oS [1, 2, 3]]), (1, [], [oN, oN, oN, oN, oS [1, 2, 3, 11], oN, oN, oN, oN, oS [1, 2, 3, 16]]), (2, [], [oS [6]]), (3, [], [oN, oN, oN, oN, oS [6]])] Try.f63 = some ⟨3, 21, [.t 6], (tH s63_6)⟩ := by kernel_rfl
theorem v_impl_RuleBetween (hl : vs.length = 3) (h : wpV Try.prog (tH s63_6) (postV [.t 6] RV) (envV vs) M) : VCall Try.prog n_impl_RuleBetween vs M RV :=
  vcall_of_wp (fun _ _ _ hl h => acall_of_wp mixed Try.func63 c63 (by kernel_rfl) hl h) hl h
@[go_sem] def l25_0 (_ : Unit) : KL := [kA 2 (.box (.t 0)),
  kA 4 (.alloc [(.sl none 0 0 true 0), (.sl none 0 0 true 0)]),
  kB 5 (.mv (.c (.bool false))) [1, 2, 4]]
@[go_sem] def l25_1 : Nat → GOp
  | 0 => ⟨(some 9), .load (.t 2) 2 true, none⟩
  | 1 => ⟨(some 10), .call (n_impl_SystemValid) [(.t 9)], none⟩
  | 2 => ⟨(some 11), .un .not (.t 10), none⟩
  | 3 => ⟨(some 12), .mv (.t 11), none⟩
  | 4 => ⟨(some 13), .mv (.t 1), (some (12, false))⟩
  | 5 => ⟨(some 14), .len (.t 13), (some (12, false))⟩
  | 6 => ⟨(some 15), .call (n_impl_in) [(.t 14), (cI 1), (.c (.int .i64 500))], (some (12, false))⟩
  | 7 => ⟨(some 16), .un .not (.t 15), (some (12, false))⟩
  | 8 => ⟨(some 17), .pick (.t 12) (.c (.bool true)) (.t 16), none⟩
  | 9 => ⟨(some 18), .mv (.t 17), none⟩
  | 10 => ⟨(some 19), .mv (.t 1), (some (18, false))⟩
  | 11 => ⟨(some 20), .iaddr (.t 19) (cI 0) 1, (some (18, false))⟩
  | 12 => ⟨(some 21), .load (.t 20) 1 false, (some (18, false))⟩
  | 13 => ⟨(some 22), .load (.t 2) 2 true, (some (18, false))⟩
  | 14 => ⟨(some 23), .call (n_impl_first) [(.t 22)], (some (18, false))⟩
  | 15 => ⟨(some 24), .call (n_slices_Equal_Sint_int) [(.t 21), (.t 23)], (some (18, false))⟩
  | 16 => ⟨(some 25), .un .not (.t 24), (some (18, false))⟩
  | 17 => ⟨(some 26), .pick (.t 18) (.c (.bool true)) (.t 25), none⟩
  | _ => ⟨none, .mkmap, none⟩
@[go_sem] def l25_2 (_ : Unit) : KL := [kA 27 (.bld [(.sl none 0 0 true 0), (.sl none 0 0 true 0)] []),
  (⟨none, .store (.t 4) 2 (.t 27), none⟩, none),
  kB 5 (.mv (.c (.bool false))) [4, 5]]
@[go_sem] def s25_3 (_ : Unit) : IR := (sQ [(kT l25_2), .ret])
@[go_sem] def s25_4 (_ : Unit) : IR := (sQ [(.kd (oF l25_1 18) [(0, []), (1, []), (2, []), (3, []), (4, []), (5, []), (6, []), (7, []), (8, []), (9, []), (10, []), (11, []), (12, []), (13, []), (14, [12]), (15, []), (16, []), (17, [])] [1, 2, 4, 26]), (.cond (.t 26) (tH s25_3) .skip)])
@[go_sem] def l25_5 (_ : Unit) : KL := [kA 28 (.mv (.t 1)),
  kA 29 (.call (n_impl_lists) [(.t 28)]),
  kA 30 (.bld [(.sl none 0 0 true 0), (.sl none 0 0 true 0)] [(0, 1, (.t 29))]),
  kA 6 (.alloc [(.sl none 0 0 true 0), (.sl none 0 0 true 0)]),
  (⟨none, .store (.t 6) 2 (.t 30), none⟩, (some [1, 2, 4, 6]))]
@[go_sem] def l25_6 (_ : Unit) : KL := [kB 7 (.mv (cI 1)) [1, 2, 4, 6, 7]]
@[go_sem] def l25_7 (_ : Unit) : KL := [kA 31 (.mv (.t 7)),
  kA 32 (.mv (.t 1)),
  kA 33 (.len (.t 32)),
  kB 34 (.bin .lss (.t 31) (.t 33)) [1, 2, 4, 6, 7, 34]]
@[go_sem] def s25_8 (_ : Unit) : IR := (sQ [(kT l25_7), (.cond (.t 34) .skip (.exit 0))])
@[go_sem] def l25_9 : Nat → GOp
  | 0 => ⟨(some 37), .load (.t 2) 2 true, none⟩
  | 1 => ⟨(some 38), .mv (.t 1), none⟩
  | 2 => ⟨(some 39), .mv (.t 7), none⟩
  | 3 => ⟨(some 40), .bin .sub (.t 39) (cI 1), none⟩
  | 4 => ⟨(some 41), .iaddr (.t 38) (.t 40) 1, none⟩
  | 5 => ⟨(some 42), .load (.t 41) 1 false, none⟩
  | 6 => ⟨(some 43), .mv (.t 1), none⟩
  | 7 => ⟨(some 44), .mv (.t 7), none⟩
  | 8 => ⟨(some 45), .iaddr (.t 43) (.t 44) 1, none⟩
  | 9 => ⟨(some 46), .load (.t 45) 1 false, none⟩
  | 10 => ⟨(some 47), .call (n_impl_RuleBetween) [(.t 37), (.t 42), (.t 46)], none⟩
  | 11 => ⟨(some 8), .mv (.t 47), none⟩
  | _ => ⟨none, .mkmap, none⟩
@[go_sem] def l25_10 (_ : Unit) : KL := [kA 48 (.mv (.t 8)),
  kB 49 (.bin .lss (.t 48) (cI 0)) [1, 2, 4, 6, 7, 8, 49]]
@[go_sem] def l25_11 (_ : Unit) : KL := [kA 50 (.bld [(.sl none 0 0 true 0), (.sl none 0 0 true 0)] []),
  (⟨none, .store (.t 4) 2 (.t 50), none⟩, none),
  kB 5 (.mv (.c (.bool false))) [4, 5]]
@[go_sem] def s25_12 (_ : Unit) : IR := (sQ [(kT l25_11), .ret])
@[go_sem] def s25_13 (_ : Unit) : IR := (sQ [(kT l25_10), (.cond (.t 49) (tH s25_12) .skip)])
@[go_sem] def l25_14 (_ : Unit) : KL := [kA 51 (.faddr (.t 6) 1),
  kA 52 (.load (.t 51) 1 false),
  kA 53 (.mv (.t 8)),
  kA 54 (.bslc 1 1 [(.int .i64 0)] [(0, (.t 53))]),
  kB 55 (.app 1 8 (.t 52) (.t 54)) [1, 2, 4, 6, 7, 55],
  kA 56 (.faddr (.t 6) 1),
  (⟨none, .store (.t 56) 1 (.t 55), none⟩, (some [1, 2, 4, 6, 7]))]
@[go_sem] def s25_15 (_ : Unit) : IR := (sQ [(.kd (oF l25_9 12) [(0, []), (1, []), (2, []), (3, []), (4, []), (5, []), (6, []), (7, []), (8, []), (9, []), (10, []), (11, [])] [1, 2, 4, 6, 7, 8]), (tH s25_13), (kT l25_14)])
@[go_sem] def s25_16 (_ : Unit) : IR := (.block 1 (tH s25_15))
@[go_sem] def l25_17 (_ : Unit) : KL := [kA 35 (.mv (.t 7)),
  kA 36 (.bin .add (.t 35) (cI 1)),
  kB 7 (.mv (.t 36)) [1, 2, 4, 6, 7]]
@[go_sem] def s25_18 (_ : Unit) : IR := (sQ [(tH s25_8), (tH s25_16), (kT l25_17)])
@[go_sem] def s25_19 (_ : Unit) : IR := (.loop (tH s25_18))
@[go_sem] def s25_20 (_ : Unit) : IR := (.block 0 (tH s25_19))
@[go_sem] def s25_21 (_ : Unit) : IR := (sQ [(kT l25_6), (tH s25_20)])
@[go_sem] def l25_22 (_ : Unit) : KL := [kA 57 (.faddr (.t 6) 1),
  kA 58 (.load (.t 57) 1 false),
  kA 59 (.call (n_impl_clone_int) [(.t 58)]),
  kA 60 (.faddr (.t 6) 1),
  (⟨none, .store (.t 60) 1 (.t 59), none⟩, (some [4, 6]))]
@[go_sem] def l25_23 (_ : Unit) : KL := [kA 61 (.load (.t 6) 2 true),
  (⟨none, .store (.t 4) 2 (.t 61), none⟩, none),
  kB 5 (.mv (.c (.bool true))) [4, 5]]
@[go_sem] def s25_24 (_ : Unit) : IR := (sQ [(kT l25_0), (tH s25_4), (kT l25_5), (tH s25_21), (kT l25_22), (kT l25_23), .ret])
theorem c25 : compFn Try.prog [(0, [], [oN, oN, oS [1, 2, 4]]), (1, [(0, []), (1, []), (2, []), (3, []), (4, []), (5, []), (6, []), (7, []), (8, []), (9, []), (10, []), (11, []), (12, []), (13, []), (14, [12]), (15, []), (16, []), (17, [])], [oS [1, 2, 4, 26]]), (2, [], [oN, oN, oS [4, 5]]), (3, [], [oN, oN, oN, oN, oS [1, 2, 4, 6]]), (4, [], [oS [1, 2, 4, 6, 7]]), (5, [], [oN, oN, oN, oS [1, 2, 4, 6, 7, 34]]), (7, [(0, []), (1, []), (2, []), (3, []), (4, []), (5, []), (6, []), (7, []), (8, []), (9, []), (10, []), (11, [])], [oS [1, 2, 4, 6, 7, 8]]), (8, [], [oN, oS [1, 2, 4, 6, 7, 8, 49]]), (9, [], [oN, oN, oS [4, 5]]), (10, [], [oN, oN, oN, oN, oS [1, 2, 4, 6, 7, 55], oN, oS [1, 2, 4, 6, 7]]), (6, [], [oN, oN, oS [1, 2, 4, 6, 7]]), (11, [], [oN, oN, oN, oN, oS [4, 6]]), (12, [], [oN, oN, oS [4, 5]])] Try.f25 = some ⟨2, 62, [.c 4 2 true, .t 5], (tH s25_24)⟩ := by kernel_rfl
theorem v_impl_TraceOf (hl : vs.length = 2) (h : wpV Try.prog (tH s25_24) (postV [.c 4 2 true, .t 5] RV) (envV vs) M) : VCall Try.prog n_impl_TraceOf vs M RV :=
  vcall_of_wp (fun _ _ _ hl h => acall_of_wp mixed Try.func25 c25 (by kernel_rfl) hl h) hl h
@[go_sem] def l15_0 (_ : Unit) : KL := [kB 4 (.mv (.c (.bool false))) [0, 1]]
@[go_sem] def l15_1 (_ : Unit) : KL := [kA 6 (.mv (.t 0)),
  kA 7 (.len (.t 6)),
  kA 8 (.mv (.t 1)),
  kA 9 (.len (.t 8)),
  kB 10 (.bin .neq (.t 7) (.t 9)) [0, 1, 10]]
@[go_sem] def l15_2 (_ : Unit) : KL := [kB 4 (.mv (.c (.bool false))) [4]]
@[go_sem] def s15_3 (_ : Unit) : IR := (sQ [(kT l15_2), .ret])
@[go_sem] def s15_4 (_ : Unit) : IR := (sQ [(kT l15_1), (.cond (.t 10) (tH s15_3) .skip)])
@[go_sem] def l15_5 (_ : Unit) : KL := [kB 5 (.mv (cI 0)) [0, 1, 5]]
@[go_sem] def l15_6 (_ : Unit) : KL := [kA 11 (.mv (.t 5)),
  kA 12 (.mv (.t 0)),
  kA 13 (.len (.t 12)),
  kB 14 (.bin .lss (.t 11) (.t 13)) [0, 1, 5, 14]]
@[go_sem] def s15_7 (_ : Unit) : IR := (sQ [(kT l15_6), (.cond (.t 14) .skip (.exit 0))])
@[go_sem] def l15_8 : Nat → GOp
  | 0 => ⟨(some 17), .mv (.t 0), none⟩
  | 1 => ⟨(some 18), .mv (.t 5), none⟩
  | 2 => ⟨(some 19), .iaddr (.t 17) (.t 18) 1, none⟩
  | 3 => ⟨(some 20), .load (.t 19) 1 false, none⟩
  | 4 => ⟨(some 21), .mv (.t 1), none⟩
  | 5 => ⟨(some 22), .mv (.t 5), none⟩
  | 6 => ⟨(some 23), .iaddr (.t 21) (.t 22) 1, none⟩
  | 7 => ⟨(some 24), .load (.t 23) 1 false, none⟩
  | 8 => ⟨(some 25), .bin .neq (.t 20) (.t 24), none⟩
  | _ => ⟨none, .mkmap, none⟩
@[go_sem] def l15_9 (_ : Unit) : KL := [kB 4 (.mv (.c (.bool false))) [4]]
@[go_sem] def s15_10 (_ : Unit) : IR := (sQ [(kT l15_9), .ret])
@[go_sem] def s15_11 (_ : Unit) : IR := (sQ [(.kd (oF l15_8 9) [(0, []), (1, []), (2, []), (3, []), (4, []), (5, []), (6, []), (7, []), (8, [])] [0, 1, 5, 25]), (.cond (.t 25) (tH s15_10) .skip)])
@[go_sem] def s15_12 (_ : Unit) : IR := (.block 1 (tH s15_11))
@[go_sem] def l15_13 (_ : Unit) : KL := [kA 15 (.mv (.t 5)),
  kA 16 (.bin .add (.t 15) (cI 1)),
  kB 5 (.mv (.t 16)) [0, 1, 5]]
@[go_sem] def s15_14 (_ : Unit) : IR := (sQ [(tH s15_7), (tH s15_12), (kT l15_13)])
@[go_sem] def s15_15 (_ : Unit) : IR := (.loop (tH s15_14))
@[go_sem] def s15_16 (_ : Unit) : IR := (.block 0 (tH s15_15))
@[go_sem] def s15_17 (_ : Unit) : IR := (sQ [(kT l15_5), (tH s15_16)])
@[go_sem] def l15_18 (_ : Unit) : KL := [kB 4 (.mv (.c (.bool true))) [4]]
@[go_sem] def s15_19 (_ : Unit) : IR := (sQ [(kT l15_0), (tH s15_4), (tH s15_17), (kT l15_18), .ret])
theorem c15 : compFn Try.prog [(0, [], [oS [0, 1]]), (1, [], [oN, oN, oN, oN, oS [0, 1, 10]]), (2, [], [oS [4]]), (3, [], [oS [0, 1, 5]]), (4, [], [oN, oN, oN, oS [0, 1, 5, 14]]), (6, [(0, []), (1, []), (2, []), (3, []), (4, []), (5, []), (6, []), (7, []), (8, [])], [oS [0, 1, 5, 25]]), (7, [], [oS [4]]), (5, [], [oN, oN, oS [0, 1, 5]]), (8, [], [oS [4]])] Try.f15 = some ⟨2, 26, [.t 4], (tH s15_19)⟩ := by kernel_rfl
theorem v_laws_eqIntS (hl : vs.length = 2) (h : wpV Try.prog (tH s15_19) (postV [.t 4] RV) (envV vs) M) : VCall Try.prog n_laws_eqIntS vs M RV :=
  vcall_of_wp (fun _ _ _ hl h => acall_of_wp mixed Try.func15 c15 (by kernel_rfl) hl h) hl h
@[go_sem] def l13_0 (_ : Unit) : KL := [kB 4 (.mv (.c (.bool false))) [0, 1]]
@[go_sem] def l13_1 (_ : Unit) : KL := [kA 6 (.mv (.t 0)),
  kA 7 (.len (.t 6)),
  kA 8 (.mv (.t 1)),
  kA 9 (.len (.t 8)),
  kB 10 (.bin .neq (.t 7) (.t 9)) [0, 1, 10]]
@[go_sem] def l13_2 (_ : Unit) : KL := [kB 4 (.mv (.c (.bool false))) [4]]
@[go_sem] def s13_3 (_ : Unit) : IR := (sQ [(kT l13_2), .ret])
@[go_sem] def s13_4 (_ : Unit) : IR := (sQ [(kT l13_1), (.cond (.t 10) (tH s13_3) .skip)])
@[go_sem] def l13_5 (_ : Unit) : KL := [kB 5 (.mv (cI 0)) [0, 1, 5]]
@[go_sem] def l13_6 (_ : Unit) : KL := [kA 11 (.mv (.t 5)),
  kA 12 (.mv (.t 0)),
  kA 13 (.len (.t 12)),
  kB 14 (.bin .lss (.t 11) (.t 13)) [0, 1, 5, 14]]
@[go_sem] def s13_7 (_ : Unit) : IR := (sQ [(kT l13_6), (.cond (.t 14) .skip (.exit 0))])
@[go_sem] def l13_8 : Nat → GOp
  | 0 => ⟨(some 17), .mv (.t 0), none⟩
  | 1 => ⟨(some 18), .mv (.t 5), none⟩
  | 2 => ⟨(some 19), .iaddr (.t 17) (.t 18) 1, none⟩
  | 3 => ⟨(some 20), .load (.t 19) 1 false, none⟩
  | 4 => ⟨(some 21), .mv (.t 1), none⟩
  | 5 => ⟨(some 22), .mv (.t 5), none⟩
  | 6 => ⟨(some 23), .iaddr (.t 21) (.t 22) 1, none⟩
  | 7 => ⟨(some 24), .load (.t 23) 1 false, none⟩
  | 8 => ⟨(some 25), .call (n_laws_eqIntS) [(.t 20), (.t 24)], none⟩
  | 9 => ⟨(some 26), .un .not (.t 25), none⟩
  | _ => ⟨none, .mkmap, none⟩
@[go_sem] def l13_9 (_ : Unit) : KL := [kB 4 (.mv (.c (.bool false))) [4]]
@[go_sem] def s13_10 (_ : Unit) : IR := (sQ [(kT l13_9), .ret])
@[go_sem] def s13_11 (_ : Unit) : IR := (sQ [(.kd (oF l13_8 10) [(0, []), (1, []), (2, []), (3, []), (4, []), (5, []), (6, []), (7, []), (8, []), (9, [])] [0, 1, 5, 26]), (.cond (.t 26) (tH s13_10) .skip)])
@[go_sem] def s13_12 (_ : Unit) : IR := (.block 1 (tH s13_11))
@[go_sem] def l13_13 (_ : Unit) : KL := [kA 15 (.mv (.t 5)),
  kA 16 (.bin .add (.t 15) (cI 1)),
  kB 5 (.mv (.t 16)) [0, 1, 5]]
@[go_sem] def s13_14 (_ : Unit) : IR := (sQ [(tH s13_7), (tH s13_12), (kT l13_13)])
@[go_sem] def s13_15 (_ : Unit) : IR := (.loop (tH s13_14))
@[go_sem] def s13_16 (_ : Unit) : IR := (.block 0 (tH s13_15))
@[go_sem] def s13_17 (_ : Unit) : IR := (sQ [(kT l13_5), (tH s13_16)])
@[go_sem] def l13_18 (_ : Unit) : KL := [kB 4 (.mv (.c (.bool true))) [4]]
@[go_sem] def s13_19 (_ : Unit) : IR := (sQ [(kT l13_0), (tH s13_4), (tH s13_17), (kT l13_18), .ret])
theorem c13 : compFn Try.prog [(0, [], [oS [0, 1]]), (1, [], [oN, oN, oN, oN, oS [0, 1, 10]]), (2, [], [oS [4]]), (3, [], [oS [0, 1, 5]]), (4, [], [oN, oN, oN, oS [0, 1, 5, 14]]), (6, [(0, []), (1, []), (2, []), (3, []), (4, []), (5, []), (6, []), (7, []), (8, []), (9, [])], [oS [0, 1, 5, 26]]), (7, [], [oS [4]]), (5, [], [oN, oN, oS [0, 1, 5]]), (8, [], [oS [4]])] Try.f13 = some ⟨2, 27, [.t 4], (tH s13_19)⟩ := by kernel_rfl
theorem v_laws_eqIntSS (hl : vs.length = 2) (h : wpV Try.prog (tH s13_19) (postV [.t 4] RV) (envV vs) M) : VCall Try.prog n_laws_eqIntSS vs M RV :=
  vcall_of_wp (fun _ _ _ hl h => acall_of_wp mixed Try.func13 c13 (by kernel_rfl) hl h) hl h
@[go_sem] def l26_0 (_ : Unit) : KL := [kA 2 (.box (.t 0)),
  kA 3 (.box (.t 1)),
  kB 4 (.mv (.c (.bool false))) [2, 3]]
@[go_sem] def l26_1 (_ : Unit) : KL := [kA 5 (.faddr (.t 2) 0),
  kA 6 (.load (.t 5) 1 false),
  kA 7 (.faddr (.t 3) 0),
  kA 8 (.load (.t 7) 1 false),
  kB 9 (.call (n_laws_eqIntSS) [(.t 6), (.t 8)]) [2, 3, 9],
  kB 10 (.un .not (.t 9)) [2, 3, 10]]
@[go_sem] def l26_2 (_ : Unit) : KL := [kB 4 (.mv (.c (.bool false))) [4]]
@[go_sem] def s26_3 (_ : Unit) : IR := (sQ [(kT l26_2), .ret])
@[go_sem] def s26_4 (_ : Unit) : IR := (sQ [(kT l26_1), (.cond (.t 10) (tH s26_3) .skip)])
@[go_sem] def l26_5 (_ : Unit) : KL := [kA 11 (.faddr (.t 2) 1),
  kA 12 (.load (.t 11) 1 false),
  kA 13 (.faddr (.t 3) 1),
  kA 14 (.load (.t 13) 1 false),
  kB 15 (.call (n_laws_eqIntS) [(.t 12), (.t 14)]) [15],
  kB 16 (.un .not (.t 15)) [16]]
@[go_sem] def l26_6 (_ : Unit) : KL := [kB 4 (.mv (.c (.bool false))) [4]]
@[go_sem] def s26_7 (_ : Unit) : IR := (sQ [(kT l26_6), .ret])
@[go_sem] def s26_8 (_ : Unit) : IR := (sQ [(kT l26_5), (.cond (.t 16) (tH s26_7) .skip)])
@[go_sem] def l26_9 (_ : Unit) : KL := [kB 4 (.mv (.c (.bool true))) [4]]
@[go_sem] def s26_10 (_ : Unit) : IR := (sQ [(kT l26_0), (tH s26_4), (tH s26_8), (kT l26_9), .ret])
theorem c26 : compFn Try.prog [(0, [], [oN, oN, oS [2, 3]]), (1, [], [oN, oN, oN, oN, oS [2, 3, 9], oS [2, 3, 10]]), (2, [], [oS [4]]), (3, [], [oN, oN, oN, oN, oS [15], oS [16]]), (4, [], [oS [4]]), (5, [], [oS [4]])] Try.f26 = some ⟨2, 17, [.t 4], (tH s26_10)⟩ := by kernel_rfl
theorem v_laws_eqTrace (hl : vs.length = 2) (h : wpV Try.prog (tH s26_10) (postV [.t 4] RV) (envV vs) M) : VCall Try.prog n_laws_eqTrace vs M RV :=
  vcall_of_wp (fun _ _ _ hl h => acall_of_wp mixed Try.func26 c26 (by kernel_rfl) hl h) hl h
@[go_sem] def l87_0 (_ : Unit) : KL := [kA 2 (.box (.t 0)),
  kA 3 (.box (.t 1)),
  kB 4 (.mv (.c (.bool false))) [2, 3]]
@[go_sem] def l87_1 (_ : Unit) : KL := [kA 5 (.faddr (.t 2) 0),
  kA 6 (.load (.t 5) 1 false),
  kA 7 (.faddr (.t 3) 0),
  kA 8 (.load (.t 7) 1 false),
  kB 9 (.bin .neq (.t 6) (.t 8)) [2, 3, 9]]
@[go_sem] def l87_2 (_ : Unit) : KL := [kB 4 (.mv (.c (.bool false))) [4]]
@[go_sem] def s87_3 (_ : Unit) : IR := (sQ [(kT l87_2), .ret])
@[go_sem] def s87_4 (_ : Unit) : IR := (sQ [(kT l87_1), (.cond (.t 9) (tH s87_3) .skip)])
@[go_sem] def l87_5 (_ : Unit) : KL := [kA 10 (.faddr (.t 2) 1),
  kA 11 (.load (.t 10) 1 false),
  kA 12 (.faddr (.t 3) 1),
  kA 13 (.load (.t 12) 1 false),
  kB 14 (.bin .neq (.t 11) (.t 13)) [2, 3, 14]]
@[go_sem] def l87_6 (_ : Unit) : KL := [kB 4 (.mv (.c (.bool false))) [4]]
@[go_sem] def s87_7 (_ : Unit) : IR := (sQ [(kT l87_6), .ret])
@[go_sem] def s87_8 (_ : Unit) : IR := (sQ [(kT l87_5), (.cond (.t 14) (tH s87_7) .skip)])
@[go_sem] def l87_9 (_ : Unit) : KL := [kA 15 (.faddr (.t 2) 2),
  kA 16 (.load (.t 15) 1 false),
  kA 17 (.faddr (.t 3) 2),
  kA 18 (.load (.t 17) 1 false),
  kB 19 (.bin .neq (.t 16) (.t 18)) [19]]
@[go_sem] def l87_10 (_ : Unit) : KL := [kB 4 (.mv (.c (.bool false))) [4]]
@[go_sem] def s87_11 (_ : Unit) : IR := (sQ [(kT l87_10), .ret])
@[go_sem] def s87_12 (_ : Unit) : IR := (sQ [(kT l87_9), (.cond (.t 19) (tH s87_11) .skip)])
@[go_sem] def l87_13 (_ : Unit) : KL := [kB 4 (.mv (.c (.bool true))) [4]]
@[go_sem] def s87_14 (_ : Unit) : IR := (sQ [(kT l87_0), (tH s87_4), (tH s87_8), (tH s87_12), (kT l87_13), .ret])
theorem c87 : compFn Try.prog [(0, [], [oN, oN, oS [2, 3]]), (1, [], [oN, oN, oN, oN, oS [2, 3, 9]]), (2, [], [oS [4]]), (3, [], [oN, oN, oN, oN, oS [2, 3, 14]]), (4, [], [oS [4]]), (5, [], [oN, oN, oN, oN, oS [19]]), (6, [], [oS [4]]), (7, [], [oS [4]])] Try.f87 = some ⟨2, 20, [.t 4], (tH s87_14)⟩ := by kernel_rfl
theorem v_laws_eqVar (hl : vs.length = 2) (h : wpV Try.prog (tH s87_14) (postV [.t 4] RV) (envV vs) M) : VCall Try.prog n_laws_eqVar vs M RV :=
  vcall_of_wp (fun _ _ _ hl h => acall_of_wp mixed Try.func87 c87 (by kernel_rfl) hl h) hl h
@[go_sem] def l43_0 (_ : Unit) : KL := [kB 4 (.mv (.c (.bool false))) [0, 1]]
@[go_sem] def l43_1 (_ : Unit) : KL := [kA 6 (.mv (.t 0)),
  kA 7 (.len (.t 6)),
  kA 8 (.mv (.t 1)),
  kA 9 (.len (.t 8)),
  kB 10 (.bin .neq (.t 7) (.t 9)) [0, 1, 10]]
@[go_sem] def l43_2 (_ : Unit) : KL := [kB 4 (.mv (.c (.bool false))) [4]]
@[go_sem] def s43_3 (_ : Unit) : IR := (sQ [(kT l43_2), .ret])
@[go_sem] def s43_4 (_ : Unit) : IR := (sQ [(kT l43_1), (.cond (.t 10) (tH s43_3) .skip)])
@[go_sem] def l43_5 (_ : Unit) : KL := [kB 5 (.mv (cI 0)) [0, 1, 5]]
@[go_sem] def l43_6 (_ : Unit) : KL := [kA 11 (.mv (.t 5)),
  kA 12 (.mv (.t 0)),
  kA 13 (.len (.t 12)),
  kB 14 (.bin .lss (.t 11) (.t 13)) [0, 1, 5, 14]]
@[go_sem] def s43_7 (_ : Unit) : IR := (sQ [(kT l43_6), (.cond (.t 14) .skip (.exit 0))])
@[go_sem] def l43_8 : Nat → GOp
  | 0 => ⟨(some 17), .mv (.t 0), none⟩
  | 1 => ⟨(some 18), .mv (.t 5), none⟩
  | 2 => ⟨(some 19), .iaddr (.t 17) (.t 18) 3, none⟩
  | 3 => ⟨(some 20), .load (.t 19) 3 true, none⟩
  | 4 => ⟨(some 21), .mv (.t 1), none⟩
  | 5 => ⟨(some 22), .mv (.t 5), none⟩
  | 6 => ⟨(some 23), .iaddr (.t 21) (.t 22) 3, none⟩
  | 7 => ⟨(some 24), .load (.t 23) 3 true, none⟩
  | 8 => ⟨(some 25), .call (n_laws_eqVar) [(.t 20), (.t 24)], none⟩
  | 9 => ⟨(some 26), .un .not (.t 25), none⟩
  | _ => ⟨none, .mkmap, none⟩
@[go_sem] def l43_9 (_ : Unit) : KL := [kB 4 (.mv (.c (.bool false))) [4]]
@[go_sem] def s43_10 (_ : Unit) : IR := (sQ [(kT l43_9), .ret])
@[go_sem] def s43_11 (_ : Unit) : IR := (sQ [(.kd (oF l43_8 10) [(0, []), (1, []), (2, []), (3, []), (4, []), (5, []), (6, []), (7, []), (8, []), (9, [])] [0, 1, 5, 26]), (.cond (.t 26) (tH s43_10) .skip)])
@[go_sem] def s43_12 (_ : Unit) : IR := (.block 1 (tH s43_11))
@[go_sem] def l43_13 (_ : Unit) : KL := [kA 15 (.mv (.t 5)),
  kA 16 (.bin .add (.t 15) (cI 1)),
  kB 5 (.mv (.t 16)) [0, 1, 5]]
@[go_sem] def s43_14 (_ : Unit) : IR := (sQ [(tH s43_7), (tH s43_12), (kT l43_13)])
@[go_sem] def s43_15 (_ : Unit) : IR := (.loop (tH s43_14))
@[go_sem] def s43_16 (_ : Unit) : IR := (.block 0 (tH s43_15))
@[go_sem] def s43_17 (_ : Unit) : IR := (sQ [(kT l43_5), (tH s43_16)])
@[go_sem] def l43_18 (_ : Unit) : KL := [kB 4 (.mv (.c (.bool true))) [4]]
@[go_sem] def s43_19 (_ : Unit) : IR := (sQ [(kT l43_0), (tH s43_4), (tH s43_17), (kT l43_18), .ret])
theorem c43 : compFn Try.prog [(0, [], [oS [0, 1]]), (1, [], [oN, oN, oN, oN, oS [0, 1, 10]]), (2, [], [oS [4]]), (3, [], [oS [0, 1, 5]]), (4, [], [oN, oN, oN, oS [0, 1, 5, 14]]), (6, [(0, []), (1, []), (2, []), (3, []), (4, []), (5, []), (6, []), (7, []), (8, []), (9, [])], [oS [0, 1, 5, 26]]), (7, [], [oS [4]]), (5, [], [oN, oN, oS [0, 1, 5]]), (8, [], [oS [4]])] Try.f43 = some ⟨2, 27, [.t 4], (tH s43_19)⟩ := by kernel_rfl
theorem v_laws_eqVarS (hl : vs.length = 2) (h : wpV Try.prog (tH s43_19) (postV [.t 4] RV) (envV vs) M) : VCall Try.prog n_laws_eqVarS vs M RV :=
  vcall_of_wp (fun _ _ _ hl h => acall_of_wp mixed Try.func43 c43 (by kernel_rfl) hl h) hl h
@[go_sem] def l130_0 (_ : Unit) : KL := [kA 2 (.box (.t 0)),
  kA 3 (.box (.t 1)),
  kB 4 (.mv (.c (.bool false))) [2, 3]]
@[go_sem] def l130_1 (_ : Unit) : KL := [kA 5 (.faddr (.t 2) 0),
  kA 6 (.load (.t 5) 1 false),
  kA 7 (.faddr (.t 3) 0),
  kA 8 (.load (.t 7) 1 false),
  kB 9 (.bin .neq (.t 6) (.t 8)) [2, 3, 9]]
@[go_sem] def l130_2 (_ : Unit) : KL := [kB 4 (.mv (.c (.bool false))) [4]]
@[go_sem] def s130_3 (_ : Unit) : IR := (sQ [(kT l130_2), .ret])
@[go_sem] def s130_4 (_ : Unit) : IR := (sQ [(kT l130_1), (.cond (.t 9) (tH s130_3) .skip)])
@[go_sem] def l130_5 (_ : Unit) : KL := [kA 10 (.faddr (.t 2) 1),
  kA 11 (.load (.t 10) 1 false),
  kA 12 (.faddr (.t 3) 1),
  kA 13 (.load (.t 12) 1 false),
  kB 14 (.bin .neq (.t 11) (.t 13)) [2, 3, 14]]
@[go_sem] def l130_6 (_ : Unit) : KL := [kB 4 (.mv (.c (.bool false))) [4]]
@[go_sem] def s130_7 (_ : Unit) : IR := (sQ [(kT l130_6), .ret])
@[go_sem] def s130_8 (_ : Unit) : IR := (sQ [(kT l130_5), (.cond (.t 14) (tH s130_7) .skip)])
@[go_sem] def l130_9 (_ : Unit) : KL := [kA 15 (.faddr (.t 2) 2),
  kA 16 (.load (.t 15) 1 false),
  kA 17 (.faddr (.t 3) 2),
  kA 18 (.load (.t 17) 1 false),
  kB 19 (.bin .neq (.t 16) (.t 18)) [2, 3, 19]]
@[go_sem] def l130_10 (_ : Unit) : KL := [kB 4 (.mv (.c (.bool false))) [4]]
@[go_sem] def s130_11 (_ : Unit) : IR := (sQ [(kT l130_10), .ret])
@[go_sem] def s130_12 (_ : Unit) : IR := (sQ [(kT l130_9), (.cond (.t 19) (tH s130_11) .skip)])
@[go_sem] def l130_13 (_ : Unit) : KL := [kA 20 (.faddr (.t 2) 3),
  kA 21 (.load (.t 20) 1 false),
  kA 22 (.faddr (.t 3) 3),
  kA 23 (.load (.t 22) 1 false),
  kB 24 (.bin .neq (.t 21) (.t 23)) [24]]
@[go_sem] def l130_14 (_ : Unit) : KL := [kB 4 (.mv (.c (.bool false))) [4]]
@[go_sem] def s130_15 (_ : Unit) : IR := (sQ [(kT l130_14), .ret])
@[go_sem] def s130_16 (_ : Unit) : IR := (sQ [(kT l130_13), (.cond (.t 24) (tH s130_15) .skip)])
@[go_sem] def l130_17 (_ : Unit) : KL := [kB 4 (.mv (.c (.bool true))) [4]]
@[go_sem] def s130_18 (_ : Unit) : IR := (sQ [(kT l130_0), (tH s130_4), (tH s130_8), (tH s130_12), (tH s130_16), (kT l130_17), .ret])
theorem c130 : compFn Try.prog [(0, [], [oN, oN, oS [2, 3]]), (1, [], [oN, oN, oN, oN, oS [2, 3, 9]]), (2, [], [oS [4]]), (3, [], [oN, oN, oN, oN, oS [2, 3, 14]]), (4, [], [oS [4]]), (5, [], [oN, oN, oN, oN, oS [2, 3, 19]]), (6, [], [oS [4]]), (7, [], [oN, oN, oN, oN, oS [24]]), (8, [], [oS [4]]), (9, [], [oS [4]])] Try.f130 = some ⟨2, 25, [.t 4], (tH s130_18)⟩ := by kernel_rfl
theorem v_laws_eqTerm (hl : vs.length = 2) (h : wpV Try.prog (tH s130_18) (postV [.t 4] RV) (envV vs) M) : VCall Try.prog n_laws_eqTerm vs M RV :=
  vcall_of_wp (fun _ _ _ hl h => acall_of_wp mixed Try.func130 c130 (by kernel_rfl) hl h) hl h
@[go_sem] def l119_0 (_ : Unit) : KL := [kB 4 (.mv (.c (.bool false))) [0, 1]]
@[go_sem] def l119_1 (_ : Unit) : KL := [kA 6 (.mv (.t 0)),
  kA 7 (.len (.t 6)),
  kA 8 (.mv (.t 1)),
  kA 9 (.len (.t 8)),
  kB 10 (.bin .neq (.t 7) (.t 9)) [0, 1, 10]]
@[go_sem] def l119_2 (_ : Unit) : KL := [kB 4 (.mv (.c (.bool false))) [4]]
@[go_sem] def s119_3 (_ : Unit) : IR := (sQ [(kT l119_2), .ret])
@[go_sem] def s119_4 (_ : Unit) : IR := (sQ [(kT l119_1), (.cond (.t 10) (tH s119_3) .skip)])
@[go_sem] def l119_5 (_ : Unit) : KL := [kB 5 (.mv (cI 0)) [0, 1, 5]]
@[go_sem] def l119_6 (_ : Unit) : KL := [kA 11 (.mv (.t 5)),
  kA 12 (.mv (.t 0)),
  kA 13 (.len (.t 12)),
  kB 14 (.bin .lss (.t 11) (.t 13)) [0, 1, 5, 14]]
@[go_sem] def s119_7 (_ : Unit) : IR := (sQ [(kT l119_6), (.cond (.t 14) .skip (.exit 0))])
@[go_sem] def l119_8 : Nat → GOp
  | 0 => ⟨(some 17), .mv (.t 0), none⟩
  | 1 => ⟨(some 18), .mv (.t 5), none⟩
  | 2 => ⟨(some 19), .iaddr (.t 17) (.t 18) 4, none⟩
  | 3 => ⟨(some 20), .load (.t 19) 4 true, none⟩
  | 4 => ⟨(some 21), .mv (.t 1), none⟩
  | 5 => ⟨(some 22), .mv (.t 5), none⟩
  | 6 => ⟨(some 23), .iaddr (.t 21) (.t 22) 4, none⟩
  | 7 => ⟨(some 24), .load (.t 23) 4 true, none⟩
  | 8 => ⟨(some 25), .call (n_laws_eqTerm) [(.t 20), (.t 24)], none⟩
  | 9 => ⟨(some 26), .un .not (.t 25), none⟩
  | _ => ⟨none, .mkmap, none⟩
@[go_sem] def l119_9 (_ : Unit) : KL := [kB 4 (.mv (.c (.bool false))) [4]]
@[go_sem] def s119_10 (_ : Unit) : IR := (sQ [(kT l119_9), .ret])
@[go_sem] def s119_11 (_ : Unit) : IR := (sQ [(.kd (oF l119_8 10) [(0, []), (1, []), (2, []), (3, []), (4, []), (5, []), (6, []), (7, []), (8, []), (9, [])] [0, 1, 5, 26]), (.cond (.t 26) (tH s119_10) .skip)])
@[go_sem] def s119_12 (_ : Unit) : IR := (.block 1 (tH s119_11))
@[go_sem] def l119_13 (_ : Unit) : KL := [kA 15 (.mv (.t 5)),
  kA 16 (.bin .add (.t 15) (cI 1)),
  kB 5 (.mv (.t 16)) [0, 1, 5]]
@[go_sem] def s119_14 (_ : Unit) : IR := (sQ [(tH s119_7), (tH s119_12), (kT l119_13)])
@[go_sem] def s119_15 (_ : Unit) : IR := (.loop (tH s119_14))
@[go_sem] def s119_16 (_ : Unit) : IR := (.block 0 (tH s119_15))
@[go_sem] def s119_17 (_ : Unit) : IR := (sQ [(kT l119_5), (tH s119_16)])
@[go_sem] def l119_18 (_ : Unit) : KL := [kB 4 (.mv (.c (.bool true))) [4]]
@[go_sem] def s119_19 (_ : Unit) : IR := (sQ [(kT l119_0), (tH s119_4), (tH s119_17), (kT l119_18), .ret])
theorem c119 : compFn Try.prog [(0, [], [oS [0, 1]]), (1, [], [oN, oN, oN, oN, oS [0, 1, 10]]), (2, [], [oS [4]]), (3, [], [oS [0, 1, 5]]), (4, [], [oN, oN, oN, oS [0, 1, 5, 14]]), (6, [(0, []), (1, []), (2, []), (3, []), (4, []), (5, []), (6, []), (7, []), (8, []), (9, [])], [oS [0, 1, 5, 26]]), (7, [], [oS [4]]), (5, [], [oN, oN, oS [0, 1, 5]]), (8, [], [oS [4]])] Try.f119 = some ⟨2, 27, [.t 4], (tH s119_19)⟩ := by kernel_rfl
theorem v_laws_eqTermS (hl : vs.length = 2) (h : wpV Try.prog (tH s119_19) (postV [.t 4] RV) (envV vs) M) : VCall Try.prog n_laws_eqTermS vs M RV :=
  vcall_of_wp (fun _ _ _ hl h => acall_of_wp mixed Try.func119 c119 (by kernel_rfl) hl h) hl h
@[go_sem] def l120_0 (_ : Unit) : KL := [kB 4 (.mv (.c (.bool false))) [0, 1]]
@[go_sem] def l120_1 (_ : Unit) : KL := [kA 6 (.mv (.t 0)),
  kA 7 (.len (.t 6)),
  kA 8 (.mv (.t 1)),
  kA 9 (.len (.t 8)),
  kB 10 (.bin .neq (.t 7) (.t 9)) [0, 1, 10]]
@[go_sem] def l120_2 (_ : Unit) : KL := [kB 4 (.mv (.c (.bool false))) [4]]
@[go_sem] def s120_3 (_ : Unit) : IR := (sQ [(kT l120_2), .ret])
@[go_sem] def s120_4 (_ : Unit) : IR := (sQ [(kT l120_1), (.cond (.t 10) (tH s120_3) .skip)])
@[go_sem] def l120_5 (_ : Unit) : KL := [kB 5 (.mv (cI 0)) [0, 1, 5]]
@[go_sem] def l120_6 (_ : Unit) : KL := [kA 11 (.mv (.t 5)),
  kA 12 (.mv (.t 0)),
  kA 13 (.len (.t 12)),
  kB 14 (.bin .lss (.t 11) (.t 13)) [0, 1, 5, 14]]
@[go_sem] def s120_7 (_ : Unit) : IR := (sQ [(kT l120_6), (.cond (.t 14) .skip (.exit 0))])
@[go_sem] def l120_8 : Nat → GOp
  | 0 => ⟨(some 17), .mv (.t 0), none⟩
  | 1 => ⟨(some 18), .mv (.t 5), none⟩
  | 2 => ⟨(some 19), .iaddr (.t 17) (.t 18) 1, none⟩
  | 3 => ⟨(some 20), .load (.t 19) 1 false, none⟩
  | 4 => ⟨(some 21), .mv (.t 1), none⟩
  | 5 => ⟨(some 22), .mv (.t 5), none⟩
  | 6 => ⟨(some 23), .iaddr (.t 21) (.t 22) 1, none⟩
  | 7 => ⟨(some 24), .load (.t 23) 1 false, none⟩
  | 8 => ⟨(some 25), .call (n_laws_eqTermS) [(.t 20), (.t 24)], none⟩
  | 9 => ⟨(some 26), .un .not (.t 25), none⟩
  | _ => ⟨none, .mkmap, none⟩
@[go_sem] def l120_9 (_ : Unit) : KL := [kB 4 (.mv (.c (.bool false))) [4]]
@[go_sem] def s120_10 (_ : Unit) : IR := (sQ [(kT l120_9), .ret])
@[go_sem] def s120_11 (_ : Unit) : IR := (sQ [(.kd (oF l120_8 10) [(0, []), (1, []), (2, []), (3, []), (4, []), (5, []), (6, []), (7, []), (8, []), (9, [])] [0, 1, 5, 26]), (.cond (.t 26) (tH s120_10) .skip)])
@[go_sem] def s120_12 (_ : Unit) : IR := (.block 1 (tH s120_11))
@[go_sem] def l120_13 (_ : Unit) : KL := [kA 15 (.mv (.t 5)),
  kA 16 (.bin .add (.t 15) (cI 1)),
  kB 5 (.mv (.t 16)) [0, 1, 5]]
@[go_sem] def s120_14 (_ : Unit) : IR := (sQ [(tH s120_7), (tH s120_12), (kT l120_13)])
@[go_sem] def s120_15 (_ : Unit) : IR := (.loop (tH s120_14))
@[go_sem] def s120_16 (_ : Unit) : IR := (.block 0 (tH s120_15))
@[go_sem] def s120_17 (_ : Unit) : IR := (sQ [(kT l120_5), (tH s120_16)])
@[go_sem] def l120_18 (_ : Unit) : KL := [kB 4 (.mv (.c (.bool true))) [4]]
@[go_sem] def s120_19 (_ : Unit) : IR := (sQ [(kT l120_0), (tH s120_4), (tH s120_17), (kT l120_18), .ret])
theorem c120 : compFn Try.prog [(0, [], [oS [0, 1]]), (1, [], [oN, oN, oN, oN, oS [0, 1, 10]]), (2, [], [oS [4]]), (3, [], [oS [0, 1, 5]]), (4, [], [oN, oN, oN, oS [0, 1, 5, 14]]), (6, [(0, []), (1, []), (2, []), (3, []), (4, []), (5, []), (6, []), (7, []), (8, []), (9, [])], [oS [0, 1, 5, 26]]), (7, [], [oS [4]]), (5, [], [oN, oN, oS [0, 1, 5]]), (8, [], [oS [4]])] Try.f120 = some ⟨2, 27, [.t 4], (tH s120_19)⟩ := by kernel_rfl
theorem v_laws_eqTermSS (hl : vs.length = 2) (h : wpV Try.prog (tH s120_19) (postV [.t 4] RV) (envV vs) M) : VCall Try.prog n_laws_eqTermSS vs M RV :=
  vcall_of_wp (fun _ _ _ hl h => acall_of_wp mixed Try.func120 c120 (by kernel_rfl) hl h) hl h
@[go_sem] def l88_0 (_ : Unit) : KL := [kA 2 (.box (.t 0)),
  kA 3 (.box (.t 1)),
  kB 4 (.mv (.c (.bool false))) [2, 3]]
@[go_sem] def l88_1 (_ : Unit) : KL := [kA 5 (.faddr (.t 2) 0),
  kA 6 (.load (.t 5) 1 false),
  kA 7 (.faddr (.t 3) 0),
  kA 8 (.load (.t 7) 1 false),
  kB 9 (.call (n_laws_eqTermS) [(.t 6), (.t 8)]) [2, 3, 9],
  kB 10 (.un .not (.t 9)) [2, 3, 10]]
@[go_sem] def l88_2 (_ : Unit) : KL := [kB 4 (.mv (.c (.bool false))) [4]]
@[go_sem] def s88_3 (_ : Unit) : IR := (sQ [(kT l88_2), .ret])
@[go_sem] def s88_4 (_ : Unit) : IR := (sQ [(kT l88_1), (.cond (.t 10) (tH s88_3) .skip)])
@[go_sem] def l88_5 (_ : Unit) : KL := [kA 11 (.faddr (.t 2) 1),
  kA 12 (.load (.t 11) 1 false),
  kA 13 (.faddr (.t 3) 1),
  kA 14 (.load (.t 13) 1 false),
  kB 15 (.call (n_laws_eqIntS) [(.t 12), (.t 14)]) [2, 3, 15],
  kB 16 (.un .not (.t 15)) [2, 3, 16]]
@[go_sem] def l88_6 (_ : Unit) : KL := [kB 4 (.mv (.c (.bool false))) [4]]
@[go_sem] def s88_7 (_ : Unit) : IR := (sQ [(kT l88_6), .ret])
@[go_sem] def s88_8 (_ : Unit) : IR := (sQ [(kT l88_5), (.cond (.t 16) (tH s88_7) .skip)])
@[go_sem] def l88_9 (_ : Unit) : KL := [kA 17 (.faddr (.t 2) 2),
  kA 18 (.load (.t 17) 1 false),
  kA 19 (.faddr (.t 3) 2),
  kA 20 (.load (.t 19) 1 false),
  kB 21 (.call (n_laws_eqTermSS) [(.t 18), (.t 20)]) [21],
  kB 22 (.un .not (.t 21)) [22]]
@[go_sem] def l88_10 (_ : Unit) : KL := [kB 4 (.mv (.c (.bool false))) [4]]
@[go_sem] def s88_11 (_ : Unit) : IR := (sQ [(kT l88_10), .ret])
@[go_sem] def s88_12 (_ : Unit) : IR := (sQ [(kT l88_9), (.cond (.t 22) (tH s88_11) .skip)])
@[go_sem] def l88_13 (_ : Unit) : KL := [kB 4 (.mv (.c (.bool true))) [4]]
@[go_sem] def s88_14 (_ : Unit) : IR := (sQ [(kT l88_0), (tH s88_4), (tH s88_8), (tH s88_12), (kT l88_13), .ret])
theorem c88 : compFn Try.prog [(0, [], [oN, oN, oS [2, 3]]), (1, [], [oN, oN, oN, oN, oS [2, 3, 9], oS [2, 3, 10]]), (2, [], [oS [4]]), (3, [], [oN, oN, oN, oN, oS [2, 3, 15], oS [2, 3, 16]]), (4, [], [oS [4]]), (5, [], [oN, oN, oN, oN, oS [21], oS [22]]), (6, [], [oS [4]]), (7, [], [oS [4]])] Try.f88 = some ⟨2, 23, [.t 4], (tH s88_14)⟩ := by kernel_rfl
theorem v_laws_eqRule (hl : vs.length = 2) (h : wpV Try.prog (tH s88_14) (postV [.t 4] RV) (envV vs) M) : VCall Try.prog n_laws_eqRule vs M RV :=
  vcall_of_wp (fun _ _ _ hl h => acall_of_wp mixed Try.func88 c88 (by kernel_rfl) hl h) hl h
@[go_sem] def l44_0 (_ : Unit) : KL := [kB 4 (.mv (.c (.bool false))) [0, 1]]
@[go_sem] def l44_1 (_ : Unit) : KL := [kA 6 (.mv (.t 0)),
  kA 7 (.len (.t 6)),
  kA 8 (.mv (.t 1)),
  kA 9 (.len (.t 8)),
  kB 10 (.bin .neq (.t 7) (.t 9)) [0, 1, 10]]
@[go_sem] def l44_2 (_ : Unit) : KL := [kB 4 (.mv (.c (.bool false))) [4]]
@[go_sem] def s44_3 (_ : Unit) : IR := (sQ [(kT l44_2), .ret])
@[go_sem] def s44_4 (_ : Unit) : IR := (sQ [(kT l44_1), (.cond (.t 10) (tH s44_3) .skip)])
@[go_sem] def l44_5 (_ : Unit) : KL := [kB 5 (.mv (cI 0)) [0, 1, 5]]
@[go_sem] def l44_6 (_ : Unit) : KL := [kA 11 (.mv (.t 5)),
  kA 12 (.mv (.t 0)),
  kA 13 (.len (.t 12)),
  kB 14 (.bin .lss (.t 11) (.t 13)) [0, 1, 5, 14]]
@[go_sem] def s44_7 (_ : Unit) : IR := (sQ [(kT l44_6), (.cond (.t 14) .skip (.exit 0))])
@[go_sem] def l44_8 : Nat → GOp
  | 0 => ⟨(some 17), .mv (.t 0), none⟩
  | 1 => ⟨(some 18), .mv (.t 5), none⟩
  | 2 => ⟨(some 19), .iaddr (.t 17) (.t 18) 3, none⟩
  | 3 => ⟨(some 20), .load (.t 19) 3 true, none⟩
  | 4 => ⟨(some 21), .mv (.t 1), none⟩
  | 5 => ⟨(some 22), .mv (.t 5), none⟩
  | 6 => ⟨(some 23), .iaddr (.t 21) (.t 22) 3, none⟩
  | 7 => ⟨(some 24), .load (.t 23) 3 true, none⟩
  | 8 => ⟨(some 25), .call (n_laws_eqRule) [(.t 20), (.t 24)], none⟩
  | 9 => ⟨(some 26), .un .not (.t 25), none⟩
  | _ => ⟨none, .mkmap, none⟩
@[go_sem] def l44_9 (_ : Unit) : KL := [kB 4 (.mv (.c (.bool false))) [4]]
@[go_sem] def s44_10 (_ : Unit) : IR := (sQ [(kT l44_9), .ret])
@[go_sem] def s44_11 (_ : Unit) : IR := (sQ [(.kd (oF l44_8 10) [(0, []), (1, []), (2, []), (3, []), (4, []), (5, []), (6, []), (7, []), (8, []), (9, [])] [0, 1, 5, 26]), (.cond (.t 26) (tH s44_10) .skip)])
@[go_sem] def s44_12 (_ : Unit) : IR := (.block 1 (tH s44_11))
@[go_sem] def l44_13 (_ : Unit) : KL := [kA 15 (.mv (.t 5)),
  kA 16 (.bin .add (.t 15) (cI 1)),
  kB 5 (.mv (.t 16)) [0, 1, 5]]
@[go_sem] def s44_14 (_ : Unit) : IR := (sQ [(tH s44_7), (tH s44_12), (kT l44_13)])
@[go_sem] def s44_15 (_ : Unit) : IR := (.loop (tH s44_14))
@[go_sem] def s44_16 (_ : Unit) : IR := (.block 0 (tH s44_15))
@[go_sem] def s44_17 (_ : Unit) : IR := (sQ [(kT l44_5), (tH s44_16)])
@[go_sem] def l44_18 (_ : Unit) : KL := [kB 4 (.mv (.c (.bool true))) [4]]
@[go_sem] def s44_19 (_ : Unit) : IR := (sQ [(kT l44_0), (tH s44_4), (tH s44_17), (kT l44_18), .ret])
theorem c44 : compFn Try.prog [(0, [], [oS [0, 1]]), (1, [], [oN, oN, oN, oN, oS [0, 1, 10]]), (2, [], [oS [4]]), (3, [], [oS [0, 1, 5]]), (4, [], [oN, oN, oN, oS [0, 1, 5, 14]]), (6, [(0, []), (1, []), (2, []), (3, []), (4, []), (5, []), (6, []), (7, []), (8, []), (9, [])], [oS [0, 1, 5, 26]]), (7, [], [oS [4]]), (5, [], [oN, oN, oS [0, 1, 5]]), (8, [], [oS [4]])] Try.f44 = some ⟨2, 27, [.t 4], (tH s44_19)⟩ := by kernel_rfl
theorem v_laws_eqRuleS (hl : vs.length = 2) (h : wpV Try.prog (tH s44_19) (postV [.t 4] RV) (envV vs) M) : VCall Try.prog n_laws_eqRuleS vs M RV :=
  vcall_of_wp (fun _ _ _ hl h => acall_of_wp mixed Try.func44 c44 (by kernel_rfl) hl h) hl h
@[go_sem] def l14_0 (_ : Unit) : KL := [kA 2 (.box (.t 0)),
  kA 3 (.box (.t 1)),
  kB 4 (.mv (.c (.bool false))) [2, 3]]
@[go_sem] def l14_1 (_ : Unit) : KL := [kA 5 (.faddr (.t 2) 0),
  kA 6 (.load (.t 5) 1 false),
  kA 7 (.faddr (.t 3) 0),
  kA 8 (.load (.t 7) 1 false),
  kB 9 (.call (n_laws_eqVarS) [(.t 6), (.t 8)]) [2, 3, 9],
  kB 10 (.un .not (.t 9)) [2, 3, 10]]
@[go_sem] def l14_2 (_ : Unit) : KL := [kB 4 (.mv (.c (.bool false))) [4]]
@[go_sem] def s14_3 (_ : Unit) : IR := (sQ [(kT l14_2), .ret])
@[go_sem] def s14_4 (_ : Unit) : IR := (sQ [(kT l14_1), (.cond (.t 10) (tH s14_3) .skip)])
@[go_sem] def l14_5 (_ : Unit) : KL := [kA 11 (.faddr (.t 2) 1),
  kA 12 (.load (.t 11) 1 false),
  kA 13 (.faddr (.t 3) 1),
  kA 14 (.load (.t 13) 1 false),
  kB 15 (.call (n_laws_eqRuleS) [(.t 12), (.t 14)]) [15],
  kB 16 (.un .not (.t 15)) [16]]
@[go_sem] def l14_6 (_ : Unit) : KL := [kB 4 (.mv (.c (.bool false))) [4]]
@[go_sem] def s14_7 (_ : Unit) : IR := (sQ [(kT l14_6), .ret])
@[go_sem] def s14_8 (_ : Unit) : IR := (sQ [(kT l14_5), (.cond (.t 16) (tH s14_7) .skip)])
@[go_sem] def l14_9 (_ : Unit) : KL := [kB 4 (.mv (.c (.bool true))) [4]]
@[go_sem] def s14_10 (_ : Unit) : IR := (sQ [(kT l14_0), (tH s14_4), (tH s14_8), (kT l14_9), .ret])
theorem c14 : compFn Try.prog [(0, [], [oN, oN, oS [2, 3]]), (1, [], [oN, oN, oN, oN, oS [2, 3, 9], oS [2, 3, 10]]), (2, [], [oS [4]]), (3, [], [oN, oN, oN, oN, oS [15], oS [16]]), (4, [], [oS [4]]), (5, [], [oS [4]])] Try.f14 = some ⟨2, 17, [.t 4], (tH s14_10)⟩ := by kernel_rfl
theorem v_laws_eqSystem (hl : vs.length = 2) (h : wpV Try.prog (tH s14_10) (postV [.t 4] RV) (envV vs) M) : VCall Try.prog n_laws_eqSystem vs M RV :=
  vcall_of_wp (fun _ _ _ hl h => acall_of_wp mixed Try.func14 c14 (by kernel_rfl) hl h) hl h
@[go_sem] def l45_0 (_ : Unit) : KL := [kB 4 (.mv (cI 0)) [0, 1]]
@[go_sem] def l45_1 (_ : Unit) : KL := [kB 5 (.mv (cI 0)) [0, 1, 5]]
@[go_sem] def l45_2 (_ : Unit) : KL := [kA 6 (.mv (.t 5)),
  kA 7 (.mv (.t 0)),
  kA 8 (.len (.t 7)),
  kB 9 (.bin .lss (.t 6) (.t 8)) [0, 1, 5, 9]]
@[go_sem] def s45_3 (_ : Unit) : IR := (sQ [(kT l45_2), (.cond (.t 9) .skip (.exit 0))])
@[go_sem] def l45_4 (_ : Unit) : KL := [kA 12 (.mv (.t 0)),
  kA 13 (.mv (.t 5)),
  kA 14 (.mv (.t 1)),
  kA 15 (.iaddr (.t 12) (.t 13) 3),
  kB 16 (.faddr (.t 15) 0) [0, 1, 5, 14, 16],
  (⟨none, .store (.t 16) 1 (.t 14), none⟩, (some [0, 1, 5]))]
@[go_sem] def l45_5 (_ : Unit) : KL := [kA 17 (.mv (.t 1)),
  kA 18 (.bin .add (.t 17) (cI 1)),
  kB 1 (.mv (.t 18)) [0, 1, 5]]
@[go_sem] def l45_6 (_ : Unit) : KL := [kA 19 (.mv (.t 0)),
  kA 20 (.mv (.t 5)),
  kA 21 (.mv (.t 1)),
  kA 22 (.iaddr (.t 19) (.t 20) 3),
  kB 23 (.faddr (.t 22) 1) [0, 1, 5, 21, 23],
  (⟨none, .store (.t 23) 1 (.t 21), none⟩, (some [0, 1, 5]))]
@[go_sem] def l45_7 (_ : Unit) : KL := [kA 24 (.mv (.t 1)),
  kA 25 (.bin .add (.t 24) (cI 1)),
  kB 1 (.mv (.t 25)) [0, 1, 5]]
@[go_sem] def l45_8 (_ : Unit) : KL := [kA 26 (.mv (.t 0)),
  kA 27 (.mv (.t 5)),
  kA 28 (.mv (.t 1)),
  kA 29 (.iaddr (.t 26) (.t 27) 3),
  kB 30 (.faddr (.t 29) 2) [0, 1, 5, 28, 30],
  (⟨none, .store (.t 30) 1 (.t 28), none⟩, (some [0, 1, 5]))]
@[go_sem] def l45_9 (_ : Unit) : KL := [kA 31 (.mv (.t 1)),
  kA 32 (.bin .add (.t 31) (cI 1)),
  kB 1 (.mv (.t 32)) [0, 1, 5]]
@[go_sem] def s45_10 (_ : Unit) : IR := (sQ [(kT l45_4), (kT l45_5), (kT l45_6), (kT l45_7), (kT l45_8), (kT l45_9)])
@[go_sem] def s45_11 (_ : Unit) : IR := (.block 1 (tH s45_10))
@[go_sem] def l45_12 (_ : Unit) : KL := [kA 10 (.mv (.t 5)),
  kA 11 (.bin .add (.t 10) (cI 1)),
  kB 5 (.mv (.t 11)) [0, 1, 5]]
@[go_sem] def s45_13 (_ : Unit) : IR := (sQ [(tH s45_3), (tH s45_11), (kT l45_12)])
@[go_sem] def s45_14 (_ : Unit) : IR := (.loop (tH s45_13))
@[go_sem] def s45_15 (_ : Unit) : IR := (.block 0 (tH s45_14))
@[go_sem] def s45_16 (_ : Unit) : IR := (sQ [(kT l45_1), (tH s45_15)])
@[go_sem] def l45_17 (_ : Unit) : KL := [kA 33 (.mv (.t 1)),
  kB 4 (.mv (.t 33)) [4]]
@[go_sem] def s45_18 (_ : Unit) : IR := (sQ [(kT l45_0), (tH s45_16), (kT l45_17), .ret])
theorem c45 : compFn Try.prog [(0, [], [oS [0, 1]]), (1, [], [oS [0, 1, 5]]), (2, [], [oN, oN, oN, oS [0, 1, 5, 9]]), (4, [], [oN, oN, oN, oN, oS [0, 1, 5, 14, 16], oS [0, 1, 5]]), (5, [], [oN, oN, oS [0, 1, 5]]), (6, [], [oN, oN, oN, oN, oS [0, 1, 5, 21, 23], oS [0, 1, 5]]), (7, [], [oN, oN, oS [0, 1, 5]]), (8, [], [oN, oN, oN, oN, oS [0, 1, 5, 28, 30], oS [0, 1, 5]]), (9, [], [oN, oN, oS [0, 1, 5]]), (3, [], [oN, oN, oS [0, 1, 5]]), (10, [], [oN, oS [4]])] Try.f45 = some ⟨2, 34, [.t 4], (tH s45_18)⟩ := by kernel_rfl
theorem v_laws_markVarS (hl : vs.length = 2) (h : wpV Try.prog (tH s45_18) (postV [.t 4] RV) (envV vs) M) : VCall Try.prog n_laws_markVarS vs M RV :=
  vcall_of_wp (fun _ _ _ hl h => acall_of_wp mixed Try.func45 c45 (by kernel_rfl) hl h) hl h
@[go_sem] def l89_0 (_ : Unit) : KL := [kB 4 (.mv (cI 0)) [0, 1]]
@[go_sem] def l89_1 (_ : Unit) : KL := [kB 5 (.mv (cI 0)) [0, 1, 5]]
@[go_sem] def l89_2 (_ : Unit) : KL := [kA 6 (.mv (.t 5)),
  kA 7 (.mv (.t 0)),
  kA 8 (.len (.t 7)),
  kB 9 (.bin .lss (.t 6) (.t 8)) [0, 1, 5, 9]]
@[go_sem] def s89_3 (_ : Unit) : IR := (sQ [(kT l89_2), (.cond (.t 9) .skip (.exit 0))])
@[go_sem] def l89_4 (_ : Unit) : KL := [kA 12 (.mv (.t 0)),
  kA 13 (.mv (.t 5)),
  kA 14 (.mv (.t 1)),
  kA 15 (.iaddr (.t 12) (.t 13) 4),
  kB 16 (.faddr (.t 15) 0) [0, 1, 5, 14, 16],
  (⟨none, .store (.t 16) 1 (.t 14), none⟩, (some [0, 1, 5]))]
@[go_sem] def l89_5 (_ : Unit) : KL := [kA 17 (.mv (.t 1)),
  kA 18 (.bin .add (.t 17) (cI 1)),
  kB 1 (.mv (.t 18)) [0, 1, 5]]
@[go_sem] def l89_6 (_ : Unit) : KL := [kA 19 (.mv (.t 0)),
  kA 20 (.mv (.t 5)),
  kA 21 (.mv (.t 1)),
  kA 22 (.iaddr (.t 19) (.t 20) 4),
  kB 23 (.faddr (.t 22) 1) [0, 1, 5, 21, 23],
  (⟨none, .store (.t 23) 1 (.t 21), none⟩, (some [0, 1, 5]))]
@[go_sem] def l89_7 (_ : Unit) : KL := [kA 24 (.mv (.t 1)),
  kA 25 (.bin .add (.t 24) (cI 1)),
  kB 1 (.mv (.t 25)) [0, 1, 5]]
@[go_sem] def l89_8 (_ : Unit) : KL := [kA 26 (.mv (.t 0)),
  kA 27 (.mv (.t 5)),
  kA 28 (.mv (.t 1)),
  kA 29 (.iaddr (.t 26) (.t 27) 4),
  kB 30 (.faddr (.t 29) 2) [0, 1, 5, 28, 30],
  (⟨none, .store (.t 30) 1 (.t 28), none⟩, (some [0, 1, 5]))]
@[go_sem] def l89_9 (_ : Unit) : KL := [kA 31 (.mv (.t 1)),
  kA 32 (.bin .add (.t 31) (cI 1)),
  kB 1 (.mv (.t 32)) [0, 1, 5]]
@[go_sem] def l89_10 (_ : Unit) : KL := [kA 33 (.mv (.t 0)),
  kA 34 (.mv (.t 5)),
  kA 35 (.mv (.t 1)),
  kA 36 (.iaddr (.t 33) (.t 34) 4),
  kB 37 (.faddr (.t 36) 3) [0, 1, 5, 35, 37],
  (⟨none, .store (.t 37) 1 (.t 35), none⟩, (some [0, 1, 5]))]
@[go_sem] def l89_11 (_ : Unit) : KL := [kA 38 (.mv (.t 1)),
  kA 39 (.bin .add (.t 38) (cI 1)),
  kB 1 (.mv (.t 39)) [0, 1, 5]]
@[go_sem] def s89_12 (_ : Unit) : IR := (sQ [(kT l89_4), (kT l89_5), (kT l89_6), (kT l89_7), (kT l89_8), (kT l89_9), (kT l89_10), (kT l89_11)])
@[go_sem] def s89_13 (_ : Unit) : IR := (.block 1 (tH s89_12))
@[go_sem] def l89_14 (_ : Unit) : KL := [kA 10 (.mv (.t 5)),
  kA 11 (.bin .add (.t 10) (cI 1)),
  kB 5 (.mv (.t 11)) [0, 1, 5]]
@[go_sem] def s89_15 (_ : Unit) : IR := (sQ [(tH s89_3), (tH s89_13), (kT l89_14)])
@[go_sem] def s89_16 (_ : Unit) : IR := (.loop (tH s89_15))
@[go_sem] def s89_17 (_ : Unit) : IR := (.block 0 (tH s89_16))
@[go_sem] def s89_18 (_ : Unit) : IR := (sQ [(kT l89_1), (tH s89_17)])
@[go_sem] def l89_19 (_ : Unit) : KL := [kA 40 (.mv (.t 1)),
  kB 4 (.mv (.t 40)) [4]]
@[go_sem] def s89_20 (_ : Unit) : IR := (sQ [(kT l89_0), (tH s89_18), (kT l89_19), .ret])
theorem c89 : compFn Try.prog [(0, [], [oS [0, 1]]), (1, [], [oS [0, 1, 5]]), (2, [], [oN, oN, oN, oS [0, 1, 5, 9]]), (4, [], [oN, oN, oN, oN, oS [0, 1, 5, 14, 16], oS [0, 1, 5]]), (5, [], [oN, oN, oS [0, 1, 5]]), (6, [], [oN, oN, oN, oN, oS [0, 1, 5, 21, 23], oS [0, 1, 5]]), (7, [], [oN, oN, oS [0, 1, 5]]), (8, [], [oN, oN, oN, oN, oS [0, 1, 5, 28, 30], oS [0, 1, 5]]), (9, [], [oN, oN, oS [0, 1, 5]]), (10, [], [oN, oN, oN, oN, oS [0, 1, 5, 35, 37], oS [0, 1, 5]]), (11, [], [oN, oN, oS [0, 1, 5]]), (3, [], [oN, oN, oS [0, 1, 5]]), (12, [], [oN, oS [4]])] Try.f89 = some ⟨2, 41, [.t 4], (tH s89_20)⟩ := by kernel_rfl
theorem v_laws_markTermS (hl : vs.length = 2) (h : wpV Try.prog (tH s89_20) (postV [.t 4] RV) (envV vs) M) : VCall Try.prog n_laws_markTermS vs M RV :=
  vcall_of_wp (fun _ _ _ hl h => acall_of_wp mixed Try.func89 c89 (by kernel_rfl) hl h) hl h
@[go_sem] def l17_0 (_ : Unit) : KL := [kB 4 (.mv (cI 0)) [0, 1]]
@[go_sem] def l17_1 (_ : Unit) : KL := [kB 5 (.mv (cI 0)) [0, 1, 5]]
@[go_sem] def l17_2 (_ : Unit) : KL := [kA 6 (.mv (.t 5)),
  kA 7 (.mv (.t 0)),
  kA 8 (.len (.t 7)),
  kB 9 (.bin .lss (.t 6) (.t 8)) [0, 1, 5, 9]]
@[go_sem] def s17_3 (_ : Unit) : IR := (sQ [(kT l17_2), (.cond (.t 9) .skip (.exit 0))])
@[go_sem] def l17_4 (_ : Unit) : KL := [kA 12 (.mv (.t 0)),
  kA 13 (.mv (.t 5)),
  kA 14 (.mv (.t 1)),
  kA 15 (.iaddr (.t 12) (.t 13) 1),
  (⟨none, .store (.t 15) 1 (.t 14), none⟩, (some [0, 1, 5]))]
@[go_sem] def l17_5 (_ : Unit) : KL := [kA 16 (.mv (.t 1)),
  kA 17 (.bin .add (.t 16) (cI 1)),
  kB 1 (.mv (.t 17)) [0, 1, 5]]
@[go_sem] def s17_6 (_ : Unit) : IR := (sQ [(kT l17_4), (kT l17_5)])
@[go_sem] def s17_7 (_ : Unit) : IR := (.block 1 (tH s17_6))
@[go_sem] def l17_8 (_ : Unit) : KL := [kA 10 (.mv (.t 5)),
  kA 11 (.bin .add (.t 10) (cI 1)),
  kB 5 (.mv (.t 11)) [0, 1, 5]]
@[go_sem] def s17_9 (_ : Unit) : IR := (sQ [(tH s17_3), (tH s17_7), (kT l17_8)])
@[go_sem] def s17_10 (_ : Unit) : IR := (.loop (tH s17_9))
@[go_sem] def s17_11 (_ : Unit) : IR := (.block 0 (tH s17_10))
@[go_sem] def s17_12 (_ : Unit) : IR := (sQ [(kT l17_1), (tH s17_11)])
@[go_sem] def l17_13 (_ : Unit) : KL := [kA 18 (.mv (.t 1)),
  kB 4 (.mv (.t 18)) [4]]
@[go_sem] def s17_14 (_ : Unit) : IR := (sQ [(kT l17_0), (tH s17_12), (kT l17_13), .ret])
theorem c17 : compFn Try.prog [(0, [], [oS [0, 1]]), (1, [], [oS [0, 1, 5]]), (2, [], [oN, oN, oN, oS [0, 1, 5, 9]]), (4, [], [oN, oN, oN, oN, oS [0, 1, 5]]), (5, [], [oN, oN, oS [0, 1, 5]]), (3, [], [oN, oN, oS [0, 1, 5]]), (6, [], [oN, oS [4]])] Try.f17 = some ⟨2, 19, [.t 4], (tH s17_14)⟩ := by kernel_rfl
theorem v_laws_markIntS (hl : vs.length = 2) (h : wpV Try.prog (tH s17_14) (postV [.t 4] RV) (envV vs) M) : VCall Try.prog n_laws_markIntS vs M RV :=
  vcall_of_wp (fun _ _ _ hl h => acall_of_wp mixed Try.func17 c17 (by kernel_rfl) hl h) hl h
@[go_sem] def l90_0 (_ : Unit) : KL := [kB 4 (.mv (cI 0)) [0, 1]]
@[go_sem] def l90_1 (_ : Unit) : KL := [kB 5 (.mv (cI 0)) [0, 1, 5]]
@[go_sem] def l90_2 (_ : Unit) : KL := [kA 6 (.mv (.t 5)),
  kA 7 (.mv (.t 0)),
  kA 8 (.len (.t 7)),
  kB 9 (.bin .lss (.t 6) (.t 8)) [0, 1, 5, 9]]
@[go_sem] def s90_3 (_ : Unit) : IR := (sQ [(kT l90_2), (.cond (.t 9) .skip (.exit 0))])
@[go_sem] def l90_4 (_ : Unit) : KL := [kA 12 (.mv (.t 0)),
  kA 13 (.mv (.t 5)),
  kA 14 (.iaddr (.t 12) (.t 13) 1),
  kA 15 (.load (.t 14) 1 false),
  kB 16 (.mv (.t 1)) [0, 5, 15, 16],
  kA 17 (.call (n_laws_markTermS) [(.t 15), (.t 16)]),
  kB 1 (.mv (.t 17)) [0, 1, 5]]
@[go_sem] def s90_5 (_ : Unit) : IR := (.block 1 (kT l90_4))
@[go_sem] def l90_6 (_ : Unit) : KL := [kA 10 (.mv (.t 5)),
  kA 11 (.bin .add (.t 10) (cI 1)),
  kB 5 (.mv (.t 11)) [0, 1, 5]]
@[go_sem] def s90_7 (_ : Unit) : IR := (sQ [(tH s90_3), (tH s90_5), (kT l90_6)])
@[go_sem] def s90_8 (_ : Unit) : IR := (.loop (tH s90_7))
@[go_sem] def s90_9 (_ : Unit) : IR := (.block 0 (tH s90_8))
@[go_sem] def s90_10 (_ : Unit) : IR := (sQ [(kT l90_1), (tH s90_9)])
@[go_sem] def l90_11 (_ : Unit) : KL := [kA 18 (.mv (.t 1)),
  kB 4 (.mv (.t 18)) [4]]
@[go_sem] def s90_12 (_ : Unit) : IR := (sQ [(kT l90_0), (tH s90_10), (kT l90_11), .ret])
theorem c90 : compFn Try.prog [(0, [], [oS [0, 1]]), (1, [], [oS [0, 1, 5]]), (2, [], [oN, oN, oN, oS [0, 1, 5, 9]]), (4, [], [oN, oN, oN, oN, oS [0, 5, 15, 16], oN, oS [0, 1, 5]]), (3, [], [oN, oN, oS [0, 1, 5]]), (5, [], [oN, oS [4]])] Try.f90 = some ⟨2, 19, [.t 4], (tH s90_12)⟩ := by kernel_rfl
theorem v_laws_markTermSS (hl : vs.length = 2) (h : wpV Try.prog (tH s90_12) (postV [.t 4] RV) (envV vs) M) : VCall Try.prog n_laws_markTermSS vs M RV :=
  vcall_of_wp (fun _ _ _ hl h => acall_of_wp mixed Try.func90 c90 (by kernel_rfl) hl h) hl h
@[go_sem] def l46_0 (_ : Unit) : KL := [kB 4 (.mv (cI 0)) [0, 1]]
@[go_sem] def l46_1 (_ : Unit) : KL := [kB 5 (.mv (cI 0)) [0, 1, 5]]
@[go_sem] def l46_2 (_ : Unit) : KL := [kA 6 (.mv (.t 5)),
  kA 7 (.mv (.t 0)),
  kA 8 (.len (.t 7)),
  kB 9 (.bin .lss (.t 6) (.t 8)) [0, 1, 5, 9]]
@[go_sem] def s46_3 (_ : Unit) : IR := (sQ [(kT l46_2), (.cond (.t 9) .skip (.exit 0))])
@[go_sem] def l46_4 (_ : Unit) : KL := [kA 12 (.mv (.t 0)),
  kA 13 (.mv (.t 5)),
  kA 14 (.iaddr (.t 12) (.t 13) 3),
  kA 15 (.faddr (.t 14) 0),
  kB 16 (.load (.t 15) 1 false) [0, 1, 5, 16],
  kA 17 (.mv (.t 1)),
  kA 18 (.call (n_laws_markTermS) [(.t 16), (.t 17)]),
  kB 1 (.mv (.t 18)) [0, 1, 5]]
@[go_sem] def l46_5 (_ : Unit) : KL := [kA 19 (.mv (.t 0)),
  kA 20 (.mv (.t 5)),
  kA 21 (.iaddr (.t 19) (.t 20) 3),
  kA 22 (.faddr (.t 21) 1),
  kB 23 (.load (.t 22) 1 false) [0, 1, 5, 23],
  kA 24 (.mv (.t 1)),
  kA 25 (.call (n_laws_markIntS) [(.t 23), (.t 24)]),
  kB 1 (.mv (.t 25)) [0, 1, 5]]
@[go_sem] def l46_6 (_ : Unit) : KL := [kA 26 (.mv (.t 0)),
  kA 27 (.mv (.t 5)),
  kA 28 (.iaddr (.t 26) (.t 27) 3),
  kA 29 (.faddr (.t 28) 2),
  kB 30 (.load (.t 29) 1 false) [0, 1, 5, 30],
  kA 31 (.mv (.t 1)),
  kA 32 (.call (n_laws_markTermSS) [(.t 30), (.t 31)]),
  kB 1 (.mv (.t 32)) [0, 1, 5]]
@[go_sem] def s46_7 (_ : Unit) : IR := (sQ [(kT l46_4), (kT l46_5), (kT l46_6)])
@[go_sem] def s46_8 (_ : Unit) : IR := (.block 1 (tH s46_7))
@[go_sem] def l46_9 (_ : Unit) : KL := [kA 10 (.mv (.t 5)),
  kA 11 (.bin .add (.t 10) (cI 1)),
  kB 5 (.mv (.t 11)) [0, 1, 5]]
@[go_sem] def s46_10 (_ : Unit) : IR := (sQ [(tH s46_3), (tH s46_8), (kT l46_9)])
@[go_sem] def s46_11 (_ : Unit) : IR := (.loop (tH s46_10))
@[go_sem] def s46_12 (_ : Unit) : IR := (.block 0 (tH s46_11))
@[go_sem] def s46_13 (_ : Unit) : IR := (sQ [(kT l46_1), (tH s46_12)])
@[go_sem] def l46_14 (_ : Unit) : KL := [kA 33 (.mv (.t 1)),
  kB 4 (.mv (.t 33)) [4]]
@[go_sem] def s46_15 (_ : Unit) : IR := (sQ [(kT l46_0), (tH s46_13), (kT l46_14), .ret])
theorem c46 : compFn Try.prog [(0, [], [oS [0, 1]]), (1, [], [oS [0, 1, 5]]), (2, [], [oN, oN, oN, oS [0, 1, 5, 9]]), (4, [], [oN, oN, oN, oN, oS [0, 1, 5, 16], oN, oN, oS [0, 1, 5]]), (5, [], [oN, oN, oN, oN, oS [0, 1, 5, 23], oN, oN, oS [0, 1, 5]]), (6, [], [oN, oN, oN, oN, oS [0, 1, 5, 30], oN, oN, oS [0, 1, 5]]), (3, [], [oN, oN, oS [0, 1, 5]]), (7, [], [oN, oS [4]])] Try.f46 = some ⟨2, 34, [.t 4], (tH s46_15)⟩ := by kernel_rfl
theorem v_laws_markRuleS (hl : vs.length = 2) (h : wpV Try.prog (tH s46_15) (postV [.t 4] RV) (envV vs) M) : VCall Try.prog n_laws_markRuleS vs M RV :=
  vcall_of_wp (fun _ _ _ hl h => acall_of_wp mixed Try.func46 c46 (by kernel_rfl) hl h) hl h
@[go_sem] def l16_0 (_ : Unit) : KL := [kA 2 (.box (.t 0)),
  kB 4 (.mv (cI 0)) [1, 2]]
@[go_sem] def l16_1 (_ : Unit) : KL := [kA 5 (.faddr (.t 2) 0),
  kA 6 (.load (.t 5) 1 false),
  kA 7 (.mv (.t 1)),
  kA 8 (.call (n_laws_markVarS) [(.t 6), (.t 7)]),
  kB 1 (.mv (.t 8)) [1, 2]]
@[go_sem] def l16_2 (_ : Unit) : KL := [kA 9 (.faddr (.t 2) 1),
  kA 10 (.load (.t 9) 1 false),
  kA 11 (.mv (.t 1)),
  kA 12 (.call (n_laws_markRuleS) [(.t 10), (.t 11)]),
  kB 1 (.mv (.t 12)) [1]]
@[go_sem] def l16_3 (_ : Unit) : KL := [kA 13 (.mv (.t 1)),
  kB 4 (.mv (.t 13)) [4]]
@[go_sem] def s16_4 (_ : Unit) : IR := (sQ [(kT l16_0), (kT l16_1), (kT l16_2), (kT l16_3), .ret])
theorem c16 : compFn Try.prog [(0, [], [oN, oS [1, 2]]), (1, [], [oN, oN, oN, oN, oS [1, 2]]), (2, [], [oN, oN, oN, oN, oS [1]]), (3, [], [oN, oS [4]])] Try.f16 = some ⟨2, 14, [.t 4], (tH s16_4)⟩ := by kernel_rfl
theorem v_laws_markSystem (hl : vs.length = 2) (h : wpV Try.prog (tH s16_4) (postV [.t 4] RV) (envV vs) M) : VCall Try.prog n_laws_markSystem vs M RV :=
  vcall_of_wp (fun _ _ _ hl h => acall_of_wp mixed Try.func16 c16 (by kernel_rfl) hl h) hl h
@[go_sem] def l18_0 (_ : Unit) : KL := [kB 4 (.mv (cI 0)) [0, 1]]
@[go_sem] def l18_1 (_ : Unit) : KL := [kB 5 (.mv (cI 0)) [0, 1, 5]]
@[go_sem] def l18_2 (_ : Unit) : KL := [kA 6 (.mv (.t 5)),
  kA 7 (.mv (.t 0)),
  kA 8 (.len (.t 7)),
  kB 9 (.bin .lss (.t 6) (.t 8)) [0, 1, 5, 9]]
@[go_sem] def s18_3 (_ : Unit) : IR := (sQ [(kT l18_2), (.cond (.t 9) .skip (.exit 0))])
@[go_sem] def l18_4 (_ : Unit) : KL := [kA 12 (.mv (.t 0)),
  kA 13 (.mv (.t 5)),
  kA 14 (.iaddr (.t 12) (.t 13) 1),
  kA 15 (.load (.t 14) 1 false),
  kB 16 (.mv (.t 1)) [0, 5, 15, 16],
  kA 17 (.call (n_laws_markIntS) [(.t 15), (.t 16)]),
  kB 1 (.mv (.t 17)) [0, 1, 5]]
@[go_sem] def s18_5 (_ : Unit) : IR := (.block 1 (kT l18_4))
@[go_sem] def l18_6 (_ : Unit) : KL := [kA 10 (.mv (.t 5)),
  kA 11 (.bin .add (.t 10) (cI 1)),
  kB 5 (.mv (.t 11)) [0, 1, 5]]
@[go_sem] def s18_7 (_ : Unit) : IR := (sQ [(tH s18_3), (tH s18_5), (kT l18_6)])
@[go_sem] def s18_8 (_ : Unit) : IR := (.loop (tH s18_7))
@[go_sem] def s18_9 (_ : Unit) : IR := (.block 0 (tH s18_8))
@[go_sem] def s18_10 (_ : Unit) : IR := (sQ [(kT l18_1), (tH s18_9)])
@[go_sem] def l18_11 (_ : Unit) : KL := [kA 18 (.mv (.t 1)),
  kB 4 (.mv (.t 18)) [4]]
@[go_sem] def s18_12 (_ : Unit) : IR := (sQ [(kT l18_0), (tH s18_10), (kT l18_11), .ret])
theorem c18 : compFn Try.prog [(0, [], [oS [0, 1]]), (1, [], [oS [0, 1, 5]]), (2, [], [oN, oN, oN, oS [0, 1, 5, 9]]), (4, [], [oN, oN, oN, oN, oS [0, 5, 15, 16], oN, oS [0, 1, 5]]), (3, [], [oN, oN, oS [0, 1, 5]]), (5, [], [oN, oS [4]])] Try.f18 = some ⟨2, 19, [.t 4], (tH s18_12)⟩ := by kernel_rfl
theorem v_laws_markIntSS (hl : vs.length = 2) (h : wpV Try.prog (tH s18_12) (postV [.t 4] RV) (envV vs) M) : VCall Try.prog n_laws_markIntSS vs M RV :=
  vcall_of_wp (fun _ _ _ hl h => acall_of_wp mixed Try.func18 c18 (by kernel_rfl) hl h) hl h
@[go_sem] def l27_0 (_ : Unit) : KL := [kA 2 (.box (.t 0)),
  kB 4 (.mv (cI 0)) [1, 2]]
@[go_sem] def l27_1 (_ : Unit) : KL := [kA 5 (.faddr (.t 2) 0),
  kA 6 (.load (.t 5) 1 false),
  kA 7 (.mv (.t 1)),
  kA 8 (.call (n_laws_markIntSS) [(.t 6), (.t 7)]),
  kB 1 (.mv (.t 8)) [1, 2]]
@[go_sem] def l27_2 (_ : Unit) : KL := [kA 9 (.faddr (.t 2) 1),
  kA 10 (.load (.t 9) 1 false),
  kA 11 (.mv (.t 1)),
  kA 12 (.call (n_laws_markIntS) [(.t 10), (.t 11)]),
  kB 1 (.mv (.t 12)) [1]]
@[go_sem] def l27_3 (_ : Unit) : KL := [kA 13 (.mv (.t 1)),
  kB 4 (.mv (.t 13)) [4]]
@[go_sem] def s27_4 (_ : Unit) : IR := (sQ [(kT l27_0), (kT l27_1), (kT l27_2), (kT l27_3), .ret])
theorem c27 : compFn Try.prog [(0, [], [oN, oS [1, 2]]), (1, [], [oN, oN, oN, oN, oS [1, 2]]), (2, [], [oN, oN, oN, oN, oS [1]]), (3, [], [oN, oS [4]])] Try.f27 = some ⟨2, 14, [.t 4], (tH s27_4)⟩ := by kernel_rfl
theorem v_laws_markTrace (hl : vs.length = 2) (h : wpV Try.prog (tH s27_4) (postV [.t 4] RV) (envV vs) M) : VCall Try.prog n_laws_markTrace vs M RV :=
  vcall_of_wp (fun _ _ _ hl h => acall_of_wp mixed Try.func27 c27 (by kernel_rfl) hl h) hl h
@[go_sem] def l47_0 (_ : Unit) : KL := [kB 4 (.mv (cI 0)) [0, 1]]
@[go_sem] def l47_1 (_ : Unit) : KL := [kB 5 (.mv (cI 0)) [0, 1, 5]]
@[go_sem] def l47_2 (_ : Unit) : KL := [kA 6 (.mv (.t 5)),
  kA 7 (.mv (.t 0)),
  kA 8 (.len (.t 7)),
  kB 9 (.bin .lss (.t 6) (.t 8)) [0, 1, 5, 9]]
@[go_sem] def s47_3 (_ : Unit) : IR := (sQ [(kT l47_2), (.cond (.t 9) .skip (.exit 0))])
@[go_sem] def l47_4 (_ : Unit) : KL := [kA 12 (.mv (.t 0)),
  kA 13 (.mv (.t 5)),
  kA 14 (.iaddr (.t 12) (.t 13) 1),
  kA 15 (.load (.t 14) 1 false),
  kB 16 (.mv (.t 1)) [0, 1, 5, 15, 16],
  kB 17 (.bin .neq (.t 15) (.t 16)) [0, 1, 5, 17]]
@[go_sem] def l47_5 (_ : Unit) : KL := [kB 4 (.mv (.c (.int .i64 (-1)))) [4]]
@[go_sem] def s47_6 (_ : Unit) : IR := (sQ [(kT l47_5), .ret])
@[go_sem] def s47_7 (_ : Unit) : IR := (sQ [(kT l47_4), (.cond (.t 17) (tH s47_6) .skip)])
@[go_sem] def l47_8 (_ : Unit) : KL := [kA 18 (.mv (.t 1)),
  kA 19 (.bin .add (.t 18) (cI 1)),
  kB 1 (.mv (.t 19)) [0, 1, 5]]
@[go_sem] def s47_9 (_ : Unit) : IR := (sQ [(tH s47_7), (kT l47_8)])
@[go_sem] def s47_10 (_ : Unit) : IR := (.block 1 (tH s47_9))
@[go_sem] def l47_11 (_ : Unit) : KL := [kA 10 (.mv (.t 5)),
  kA 11 (.bin .add (.t 10) (cI 1)),
  kB 5 (.mv (.t 11)) [0, 1, 5]]
@[go_sem] def s47_12 (_ : Unit) : IR := (sQ [(tH s47_3), (tH s47_10), (kT l47_11)])
@[go_sem] def s47_13 (_ : Unit) : IR := (.loop (tH s47_12))
@[go_sem] def s47_14 (_ : Unit) : IR := (.block 0 (tH s47_13))
@[go_sem] def s47_15 (_ : Unit) : IR := (sQ [(kT l47_1), (tH s47_14)])
@[go_sem] def l47_16 (_ : Unit) : KL := [kA 20 (.mv (.t 1)),
  kB 4 (.mv (.t 20)) [4]]
@[go_sem] def s47_17 (_ : Unit) : IR := (sQ [(kT l47_0), (tH s47_15), (kT l47_16), .ret])
theorem c47 : compFn Try.prog [(0, [], [oS [0, 1]]), (1, [], [oS [0, 1, 5]]), (2, [], [oN, oN, oN, oS [0, 1, 5, 9]]), (4, [], [oN, oN, oN, oN, oS [0, 1, 5, 15, 16], oS [0, 1, 5, 17]]), (5, [], [oS [4]]), (6, [], [oN, oN, oS [0, 1, 5]]), (3, [], [oN, oN, oS [0, 1, 5]]), (7, [], [oN, oS [4]])] Try.f47 = some ⟨2, 21, [.t 4], (tH s47_17)⟩ := by kernel_rfl
theorem v_laws_heldIntS (hl : vs.length = 2) (h : wpV Try.prog (tH s47_17) (postV [.t 4] RV) (envV vs) M) : VCall Try.prog n_laws_heldIntS vs M RV :=
  vcall_of_wp (fun _ _ _ hl h => acall_of_wp mixed Try.func47 c47 (by kernel_rfl) hl h) hl h
@[go_sem] def l19_0 (_ : Unit) : KL := [kB 4 (.mv (cI 0)) [0, 1]]
@[go_sem] def l19_1 (_ : Unit) : KL := [kB 5 (.mv (cI 0)) [0, 1, 5]]
@[go_sem] def l19_2 (_ : Unit) : KL := [kA 6 (.mv (.t 5)),
  kA 7 (.mv (.t 0)),
  kA 8 (.len (.t 7)),
  kB 9 (.bin .lss (.t 6) (.t 8)) [0, 1, 5, 9]]
@[go_sem] def s19_3 (_ : Unit) : IR := (sQ [(kT l19_2), (.cond (.t 9) .skip (.exit 0))])
@[go_sem] def l19_4 (_ : Unit) : KL := [kA 12 (.mv (.t 0)),
  kA 13 (.mv (.t 5)),
  kA 14 (.iaddr (.t 12) (.t 13) 1),
  kA 15 (.load (.t 14) 1 false),
  kB 16 (.mv (.t 1)) [0, 5, 15, 16],
  kA 17 (.call (n_laws_heldIntS) [(.t 15), (.t 16)]),
  kB 1 (.mv (.t 17)) [0, 1, 5]]
@[go_sem] def l19_5 (_ : Unit) : KL := [kA 18 (.mv (.t 1)),
  kB 19 (.bin .lss (.t 18) (cI 0)) [0, 1, 5, 19]]
@[go_sem] def l19_6 (_ : Unit) : KL := [kB 4 (.mv (.c (.int .i64 (-1)))) [4]]
@[go_sem] def s19_7 (_ : Unit) : IR := (sQ [(kT l19_6), .ret])
@[go_sem] def s19_8 (_ : Unit) : IR := (sQ [(kT l19_4), (kT l19_5), (.cond (.t 19) (tH s19_7) .skip)])
@[go_sem] def s19_9 (_ : Unit) : IR := (.block 1 (tH s19_8))
@[go_sem] def l19_10 (_ : Unit) : KL := [kA 10 (.mv (.t 5)),
  kA 11 (.bin .add (.t 10) (cI 1)),
  kB 5 (.mv (.t 11)) [0, 1, 5]]
@[go_sem] def s19_11 (_ : Unit) : IR := (sQ [(tH s19_3), (tH s19_9), (kT l19_10)])
@[go_sem] def s19_12 (_ : Unit) : IR := (.loop (tH s19_11))
@[go_sem] def s19_13 (_ : Unit) : IR := (.block 0 (tH s19_12))
@[go_sem] def s19_14 (_ : Unit) : IR := (sQ [(kT l19_1), (tH s19_13)])
@[go_sem] def l19_15 (_ : Unit) : KL := [kA 20 (.mv (.t 1)),
  kB 4 (.mv (.t 20)) [4]]
@[go_sem] def s19_16 (_ : Unit) : IR := (sQ [(kT l19_0), (tH s19_14), (kT l19_15), .ret])
theorem c19 : compFn Try.prog [(0, [], [oS [0, 1]]), (1, [], [oS [0, 1, 5]]), (2, [], [oN, oN, oN, oS [0, 1, 5, 9]]), (4, [], [oN, oN, oN, oN, oS [0, 5, 15, 16], oN, oS [0, 1, 5]]), (5, [], [oN, oS [0, 1, 5, 19]]), (6, [], [oS [4]]), (3, [], [oN, oN, oS [0, 1, 5]]), (7, [], [oN, oS [4]])] Try.f19 = some ⟨2, 21, [.t 4], (tH s19_16)⟩ := by kernel_rfl
theorem v_laws_heldIntSS (hl : vs.length = 2) (h : wpV Try.prog (tH s19_16) (postV [.t 4] RV) (envV vs) M) : VCall Try.prog n_laws_heldIntSS vs M RV :=
  vcall_of_wp (fun _ _ _ hl h => acall_of_wp mixed Try.func19 c19 (by kernel_rfl) hl h) hl h
@[go_sem] def l28_0 (_ : Unit) : KL := [kA 2 (.box (.t 0)),
  kB 4 (.mv (cI 0)) [1, 2]]
@[go_sem] def l28_1 (_ : Unit) : KL := [kA 5 (.faddr (.t 2) 0),
  kA 6 (.load (.t 5) 1 false),
  kA 7 (.mv (.t 1)),
  kA 8 (.call (n_laws_heldIntSS) [(.t 6), (.t 7)]),
  kB 1 (.mv (.t 8)) [1, 2]]
@[go_sem] def l28_2 (_ : Unit) : KL := [kA 9 (.mv (.t 1)),
  kB 10 (.bin .lss (.t 9) (cI 0)) [1, 2, 10]]
@[go_sem] def l28_3 (_ : Unit) : KL := [kB 4 (.mv (.c (.int .i64 (-1)))) [4]]
@[go_sem] def s28_4 (_ : Unit) : IR := (sQ [(kT l28_3), .ret])
@[go_sem] def s28_5 (_ : Unit) : IR := (sQ [(kT l28_2), (.cond (.t 10) (tH s28_4) .skip)])
@[go_sem] def l28_6 (_ : Unit) : KL := [kA 11 (.faddr (.t 2) 1),
  kA 12 (.load (.t 11) 1 false),
  kA 13 (.mv (.t 1)),
  kA 14 (.call (n_laws_heldIntS) [(.t 12), (.t 13)]),
  kB 1 (.mv (.t 14)) [1]]
@[go_sem] def l28_7 (_ : Unit) : KL := [kA 15 (.mv (.t 1)),
  kB 16 (.bin .lss (.t 15) (cI 0)) [1, 16]]
@[go_sem] def l28_8 (_ : Unit) : KL := [kB 4 (.mv (.c (.int .i64 (-1)))) [4]]
@[go_sem] def s28_9 (_ : Unit) : IR := (sQ [(kT l28_8), .ret])
@[go_sem] def s28_10 (_ : Unit) : IR := (sQ [(kT l28_7), (.cond (.t 16) (tH s28_9) .skip)])
@[go_sem] def l28_11 (_ : Unit) : KL := [kA 17 (.mv (.t 1)),
  kB 4 (.mv (.t 17)) [4]]
@[go_sem] def s28_12 (_ : Unit) : IR := (sQ [(kT l28_0), (kT l28_1), (tH s28_5), (kT l28_6), (tH s28_10), (kT l28_11), .ret])
theorem c28 : compFn Try.prog [(0, [], [oN, oS [1, 2]]), (1, [], [oN, oN, oN, oN, oS [1, 2]]), (2, [], [oN, oS [1, 2, 10]]), (3, [], [oS [4]]), (4, [], [oN, oN, oN, oN, oS [1]]), (5, [], [oN, oS [1, 16]]), (6, [], [oS [4]]), (7, [], [oN, oS [4]])] Try.f28 = some ⟨2, 18, [.t 4], (tH s28_12)⟩ := by kernel_rfl
theorem v_laws_heldTrace (hl : vs.length = 2) (h : wpV Try.prog (tH s28_12) (postV [.t 4] RV) (envV vs) M) : VCall Try.prog n_laws_heldTrace vs M RV :=
  vcall_of_wp (fun _ _ _ hl h => acall_of_wp mixed Try.func28 c28 (by kernel_rfl) hl h) hl h
@[go_sem] def l5_0 (_ : Unit) : KL := [kA 2 (.box (.t 0)),
  kB 4 (.mv (.c (.bool false))) [1, 2]]
@[go_sem] def l5_1 (_ : Unit) : KL := [kB 5 (.mv (cI 1048576)) [1, 2, 5]]
@[go_sem] def l5_2 (_ : Unit) : KL := [kA 17 (.load (.t 2) 2 true),
  kA 18 (.mv (.t 5)),
  kA 19 (.call (n_laws_szSystem) [(.t 17), (.t 18)]),
  kB 5 (.mv (.t 19)) [1, 2, 5]]
@[go_sem] def l5_3 (_ : Unit) : KL := [kA 20 (.mv (.t 5)),
  kB 21 (.bin .lss (.t 20) (cI 0)) [1, 2, 5, 21]]
@[go_sem] def l5_4 (_ : Unit) : KL := [kB 4 (.mv (.c (.bool true))) [4]]
@[go_sem] def s5_5 (_ : Unit) : IR := (sQ [(kT l5_4), .ret])
@[go_sem] def s5_6 (_ : Unit) : IR := (sQ [(kT l5_3), (.cond (.t 21) (tH s5_5) .skip)])
@[go_sem] def l5_7 (_ : Unit) : KL := [kA 22 (.mv (.t 1)),
  kA 23 (.mv (.t 5)),
  kA 24 (.call (n_laws_szIntSS) [(.t 22), (.t 23)]),
  kB 5 (.mv (.t 24)) [1, 2, 5]]
@[go_sem] def l5_8 (_ : Unit) : KL := [kA 25 (.mv (.t 5)),
  kB 26 (.bin .lss (.t 25) (cI 0)) [1, 2, 26]]
@[go_sem] def l5_9 (_ : Unit) : KL := [kB 4 (.mv (.c (.bool true))) [4]]
@[go_sem] def s5_10 (_ : Unit) : IR := (sQ [(kT l5_9), .ret])
@[go_sem] def s5_11 (_ : Unit) : IR := (sQ [(kT l5_8), (.cond (.t 26) (tH s5_10) .skip)])
@[go_sem] def l5_12 (_ : Unit) : KL := [kA 28 (.load (.t 2) 2 true),
  kA 29 (.call (n_laws_toSystem) [(.t 28)]),
  kA 30 (.mv (.t 1)),
  kA 31 (.call (n_laws_toIntSS) [(.t 30)]),
  kB 32 (.call (n_spec_TraceOf) [(.t 29), (.t 31)]) [1, 2, 32],
  kA 27 (.mv (.t 32)),
  kA 33 (.ext (.t 27) 0),
  kA 34 (.ext (.t 27) 1),
  kA 6 (.alloc [(.sl none 0 0 true 0), (.sl none 0 0 true 0)]),
  (⟨none, .store (.t 6) 2 (.t 33), none⟩, (some [1, 2, 6, 34])),
  kB 7 (.mv (.t 34)) [1, 2, 6, 7]]
@[go_sem] def l5_13 (_ : Unit) : KL := [kA 35 (.load (.t 2) 2 true),
  kA 36 (.call (n_laws_toSystem) [(.t 35)]),
  kA 8 (.alloc [(.sl none 0 0 true 0), (.sl none 0 0 true 0)]),
  (⟨none, .store (.t 8) 2 (.t 36), none⟩, (some [1, 2, 6, 7, 8]))]
@[go_sem] def l5_14 (_ : Unit) : KL := [kA 37 (.mv (.t 1)),
  kA 38 (.call (n_laws_toIntSS) [(.t 37)]),
  kB 9 (.mv (.t 38)) [1, 2, 6, 7, 8, 9]]
@[go_sem] def l5_15 (_ : Unit) : KL := [kA 40 (.load (.t 8) 2 true),
  kA 41 (.mv (.t 9)),
  kA 42 (.call (n_impl_TraceOf) [(.t 40), (.t 41)]),
  kA 39 (.mv (.t 42)),
  kB 43 (.ext (.t 39) 0) [1, 2, 6, 7, 8, 9, 39, 43],
  kA 44 (.ext (.t 39) 1),
  kA 10 (.alloc [(.sl none 0 0 true 0), (.sl none 0 0 true 0)]),
  (⟨none, .store (.t 10) 2 (.t 43), none⟩, none),
  kB 11 (.mv (.t 44)) [1, 2, 6, 7, 8, 9, 10, 11]]
@[go_sem] def l5_16 (_ : Unit) : KL := [kA 45 (.load (.t 10) 2 true),
  kA 46 (.load (.t 6) 2 true),
  kA 47 (.call (n_laws_eqTrace) [(.t 45), (.t 46)]),
  kA 48 (.un .not (.t 47)),
  kB 49 (.mv (.t 48)) [1, 2, 6, 7, 8, 9, 10, 11, 49],
  (⟨(some 50), .mv (.t 11), (some (49, false))⟩, none),
  (⟨(some 51), .mv (.t 7), (some (49, false))⟩, none),
  (⟨(some 52), .beq true (.t 50) (.t 51), (some (49, false))⟩, none),
  kB 53 (.pick (.t 49) (.c (.bool true)) (.t 52)) [1, 2, 6, 7, 8, 9, 10, 11, 53]]
@[go_sem] def l5_17 (_ : Unit) : KL := [kB 4 (.mv (.c (.bool false))) [4]]
@[go_sem] def s5_18 (_ : Unit) : IR := (sQ [(kT l5_17), .ret])
@[go_sem] def s5_19 (_ : Unit) : IR := (sQ [(kT l5_16), (.cond (.t 53) (tH s5_18) .skip)])
@[go_sem] def l5_20 : Nat → GOp
  | 0 => ⟨(some 54), .load (.t 8) 2 true, none⟩
  | 1 => ⟨(some 55), .load (.t 2) 2 true, none⟩
  | 2 => ⟨(some 56), .call (n_laws_toSystem) [(.t 55)], none⟩
  | 3 => ⟨(some 57), .call (n_laws_eqSystem) [(.t 54), (.t 56)], none⟩
  | 4 => ⟨(some 58), .un .not (.t 57), none⟩
  | _ => ⟨none, .mkmap, none⟩
@[go_sem] def l5_21 (_ : Unit) : KL := [kB 4 (.mv (.c (.bool false))) [4]]
@[go_sem] def s5_22 (_ : Unit) : IR := (sQ [(kT l5_21), .ret])
@[go_sem] def s5_23 (_ : Unit) : IR := (sQ [(.kd (oF l5_20 5) [(0, []), (1, []), (2, [0]), (3, []), (4, [])] [1, 2, 6, 7, 8, 9, 10, 11, 58]), (.cond (.t 58) (tH s5_22) .skip)])
@[go_sem] def l5_24 (_ : Unit) : KL := [kA 59 (.mv (.t 9)),
  kA 60 (.mv (.t 1)),
  kA 61 (.call (n_laws_toIntSS) [(.t 60)]),
  kA 62 (.call (n_laws_eqIntSS) [(.t 59), (.t 61)]),
  kB 63 (.un .not (.t 62)) [1, 2, 6, 7, 8, 9, 10, 11, 63]]
@[go_sem] def l5_25 (_ : Unit) : KL := [kB 4 (.mv (.c (.bool false))) [4]]
@[go_sem] def s5_26 (_ : Unit) : IR := (sQ [(kT l5_25), .ret])
@[go_sem] def s5_27 (_ : Unit) : IR := (sQ [(kT l5_24), (.cond (.t 63) (tH s5_26) .skip)])
@[go_sem] def l5_28 (_ : Unit) : KL := [kB 12 (.mv (cI 1)) [1, 2, 6, 7, 8, 9, 10, 11, 12]]
@[go_sem] def l5_29 (_ : Unit) : KL := [kA 64 (.load (.t 8) 2 true),
  kA 65 (.mv (.t 12)),
  kA 66 (.call (n_laws_markSystem) [(.t 64), (.t 65)]),
  kB 12 (.mv (.t 66)) [1, 2, 6, 7, 9, 10, 11, 12]]
@[go_sem] def l5_30 (_ : Unit) : KL := [kA 67 (.mv (.t 9)),
  kA 68 (.mv (.t 12)),
  kA 69 (.call (n_laws_markIntSS) [(.t 67), (.t 68)]),
  kB 12 (.mv (.t 69)) [1, 2, 6, 7, 10, 11, 12]]
@[go_sem] def l5_31 (_ : Unit) : KL := [kA 70 (.mv (.t 12)),
  kA 71 (.bin .lss (.t 70) (cI 0)),
  kA 72 (.mv (.t 71)),
  (⟨(some 73), .load (.t 10) 2 true, (some (72, false))⟩, none),
  (⟨(some 74), .load (.t 6) 2 true, (some (72, false))⟩, (some [1, 2, 6, 7, 10, 11, 72, 73, 74])),
  (⟨(some 75), .call (n_laws_eqTrace) [(.t 73), (.t 74)], (some (72, false))⟩, none),
  (⟨(some 76), .un .not (.t 75), (some (72, false))⟩, none),
  kA 77 (.pick (.t 72) (.c (.bool true)) (.t 76)),
  kA 78 (.mv (.t 77)),
  (⟨(some 79), .mv (.t 11), (some (78, false))⟩, (some [1, 2, 6, 7, 10, 78, 79])),
  (⟨(some 80), .mv (.t 7), (some (78, false))⟩, none),
  (⟨(some 81), .beq true (.t 79) (.t 80), (some (78, false))⟩, none),
  kB 82 (.pick (.t 78) (.c (.bool true)) (.t 81)) [1, 2, 6, 7, 10, 82]]
@[go_sem] def l5_32 (_ : Unit) : KL := [kB 4 (.mv (.c (.bool false))) [4]]
@[go_sem] def s5_33 (_ : Unit) : IR := (sQ [(kT l5_32), .ret])
@[go_sem] def s5_34 (_ : Unit) : IR := (sQ [(kT l5_31), (.cond (.t 82) (tH s5_33) .skip)])
@[go_sem] def l5_35 (_ : Unit) : KL := [kB 13 (.mv (cI 1)) [1, 2, 6, 7, 10, 13]]
@[go_sem] def l5_36 (_ : Unit) : KL := [kA 83 (.load (.t 10) 2 true),
  kA 84 (.mv (.t 13)),
  kA 85 (.call (n_laws_markTrace) [(.t 83), (.t 84)]),
  kB 13 (.mv (.t 85)) [1, 2, 6, 7, 10, 13]]
@[go_sem] def l5_37 (_ : Unit) : KL := [kB 14 (.mv (cI 1)) [1, 2, 6, 7, 10, 13, 14]]
@[go_sem] def l5_38 (_ : Unit) : KL := [kA 86 (.load (.t 10) 2 true),
  kA 87 (.mv (.t 14)),
  kA 88 (.call (n_laws_heldTrace) [(.t 86), (.t 87)]),
  kB 14 (.mv (.t 88)) [1, 2, 6, 7, 10, 13, 14]]
@[go_sem] def l5_39 (_ : Unit) : KL := [kA 89 (.mv (.t 14)),
  kB 90 (.bin .lss (.t 89) (cI 0)) [1, 2, 6, 7, 10, 13, 14, 90]]
@[go_sem] def l5_40 (_ : Unit) : KL := [kB 4 (.mv (.c (.bool false))) [4]]
@[go_sem] def s5_41 (_ : Unit) : IR := (sQ [(kT l5_40), .ret])
@[go_sem] def s5_42 (_ : Unit) : IR := (sQ [(kT l5_39), (.cond (.t 90) (tH s5_41) .skip)])
@[go_sem] def l5_43 (_ : Unit) : KL := [kA 91 (.mv (.t 14)),
  kA 92 (.mv (.t 13)),
  kB 93 (.bin .neq (.t 91) (.t 92)) [1, 2, 6, 7, 10, 13, 93]]
@[go_sem] def l5_44 (_ : Unit) : KL := [kB 4 (.mv (.c (.bool false))) [4]]
@[go_sem] def s5_45 (_ : Unit) : IR := (sQ [(kT l5_44), .ret])
@[go_sem] def s5_46 (_ : Unit) : IR := (sQ [(kT l5_43), (.cond (.t 93) (tH s5_45) .skip)])
@[go_sem] def l5_47 (_ : Unit) : KL := [kA 95 (.load (.t 2) 2 true),
  kA 96 (.call (n_laws_toSystem) [(.t 95)]),
  kA 97 (.mv (.t 1)),
  kA 98 (.call (n_laws_toIntSS) [(.t 97)]),
  kB 99 (.call (n_impl_TraceOf) [(.t 96), (.t 98)]) [6, 7, 10, 13, 99],
  kA 94 (.mv (.t 99)),
  kA 100 (.ext (.t 94) 0),
  kA 101 (.ext (.t 94) 1),
  kA 15 (.alloc [(.sl none 0 0 true 0), (.sl none 0 0 true 0)]),
  (⟨none, .store (.t 15) 2 (.t 100), none⟩, (some [6, 7, 10, 13, 15, 101])),
  kB 16 (.mv (.t 101)) [6, 7, 10, 13, 15, 16]]
@[go_sem] def l5_48 (_ : Unit) : KL := [kA 102 (.load (.t 15) 2 true),
  kA 103 (.load (.t 6) 2 true),
  kA 104 (.call (n_laws_eqTrace) [(.t 102), (.t 103)]),
  kA 105 (.un .not (.t 104)),
  kB 106 (.mv (.t 105)) [7, 10, 13, 16, 106],
  (⟨(some 107), .mv (.t 16), (some (106, false))⟩, none),
  (⟨(some 108), .mv (.t 7), (some (106, false))⟩, none),
  (⟨(some 109), .beq true (.t 107) (.t 108), (some (106, false))⟩, none),
  kB 110 (.pick (.t 106) (.c (.bool true)) (.t 109)) [10, 13, 110]]
@[go_sem] def l5_49 (_ : Unit) : KL := [kB 4 (.mv (.c (.bool false))) [4]]
@[go_sem] def s5_50 (_ : Unit) : IR := (sQ [(kT l5_49), .ret])
@[go_sem] def s5_51 (_ : Unit) : IR := (sQ [(kT l5_48), (.cond (.t 110) (tH s5_50) .skip)])
@[go_sem] def l5_52 (_ : Unit) : KL := [kB 14 (.mv (cI 1)) [10, 13, 14]]
@[go_sem] def l5_53 (_ : Unit) : KL := [kA 111 (.load (.t 10) 2 true),
  kA 112 (.mv (.t 14)),
  kA 113 (.call (n_laws_heldTrace) [(.t 111), (.t 112)]),
  kB 14 (.mv (.t 113)) [13, 14]]
@[go_sem] def l5_54 (_ : Unit) : KL := [kA 114 (.mv (.t 14)),
  kB 115 (.bin .lss (.t 114) (cI 0)) [13, 14, 115]]
@[go_sem] def l5_55 (_ : Unit) : KL := [kB 4 (.mv (.c (.bool false))) [4]]
@[go_sem] def s5_56 (_ : Unit) : IR := (sQ [(kT l5_55), .ret])
@[go_sem] def s5_57 (_ : Unit) : IR := (sQ [(kT l5_54), (.cond (.t 115) (tH s5_56) .skip)])
@[go_sem] def l5_58 (_ : Unit) : KL := [kA 116 (.mv (.t 14)),
  kA 117 (.mv (.t 13)),
  kB 118 (.bin .neq (.t 116) (.t 117)) [118]]
@[go_sem] def l5_59 (_ : Unit) : KL := [kB 4 (.mv (.c (.bool false))) [4]]
@[go_sem] def s5_60 (_ : Unit) : IR := (sQ [(kT l5_59), .ret])
@[go_sem] def s5_61 (_ : Unit) : IR := (sQ [(kT l5_58), (.cond (.t 118) (tH s5_60) .skip)])
@[go_sem] def l5_62 (_ : Unit) : KL := [kB 4 (.mv (.c (.bool true))) [4]]
@[go_sem] def s5_63 (_ : Unit) : IR := (sQ [(kT l5_0), (kT l5_1), (kT l5_2), (tH s5_6), (kT l5_7), (tH s5_11), (kT l5_12), (kT l5_13), (kT l5_14), (kT l5_15), (tH s5_19), (tH s5_23), (tH s5_27), (kT l5_28), (kT l5_29), (kT l5_30), (tH s5_34), (kT l5_35), (kT l5_36), (kT l5_37), (kT l5_38), (tH s5_42), (tH s5_46), (kT l5_47), (tH s5_51), (kT l5_52), (kT l5_53), (tH s5_57), (tH s5_61), (kT l5_62), .ret])
theorem c5 : compFn Try.prog [(0, [], [oN, oS [1, 2]]), (1, [], [oS [1, 2, 5]]), (2, [], [oN, oN, oN, oS [1, 2, 5]]), (3, [], [oN, oS [1, 2, 5, 21]]), (4, [], [oS [4]]), (5, [], [oN, oN, oN, oS [1, 2, 5]]), (6, [], [oN, oS [1, 2, 26]]), (7, [], [oS [4]]), (8, [], [oN, oN, oN, oN, oS [1, 2, 32], oN, oN, oN, oN, oS [1, 2, 6, 34], oS [1, 2, 6, 7]]), (9, [], [oN, oN, oN, oS [1, 2, 6, 7, 8]]), (10, [], [oN, oN, oS [1, 2, 6, 7, 8, 9]]), (11, [], [oN, oN, oN, oN, oS [1, 2, 6, 7, 8, 9, 39, 43], oN, oN, oN, oS [1, 2, 6, 7, 8, 9, 10, 11]]), (12, [], [oN, oN, oN, oN, oS [1, 2, 6, 7, 8, 9, 10, 11, 49], oN, oN, oN, oS [1, 2, 6, 7, 8, 9, 10, 11, 53]]), (13, [], [oS [4]]), (14, [(0, []), (1, []), (2, [0]), (3, []), (4, [])], [oS [1, 2, 6, 7, 8, 9, 10, 11, 58]]), (15, [], [oS [4]]), (16, [], [oN, oN, oN, oN, oS [1, 2, 6, 7, 8, 9, 10, 11, 63]]), (17, [], [oS [4]]), (18, [], [oS [1, 2, 6, 7, 8, 9, 10, 11, 12]]), (19, [], [oN, oN, oN, oS [1, 2, 6, 7, 9, 10, 11, 12]]), (20, [], [oN, oN, oN, oS [1, 2, 6, 7, 10, 11, 12]]), (21, [], [oN, oN, oN, oN, oS [1, 2, 6, 7, 10, 11, 72, 73, 74], oN, oN, oN, oN, oS [1, 2, 6, 7, 10, 78, 79], oN, oN, oS [1, 2, 6, 7, 10, 82]]), (22, [], [oS [4]]), (23, [], [oS [1, 2, 6, 7, 10, 13]]), (24, [], [oN, oN, oN, oS [1, 2, 6, 7, 10, 13]]), (25, [], [oS [1, 2, 6, 7, 10, 13, 14]]), (26, [], [oN, oN, oN, oS [1, 2, 6, 7, 10, 13, 14]]), (27, [], [oN, oS [1, 2, 6, 7, 10, 13, 14, 90]]), (28, [], [oS [4]]), (29, [], [oN, oN, oS [1, 2, 6, 7, 10, 13, 93]]), (30, [], [oS [4]]), (31, [], [oN, oN, oN, oN, oS [6, 7, 10, 13, 99], oN, oN, oN, oN, oS [6, 7, 10, 13, 15, 101], oS [6, 7, 10, 13, 15, 16]]), (32, [], [oN, oN, oN, oN, oS [7, 10, 13, 16, 106], oN, oN, oN, oS [10, 13, 110]]), (33, [], [oS [4]]), (34, [], [oS [10, 13, 14]]), (35, [], [oN, oN, oN, oS [13, 14]]), (36, [], [oN, oS [13, 14, 115]]), (37, [], [oS [4]]), (38, [], [oN, oN, oS [118]]), (39, [], [oS [4]]), (40, [], [oS [4]])] Try.f5 = some ⟨2, 119, [.t 4], (tH s5_63)⟩ := by kernel_rfl
theorem v_laws_FnExactTraceOf (hl : vs.length = 2) (h : wpV Try.prog (tH s5_63) (postV [.t 4] RV) (envV vs) M) : VCall Try.prog n_laws_FnExactTraceOf vs M RV :=
  vcall_of_wp (fun _ _ _ hl h => acall_of_wp mixed Try.func5 c5 (by kernel_rfl) hl h) hl h
end Go.M2
