/- The functions, turned: printed by program. -/
import Derived.Test.YtbghdkclhbenkaaWR3
import Derived.Test.YtbghdkclhbenkaaProg
import Derived.KernelRfl
set_option linter.unusedVariables false
set_option linter.unusedSimpArgs false
set_option maxRecDepth 10000
set_option maxHeartbeats 4000000
namespace Go.M2
open Go.Proofs
variable {M : MH} {vs : List V} {RV : V → MH → Prop}
theorem mixed : Try.prog.follows .mixedOrders = true := by kernel_rfl
def n_laws_szVarS : Nat := 15
def n_laws_szTermS : Nat := 55
def n_laws_szIntS : Nat := 18
def n_laws_szTermSS : Nat := 56
def n_laws_szRule : Nat := 40
def n_laws_szRuleS : Nat := 16
def n_laws_szSystem : Nat := 4
def n_laws_szIntSS : Nat := 17
def n_laws_szTrace : Nat := 5
def n_laws_toVar : Nat := 45
def n_laws_toVarS : Nat := 22
def n_laws_toTerm : Nat := 76
def n_laws_toTermS : Nat := 61
def n_laws_toIntS : Nat := 25
def n_laws_toTermSS : Nat := 62
def n_laws_toRule : Nat := 46
def n_laws_toRuleS : Nat := 23
def n_laws_toSystem : Nat := 7
def n_laws_toIntSS : Nat := 24
def n_laws_toTrace : Nat := 8
def n_spec_l1In : Nat := 42
def n_spec_l2Var : Nat := 57
def n_spec_l1One : Nat := 91
def n_spec_l1Kind : Nat := 87
def n_spec_KindsOf : Nat := 82
def n_spec_l2Is : Nat := 74
def n_spec_l2Rule : Nat := 58
def n_spec_SystemValid : Nat := 41
def n_spec_FirstState : Nat := 43
def n_spec_l2Same : Nat := 20
def n_spec_l1Held : Nat := 88
def n_spec_l1Truth : Nat := 89
def n_spec_l1Do : Nat := 83
def n_spec_l1Values : Nat := 75
def n_spec_l2Last : Nat := 59
def n_spec_l2In : Nat := 60
def n_spec_l2Use : Nat := 44
def n_spec_TraceValid : Nat := 19
def n_spec_l3Copy : Nat := 21
def n_spec_WithoutRounds : Nat := 6
def n_impl_in : Nat := 48
def n_slices_IndexFunc_Simpl_Var_impl_Var : Nat := 77
def n_slices_ContainsFunc_Simpl_Var_impl_Var : Nat := 63
def n_impl_varOk : Nat := 65
def n_impl_SystemValid_1 : Nat := 64
def n_impl_size : Nat := 66
def n_impl_parts : Nat := 90
def n_impl_kindsOf : Nat := 84
def n_impl_kindOf : Nat := 79
def n_impl_ruleOk : Nat := 69
def n_impl_SystemValid_2 : Nat := 68
def n_slices_IndexFunc_Simpl_Rule_impl_Rule : Nat := 78
def n_slices_ContainsFunc_Simpl_Rule_impl_Rule : Nat := 67
def n_impl_SystemValid : Nat := 47
def n_impl_clone_int : Nat := 27
def n_impl_first : Nat := 49
def n_slices_Equal_Sint_int : Nat := 28
def n_impl_held : Nat := 85
def n_impl_bit : Nat := 86
def n_impl_do : Nat := 80
def n_impl_eval : Nat := 70
def n_impl_inRange : Nat := 71
def n_impl_use : Nat := 50
def n_impl_TraceValid : Nat := 26
def n_impl_clone_Sint : Nat := 29
def n_impl_WithoutRounds : Nat := 9
def n_laws_eqIntS : Nat := 31
def n_laws_eqIntSS : Nat := 30
def n_laws_eqTrace : Nat := 10
def n_laws_eqVar : Nat := 51
def n_laws_eqVarS : Nat := 32
def n_laws_eqTerm : Nat := 81
def n_laws_eqTermS : Nat := 72
def n_laws_eqTermSS : Nat := 73
def n_laws_eqRule : Nat := 52
def n_laws_eqRuleS : Nat := 33
def n_laws_eqSystem : Nat := 11
def n_laws_markVarS : Nat := 34
def n_laws_markTermS : Nat := 53
def n_laws_markIntS : Nat := 37
def n_laws_markTermSS : Nat := 54
def n_laws_markRuleS : Nat := 35
def n_laws_markSystem : Nat := 12
def n_laws_markIntSS : Nat := 36
def n_laws_markTrace : Nat := 13
def n_laws_heldIntS : Nat := 39
def n_laws_heldIntSS : Nat := 38
def n_laws_heldTrace : Nat := 14
def n_laws_FnExactWithoutRounds : Nat := 3
@[go_sem] def l15_0 (_ : Unit) : KL := [kB 4 (.mv (cI 0)) [0, 1]]
@[go_sem] def l15_1 (_ : Unit) : KL := [kA 5 (.mv (.t 1)),
  kA 6 (.mv (.t 0)),
  kA 7 (.len (.t 6)),
  kA 8 (.bin .sub (.t 5) (.t 7)),
  kB 1 (.mv (.t 8)) [1]]
@[go_sem] def l15_2 (_ : Unit) : KL := [kA 9 (.mv (.t 1)),
  kB 10 (.bin .lss (.t 9) (cI 0)) [1, 10]]
@[go_sem] def l15_3 (_ : Unit) : KL := [kB 4 (.mv (.c (.int .i64 (-1)))) [4]]
@[go_sem] def s15_4 (_ : Unit) : IR := (sQ [(kT l15_3), .ret])
@[go_sem] def s15_5 (_ : Unit) : IR := (sQ [(kT l15_2), (.cond (.t 10) (tH s15_4) .skip)])
@[go_sem] def l15_6 (_ : Unit) : KL := [kA 11 (.mv (.t 1)),
  kB 4 (.mv (.t 11)) [4]]
@[go_sem] def s15_7 (_ : Unit) : IR := (sQ [(kT l15_0), (kT l15_1), (tH s15_5), (kT l15_6), .ret])
theorem c15 : compFn Try.prog [(0, [], [oS [0, 1]]), (1, [], [oN, oN, oN, oN, oS [1]]), (2, [], [oN, oS [1, 10]]), (3, [], [oS [4]]), (4, [], [oN, oS [4]])] Try.f15 = some ⟨2, 12, [.t 4], (tH s15_7)⟩ := by kernel_rfl
theorem v_laws_szVarS (hl : vs.length = 2) (h : wpV Try.prog (tH s15_7) (postV [.t 4] RV) (envV vs) M) : VCall Try.prog n_laws_szVarS vs M RV :=
  vcall_of_wp (fun _ _ _ hl h => acall_of_wp mixed Try.func15 c15 (by kernel_rfl) hl h) hl h
@[go_sem] def l55_0 (_ : Unit) : KL := [kB 4 (.mv (cI 0)) [0, 1]]
@[go_sem] def l55_1 (_ : Unit) : KL := [kA 5 (.mv (.t 1)),
  kA 6 (.mv (.t 0)),
  kA 7 (.len (.t 6)),
  kA 8 (.bin .sub (.t 5) (.t 7)),
  kB 1 (.mv (.t 8)) [1]]
@[go_sem] def l55_2 (_ : Unit) : KL := [kA 9 (.mv (.t 1)),
  kB 10 (.bin .lss (.t 9) (cI 0)) [1, 10]]
@[go_sem] def l55_3 (_ : Unit) : KL := [kB 4 (.mv (.c (.int .i64 (-1)))) [4]]
@[go_sem] def s55_4 (_ : Unit) : IR := (sQ [(kT l55_3), .ret])
@[go_sem] def s55_5 (_ : Unit) : IR := (sQ [(kT l55_2), (.cond (.t 10) (tH s55_4) .skip)])
@[go_sem] def l55_6 (_ : Unit) : KL := [kA 11 (.mv (.t 1)),
  kB 4 (.mv (.t 11)) [4]]
@[go_sem] def s55_7 (_ : Unit) : IR := (sQ [(kT l55_0), (kT l55_1), (tH s55_5), (kT l55_6), .ret])
theorem c55 : compFn Try.prog [(0, [], [oS [0, 1]]), (1, [], [oN, oN, oN, oN, oS [1]]), (2, [], [oN, oS [1, 10]]), (3, [], [oS [4]]), (4, [], [oN, oS [4]])] Try.f55 = some ⟨2, 12, [.t 4], (tH s55_7)⟩ := by kernel_rfl
theorem v_laws_szTermS (hl : vs.length = 2) (h : wpV Try.prog (tH s55_7) (postV [.t 4] RV) (envV vs) M) : VCall Try.prog n_laws_szTermS vs M RV :=
  vcall_of_wp (fun _ _ _ hl h => acall_of_wp mixed Try.func55 c55 (by kernel_rfl) hl h) hl h
@[go_sem] def l18_0 (_ : Unit) : KL := [kB 4 (.mv (cI 0)) [0, 1]]
@[go_sem] def l18_1 (_ : Unit) : KL := [kA 5 (.mv (.t 1)),
  kA 6 (.mv (.t 0)),
  kA 7 (.len (.t 6)),
  kA 8 (.bin .sub (.t 5) (.t 7)),
  kB 1 (.mv (.t 8)) [1]]
@[go_sem] def l18_2 (_ : Unit) : KL := [kA 9 (.mv (.t 1)),
  kB 10 (.bin .lss (.t 9) (cI 0)) [1, 10]]
@[go_sem] def l18_3 (_ : Unit) : KL := [kB 4 (.mv (.c (.int .i64 (-1)))) [4]]
@[go_sem] def s18_4 (_ : Unit) : IR := (sQ [(kT l18_3), .ret])
@[go_sem] def s18_5 (_ : Unit) : IR := (sQ [(kT l18_2), (.cond (.t 10) (tH s18_4) .skip)])
@[go_sem] def l18_6 (_ : Unit) : KL := [kA 11 (.mv (.t 1)),
  kB 4 (.mv (.t 11)) [4]]
@[go_sem] def s18_7 (_ : Unit) : IR := (sQ [(kT l18_0), (kT l18_1), (tH s18_5), (kT l18_6), .ret])
theorem c18 : compFn Try.prog [(0, [], [oS [0, 1]]), (1, [], [oN, oN, oN, oN, oS [1]]), (2, [], [oN, oS [1, 10]]), (3, [], [oS [4]]), (4, [], [oN, oS [4]])] Try.f18 = some ⟨2, 12, [.t 4], (tH s18_7)⟩ := by kernel_rfl
theorem v_laws_szIntS (hl : vs.length = 2) (h : wpV Try.prog (tH s18_7) (postV [.t 4] RV) (envV vs) M) : VCall Try.prog n_laws_szIntS vs M RV :=
  vcall_of_wp (fun _ _ _ hl h => acall_of_wp mixed Try.func18 c18 (by kernel_rfl) hl h) hl h
@[go_sem] def l56_0 (_ : Unit) : KL := [kB 4 (.mv (cI 0)) [0, 1]]
@[go_sem] def l56_1 (_ : Unit) : KL := [kA 6 (.mv (.t 1)),
  kA 7 (.mv (.t 0)),
  kA 8 (.len (.t 7)),
  kA 9 (.bin .sub (.t 6) (.t 8)),
  kB 1 (.mv (.t 9)) [0, 1]]
@[go_sem] def l56_2 (_ : Unit) : KL := [kA 10 (.mv (.t 1)),
  kB 11 (.bin .lss (.t 10) (cI 0)) [0, 1, 11]]
@[go_sem] def l56_3 (_ : Unit) : KL := [kB 4 (.mv (.c (.int .i64 (-1)))) [4]]
@[go_sem] def s56_4 (_ : Unit) : IR := (sQ [(kT l56_3), .ret])
@[go_sem] def s56_5 (_ : Unit) : IR := (sQ [(kT l56_2), (.cond (.t 11) (tH s56_4) .skip)])
@[go_sem] def l56_6 (_ : Unit) : KL := [kB 5 (.mv (cI 0)) [0, 1, 5]]
@[go_sem] def l56_7 (_ : Unit) : KL := [kA 12 (.mv (.t 5)),
  kA 13 (.mv (.t 0)),
  kA 14 (.len (.t 13)),
  kB 15 (.bin .lss (.t 12) (.t 14)) [0, 1, 5, 15]]
@[go_sem] def s56_8 (_ : Unit) : IR := (sQ [(kT l56_7), (.cond (.t 15) .skip (.exit 0))])
@[go_sem] def l56_9 (_ : Unit) : KL := [kA 18 (.mv (.t 0)),
  kA 19 (.mv (.t 5)),
  kA 20 (.iaddr (.t 18) (.t 19) 1),
  kA 21 (.load (.t 20) 1 false),
  kB 22 (.mv (.t 1)) [0, 5, 21, 22],
  kA 23 (.call (n_laws_szTermS) [(.t 21), (.t 22)]),
  kB 1 (.mv (.t 23)) [0, 1, 5]]
@[go_sem] def l56_10 (_ : Unit) : KL := [kA 24 (.mv (.t 1)),
  kB 25 (.bin .lss (.t 24) (cI 0)) [0, 1, 5, 25]]
@[go_sem] def l56_11 (_ : Unit) : KL := [kB 4 (.mv (.c (.int .i64 (-1)))) [4]]
@[go_sem] def s56_12 (_ : Unit) : IR := (sQ [(kT l56_11), .ret])
@[go_sem] def s56_13 (_ : Unit) : IR := (sQ [(kT l56_9), (kT l56_10), (.cond (.t 25) (tH s56_12) .skip)])
@[go_sem] def s56_14 (_ : Unit) : IR := (.block 1 (tH s56_13))
@[go_sem] def l56_15 (_ : Unit) : KL := [kA 16 (.mv (.t 5)),
  kA 17 (.bin .add (.t 16) (cI 1)),
  kB 5 (.mv (.t 17)) [0, 1, 5]]
@[go_sem] def s56_16 (_ : Unit) : IR := (sQ [(tH s56_8), (tH s56_14), (kT l56_15)])
@[go_sem] def s56_17 (_ : Unit) : IR := (.loop (tH s56_16))
@[go_sem] def s56_18 (_ : Unit) : IR := (.block 0 (tH s56_17))
@[go_sem] def s56_19 (_ : Unit) : IR := (sQ [(kT l56_6), (tH s56_18)])
@[go_sem] def l56_20 (_ : Unit) : KL := [kA 26 (.mv (.t 1)),
  kB 4 (.mv (.t 26)) [4]]
@[go_sem] def s56_21 (_ : Unit) : IR := (sQ [(kT l56_0), (kT l56_1), (tH s56_5), (tH s56_19), (kT l56_20), .ret])
theorem c56 : compFn Try.prog [(0, [], [oS [0, 1]]), (1, [], [oN, oN, oN, oN, oS [0, 1]]), (2, [], [oN, oS [0, 1, 11]]), (3, [], [oS [4]]), (4, [], [oS [0, 1, 5]]), (5, [], [oN, oN, oN, oS [0, 1, 5, 15]]), (7, [], [oN, oN, oN, oN, oS [0, 5, 21, 22], oN, oS [0, 1, 5]]), (8, [], [oN, oS [0, 1, 5, 25]]), (9, [], [oS [4]]), (6, [], [oN, oN, oS [0, 1, 5]]), (10, [], [oN, oS [4]])] Try.f56 = some ⟨2, 27, [.t 4], (tH s56_21)⟩ := by kernel_rfl
theorem v_laws_szTermSS (hl : vs.length = 2) (h : wpV Try.prog (tH s56_21) (postV [.t 4] RV) (envV vs) M) : VCall Try.prog n_laws_szTermSS vs M RV :=
  vcall_of_wp (fun _ _ _ hl h => acall_of_wp mixed Try.func56 c56 (by kernel_rfl) hl h) hl h
@[go_sem] def l40_0 (_ : Unit) : KL := [kA 2 (.box (.t 0)),
  kB 4 (.mv (cI 0)) [1, 2]]
@[go_sem] def l40_1 (_ : Unit) : KL := [kA 5 (.faddr (.t 2) 0),
  kA 6 (.load (.t 5) 1 false),
  kA 7 (.mv (.t 1)),
  kA 8 (.call (n_laws_szTermS) [(.t 6), (.t 7)]),
  kB 1 (.mv (.t 8)) [1, 2]]
@[go_sem] def l40_2 (_ : Unit) : KL := [kA 9 (.mv (.t 1)),
  kB 10 (.bin .lss (.t 9) (cI 0)) [1, 2, 10]]
@[go_sem] def l40_3 (_ : Unit) : KL := [kB 4 (.mv (.c (.int .i64 (-1)))) [4]]
@[go_sem] def s40_4 (_ : Unit) : IR := (sQ [(kT l40_3), .ret])
@[go_sem] def s40_5 (_ : Unit) : IR := (sQ [(kT l40_2), (.cond (.t 10) (tH s40_4) .skip)])
@[go_sem] def l40_6 (_ : Unit) : KL := [kA 11 (.faddr (.t 2) 1),
  kA 12 (.load (.t 11) 1 false),
  kA 13 (.mv (.t 1)),
  kA 14 (.call (n_laws_szIntS) [(.t 12), (.t 13)]),
  kB 1 (.mv (.t 14)) [1, 2]]
@[go_sem] def l40_7 (_ : Unit) : KL := [kA 15 (.mv (.t 1)),
  kB 16 (.bin .lss (.t 15) (cI 0)) [1, 2, 16]]
@[go_sem] def l40_8 (_ : Unit) : KL := [kB 4 (.mv (.c (.int .i64 (-1)))) [4]]
@[go_sem] def s40_9 (_ : Unit) : IR := (sQ [(kT l40_8), .ret])
@[go_sem] def s40_10 (_ : Unit) : IR := (sQ [(kT l40_7), (.cond (.t 16) (tH s40_9) .skip)])
@[go_sem] def l40_11 (_ : Unit) : KL := [kA 17 (.faddr (.t 2) 2),
  kA 18 (.load (.t 17) 1 false),
  kA 19 (.mv (.t 1)),
  kA 20 (.call (n_laws_szTermSS) [(.t 18), (.t 19)]),
  kB 1 (.mv (.t 20)) [1]]
@[go_sem] def l40_12 (_ : Unit) : KL := [kA 21 (.mv (.t 1)),
  kB 22 (.bin .lss (.t 21) (cI 0)) [1, 22]]
@[go_sem] def l40_13 (_ : Unit) : KL := [kB 4 (.mv (.c (.int .i64 (-1)))) [4]]
@[go_sem] def s40_14 (_ : Unit) : IR := (sQ [(kT l40_13), .ret])
@[go_sem] def s40_15 (_ : Unit) : IR := (sQ [(kT l40_12), (.cond (.t 22) (tH s40_14) .skip)])
@[go_sem] def l40_16 (_ : Unit) : KL := [kA 23 (.mv (.t 1)),
  kB 4 (.mv (.t 23)) [4]]
@[go_sem] def s40_17 (_ : Unit) : IR := (sQ [(kT l40_0), (kT l40_1), (tH s40_5), (kT l40_6), (tH s40_10), (kT l40_11), (tH s40_15), (kT l40_16), .ret])
theorem c40 : compFn Try.prog [(0, [], [oN, oS [1, 2]]), (1, [], [oN, oN, oN, oN, oS [1, 2]]), (2, [], [oN, oS [1, 2, 10]]), (3, [], [oS [4]]), (4, [], [oN, oN, oN, oN, oS [1, 2]]), (5, [], [oN, oS [1, 2, 16]]), (6, [], [oS [4]]), (7, [], [oN, oN, oN, oN, oS [1]]), (8, [], [oN, oS [1, 22]]), (9, [], [oS [4]]), (10, [], [oN, oS [4]])] Try.f40 = some ⟨2, 24, [.t 4], (tH s40_17)⟩ := by kernel_rfl
theorem v_laws_szRule (hl : vs.length = 2) (h : wpV Try.prog (tH s40_17) (postV [.t 4] RV) (envV vs) M) : VCall Try.prog n_laws_szRule vs M RV :=
  vcall_of_wp (fun _ _ _ hl h => acall_of_wp mixed Try.func40 c40 (by kernel_rfl) hl h) hl h
@[go_sem] def l16_0 (_ : Unit) : KL := [kB 4 (.mv (cI 0)) [0, 1]]
@[go_sem] def l16_1 (_ : Unit) : KL := [kA 6 (.mv (.t 1)),
  kA 7 (.mv (.t 0)),
  kA 8 (.len (.t 7)),
  kA 9 (.bin .sub (.t 6) (.t 8)),
  kB 1 (.mv (.t 9)) [0, 1]]
@[go_sem] def l16_2 (_ : Unit) : KL := [kA 10 (.mv (.t 1)),
  kB 11 (.bin .lss (.t 10) (cI 0)) [0, 1, 11]]
@[go_sem] def l16_3 (_ : Unit) : KL := [kB 4 (.mv (.c (.int .i64 (-1)))) [4]]
@[go_sem] def s16_4 (_ : Unit) : IR := (sQ [(kT l16_3), .ret])
@[go_sem] def s16_5 (_ : Unit) : IR := (sQ [(kT l16_2), (.cond (.t 11) (tH s16_4) .skip)])
@[go_sem] def l16_6 (_ : Unit) : KL := [kB 5 (.mv (cI 0)) [0, 1, 5]]
@[go_sem] def l16_7 (_ : Unit) : KL := [kA 12 (.mv (.t 5)),
  kA 13 (.mv (.t 0)),
  kA 14 (.len (.t 13)),
  kB 15 (.bin .lss (.t 12) (.t 14)) [0, 1, 5, 15]]
@[go_sem] def s16_8 (_ : Unit) : IR := (sQ [(kT l16_7), (.cond (.t 15) .skip (.exit 0))])
@[go_sem] def l16_9 (_ : Unit) : KL := [kA 18 (.mv (.t 0)),
  kA 19 (.mv (.t 5)),
  kA 20 (.iaddr (.t 18) (.t 19) 3),
  kA 21 (.load (.t 20) 3 true),
  kB 22 (.mv (.t 1)) [0, 5, 21, 22],
  kA 23 (.call (n_laws_szRule) [(.t 21), (.t 22)]),
  kB 1 (.mv (.t 23)) [0, 1, 5]]
@[go_sem] def l16_10 (_ : Unit) : KL := [kA 24 (.mv (.t 1)),
  kB 25 (.bin .lss (.t 24) (cI 0)) [0, 1, 5, 25]]
@[go_sem] def l16_11 (_ : Unit) : KL := [kB 4 (.mv (.c (.int .i64 (-1)))) [4]]
@[go_sem] def s16_12 (_ : Unit) : IR := (sQ [(kT l16_11), .ret])
@[go_sem] def s16_13 (_ : Unit) : IR := (sQ [(kT l16_9), (kT l16_10), (.cond (.t 25) (tH s16_12) .skip)])
@[go_sem] def s16_14 (_ : Unit) : IR := (.block 1 (tH s16_13))
@[go_sem] def l16_15 (_ : Unit) : KL := [kA 16 (.mv (.t 5)),
  kA 17 (.bin .add (.t 16) (cI 1)),
  kB 5 (.mv (.t 17)) [0, 1, 5]]
@[go_sem] def s16_16 (_ : Unit) : IR := (sQ [(tH s16_8), (tH s16_14), (kT l16_15)])
@[go_sem] def s16_17 (_ : Unit) : IR := (.loop (tH s16_16))
@[go_sem] def s16_18 (_ : Unit) : IR := (.block 0 (tH s16_17))
@[go_sem] def s16_19 (_ : Unit) : IR := (sQ [(kT l16_6), (tH s16_18)])
@[go_sem] def l16_20 (_ : Unit) : KL := [kA 26 (.mv (.t 1)),
  kB 4 (.mv (.t 26)) [4]]
@[go_sem] def s16_21 (_ : Unit) : IR := (sQ [(kT l16_0), (kT l16_1), (tH s16_5), (tH s16_19), (kT l16_20), .ret])
theorem c16 : compFn Try.prog [(0, [], [oS [0, 1]]), (1, [], [oN, oN, oN, oN, oS [0, 1]]), (2, [], [oN, oS [0, 1, 11]]), (3, [], [oS [4]]), (4, [], [oS [0, 1, 5]]), (5, [], [oN, oN, oN, oS [0, 1, 5, 15]]), (7, [], [oN, oN, oN, oN, oS [0, 5, 21, 22], oN, oS [0, 1, 5]]), (8, [], [oN, oS [0, 1, 5, 25]]), (9, [], [oS [4]]), (6, [], [oN, oN, oS [0, 1, 5]]), (10, [], [oN, oS [4]])] Try.f16 = some ⟨2, 27, [.t 4], (tH s16_21)⟩ := by kernel_rfl
theorem v_laws_szRuleS (hl : vs.length = 2) (h : wpV Try.prog (tH s16_21) (postV [.t 4] RV) (envV vs) M) : VCall Try.prog n_laws_szRuleS vs M RV :=
  vcall_of_wp (fun _ _ _ hl h => acall_of_wp mixed Try.func16 c16 (by kernel_rfl) hl h) hl h
@[go_sem] def l4_0 (_ : Unit) : KL := [kA 2 (.box (.t 0)),
  kB 4 (.mv (cI 0)) [1, 2]]
@[go_sem] def l4_1 (_ : Unit) : KL := [kA 5 (.faddr (.t 2) 0),
  kA 6 (.load (.t 5) 1 false),
  kA 7 (.mv (.t 1)),
  kA 8 (.call (n_laws_szVarS) [(.t 6), (.t 7)]),
  kB 1 (.mv (.t 8)) [1, 2]]
@[go_sem] def l4_2 (_ : Unit) : KL := [kA 9 (.mv (.t 1)),
  kB 10 (.bin .lss (.t 9) (cI 0)) [1, 2, 10]]
@[go_sem] def l4_3 (_ : Unit) : KL := [kB 4 (.mv (.c (.int .i64 (-1)))) [4]]
@[go_sem] def s4_4 (_ : Unit) : IR := (sQ [(kT l4_3), .ret])
@[go_sem] def s4_5 (_ : Unit) : IR := (sQ [(kT l4_2), (.cond (.t 10) (tH s4_4) .skip)])
@[go_sem] def l4_6 (_ : Unit) : KL := [kA 11 (.faddr (.t 2) 1),
  kA 12 (.load (.t 11) 1 false),
  kA 13 (.mv (.t 1)),
  kA 14 (.call (n_laws_szRuleS) [(.t 12), (.t 13)]),
  kB 1 (.mv (.t 14)) [1]]
@[go_sem] def l4_7 (_ : Unit) : KL := [kA 15 (.mv (.t 1)),
  kB 16 (.bin .lss (.t 15) (cI 0)) [1, 16]]
@[go_sem] def l4_8 (_ : Unit) : KL := [kB 4 (.mv (.c (.int .i64 (-1)))) [4]]
@[go_sem] def s4_9 (_ : Unit) : IR := (sQ [(kT l4_8), .ret])
@[go_sem] def s4_10 (_ : Unit) : IR := (sQ [(kT l4_7), (.cond (.t 16) (tH s4_9) .skip)])
@[go_sem] def l4_11 (_ : Unit) : KL := [kA 17 (.mv (.t 1)),
  kB 4 (.mv (.t 17)) [4]]
@[go_sem] def s4_12 (_ : Unit) : IR := (sQ [(kT l4_0), (kT l4_1), (tH s4_5), (kT l4_6), (tH s4_10), (kT l4_11), .ret])
theorem c4 : compFn Try.prog [(0, [], [oN, oS [1, 2]]), (1, [], [oN, oN, oN, oN, oS [1, 2]]), (2, [], [oN, oS [1, 2, 10]]), (3, [], [oS [4]]), (4, [], [oN, oN, oN, oN, oS [1]]), (5, [], [oN, oS [1, 16]]), (6, [], [oS [4]]), (7, [], [oN, oS [4]])] Try.f4 = some ⟨2, 18, [.t 4], (tH s4_12)⟩ := by kernel_rfl
theorem v_laws_szSystem (hl : vs.length = 2) (h : wpV Try.prog (tH s4_12) (postV [.t 4] RV) (envV vs) M) : VCall Try.prog n_laws_szSystem vs M RV :=
  vcall_of_wp (fun _ _ _ hl h => acall_of_wp mixed Try.func4 c4 (by kernel_rfl) hl h) hl h
@[go_sem] def l17_0 (_ : Unit) : KL := [kB 4 (.mv (cI 0)) [0, 1]]
@[go_sem] def l17_1 (_ : Unit) : KL := [kA 6 (.mv (.t 1)),
  kA 7 (.mv (.t 0)),
  kA 8 (.len (.t 7)),
  kA 9 (.bin .sub (.t 6) (.t 8)),
  kB 1 (.mv (.t 9)) [0, 1]]
@[go_sem] def l17_2 (_ : Unit) : KL := [kA 10 (.mv (.t 1)),
  kB 11 (.bin .lss (.t 10) (cI 0)) [0, 1, 11]]
@[go_sem] def l17_3 (_ : Unit) : KL := [kB 4 (.mv (.c (.int .i64 (-1)))) [4]]
@[go_sem] def s17_4 (_ : Unit) : IR := (sQ [(kT l17_3), .ret])
@[go_sem] def s17_5 (_ : Unit) : IR := (sQ [(kT l17_2), (.cond (.t 11) (tH s17_4) .skip)])
@[go_sem] def l17_6 (_ : Unit) : KL := [kB 5 (.mv (cI 0)) [0, 1, 5]]
@[go_sem] def l17_7 (_ : Unit) : KL := [kA 12 (.mv (.t 5)),
  kA 13 (.mv (.t 0)),
  kA 14 (.len (.t 13)),
  kB 15 (.bin .lss (.t 12) (.t 14)) [0, 1, 5, 15]]
@[go_sem] def s17_8 (_ : Unit) : IR := (sQ [(kT l17_7), (.cond (.t 15) .skip (.exit 0))])
@[go_sem] def l17_9 (_ : Unit) : KL := [kA 18 (.mv (.t 0)),
  kA 19 (.mv (.t 5)),
  kA 20 (.iaddr (.t 18) (.t 19) 1),
  kA 21 (.load (.t 20) 1 false),
  kB 22 (.mv (.t 1)) [0, 5, 21, 22],
  kA 23 (.call (n_laws_szIntS) [(.t 21), (.t 22)]),
  kB 1 (.mv (.t 23)) [0, 1, 5]]
@[go_sem] def l17_10 (_ : Unit) : KL := [kA 24 (.mv (.t 1)),
  kB 25 (.bin .lss (.t 24) (cI 0)) [0, 1, 5, 25]]
@[go_sem] def l17_11 (_ : Unit) : KL := [kB 4 (.mv (.c (.int .i64 (-1)))) [4]]
@[go_sem] def s17_12 (_ : Unit) : IR := (sQ [(kT l17_11), .ret])
@[go_sem] def s17_13 (_ : Unit) : IR := (sQ [(kT l17_9), (kT l17_10), (.cond (.t 25) (tH s17_12) .skip)])
@[go_sem] def s17_14 (_ : Unit) : IR := (.block 1 (tH s17_13))
@[go_sem] def l17_15 (_ : Unit) : KL := [kA 16 (.mv (.t 5)),
  kA 17 (.bin .add (.t 16) (cI 1)),
  kB 5 (.mv (.t 17)) [0, 1, 5]]
@[go_sem] def s17_16 (_ : Unit) : IR := (sQ [(tH s17_8), (tH s17_14), (kT l17_15)])
@[go_sem] def s17_17 (_ : Unit) : IR := (.loop (tH s17_16))
@[go_sem] def s17_18 (_ : Unit) : IR := (.block 0 (tH s17_17))
@[go_sem] def s17_19 (_ : Unit) : IR := (sQ [(kT l17_6), (tH s17_18)])
@[go_sem] def l17_20 (_ : Unit) : KL := [kA 26 (.mv (.t 1)),
  kB 4 (.mv (.t 26)) [4]]
@[go_sem] def s17_21 (_ : Unit) : IR := (sQ [(kT l17_0), (kT l17_1), (tH s17_5), (tH s17_19), (kT l17_20), .ret])
theorem c17 : compFn Try.prog [(0, [], [oS [0, 1]]), (1, [], [oN, oN, oN, oN, oS [0, 1]]), (2, [], [oN, oS [0, 1, 11]]), (3, [], [oS [4]]), (4, [], [oS [0, 1, 5]]), (5, [], [oN, oN, oN, oS [0, 1, 5, 15]]), (7, [], [oN, oN, oN, oN, oS [0, 5, 21, 22], oN, oS [0, 1, 5]]), (8, [], [oN, oS [0, 1, 5, 25]]), (9, [], [oS [4]]), (6, [], [oN, oN, oS [0, 1, 5]]), (10, [], [oN, oS [4]])] Try.f17 = some ⟨2, 27, [.t 4], (tH s17_21)⟩ := by kernel_rfl
theorem v_laws_szIntSS (hl : vs.length = 2) (h : wpV Try.prog (tH s17_21) (postV [.t 4] RV) (envV vs) M) : VCall Try.prog n_laws_szIntSS vs M RV :=
  vcall_of_wp (fun _ _ _ hl h => acall_of_wp mixed Try.func17 c17 (by kernel_rfl) hl h) hl h
@[go_sem] def l5_0 (_ : Unit) : KL := [kA 2 (.box (.t 0)),
  kB 4 (.mv (cI 0)) [1, 2]]
@[go_sem] def l5_1 (_ : Unit) : KL := [kA 5 (.faddr (.t 2) 0),
  kA 6 (.load (.t 5) 1 false),
  kA 7 (.mv (.t 1)),
  kA 8 (.call (n_laws_szIntSS) [(.t 6), (.t 7)]),
  kB 1 (.mv (.t 8)) [1, 2]]
@[go_sem] def l5_2 (_ : Unit) : KL := [kA 9 (.mv (.t 1)),
  kB 10 (.bin .lss (.t 9) (cI 0)) [1, 2, 10]]
@[go_sem] def l5_3 (_ : Unit) : KL := [kB 4 (.mv (.c (.int .i64 (-1)))) [4]]
@[go_sem] def s5_4 (_ : Unit) : IR := (sQ [(kT l5_3), .ret])
@[go_sem] def s5_5 (_ : Unit) : IR := (sQ [(kT l5_2), (.cond (.t 10) (tH s5_4) .skip)])
@[go_sem] def l5_6 (_ : Unit) : KL := [kA 11 (.faddr (.t 2) 1),
  kA 12 (.load (.t 11) 1 false),
  kA 13 (.mv (.t 1)),
  kA 14 (.call (n_laws_szIntS) [(.t 12), (.t 13)]),
  kB 1 (.mv (.t 14)) [1]]
@[go_sem] def l5_7 (_ : Unit) : KL := [kA 15 (.mv (.t 1)),
  kB 16 (.bin .lss (.t 15) (cI 0)) [1, 16]]
@[go_sem] def l5_8 (_ : Unit) : KL := [kB 4 (.mv (.c (.int .i64 (-1)))) [4]]
@[go_sem] def s5_9 (_ : Unit) : IR := (sQ [(kT l5_8), .ret])
@[go_sem] def s5_10 (_ : Unit) : IR := (sQ [(kT l5_7), (.cond (.t 16) (tH s5_9) .skip)])
@[go_sem] def l5_11 (_ : Unit) : KL := [kA 17 (.mv (.t 1)),
  kB 4 (.mv (.t 17)) [4]]
@[go_sem] def s5_12 (_ : Unit) : IR := (sQ [(kT l5_0), (kT l5_1), (tH s5_5), (kT l5_6), (tH s5_10), (kT l5_11), .ret])
theorem c5 : compFn Try.prog [(0, [], [oN, oS [1, 2]]), (1, [], [oN, oN, oN, oN, oS [1, 2]]), (2, [], [oN, oS [1, 2, 10]]), (3, [], [oS [4]]), (4, [], [oN, oN, oN, oN, oS [1]]), (5, [], [oN, oS [1, 16]]), (6, [], [oS [4]]), (7, [], [oN, oS [4]])] Try.f5 = some ⟨2, 18, [.t 4], (tH s5_12)⟩ := by kernel_rfl
theorem v_laws_szTrace (hl : vs.length = 2) (h : wpV Try.prog (tH s5_12) (postV [.t 4] RV) (envV vs) M) : VCall Try.prog n_laws_szTrace vs M RV :=
  vcall_of_wp (fun _ _ _ hl h => acall_of_wp mixed Try.func5 c5 (by kernel_rfl) hl h) hl h
@[go_sem] def l45_0 (_ : Unit) : KL := [kA 1 (.box (.t 0)),
  kB 2 (.alloc [(.int .i64 0), (.int .i64 0), (.int .i64 0)]) [1, 2]]
@[go_sem] def l45_1 (_ : Unit) : KL := [kB 3 (.alloc [(.int .i64 0), (.int .i64 0), (.int .i64 0)]) [1, 2, 3]]
@[go_sem] def l45_2 (_ : Unit) : KL := [kA 4 (.faddr (.t 1) 0),
  kA 5 (.load (.t 4) 1 false),
  kA 6 (.faddr (.t 3) 0),
  (⟨none, .store (.t 6) 1 (.t 5), none⟩, (some [1, 2, 3]))]
@[go_sem] def l45_3 (_ : Unit) : KL := [kA 7 (.faddr (.t 1) 1),
  kA 8 (.load (.t 7) 1 false),
  kA 9 (.faddr (.t 3) 1),
  (⟨none, .store (.t 9) 1 (.t 8), none⟩, (some [1, 2, 3]))]
@[go_sem] def l45_4 (_ : Unit) : KL := [kA 10 (.faddr (.t 1) 2),
  kA 11 (.load (.t 10) 1 false),
  kA 12 (.faddr (.t 3) 2),
  (⟨none, .store (.t 12) 1 (.t 11), none⟩, (some [2, 3]))]
@[go_sem] def l45_5 (_ : Unit) : KL := [kA 13 (.load (.t 3) 3 true),
  (⟨none, .store (.t 2) 3 (.t 13), none⟩, (some [2]))]
@[go_sem] def s45_6 (_ : Unit) : IR := (sQ [(kT l45_0), (kT l45_1), (kT l45_2), (kT l45_3), (kT l45_4), (kT l45_5), .ret])
theorem c45 : compFn Try.prog [(0, [], [oN, oS [1, 2]]), (1, [], [oS [1, 2, 3]]), (2, [], [oN, oN, oN, oS [1, 2, 3]]), (3, [], [oN, oN, oN, oS [1, 2, 3]]), (4, [], [oN, oN, oN, oS [2, 3]]), (5, [], [oN, oS [2]])] Try.f45 = some ⟨1, 14, [.c 2 3 true], (tH s45_6)⟩ := by kernel_rfl
theorem v_laws_toVar (hl : vs.length = 1) (h : wpV Try.prog (tH s45_6) (postV [.c 2 3 true] RV) (envV vs) M) : VCall Try.prog n_laws_toVar vs M RV :=
  vcall_of_wp (fun _ _ _ hl h => acall_of_wp mixed Try.func45 c45 (by kernel_rfl) hl h) hl h
@[go_sem] def l22_0 (_ : Unit) : KL := [kB 2 (.mv (.c (.sl none 0 0 true 0))) [0]]
@[go_sem] def l22_1 (_ : Unit) : KL := [kA 5 (.mv (.t 0)),
  kA 6 (.len (.t 5)),
  kA 7 (.mks [(.int .i64 0), (.int .i64 0), (.int .i64 0)] 24 (.t 6)),
  kB 3 (.mv (.t 7)) [0, 3]]
@[go_sem] def l22_2 (_ : Unit) : KL := [kB 4 (.mv (cI 0)) [0, 3, 4]]
@[go_sem] def l22_3 (_ : Unit) : KL := [kA 8 (.mv (.t 4)),
  kA 9 (.mv (.t 0)),
  kA 10 (.len (.t 9)),
  kB 11 (.bin .lss (.t 8) (.t 10)) [0, 3, 4, 11]]
@[go_sem] def s22_4 (_ : Unit) : IR := (sQ [(kT l22_3), (.cond (.t 11) .skip (.exit 0))])
@[go_sem] def l22_5 (_ : Unit) : KL := [kA 14 (.mv (.t 3)),
  kA 15 (.mv (.t 4)),
  kA 16 (.mv (.t 0)),
  kA 17 (.mv (.t 4)),
  kB 18 (.iaddr (.t 16) (.t 17) 3) [0, 3, 4, 14, 15, 18],
  kA 19 (.load (.t 18) 3 true),
  kA 20 (.call (n_laws_toVar) [(.t 19)]),
  kA 21 (.iaddr (.t 14) (.t 15) 3),
  (⟨none, .store (.t 21) 3 (.t 20), none⟩, (some [0, 3, 4]))]
@[go_sem] def s22_6 (_ : Unit) : IR := (.block 1 (kT l22_5))
@[go_sem] def l22_7 (_ : Unit) : KL := [kA 12 (.mv (.t 4)),
  kA 13 (.bin .add (.t 12) (cI 1)),
  kB 4 (.mv (.t 13)) [0, 3, 4]]
@[go_sem] def s22_8 (_ : Unit) : IR := (sQ [(tH s22_4), (tH s22_6), (kT l22_7)])
@[go_sem] def s22_9 (_ : Unit) : IR := (.loop (tH s22_8))
@[go_sem] def s22_10 (_ : Unit) : IR := (.block 0 (tH s22_9))
@[go_sem] def s22_11 (_ : Unit) : IR := (sQ [(kT l22_2), (tH s22_10)])
@[go_sem] def l22_12 (_ : Unit) : KL := [kA 22 (.mv (.t 3)),
  kB 2 (.mv (.t 22)) [2]]
@[go_sem] def s22_13 (_ : Unit) : IR := (sQ [(kT l22_0), (kT l22_1), (tH s22_11), (kT l22_12), .ret])
theorem c22 : compFn Try.prog [(0, [], [oS [0]]), (1, [], [oN, oN, oN, oS [0, 3]]), (2, [], [oS [0, 3, 4]]), (3, [], [oN, oN, oN, oS [0, 3, 4, 11]]), (5, [], [oN, oN, oN, oN, oS [0, 3, 4, 14, 15, 18], oN, oN, oN, oS [0, 3, 4]]), (4, [], [oN, oN, oS [0, 3, 4]]), (6, [], [oN, oS [2]])] Try.f22 = some ⟨1, 23, [.t 2], (tH s22_13)⟩ := by kernel_rfl
theorem v_laws_toVarS (hl : vs.length = 1) (h : wpV Try.prog (tH s22_13) (postV [.t 2] RV) (envV vs) M) : VCall Try.prog n_laws_toVarS vs M RV :=
  vcall_of_wp (fun _ _ _ hl h => acall_of_wp mixed Try.func22 c22 (by kernel_rfl) hl h) hl h
@[go_sem] def l76_0 (_ : Unit) : KL := [kA 1 (.box (.t 0)),
  kB 2 (.alloc [(.int .i64 0), (.int .i64 0), (.int .i64 0), (.int .i64 0)]) [1, 2]]
@[go_sem] def l76_1 (_ : Unit) : KL := [kB 3 (.alloc [(.int .i64 0), (.int .i64 0), (.int .i64 0), (.int .i64 0)]) [1, 2, 3]]
@[go_sem] def l76_2 (_ : Unit) : KL := [kA 4 (.faddr (.t 1) 0),
  kA 5 (.load (.t 4) 1 false),
  kA 6 (.faddr (.t 3) 0),
  (⟨none, .store (.t 6) 1 (.t 5), none⟩, (some [1, 2, 3]))]
@[go_sem] def l76_3 (_ : Unit) : KL := [kA 7 (.faddr (.t 1) 1),
  kA 8 (.load (.t 7) 1 false),
  kA 9 (.faddr (.t 3) 1),
  (⟨none, .store (.t 9) 1 (.t 8), none⟩, (some [1, 2, 3]))]
@[go_sem] def l76_4 (_ : Unit) : KL := [kA 10 (.faddr (.t 1) 2),
  kA 11 (.load (.t 10) 1 false),
  kA 12 (.faddr (.t 3) 2),
  (⟨none, .store (.t 12) 1 (.t 11), none⟩, (some [1, 2, 3]))]
@[go_sem] def l76_5 (_ : Unit) : KL := [kA 13 (.faddr (.t 1) 3),
  kA 14 (.load (.t 13) 1 false),
  kA 15 (.faddr (.t 3) 3),
  (⟨none, .store (.t 15) 1 (.t 14), none⟩, (some [2, 3]))]
@[go_sem] def l76_6 (_ : Unit) : KL := [kA 16 (.load (.t 3) 4 true),
  (⟨none, .store (.t 2) 4 (.t 16), none⟩, (some [2]))]
@[go_sem] def s76_7 (_ : Unit) : IR := (sQ [(kT l76_0), (kT l76_1), (kT l76_2), (kT l76_3), (kT l76_4), (kT l76_5), (kT l76_6), .ret])
theorem c76 : compFn Try.prog [(0, [], [oN, oS [1, 2]]), (1, [], [oS [1, 2, 3]]), (2, [], [oN, oN, oN, oS [1, 2, 3]]), (3, [], [oN, oN, oN, oS [1, 2, 3]]), (4, [], [oN, oN, oN, oS [1, 2, 3]]), (5, [], [oN, oN, oN, oS [2, 3]]), (6, [], [oN, oS [2]])] Try.f76 = some ⟨1, 17, [.c 2 4 true], (tH s76_7)⟩ := by kernel_rfl
theorem v_laws_toTerm (hl : vs.length = 1) (h : wpV Try.prog (tH s76_7) (postV [.c 2 4 true] RV) (envV vs) M) : VCall Try.prog n_laws_toTerm vs M RV :=
  vcall_of_wp (fun _ _ _ hl h => acall_of_wp mixed Try.func76 c76 (by kernel_rfl) hl h) hl h
@[go_sem] def l61_0 (_ : Unit) : KL := [kB 2 (.mv (.c (.sl none 0 0 true 0))) [0]]
@[go_sem] def l61_1 (_ : Unit) : KL := [kA 5 (.mv (.t 0)),
  kA 6 (.len (.t 5)),
  kA 7 (.mks [(.int .i64 0), (.int .i64 0), (.int .i64 0), (.int .i64 0)] 32 (.t 6)),
  kB 3 (.mv (.t 7)) [0, 3]]
@[go_sem] def l61_2 (_ : Unit) : KL := [kB 4 (.mv (cI 0)) [0, 3, 4]]
@[go_sem] def l61_3 (_ : Unit) : KL := [kA 8 (.mv (.t 4)),
  kA 9 (.mv (.t 0)),
  kA 10 (.len (.t 9)),
  kB 11 (.bin .lss (.t 8) (.t 10)) [0, 3, 4, 11]]
@[go_sem] def s61_4 (_ : Unit) : IR := (sQ [(kT l61_3), (.cond (.t 11) .skip (.exit 0))])
@[go_sem] def l61_5 (_ : Unit) : KL := [kA 14 (.mv (.t 3)),
  kA 15 (.mv (.t 4)),
  kA 16 (.mv (.t 0)),
  kA 17 (.mv (.t 4)),
  kB 18 (.iaddr (.t 16) (.t 17) 4) [0, 3, 4, 14, 15, 18],
  kA 19 (.load (.t 18) 4 true),
  kA 20 (.call (n_laws_toTerm) [(.t 19)]),
  kA 21 (.iaddr (.t 14) (.t 15) 4),
  (⟨none, .store (.t 21) 4 (.t 20), none⟩, (some [0, 3, 4]))]
@[go_sem] def s61_6 (_ : Unit) : IR := (.block 1 (kT l61_5))
@[go_sem] def l61_7 (_ : Unit) : KL := [kA 12 (.mv (.t 4)),
  kA 13 (.bin .add (.t 12) (cI 1)),
  kB 4 (.mv (.t 13)) [0, 3, 4]]
@[go_sem] def s61_8 (_ : Unit) : IR := (sQ [(tH s61_4), (tH s61_6), (kT l61_7)])
@[go_sem] def s61_9 (_ : Unit) : IR := (.loop (tH s61_8))
@[go_sem] def s61_10 (_ : Unit) : IR := (.block 0 (tH s61_9))
@[go_sem] def s61_11 (_ : Unit) : IR := (sQ [(kT l61_2), (tH s61_10)])
@[go_sem] def l61_12 (_ : Unit) : KL := [kA 22 (.mv (.t 3)),
  kB 2 (.mv (.t 22)) [2]]
@[go_sem] def s61_13 (_ : Unit) : IR := (sQ [(kT l61_0), (kT l61_1), (tH s61_11), (kT l61_12), .ret])
theorem c61 : compFn Try.prog [(0, [], [oS [0]]), (1, [], [oN, oN, oN, oS [0, 3]]), (2, [], [oS [0, 3, 4]]), (3, [], [oN, oN, oN, oS [0, 3, 4, 11]]), (5, [], [oN, oN, oN, oN, oS [0, 3, 4, 14, 15, 18], oN, oN, oN, oS [0, 3, 4]]), (4, [], [oN, oN, oS [0, 3, 4]]), (6, [], [oN, oS [2]])] Try.f61 = some ⟨1, 23, [.t 2], (tH s61_13)⟩ := by kernel_rfl
theorem v_laws_toTermS (hl : vs.length = 1) (h : wpV Try.prog (tH s61_13) (postV [.t 2] RV) (envV vs) M) : VCall Try.prog n_laws_toTermS vs M RV :=
  vcall_of_wp (fun _ _ _ hl h => acall_of_wp mixed Try.func61 c61 (by kernel_rfl) hl h) hl h
@[go_sem] def l25_0 (_ : Unit) : KL := [kB 2 (.mv (.c (.sl none 0 0 true 0))) [0]]
@[go_sem] def l25_1 (_ : Unit) : KL := [kA 5 (.mv (.t 0)),
  kA 6 (.len (.t 5)),
  kA 7 (.mks [(.int .i64 0)] 8 (.t 6)),
  kB 3 (.mv (.t 7)) [0, 3]]
@[go_sem] def l25_2 (_ : Unit) : KL := [kB 4 (.mv (cI 0)) [0, 3, 4]]
@[go_sem] def l25_3 (_ : Unit) : KL := [kA 8 (.mv (.t 4)),
  kA 9 (.mv (.t 0)),
  kA 10 (.len (.t 9)),
  kB 11 (.bin .lss (.t 8) (.t 10)) [0, 3, 4, 11]]
@[go_sem] def s25_4 (_ : Unit) : IR := (sQ [(kT l25_3), (.cond (.t 11) .skip (.exit 0))])
@[go_sem] def l25_5 (_ : Unit) : KL := [kA 14 (.mv (.t 3)),
  kA 15 (.mv (.t 4)),
  kA 16 (.mv (.t 0)),
  kA 17 (.mv (.t 4)),
  kB 18 (.iaddr (.t 16) (.t 17) 1) [0, 3, 4, 14, 15, 18],
  kA 19 (.load (.t 18) 1 false),
  kA 20 (.iaddr (.t 14) (.t 15) 1),
  (⟨none, .store (.t 20) 1 (.t 19), none⟩, (some [0, 3, 4]))]
@[go_sem] def s25_6 (_ : Unit) : IR := (.block 1 (kT l25_5))
@[go_sem] def l25_7 (_ : Unit) : KL := [kA 12 (.mv (.t 4)),
  kA 13 (.bin .add (.t 12) (cI 1)),
  kB 4 (.mv (.t 13)) [0, 3, 4]]
@[go_sem] def s25_8 (_ : Unit) : IR := (sQ [(tH s25_4), (tH s25_6), (kT l25_7)])
@[go_sem] def s25_9 (_ : Unit) : IR := (.loop (tH s25_8))
@[go_sem] def s25_10 (_ : Unit) : IR := (.block 0 (tH s25_9))
@[go_sem] def s25_11 (_ : Unit) : IR := (sQ [(kT l25_2), (tH s25_10)])
@[go_sem] def l25_12 (_ : Unit) : KL := [kA 21 (.mv (.t 3)),
  kB 2 (.mv (.t 21)) [2]]
@[go_sem] def s25_13 (_ : Unit) : IR := (sQ [(kT l25_0), (kT l25_1), (tH s25_11), (kT l25_12), .ret])
theorem c25 : compFn Try.prog [(0, [], [oS [0]]), (1, [], [oN, oN, oN, oS [0, 3]]), (2, [], [oS [0, 3, 4]]), (3, [], [oN, oN, oN, oS [0, 3, 4, 11]]), (5, [], [oN, oN, oN, oN, oS [0, 3, 4, 14, 15, 18], oN, oN, oS [0, 3, 4]]), (4, [], [oN, oN, oS [0, 3, 4]]), (6, [], [oN, oS [2]])] Try.f25 = some ⟨1, 22, [.t 2], (tH s25_13)⟩ := by kernel_rfl
theorem v_laws_toIntS (hl : vs.length = 1) (h : wpV Try.prog (tH s25_13) (postV [.t 2] RV) (envV vs) M) : VCall Try.prog n_laws_toIntS vs M RV :=
  vcall_of_wp (fun _ _ _ hl h => acall_of_wp mixed Try.func25 c25 (by kernel_rfl) hl h) hl h
@[go_sem] def l62_0 (_ : Unit) : KL := [kB 2 (.mv (.c (.sl none 0 0 true 0))) [0]]
@[go_sem] def l62_1 (_ : Unit) : KL := [kA 5 (.mv (.t 0)),
  kA 6 (.len (.t 5)),
  kA 7 (.mks [(.sl none 0 0 true 0)] 24 (.t 6)),
  kB 3 (.mv (.t 7)) [0, 3]]
@[go_sem] def l62_2 (_ : Unit) : KL := [kB 4 (.mv (cI 0)) [0, 3, 4]]
@[go_sem] def l62_3 (_ : Unit) : KL := [kA 8 (.mv (.t 4)),
  kA 9 (.mv (.t 0)),
  kA 10 (.len (.t 9)),
  kB 11 (.bin .lss (.t 8) (.t 10)) [0, 3, 4, 11]]
@[go_sem] def s62_4 (_ : Unit) : IR := (sQ [(kT l62_3), (.cond (.t 11) .skip (.exit 0))])
@[go_sem] def l62_5 (_ : Unit) : KL := [kA 14 (.mv (.t 3)),
  kA 15 (.mv (.t 4)),
  kA 16 (.mv (.t 0)),
  kA 17 (.mv (.t 4)),
  kB 18 (.iaddr (.t 16) (.t 17) 1) [0, 3, 4, 14, 15, 18],
  kA 19 (.load (.t 18) 1 false),
  kA 20 (.call (n_laws_toTermS) [(.t 19)]),
  kA 21 (.iaddr (.t 14) (.t 15) 1),
  (⟨none, .store (.t 21) 1 (.t 20), none⟩, (some [0, 3, 4]))]
@[go_sem] def s62_6 (_ : Unit) : IR := (.block 1 (kT l62_5))
@[go_sem] def l62_7 (_ : Unit) : KL := [kA 12 (.mv (.t 4)),
  kA 13 (.bin .add (.t 12) (cI 1)),
  kB 4 (.mv (.t 13)) [0, 3, 4]]
@[go_sem] def s62_8 (_ : Unit) : IR := (sQ [(tH s62_4), (tH s62_6), (kT l62_7)])
@[go_sem] def s62_9 (_ : Unit) : IR := (.loop (tH s62_8))
@[go_sem] def s62_10 (_ : Unit) : IR := (.block 0 (tH s62_9))
@[go_sem] def s62_11 (_ : Unit) : IR := (sQ [(kT l62_2), (tH s62_10)])
@[go_sem] def l62_12 (_ : Unit) : KL := [kA 22 (.mv (.t 3)),
  kB 2 (.mv (.t 22)) [2]]
@[go_sem] def s62_13 (_ : Unit) : IR := (sQ [(kT l62_0), (kT l62_1), (tH s62_11), (kT l62_12), .ret])
theorem c62 : compFn Try.prog [(0, [], [oS [0]]), (1, [], [oN, oN, oN, oS [0, 3]]), (2, [], [oS [0, 3, 4]]), (3, [], [oN, oN, oN, oS [0, 3, 4, 11]]), (5, [], [oN, oN, oN, oN, oS [0, 3, 4, 14, 15, 18], oN, oN, oN, oS [0, 3, 4]]), (4, [], [oN, oN, oS [0, 3, 4]]), (6, [], [oN, oS [2]])] Try.f62 = some ⟨1, 23, [.t 2], (tH s62_13)⟩ := by kernel_rfl
theorem v_laws_toTermSS (hl : vs.length = 1) (h : wpV Try.prog (tH s62_13) (postV [.t 2] RV) (envV vs) M) : VCall Try.prog n_laws_toTermSS vs M RV :=
  vcall_of_wp (fun _ _ _ hl h => acall_of_wp mixed Try.func62 c62 (by kernel_rfl) hl h) hl h
@[go_sem] def l46_0 (_ : Unit) : KL := [kA 1 (.box (.t 0)),
  kB 2 (.alloc [(.sl none 0 0 true 0), (.sl none 0 0 true 0), (.sl none 0 0 true 0)]) [1, 2]]
@[go_sem] def l46_1 (_ : Unit) : KL := [kB 3 (.alloc [(.sl none 0 0 true 0), (.sl none 0 0 true 0), (.sl none 0 0 true 0)]) [1, 2, 3]]
@[go_sem] def l46_2 (_ : Unit) : KL := [kA 4 (.faddr (.t 1) 0),
  kA 5 (.load (.t 4) 1 false),
  kA 6 (.call (n_laws_toTermS) [(.t 5)]),
  kA 7 (.faddr (.t 3) 0),
  (⟨none, .store (.t 7) 1 (.t 6), none⟩, (some [1, 2, 3]))]
@[go_sem] def l46_3 (_ : Unit) : KL := [kA 8 (.faddr (.t 1) 1),
  kA 9 (.load (.t 8) 1 false),
  kA 10 (.call (n_laws_toIntS) [(.t 9)]),
  kA 11 (.faddr (.t 3) 1),
  (⟨none, .store (.t 11) 1 (.t 10), none⟩, (some [1, 2, 3]))]
@[go_sem] def l46_4 (_ : Unit) : KL := [kA 12 (.faddr (.t 1) 2),
  kA 13 (.load (.t 12) 1 false),
  kA 14 (.call (n_laws_toTermSS) [(.t 13)]),
  kA 15 (.faddr (.t 3) 2),
  (⟨none, .store (.t 15) 1 (.t 14), none⟩, (some [2, 3]))]
@[go_sem] def l46_5 (_ : Unit) : KL := [kA 16 (.load (.t 3) 3 true),
  (⟨none, .store (.t 2) 3 (.t 16), none⟩, (some [2]))]
@[go_sem] def s46_6 (_ : Unit) : IR := (sQ [(kT l46_0), (kT l46_1), (kT l46_2), (kT l46_3), (kT l46_4), (kT l46_5), .ret])
theorem c46 : compFn Try.prog [(0, [], [oN, oS [1, 2]]), (1, [], [oS [1, 2, 3]]), (2, [], [oN, oN, oN, oN, oS [1, 2, 3]]), (3, [], [oN, oN, oN, oN, oS [1, 2, 3]]), (4, [], [oN, oN, oN, oN, oS [2, 3]]), (5, [], [oN, oS [2]])] Try.f46 = some ⟨1, 17, [.c 2 3 true], (tH s46_6)⟩ := by kernel_rfl
theorem v_laws_toRule (hl : vs.length = 1) (h : wpV Try.prog (tH s46_6) (postV [.c 2 3 true] RV) (envV vs) M) : VCall Try.prog n_laws_toRule vs M RV :=
  vcall_of_wp (fun _ _ _ hl h => acall_of_wp mixed Try.func46 c46 (by kernel_rfl) hl h) hl h
@[go_sem] def l23_0 (_ : Unit) : KL := [kB 2 (.mv (.c (.sl none 0 0 true 0))) [0]]
@[go_sem] def l23_1 (_ : Unit) : KL := [kA 5 (.mv (.t 0)),
  kA 6 (.len (.t 5)),
  kA 7 (.mks [(.sl none 0 0 true 0), (.sl none 0 0 true 0), (.sl none 0 0 true 0)] 72 (.t 6)),
  kB 3 (.mv (.t 7)) [0, 3]]
@[go_sem] def l23_2 (_ : Unit) : KL := [kB 4 (.mv (cI 0)) [0, 3, 4]]
@[go_sem] def l23_3 (_ : Unit) : KL := [kA 8 (.mv (.t 4)),
  kA 9 (.mv (.t 0)),
  kA 10 (.len (.t 9)),
  kB 11 (.bin .lss (.t 8) (.t 10)) [0, 3, 4, 11]]
@[go_sem] def s23_4 (_ : Unit) : IR := (sQ [(kT l23_3), (.cond (.t 11) .skip (.exit 0))])
@[go_sem] def l23_5 (_ : Unit) : KL := [kA 14 (.mv (.t 3)),
  kA 15 (.mv (.t 4)),
  kA 16 (.mv (.t 0)),
  kA 17 (.mv (.t 4)),
  kB 18 (.iaddr (.t 16) (.t 17) 3) [0, 3, 4, 14, 15, 18],
  kA 19 (.load (.t 18) 3 true),
  kA 20 (.call (n_laws_toRule) [(.t 19)]),
  kA 21 (.iaddr (.t 14) (.t 15) 3),
  (⟨none, .store (.t 21) 3 (.t 20), none⟩, (some [0, 3, 4]))]
@[go_sem] def s23_6 (_ : Unit) : IR := (.block 1 (kT l23_5))
@[go_sem] def l23_7 (_ : Unit) : KL := [kA 12 (.mv (.t 4)),
  kA 13 (.bin .add (.t 12) (cI 1)),
  kB 4 (.mv (.t 13)) [0, 3, 4]]
@[go_sem] def s23_8 (_ : Unit) : IR := (sQ [(tH s23_4), (tH s23_6), (kT l23_7)])
@[go_sem] def s23_9 (_ : Unit) : IR := (.loop (tH s23_8))
@[go_sem] def s23_10 (_ : Unit) : IR := (.block 0 (tH s23_9))
@[go_sem] def s23_11 (_ : Unit) : IR := (sQ [(kT l23_2), (tH s23_10)])
@[go_sem] def l23_12 (_ : Unit) : KL := [kA 22 (.mv (.t 3)),
  kB 2 (.mv (.t 22)) [2]]
@[go_sem] def s23_13 (_ : Unit) : IR := (sQ [(kT l23_0), (kT l23_1), (tH s23_11), (kT l23_12), .ret])
theorem c23 : compFn Try.prog [(0, [], [oS [0]]), (1, [], [oN, oN, oN, oS [0, 3]]), (2, [], [oS [0, 3, 4]]), (3, [], [oN, oN, oN, oS [0, 3, 4, 11]]), (5, [], [oN, oN, oN, oN, oS [0, 3, 4, 14, 15, 18], oN, oN, oN, oS [0, 3, 4]]), (4, [], [oN, oN, oS [0, 3, 4]]), (6, [], [oN, oS [2]])] Try.f23 = some ⟨1, 23, [.t 2], (tH s23_13)⟩ := by kernel_rfl
theorem v_laws_toRuleS (hl : vs.length = 1) (h : wpV Try.prog (tH s23_13) (postV [.t 2] RV) (envV vs) M) : VCall Try.prog n_laws_toRuleS vs M RV :=
  vcall_of_wp (fun _ _ _ hl h => acall_of_wp mixed Try.func23 c23 (by kernel_rfl) hl h) hl h
@[go_sem] def l7_0 (_ : Unit) : KL := [kA 1 (.box (.t 0)),
  kB 2 (.alloc [(.sl none 0 0 true 0), (.sl none 0 0 true 0)]) [1, 2]]
@[go_sem] def l7_1 (_ : Unit) : KL := [kB 3 (.alloc [(.sl none 0 0 true 0), (.sl none 0 0 true 0)]) [1, 2, 3]]
@[go_sem] def l7_2 (_ : Unit) : KL := [kA 4 (.faddr (.t 1) 0),
  kA 5 (.load (.t 4) 1 false),
  kA 6 (.call (n_laws_toVarS) [(.t 5)]),
  kA 7 (.faddr (.t 3) 0),
  (⟨none, .store (.t 7) 1 (.t 6), none⟩, (some [1, 2, 3]))]
@[go_sem] def l7_3 (_ : Unit) : KL := [kA 8 (.faddr (.t 1) 1),
  kA 9 (.load (.t 8) 1 false),
  kA 10 (.call (n_laws_toRuleS) [(.t 9)]),
  kA 11 (.faddr (.t 3) 1),
  (⟨none, .store (.t 11) 1 (.t 10), none⟩, (some [2, 3]))]
@[go_sem] def l7_4 (_ : Unit) : KL := [kA 12 (.load (.t 3) 2 true),
  (⟨none, .store (.t 2) 2 (.t 12), none⟩, (some [2]))]
@[go_sem] def s7_5 (_ : Unit) : IR := (sQ [(kT l7_0), (kT l7_1), (kT l7_2), (kT l7_3), (kT l7_4), .ret])
theorem c7 : compFn Try.prog [(0, [], [oN, oS [1, 2]]), (1, [], [oS [1, 2, 3]]), (2, [], [oN, oN, oN, oN, oS [1, 2, 3]]), (3, [], [oN, oN, oN, oN, oS [2, 3]]), (4, [], [oN, oS [2]])] Try.f7 = some ⟨1, 13, [.c 2 2 true], (tH s7_5)⟩ := by kernel_rfl
theorem v_laws_toSystem (hl : vs.length = 1) (h : wpV Try.prog (tH s7_5) (postV [.c 2 2 true] RV) (envV vs) M) : VCall Try.prog n_laws_toSystem vs M RV :=
  vcall_of_wp (fun _ _ _ hl h => acall_of_wp mixed Try.func7 c7 (by kernel_rfl) hl h) hl h
@[go_sem] def l24_0 (_ : Unit) : KL := [kB 2 (.mv (.c (.sl none 0 0 true 0))) [0]]
@[go_sem] def l24_1 (_ : Unit) : KL := [kA 5 (.mv (.t 0)),
  kA 6 (.len (.t 5)),
  kA 7 (.mks [(.sl none 0 0 true 0)] 24 (.t 6)),
  kB 3 (.mv (.t 7)) [0, 3]]
@[go_sem] def l24_2 (_ : Unit) : KL := [kB 4 (.mv (cI 0)) [0, 3, 4]]
@[go_sem] def l24_3 (_ : Unit) : KL := [kA 8 (.mv (.t 4)),
  kA 9 (.mv (.t 0)),
  kA 10 (.len (.t 9)),
  kB 11 (.bin .lss (.t 8) (.t 10)) [0, 3, 4, 11]]
@[go_sem] def s24_4 (_ : Unit) : IR := (sQ [(kT l24_3), (.cond (.t 11) .skip (.exit 0))])
@[go_sem] def l24_5 (_ : Unit) : KL := [kA 14 (.mv (.t 3)),
  kA 15 (.mv (.t 4)),
  kA 16 (.mv (.t 0)),
  kA 17 (.mv (.t 4)),
  kB 18 (.iaddr (.t 16) (.t 17) 1) [0, 3, 4, 14, 15, 18],
  kA 19 (.load (.t 18) 1 false),
  kA 20 (.call (n_laws_toIntS) [(.t 19)]),
  kA 21 (.iaddr (.t 14) (.t 15) 1),
  (⟨none, .store (.t 21) 1 (.t 20), none⟩, (some [0, 3, 4]))]
@[go_sem] def s24_6 (_ : Unit) : IR := (.block 1 (kT l24_5))
@[go_sem] def l24_7 (_ : Unit) : KL := [kA 12 (.mv (.t 4)),
  kA 13 (.bin .add (.t 12) (cI 1)),
  kB 4 (.mv (.t 13)) [0, 3, 4]]
@[go_sem] def s24_8 (_ : Unit) : IR := (sQ [(tH s24_4), (tH s24_6), (kT l24_7)])
@[go_sem] def s24_9 (_ : Unit) : IR := (.loop (tH s24_8))
@[go_sem] def s24_10 (_ : Unit) : IR := (.block 0 (tH s24_9))
@[go_sem] def s24_11 (_ : Unit) : IR := (sQ [(kT l24_2), (tH s24_10)])
@[go_sem] def l24_12 (_ : Unit) : KL := [kA 22 (.mv (.t 3)),
  kB 2 (.mv (.t 22)) [2]]
@[go_sem] def s24_13 (_ : Unit) : IR := (sQ [(kT l24_0), (kT l24_1), (tH s24_11), (kT l24_12), .ret])
theorem c24 : compFn Try.prog [(0, [], [oS [0]]), (1, [], [oN, oN, oN, oS [0, 3]]), (2, [], [oS [0, 3, 4]]), (3, [], [oN, oN, oN, oS [0, 3, 4, 11]]), (5, [], [oN, oN, oN, oN, oS [0, 3, 4, 14, 15, 18], oN, oN, oN, oS [0, 3, 4]]), (4, [], [oN, oN, oS [0, 3, 4]]), (6, [], [oN, oS [2]])] Try.f24 = some ⟨1, 23, [.t 2], (tH s24_13)⟩ := by kernel_rfl
theorem v_laws_toIntSS (hl : vs.length = 1) (h : wpV Try.prog (tH s24_13) (postV [.t 2] RV) (envV vs) M) : VCall Try.prog n_laws_toIntSS vs M RV :=
  vcall_of_wp (fun _ _ _ hl h => acall_of_wp mixed Try.func24 c24 (by kernel_rfl) hl h) hl h
@[go_sem] def l8_0 (_ : Unit) : KL := [kA 1 (.box (.t 0)),
  kB 2 (.alloc [(.sl none 0 0 true 0), (.sl none 0 0 true 0)]) [1, 2]]
@[go_sem] def l8_1 (_ : Unit) : KL := [kB 3 (.alloc [(.sl none 0 0 true 0), (.sl none 0 0 true 0)]) [1, 2, 3]]
@[go_sem] def l8_2 (_ : Unit) : KL := [kA 4 (.faddr (.t 1) 0),
  kA 5 (.load (.t 4) 1 false),
  kA 6 (.call (n_laws_toIntSS) [(.t 5)]),
  kA 7 (.faddr (.t 3) 0),
  (⟨none, .store (.t 7) 1 (.t 6), none⟩, (some [1, 2, 3]))]
@[go_sem] def l8_3 (_ : Unit) : KL := [kA 8 (.faddr (.t 1) 1),
  kA 9 (.load (.t 8) 1 false),
  kA 10 (.call (n_laws_toIntS) [(.t 9)]),
  kA 11 (.faddr (.t 3) 1),
  (⟨none, .store (.t 11) 1 (.t 10), none⟩, (some [2, 3]))]
@[go_sem] def l8_4 (_ : Unit) : KL := [kA 12 (.load (.t 3) 2 true),
  (⟨none, .store (.t 2) 2 (.t 12), none⟩, (some [2]))]
@[go_sem] def s8_5 (_ : Unit) : IR := (sQ [(kT l8_0), (kT l8_1), (kT l8_2), (kT l8_3), (kT l8_4), .ret])
theorem c8 : compFn Try.prog [(0, [], [oN, oS [1, 2]]), (1, [], [oS [1, 2, 3]]), (2, [], [oN, oN, oN, oN, oS [1, 2, 3]]), (3, [], [oN, oN, oN, oN, oS [2, 3]]), (4, [], [oN, oS [2]])] Try.f8 = some ⟨1, 13, [.c 2 2 true], (tH s8_5)⟩ := by kernel_rfl
theorem v_laws_toTrace (hl : vs.length = 1) (h : wpV Try.prog (tH s8_5) (postV [.c 2 2 true] RV) (envV vs) M) : VCall Try.prog n_laws_toTrace vs M RV :=
  vcall_of_wp (fun _ _ _ hl h => acall_of_wp mixed Try.func8 c8 (by kernel_rfl) hl h) hl h
@[go_sem] def l42_0 (_ : Unit) : KL := [kB 6 (.mv (.c (.bool false))) [0, 1, 2]]
@[go_sem] def l42_1 (_ : Unit) : KL := [kA 7 (.mv (.t 0)),
  kA 8 (.mv (.t 1)),
  kA 9 (.bin .geq (.t 7) (.t 8)),
  kA 10 (.mv (.t 9)),
  (⟨(some 11), .mv (.t 0), (some (10, true))⟩, (some [2, 10, 11])),
  (⟨(some 12), .mv (.t 2), (some (10, true))⟩, none),
  (⟨(some 13), .bin .leq (.t 11) (.t 12), (some (10, true))⟩, none),
  kA 14 (.pick (.t 10) (.t 13) (.c (.bool false))),
  kB 6 (.mv (.t 14)) [6]]
@[go_sem] def s42_2 (_ : Unit) : IR := (sQ [(kT l42_0), (kT l42_1), .ret])
theorem c42 : compFn Try.prog [(0, [], [oS [0, 1, 2]]), (1, [], [oN, oN, oN, oN, oS [2, 10, 11], oN, oN, oN, oS [6]])] Try.f42 = some ⟨3, 15, [.t 6], (tH s42_2)⟩ := by kernel_rfl
theorem v_spec_l1In (hl : vs.length = 3) (h : wpV Try.prog (tH s42_2) (postV [.t 6] RV) (envV vs) M) : VCall Try.prog n_spec_l1In vs M RV :=
  vcall_of_wp (fun _ _ _ hl h => acall_of_wp mixed Try.func42 c42 (by kernel_rfl) hl h) hl h
@[go_sem] def l57_0 (_ : Unit) : KL := [kA 1 (.box (.t 0)),
  kB 2 (.mv (.c (.bool false))) [1]]
@[go_sem] def l57_1 (_ : Unit) : KL := [kA 3 (.faddr (.t 1) 0),
  kA 4 (.load (.t 3) 1 false),
  kA 5 (.call (n_spec_l1In) [(.t 4), (.c (.int .i64 (-9999))), (.c (.int .i64 9999))]),
  kA 6 (.mv (.t 5)),
  (⟨(some 7), .faddr (.t 1) 1, (some (6, true))⟩, (some [1, 6, 7])),
  (⟨(some 8), .load (.t 7) 1 false, (some (6, true))⟩, none),
  (⟨(some 9), .faddr (.t 1) 0, (some (6, true))⟩, none),
  (⟨(some 10), .load (.t 9) 1 false, (some (6, true))⟩, none),
  (⟨(some 11), .call (n_spec_l1In) [(.t 8), (.t 10), (.c (.int .i64 9999))], (some (6, true))⟩, none),
  kB 12 (.pick (.t 6) (.t 11) (.c (.bool false))) [1, 12],
  kA 13 (.mv (.t 12)),
  (⟨(some 14), .faddr (.t 1) 1, (some (13, true))⟩, none),
  (⟨(some 15), .load (.t 14) 1 false, (some (13, true))⟩, none),
  (⟨(some 16), .faddr (.t 1) 0, (some (13, true))⟩, none),
  (⟨(some 17), .load (.t 16) 1 false, (some (13, true))⟩, (some [1, 13, 15, 17])),
  (⟨(some 18), .bin .sub (.t 15) (.t 17), (some (13, true))⟩, none),
  (⟨(some 19), .bin .lss (.t 18) (.c (.int .i64 20)), (some (13, true))⟩, none),
  kA 20 (.pick (.t 13) (.t 19) (.c (.bool false))),
  kA 21 (.mv (.t 20)),
  (⟨(some 22), .faddr (.t 1) 2, (some (21, true))⟩, (some [1, 21, 22])),
  (⟨(some 23), .load (.t 22) 1 false, (some (21, true))⟩, none),
  (⟨(some 24), .faddr (.t 1) 0, (some (21, true))⟩, none),
  (⟨(some 25), .load (.t 24) 1 false, (some (21, true))⟩, none),
  (⟨(some 26), .faddr (.t 1) 1, (some (21, true))⟩, none),
  (⟨(some 27), .load (.t 26) 1 false, (some (21, true))⟩, (some [21, 23, 25, 27])),
  (⟨(some 28), .call (n_spec_l1In) [(.t 23), (.t 25), (.t 27)], (some (21, true))⟩, none),
  kA 29 (.pick (.t 21) (.t 28) (.c (.bool false))),
  kB 2 (.mv (.t 29)) [2]]
@[go_sem] def s57_2 (_ : Unit) : IR := (sQ [(kT l57_0), (kT l57_1), .ret])
theorem c57 : compFn Try.prog [(0, [], [oN, oS [1]]), (1, [], [oN, oN, oN, oN, oS [1, 6, 7], oN, oN, oN, oN, oS [1, 12], oN, oN, oN, oN, oS [1, 13, 15, 17], oN, oN, oN, oN, oS [1, 21, 22], oN, oN, oN, oN, oS [21, 23, 25, 27], oN, oN, oS [2]])] Try.f57 = some ⟨1, 30, [.t 2], (tH s57_2)⟩ := by kernel_rfl
theorem v_spec_l2Var (hl : vs.length = 1) (h : wpV Try.prog (tH s57_2) (postV [.t 2] RV) (envV vs) M) : VCall Try.prog n_spec_l2Var vs M RV :=
  vcall_of_wp (fun _ _ _ hl h => acall_of_wp mixed Try.func57 c57 (by kernel_rfl) hl h) hl h
@[go_sem] def l91_0 (_ : Unit) : KL := [kB 2 (.mv (.c (.bool false))) [0]]
@[go_sem] def l91_1 (_ : Unit) : KL := [kA 3 (.mv (.t 0)),
  kA 4 (.bin .eql (.t 3) (.c (.int .i64 7))),
  kB 2 (.mv (.t 4)) [2]]
@[go_sem] def s91_2 (_ : Unit) : IR := (sQ [(kT l91_0), (kT l91_1), .ret])
theorem c91 : compFn Try.prog [(0, [], [oS [0]]), (1, [], [oN, oN, oS [2]])] Try.f91 = some ⟨1, 5, [.t 2], (tH s91_2)⟩ := by kernel_rfl
theorem v_spec_l1One (hl : vs.length = 1) (h : wpV Try.prog (tH s91_2) (postV [.t 2] RV) (envV vs) M) : VCall Try.prog n_spec_l1One vs M RV :=
  vcall_of_wp (fun _ _ _ hl h => acall_of_wp mixed Try.func91 c91 (by kernel_rfl) hl h) hl h
@[go_sem] def l87_0 (_ : Unit) : KL := [kA 3 (.box (.t 0)),
  kB 6 (.mv (cI 0)) [1, 2, 3]]
@[go_sem] def l87_1 (_ : Unit) : KL := [kA 8 (.faddr (.t 3) 0),
  kA 9 (.load (.t 8) 1 false),
  kA 10 (.bin .eql (.t 9) (cI 0)),
  kA 11 (.mv (.t 10)),
  (⟨(some 12), .faddr (.t 3) 1, (some (11, true))⟩, (some [1, 2, 3, 11, 12])),
  (⟨(some 13), .load (.t 12) 1 false, (some (11, true))⟩, none),
  (⟨(some 14), .call (n_spec_l1In) [(.t 13), (.c (.int .i64 (-9999))), (.c (.int .i64 9999))], (some (11, true))⟩, none),
  kA 15 (.pick (.t 11) (.t 14) (.c (.bool false))),
  kA 16 (.mv (.t 15)),
  (⟨(some 17), .faddr (.t 3) 2, (some (16, true))⟩, (some [1, 2, 3, 16, 17])),
  (⟨(some 18), .load (.t 17) 1 false, (some (16, true))⟩, none),
  (⟨(some 19), .bin .eql (.t 18) (cI 0), (some (16, true))⟩, none),
  kA 20 (.pick (.t 16) (.t 19) (.c (.bool false))),
  kA 21 (.mv (.t 20)),
  (⟨(some 22), .faddr (.t 3) 3, (some (21, true))⟩, (some [1, 2, 3, 21, 22])),
  (⟨(some 23), .load (.t 22) 1 false, (some (21, true))⟩, none),
  (⟨(some 24), .bin .eql (.t 23) (cI 0), (some (21, true))⟩, none),
  kB 25 (.pick (.t 21) (.t 24) (.c (.bool false))) [1, 2, 3, 25]]
@[go_sem] def l87_2 (_ : Unit) : KL := [kB 6 (.mv (cI 1)) [6]]
@[go_sem] def s87_3 (_ : Unit) : IR := (sQ [(kT l87_2), .ret])
@[go_sem] def s87_4 (_ : Unit) : IR := (sQ [(kT l87_1), (.cond (.t 25) (tH s87_3) .skip)])
@[go_sem] def l87_5 (_ : Unit) : KL := [kA 26 (.faddr (.t 3) 0),
  kA 27 (.load (.t 26) 1 false),
  kA 28 (.bin .eql (.t 27) (cI 1)),
  kA 29 (.mv (.t 28)),
  (⟨(some 30), .faddr (.t 3) 1, (some (29, true))⟩, (some [1, 2, 3, 29, 30])),
  (⟨(some 31), .load (.t 30) 1 false, (some (29, true))⟩, none),
  (⟨(some 32), .mv (.t 2), (some (29, true))⟩, none),
  (⟨(some 33), .bin .sub (.t 32) (cI 1), (some (29, true))⟩, none),
  (⟨(some 34), .call (n_spec_l1In) [(.t 31), (cI 0), (.t 33)], (some (29, true))⟩, none),
  kB 35 (.pick (.t 29) (.t 34) (.c (.bool false))) [1, 3, 35],
  kA 36 (.mv (.t 35)),
  (⟨(some 37), .faddr (.t 3) 2, (some (36, true))⟩, none),
  (⟨(some 38), .load (.t 37) 1 false, (some (36, true))⟩, none),
  (⟨(some 39), .bin .eql (.t 38) (cI 0), (some (36, true))⟩, none),
  kB 40 (.pick (.t 36) (.t 39) (.c (.bool false))) [1, 3, 40],
  kA 41 (.mv (.t 40)),
  (⟨(some 42), .faddr (.t 3) 3, (some (41, true))⟩, none),
  (⟨(some 43), .load (.t 42) 1 false, (some (41, true))⟩, none),
  (⟨(some 44), .bin .eql (.t 43) (cI 0), (some (41, true))⟩, none),
  kB 45 (.pick (.t 41) (.t 44) (.c (.bool false))) [1, 3, 45]]
@[go_sem] def l87_6 (_ : Unit) : KL := [kB 6 (.mv (cI 1)) [6]]
@[go_sem] def s87_7 (_ : Unit) : IR := (sQ [(kT l87_6), .ret])
@[go_sem] def s87_8 (_ : Unit) : IR := (sQ [(kT l87_5), (.cond (.t 45) (tH s87_7) .skip)])
@[go_sem] def l87_9 (_ : Unit) : KL := [kA 46 (.faddr (.t 3) 0),
  kA 47 (.load (.t 46) 1 false),
  kA 48 (.call (n_spec_l1In) [(.t 47), (.c (.int .i64 2)), (.c (.int .i64 9))]),
  kA 49 (.un .not (.t 48)),
  kB 50 (.mv (.t 49)) [1, 3, 50],
  (⟨(some 51), .faddr (.t 3) 1, (some (50, false))⟩, none),
  (⟨(some 52), .load (.t 51) 1 false, (some (50, false))⟩, none),
  (⟨(some 53), .bin .neq (.t 52) (cI 0), (some (50, false))⟩, none),
  kA 54 (.pick (.t 50) (.c (.bool true)) (.t 53)),
  kB 55 (.mv (.t 54)) [1, 3, 55],
  (⟨(some 56), .faddr (.t 3) 2, (some (55, false))⟩, none),
  (⟨(some 57), .load (.t 56) 1 false, (some (55, false))⟩, none),
  (⟨(some 58), .mv (.t 1), (some (55, false))⟩, none),
  (⟨(some 59), .len (.t 58), (some (55, false))⟩, none),
  (⟨(some 60), .bin .sub (.t 59) (cI 1), (some (55, false))⟩, (some [1, 3, 55, 57, 60])),
  (⟨(some 61), .call (n_spec_l1In) [(.t 57), (cI 0), (.t 60)], (some (55, false))⟩, none),
  (⟨(some 62), .un .not (.t 61), (some (55, false))⟩, none),
  kA 63 (.pick (.t 55) (.c (.bool true)) (.t 62)),
  kA 64 (.mv (.t 63)),
  (⟨(some 65), .faddr (.t 3) 3, (some (64, false))⟩, (some [1, 3, 64, 65])),
  (⟨(some 66), .load (.t 65) 1 false, (some (64, false))⟩, none),
  (⟨(some 67), .mv (.t 1), (some (64, false))⟩, none),
  (⟨(some 68), .len (.t 67), (some (64, false))⟩, none),
  (⟨(some 69), .bin .sub (.t 68) (cI 1), (some (64, false))⟩, none),
  (⟨(some 70), .call (n_spec_l1In) [(.t 66), (cI 0), (.t 69)], (some (64, false))⟩, (some [1, 3, 64, 70])),
  (⟨(some 71), .un .not (.t 70), (some (64, false))⟩, none),
  kB 72 (.pick (.t 64) (.c (.bool true)) (.t 71)) [1, 3, 72]]
@[go_sem] def l87_10 (_ : Unit) : KL := [kB 6 (.mv (cI 0)) [6]]
@[go_sem] def s87_11 (_ : Unit) : IR := (sQ [(kT l87_10), .ret])
@[go_sem] def s87_12 (_ : Unit) : IR := (sQ [(kT l87_9), (.cond (.t 72) (tH s87_11) .skip)])
@[go_sem] def l87_13 (_ : Unit) : KL := [kB 7 (.mv (cI 1)) [1, 3, 7]]
@[go_sem] def l87_14 (_ : Unit) : KL := [kA 73 (.faddr (.t 3) 0),
  kA 74 (.load (.t 73) 1 false),
  kB 75 (.bin .geq (.t 74) (.c (.int .i64 7))) [1, 3, 7, 75]]
@[go_sem] def l87_15 (_ : Unit) : KL := [kB 7 (.mv (.c (.int .i64 2))) [1, 3, 7]]
@[go_sem] def s87_16 (_ : Unit) : IR := (sQ [(kT l87_14), (.cond (.t 75) (kT l87_15) .skip)])
@[go_sem] def l87_17 (_ : Unit) : KL := [kA 76 (.mv (.t 1)),
  kA 77 (.faddr (.t 3) 2),
  kA 78 (.load (.t 77) 1 false),
  kA 79 (.iaddr (.t 76) (.t 78) 1),
  kB 80 (.load (.t 79) 1 false) [1, 3, 7, 80],
  kA 81 (.mv (.t 7)),
  kA 82 (.bin .neq (.t 80) (.t 81)),
  kA 83 (.mv (.t 82)),
  (⟨(some 84), .mv (.t 1), (some (83, false))⟩, none),
  (⟨(some 85), .faddr (.t 3) 3, (some (83, false))⟩, (some [3, 7, 83, 84, 85])),
  (⟨(some 86), .load (.t 85) 1 false, (some (83, false))⟩, none),
  (⟨(some 87), .iaddr (.t 84) (.t 86) 1, (some (83, false))⟩, none),
  (⟨(some 88), .load (.t 87) 1 false, (some (83, false))⟩, none),
  (⟨(some 89), .mv (.t 7), (some (83, false))⟩, none),
  (⟨(some 90), .bin .neq (.t 88) (.t 89), (some (83, false))⟩, (some [3, 83, 90])),
  kA 91 (.pick (.t 83) (.c (.bool true)) (.t 90)),
  kA 92 (.mv (.t 91)),
  (⟨(some 93), .faddr (.t 3) 0, (some (92, false))⟩, none),
  (⟨(some 94), .load (.t 93) 1 false, (some (92, false))⟩, none),
  (⟨(some 95), .call (n_spec_l1One) [(.t 94)], (some (92, false))⟩, (some [3, 92, 95])),
  (⟨(some 96), .mv (.t 95), (some (92, false))⟩, none),
  (⟨(some 97), .faddr (.t 3) 3, (some (96, true))⟩, none),
  (⟨(some 98), .load (.t 97) 1 false, (some (96, true))⟩, none),
  (⟨(some 99), .faddr (.t 3) 2, (some (96, true))⟩, none),
  (⟨(some 100), .load (.t 99) 1 false, (some (96, true))⟩, (some [3, 92, 96, 98, 100])),
  (⟨(some 101), .bin .neq (.t 98) (.t 100), (some (96, true))⟩, none),
  (⟨(some 102), .pick (.t 96) (.t 101) (.c (.bool false)), (some (92, false))⟩, none),
  kB 103 (.pick (.t 92) (.c (.bool true)) (.t 102)) [3, 103]]
@[go_sem] def l87_18 (_ : Unit) : KL := [kB 6 (.mv (cI 0)) [6]]
@[go_sem] def s87_19 (_ : Unit) : IR := (sQ [(kT l87_18), .ret])
@[go_sem] def s87_20 (_ : Unit) : IR := (sQ [(kT l87_17), (.cond (.t 103) (tH s87_19) .skip)])
@[go_sem] def l87_21 (_ : Unit) : KL := [kA 104 (.faddr (.t 3) 0),
  kA 105 (.load (.t 104) 1 false),
  kB 106 (.bin .geq (.t 105) (.c (.int .i64 5))) [106]]
@[go_sem] def l87_22 (_ : Unit) : KL := [kB 6 (.mv (.c (.int .i64 2))) [6]]
@[go_sem] def s87_23 (_ : Unit) : IR := (sQ [(kT l87_22), .ret])
@[go_sem] def s87_24 (_ : Unit) : IR := (sQ [(kT l87_21), (.cond (.t 106) (tH s87_23) .skip)])
@[go_sem] def l87_25 (_ : Unit) : KL := [kB 6 (.mv (cI 1)) [6]]
@[go_sem] def s87_26 (_ : Unit) : IR := (sQ [(kT l87_0), (tH s87_4), (tH s87_8), (tH s87_12), (kT l87_13), (tH s87_16), (tH s87_20), (tH s87_24), (kT l87_25), .ret])
theorem c87 : compFn Try.prog [(0, [], [oN, oS [1, 2, 3]]), (1, [], [oN, oN, oN, oN, oS [1, 2, 3, 11, 12], oN, oN, oN, oN, oS [1, 2, 3, 16, 17], oN, oN, oN, oN, oS [1, 2, 3, 21, 22], oN, oN, oS [1, 2, 3, 25]]), (2, [], [oS [6]]), (3, [], [oN, oN, oN, oN, oS [1, 2, 3, 29, 30], oN, oN, oN, oN, oS [1, 3, 35], oN, oN, oN, oN, oS [1, 3, 40], oN, oN, oN, oN, oS [1, 3, 45]]), (4, [], [oS [6]]), (5, [], [oN, oN, oN, oN, oS [1, 3, 50], oN, oN, oN, oN, oS [1, 3, 55], oN, oN, oN, oN, oS [1, 3, 55, 57, 60], oN, oN, oN, oN, oS [1, 3, 64, 65], oN, oN, oN, oN, oS [1, 3, 64, 70], oN, oS [1, 3, 72]]), (6, [], [oS [6]]), (7, [], [oS [1, 3, 7]]), (8, [], [oN, oN, oS [1, 3, 7, 75]]), (9, [], [oS [1, 3, 7]]), (10, [], [oN, oN, oN, oN, oS [1, 3, 7, 80], oN, oN, oN, oN, oS [3, 7, 83, 84, 85], oN, oN, oN, oN, oS [3, 83, 90], oN, oN, oN, oN, oS [3, 92, 95], oN, oN, oN, oN, oS [3, 92, 96, 98, 100], oN, oN, oS [3, 103]]), (11, [], [oS [6]]), (12, [], [oN, oN, oS [106]]), (13, [], [oS [6]]), (14, [], [oS [6]])] Try.f87 = some ⟨3, 107, [.t 6], (tH s87_26)⟩ := by kernel_rfl
theorem v_spec_l1Kind (hl : vs.length = 3) (h : wpV Try.prog (tH s87_26) (postV [.t 6] RV) (envV vs) M) : VCall Try.prog n_spec_l1Kind vs M RV :=
  vcall_of_wp (fun _ _ _ hl h => acall_of_wp mixed Try.func87 c87 (by kernel_rfl) hl h) hl h
@[go_sem] def l82_0 (_ : Unit) : KL := [kB 4 (.mv (.c (.sl none 0 0 true 0))) [0, 1]]
@[go_sem] def l82_1 (_ : Unit) : KL := [kA 8 (.mv (.t 1)),
  kA 9 (.call (n_spec_l1In) [(.t 8), (cI 0), (.c (.int .i64 5))]),
  kA 10 (.un .not (.t 9)),
  kA 11 (.mv (.t 10)),
  (⟨(some 12), .mv (.t 0), (some (11, false))⟩, (some [0, 1, 11, 12])),
  (⟨(some 13), .len (.t 12), (some (11, false))⟩, none),
  (⟨(some 14), .call (n_spec_l1In) [(.t 13), (cI 1), (.c (.int .i64 40))], (some (11, false))⟩, none),
  (⟨(some 15), .un .not (.t 14), (some (11, false))⟩, none),
  kB 16 (.pick (.t 11) (.c (.bool true)) (.t 15)) [0, 1, 16]]
@[go_sem] def l82_2 (_ : Unit) : KL := [kB 4 (.mv (.c (.sl none 0 0 true 0))) [4]]
@[go_sem] def s82_3 (_ : Unit) : IR := (sQ [(kT l82_2), .ret])
@[go_sem] def s82_4 (_ : Unit) : IR := (sQ [(kT l82_1), (.cond (.t 16) (tH s82_3) .skip)])
@[go_sem] def l82_5 (_ : Unit) : KL := [kA 17 (.bslc 1 0 [(.int .i64 0)] []),
  kB 5 (.mv (.t 17)) [0, 1, 5]]
@[go_sem] def l82_6 (_ : Unit) : KL := [kB 6 (.mv (cI 0)) [0, 1, 5, 6]]
@[go_sem] def l82_7 (_ : Unit) : KL := [kA 18 (.mv (.t 6)),
  kA 19 (.mv (.t 0)),
  kA 20 (.len (.t 19)),
  kB 21 (.bin .lss (.t 18) (.t 20)) [0, 1, 5, 6, 21]]
@[go_sem] def s82_8 (_ : Unit) : IR := (sQ [(kT l82_7), (.cond (.t 21) .skip (.exit 0))])
@[go_sem] def l82_9 (_ : Unit) : KL := [kA 24 (.mv (.t 0)),
  kA 25 (.mv (.t 6)),
  kA 26 (.iaddr (.t 24) (.t 25) 4),
  kA 27 (.load (.t 26) 4 true),
  kB 28 (.mv (.t 5)) [0, 1, 5, 6, 27, 28],
  kA 29 (.mv (.t 1)),
  kA 30 (.call (n_spec_l1Kind) [(.t 27), (.t 28), (.t 29)]),
  kB 7 (.mv (.t 30)) [0, 1, 5, 6, 7]]
@[go_sem] def l82_10 (_ : Unit) : KL := [kA 31 (.mv (.t 7)),
  kB 32 (.bin .eql (.t 31) (cI 0)) [0, 1, 5, 6, 7, 32]]
@[go_sem] def l82_11 (_ : Unit) : KL := [kB 4 (.mv (.c (.sl none 0 0 true 0))) [4]]
@[go_sem] def s82_12 (_ : Unit) : IR := (sQ [(kT l82_11), .ret])
@[go_sem] def s82_13 (_ : Unit) : IR := (sQ [(kT l82_10), (.cond (.t 32) (tH s82_12) .skip)])
@[go_sem] def l82_14 (_ : Unit) : KL := [kA 33 (.mv (.t 5)),
  kA 34 (.mv (.t 7)),
  kA 35 (.bslc 1 1 [(.int .i64 0)] [(0, (.t 34))]),
  kA 36 (.app 1 8 (.t 33) (.t 35)),
  kB 5 (.mv (.t 36)) [0, 1, 5, 6]]
@[go_sem] def s82_15 (_ : Unit) : IR := (sQ [(kT l82_9), (tH s82_13), (kT l82_14)])
@[go_sem] def s82_16 (_ : Unit) : IR := (.block 1 (tH s82_15))
@[go_sem] def l82_17 (_ : Unit) : KL := [kA 22 (.mv (.t 6)),
  kA 23 (.bin .add (.t 22) (cI 1)),
  kB 6 (.mv (.t 23)) [0, 1, 5, 6]]
@[go_sem] def s82_18 (_ : Unit) : IR := (sQ [(tH s82_8), (tH s82_16), (kT l82_17)])
@[go_sem] def s82_19 (_ : Unit) : IR := (.loop (tH s82_18))
@[go_sem] def s82_20 (_ : Unit) : IR := (.block 0 (tH s82_19))
@[go_sem] def s82_21 (_ : Unit) : IR := (sQ [(kT l82_6), (tH s82_20)])
@[go_sem] def l82_22 (_ : Unit) : KL := [kA 37 (.mv (.t 5)),
  kB 4 (.mv (.t 37)) [4]]
@[go_sem] def s82_23 (_ : Unit) : IR := (sQ [(kT l82_0), (tH s82_4), (kT l82_5), (tH s82_21), (kT l82_22), .ret])
theorem c82 : compFn Try.prog [(0, [], [oS [0, 1]]), (1, [], [oN, oN, oN, oN, oS [0, 1, 11, 12], oN, oN, oN, oS [0, 1, 16]]), (2, [], [oS [4]]), (3, [], [oN, oS [0, 1, 5]]), (4, [], [oS [0, 1, 5, 6]]), (5, [], [oN, oN, oN, oS [0, 1, 5, 6, 21]]), (7, [], [oN, oN, oN, oN, oS [0, 1, 5, 6, 27, 28], oN, oN, oS [0, 1, 5, 6, 7]]), (8, [], [oN, oS [0, 1, 5, 6, 7, 32]]), (9, [], [oS [4]]), (10, [], [oN, oN, oN, oN, oS [0, 1, 5, 6]]), (6, [], [oN, oN, oS [0, 1, 5, 6]]), (11, [], [oN, oS [4]])] Try.f82 = some ⟨2, 38, [.t 4], (tH s82_23)⟩ := by kernel_rfl
theorem v_spec_KindsOf (hl : vs.length = 2) (h : wpV Try.prog (tH s82_23) (postV [.t 4] RV) (envV vs) M) : VCall Try.prog n_spec_KindsOf vs M RV :=
  vcall_of_wp (fun _ _ _ hl h => acall_of_wp mixed Try.func82 c82 (by kernel_rfl) hl h) hl h
@[go_sem] def l74_0 (_ : Unit) : KL := [kB 6 (.mv (.c (.bool false))) [0, 1, 2]]
@[go_sem] def l74_1 (_ : Unit) : KL := [kA 8 (.mv (.t 0)),
  kA 9 (.mv (.t 1)),
  kA 10 (.call (n_spec_KindsOf) [(.t 8), (.t 9)]),
  kB 7 (.mv (.t 10)) [2, 7]]
@[go_sem] def l74_2 (_ : Unit) : KL := [kA 11 (.mv (.t 7)),
  kA 12 (.len (.t 11)),
  kA 13 (.bin .gtr (.t 12) (cI 0)),
  kA 14 (.mv (.t 13)),
  (⟨(some 15), .mv (.t 7), (some (14, true))⟩, (some [2, 7, 14, 15])),
  (⟨(some 16), .mv (.t 7), (some (14, true))⟩, none),
  (⟨(some 17), .len (.t 16), (some (14, true))⟩, none),
  (⟨(some 18), .bin .sub (.t 17) (cI 1), (some (14, true))⟩, none),
  (⟨(some 19), .iaddr (.t 15) (.t 18) 1, (some (14, true))⟩, none),
  (⟨(some 20), .load (.t 19) 1 false, (some (14, true))⟩, (some [2, 14, 20])),
  (⟨(some 21), .mv (.t 2), (some (14, true))⟩, none),
  (⟨(some 22), .bin .eql (.t 20) (.t 21), (some (14, true))⟩, none),
  kA 23 (.pick (.t 14) (.t 22) (.c (.bool false))),
  kB 6 (.mv (.t 23)) [6]]
@[go_sem] def s74_3 (_ : Unit) : IR := (sQ [(kT l74_0), (kT l74_1), (kT l74_2), .ret])
theorem c74 : compFn Try.prog [(0, [], [oS [0, 1, 2]]), (1, [], [oN, oN, oN, oS [2, 7]]), (2, [], [oN, oN, oN, oN, oS [2, 7, 14, 15], oN, oN, oN, oN, oS [2, 14, 20], oN, oN, oN, oS [6]])] Try.f74 = some ⟨3, 24, [.t 6], (tH s74_3)⟩ := by kernel_rfl
theorem v_spec_l2Is (hl : vs.length = 3) (h : wpV Try.prog (tH s74_3) (postV [.t 6] RV) (envV vs) M) : VCall Try.prog n_spec_l2Is vs M RV :=
  vcall_of_wp (fun _ _ _ hl h => acall_of_wp mixed Try.func74 c74 (by kernel_rfl) hl h) hl h
@[go_sem] def l58_0 (_ : Unit) : KL := [kA 2 (.box (.t 0)),
  kB 4 (.mv (.c (.bool false))) [1, 2]]
@[go_sem] def l58_1 (_ : Unit) : KL := [kA 6 (.faddr (.t 2) 0),
  kA 7 (.load (.t 6) 1 false),
  kA 8 (.mv (.t 1)),
  kA 9 (.call (n_spec_l2Is) [(.t 7), (.t 8), (.c (.int .i64 2))]),
  kB 10 (.un .not (.t 9)) [1, 2, 10],
  kA 11 (.mv (.t 10)),
  (⟨(some 12), .faddr (.t 2) 1, (some (11, false))⟩, none),
  (⟨(some 13), .load (.t 12) 1 false, (some (11, false))⟩, none),
  (⟨(some 14), .len (.t 13), (some (11, false))⟩, none),
  (⟨(some 15), .faddr (.t 2) 2, (some (11, false))⟩, (some [1, 2, 11, 14, 15])),
  (⟨(some 16), .load (.t 15) 1 false, (some (11, false))⟩, none),
  (⟨(some 17), .len (.t 16), (some (11, false))⟩, none),
  (⟨(some 18), .bin .neq (.t 14) (.t 17), (some (11, false))⟩, none),
  kA 19 (.pick (.t 11) (.c (.bool true)) (.t 18)),
  kB 20 (.mv (.t 19)) [1, 2, 20],
  (⟨(some 21), .faddr (.t 2) 1, (some (20, false))⟩, none),
  (⟨(some 22), .load (.t 21) 1 false, (some (20, false))⟩, none),
  (⟨(some 23), .len (.t 22), (some (20, false))⟩, none),
  (⟨(some 24), .mv (.t 1), (some (20, false))⟩, none),
  (⟨(some 25), .bin .gtr (.t 23) (.t 24), (some (20, false))⟩, (some [1, 2, 20, 25])),
  kB 26 (.pick (.t 20) (.c (.bool true)) (.t 25)) [1, 2, 26]]
@[go_sem] def l58_2 (_ : Unit) : KL := [kB 4 (.mv (.c (.bool false))) [4]]
@[go_sem] def s58_3 (_ : Unit) : IR := (sQ [(kT l58_2), .ret])
@[go_sem] def s58_4 (_ : Unit) : IR := (sQ [(kT l58_1), (.cond (.t 26) (tH s58_3) .skip)])
@[go_sem] def l58_5 (_ : Unit) : KL := [kB 5 (.mv (cI 0)) [1, 2, 5]]
@[go_sem] def l58_6 (_ : Unit) : KL := [kA 27 (.mv (.t 5)),
  kA 28 (.faddr (.t 2) 1),
  kA 29 (.load (.t 28) 1 false),
  kA 30 (.len (.t 29)),
  kB 31 (.bin .lss (.t 27) (.t 30)) [1, 2, 5, 31]]
@[go_sem] def s58_7 (_ : Unit) : IR := (sQ [(kT l58_6), (.cond (.t 31) .skip (.exit 0))])
@[go_sem] def l58_8 : Nat → GOp
  | 0 => ⟨(some 34), .faddr (.t 2) 1, none⟩
  | 1 => ⟨(some 35), .load (.t 34) 1 false, none⟩
  | 2 => ⟨(some 36), .mv (.t 5), none⟩
  | 3 => ⟨(some 37), .iaddr (.t 35) (.t 36) 1, none⟩
  | 4 => ⟨(some 38), .load (.t 37) 1 false, none⟩
  | 5 => ⟨(some 39), .mv (.t 1), none⟩
  | 6 => ⟨(some 40), .bin .sub (.t 39) (cI 1), none⟩
  | 7 => ⟨(some 41), .call (n_spec_l1In) [(.t 38), (cI 0), (.t 40)], none⟩
  | 8 => ⟨(some 42), .un .not (.t 41), none⟩
  | 9 => ⟨(some 43), .mv (.t 42), none⟩
  | 10 => ⟨(some 44), .mv (.t 5), (some (43, false))⟩
  | 11 => ⟨(some 45), .bin .gtr (.t 44) (cI 0), (some (43, false))⟩
  | 12 => ⟨(some 46), .mv (.t 45), (some (43, false))⟩
  | 13 => ⟨(some 47), .faddr (.t 2) 1, (some (46, true))⟩
  | 14 => ⟨(some 48), .load (.t 47) 1 false, (some (46, true))⟩
  | 15 => ⟨(some 49), .mv (.t 5), (some (46, true))⟩
  | 16 => ⟨(some 50), .iaddr (.t 48) (.t 49) 1, (some (46, true))⟩
  | 17 => ⟨(some 51), .load (.t 50) 1 false, (some (46, true))⟩
  | 18 => ⟨(some 52), .faddr (.t 2) 1, (some (46, true))⟩
  | 19 => ⟨(some 53), .load (.t 52) 1 false, (some (46, true))⟩
  | 20 => ⟨(some 54), .mv (.t 5), (some (46, true))⟩
  | 21 => ⟨(some 55), .bin .sub (.t 54) (cI 1), (some (46, true))⟩
  | 22 => ⟨(some 56), .iaddr (.t 53) (.t 55) 1, (some (46, true))⟩
  | 23 => ⟨(some 57), .load (.t 56) 1 false, (some (46, true))⟩
  | 24 => ⟨(some 58), .bin .leq (.t 51) (.t 57), (some (46, true))⟩
  | 25 => ⟨(some 59), .pick (.t 46) (.t 58) (.c (.bool false)), (some (43, false))⟩
  | 26 => ⟨(some 60), .pick (.t 43) (.c (.bool true)) (.t 59), none⟩
  | 27 => ⟨(some 61), .mv (.t 60), none⟩
  | 28 => ⟨(some 62), .faddr (.t 2) 2, (some (61, false))⟩
  | 29 => ⟨(some 63), .load (.t 62) 1 false, (some (61, false))⟩
  | 30 => ⟨(some 64), .mv (.t 5), (some (61, false))⟩
  | 31 => ⟨(some 65), .iaddr (.t 63) (.t 64) 1, (some (61, false))⟩
  | 32 => ⟨(some 66), .load (.t 65) 1 false, (some (61, false))⟩
  | 33 => ⟨(some 67), .mv (.t 1), (some (61, false))⟩
  | 34 => ⟨(some 68), .call (n_spec_l2Is) [(.t 66), (.t 67), (cI 1)], (some (61, false))⟩
  | 35 => ⟨(some 69), .un .not (.t 68), (some (61, false))⟩
  | 36 => ⟨(some 70), .pick (.t 61) (.c (.bool true)) (.t 69), none⟩
  | _ => ⟨none, .mkmap, none⟩
@[go_sem] def l58_9 (_ : Unit) : KL := [kB 4 (.mv (.c (.bool false))) [4]]
@[go_sem] def s58_10 (_ : Unit) : IR := (sQ [(kT l58_9), .ret])
@[go_sem] def s58_11 (_ : Unit) : IR := (sQ [(.kd (oF l58_8 37) [(0, []), (1, []), (2, []), (3, []), (4, []), (5, []), (6, []), (7, []), (8, []), (9, []), (10, []), (11, []), (12, []), (13, []), (14, []), (15, []), (16, []), (17, []), (18, []), (19, []), (20, []), (21, []), (22, []), (23, []), (24, []), (25, []), (26, []), (27, []), (28, []), (29, []), (30, []), (31, []), (32, []), (33, []), (34, []), (35, []), (36, [])] [1, 2, 5, 70]), (.cond (.t 70) (tH s58_10) .skip)])
@[go_sem] def s58_12 (_ : Unit) : IR := (.block 1 (tH s58_11))
@[go_sem] def l58_13 (_ : Unit) : KL := [kA 32 (.mv (.t 5)),
  kA 33 (.bin .add (.t 32) (cI 1)),
  kB 5 (.mv (.t 33)) [1, 2, 5]]
@[go_sem] def s58_14 (_ : Unit) : IR := (sQ [(tH s58_7), (tH s58_12), (kT l58_13)])
@[go_sem] def s58_15 (_ : Unit) : IR := (.loop (tH s58_14))
@[go_sem] def s58_16 (_ : Unit) : IR := (.block 0 (tH s58_15))
@[go_sem] def s58_17 (_ : Unit) : IR := (sQ [(kT l58_5), (tH s58_16)])
@[go_sem] def l58_18 (_ : Unit) : KL := [kB 4 (.mv (.c (.bool true))) [4]]
@[go_sem] def s58_19 (_ : Unit) : IR := (sQ [(kT l58_0), (tH s58_4), (tH s58_17), (kT l58_18), .ret])
theorem c58 : compFn Try.prog [(0, [], [oN, oS [1, 2]]), (1, [], [oN, oN, oN, oN, oS [1, 2, 10], oN, oN, oN, oN, oS [1, 2, 11, 14, 15], oN, oN, oN, oN, oS [1, 2, 20], oN, oN, oN, oN, oS [1, 2, 20, 25], oS [1, 2, 26]]), (2, [], [oS [4]]), (3, [], [oS [1, 2, 5]]), (4, [], [oN, oN, oN, oN, oS [1, 2, 5, 31]]), (6, [(0, []), (1, []), (2, []), (3, []), (4, []), (5, []), (6, []), (7, []), (8, []), (9, []), (10, []), (11, []), (12, []), (13, []), (14, []), (15, []), (16, []), (17, []), (18, []), (19, []), (20, []), (21, []), (22, []), (23, []), (24, []), (25, []), (26, []), (27, []), (28, []), (29, []), (30, []), (31, []), (32, []), (33, []), (34, []), (35, []), (36, [])], [oS [1, 2, 5, 70]]), (7, [], [oS [4]]), (5, [], [oN, oN, oS [1, 2, 5]]), (8, [], [oS [4]])] Try.f58 = some ⟨2, 71, [.t 4], (tH s58_19)⟩ := by kernel_rfl
theorem v_spec_l2Rule (hl : vs.length = 2) (h : wpV Try.prog (tH s58_19) (postV [.t 4] RV) (envV vs) M) : VCall Try.prog n_spec_l2Rule vs M RV :=
  vcall_of_wp (fun _ _ _ hl h => acall_of_wp mixed Try.func58 c58 (by kernel_rfl) hl h) hl h
@[go_sem] def l41_0 (_ : Unit) : KL := [kA 1 (.box (.t 0)),
  kB 2 (.mv (.c (.bool false))) [1]]
@[go_sem] def l41_1 (_ : Unit) : KL := [kA 6 (.faddr (.t 1) 0),
  kA 7 (.load (.t 6) 1 false),
  kA 8 (.len (.t 7)),
  kA 9 (.call (n_spec_l1In) [(.t 8), (cI 1), (.c (.int .i64 5))]),
  kB 10 (.un .not (.t 9)) [1, 10],
  kA 11 (.mv (.t 10)),
  (⟨(some 12), .faddr (.t 1) 1, (some (11, false))⟩, none),
  (⟨(some 13), .load (.t 12) 1 false, (some (11, false))⟩, none),
  (⟨(some 14), .len (.t 13), (some (11, false))⟩, none),
  (⟨(some 15), .bin .gtr (.t 14) (.c (.int .i64 8)), (some (11, false))⟩, (some [1, 11, 15])),
  kB 16 (.pick (.t 11) (.c (.bool true)) (.t 15)) [1, 16]]
@[go_sem] def l41_2 (_ : Unit) : KL := [kB 2 (.mv (.c (.bool false))) [2]]
@[go_sem] def s41_3 (_ : Unit) : IR := (sQ [(kT l41_2), .ret])
@[go_sem] def s41_4 (_ : Unit) : IR := (sQ [(kT l41_1), (.cond (.t 16) (tH s41_3) .skip)])
@[go_sem] def l41_5 (_ : Unit) : KL := [kB 3 (.mv (cI 1)) [1, 3]]
@[go_sem] def l41_6 (_ : Unit) : KL := [kB 4 (.mv (cI 0)) [1, 3, 4]]
@[go_sem] def l41_7 (_ : Unit) : KL := [kA 17 (.mv (.t 4)),
  kA 18 (.faddr (.t 1) 0),
  kA 19 (.load (.t 18) 1 false),
  kA 20 (.len (.t 19)),
  kB 21 (.bin .lss (.t 17) (.t 20)) [1, 3, 4, 21]]
@[go_sem] def s41_8 (_ : Unit) : IR := (sQ [(kT l41_7), (.cond (.t 21) .skip (.exit 0))])
@[go_sem] def l41_9 (_ : Unit) : KL := [kA 24 (.faddr (.t 1) 0),
  kA 25 (.load (.t 24) 1 false),
  kA 26 (.mv (.t 4)),
  kA 27 (.iaddr (.t 25) (.t 26) 3),
  kB 28 (.load (.t 27) 3 true) [1, 3, 4, 28],
  kA 29 (.call (n_spec_l2Var) [(.t 28)]),
  kB 30 (.un .not (.t 29)) [1, 3, 4, 30]]
@[go_sem] def l41_10 (_ : Unit) : KL := [kB 2 (.mv (.c (.bool false))) [2]]
@[go_sem] def s41_11 (_ : Unit) : IR := (sQ [(kT l41_10), .ret])
@[go_sem] def s41_12 (_ : Unit) : IR := (sQ [(kT l41_9), (.cond (.t 30) (tH s41_11) .skip)])
@[go_sem] def l41_13 : Nat → GOp
  | 0 => ⟨(some 31), .mv (.t 3), none⟩
  | 1 => ⟨(some 32), .faddr (.t 1) 0, none⟩
  | 2 => ⟨(some 33), .load (.t 32) 1 false, none⟩
  | 3 => ⟨(some 34), .mv (.t 4), none⟩
  | 4 => ⟨(some 35), .iaddr (.t 33) (.t 34) 3, none⟩
  | 5 => ⟨(some 36), .faddr (.t 35) 1, none⟩
  | 6 => ⟨(some 37), .load (.t 36) 1 false, none⟩
  | 7 => ⟨(some 38), .faddr (.t 1) 0, none⟩
  | 8 => ⟨(some 39), .load (.t 38) 1 false, none⟩
  | 9 => ⟨(some 40), .mv (.t 4), none⟩
  | 10 => ⟨(some 41), .iaddr (.t 39) (.t 40) 3, none⟩
  | 11 => ⟨(some 42), .faddr (.t 41) 0, none⟩
  | 12 => ⟨(some 43), .load (.t 42) 1 false, none⟩
  | 13 => ⟨(some 44), .bin .sub (.t 37) (.t 43), none⟩
  | 14 => ⟨(some 45), .bin .add (.t 44) (cI 1), none⟩
  | 15 => ⟨(some 46), .bin .mul (.t 31) (.t 45), none⟩
  | 16 => ⟨(some 3), .mv (.t 46), none⟩
  | _ => ⟨none, .mkmap, none⟩
@[go_sem] def s41_14 (_ : Unit) : IR := (sQ [(tH s41_12), (.kd (oF l41_13 17) [(0, []), (1, []), (2, []), (3, []), (4, []), (5, []), (6, []), (7, []), (8, []), (9, []), (10, []), (11, []), (12, []), (13, []), (14, []), (15, []), (16, [])] [1, 3, 4])])
@[go_sem] def s41_15 (_ : Unit) : IR := (.block 1 (tH s41_14))
@[go_sem] def l41_16 (_ : Unit) : KL := [kA 22 (.mv (.t 4)),
  kA 23 (.bin .add (.t 22) (cI 1)),
  kB 4 (.mv (.t 23)) [1, 3, 4]]
@[go_sem] def s41_17 (_ : Unit) : IR := (sQ [(tH s41_8), (tH s41_15), (kT l41_16)])
@[go_sem] def s41_18 (_ : Unit) : IR := (.loop (tH s41_17))
@[go_sem] def s41_19 (_ : Unit) : IR := (.block 0 (tH s41_18))
@[go_sem] def s41_20 (_ : Unit) : IR := (sQ [(kT l41_6), (tH s41_19)])
@[go_sem] def l41_21 (_ : Unit) : KL := [kB 5 (.mv (cI 0)) [1, 3, 5]]
@[go_sem] def l41_22 (_ : Unit) : KL := [kA 47 (.mv (.t 5)),
  kA 48 (.faddr (.t 1) 1),
  kA 49 (.load (.t 48) 1 false),
  kA 50 (.len (.t 49)),
  kB 51 (.bin .lss (.t 47) (.t 50)) [1, 3, 5, 51]]
@[go_sem] def s41_23 (_ : Unit) : IR := (sQ [(kT l41_22), (.cond (.t 51) .skip (.exit 2))])
@[go_sem] def l41_24 : Nat → GOp
  | 0 => ⟨(some 54), .faddr (.t 1) 1, none⟩
  | 1 => ⟨(some 55), .load (.t 54) 1 false, none⟩
  | 2 => ⟨(some 56), .mv (.t 5), none⟩
  | 3 => ⟨(some 57), .iaddr (.t 55) (.t 56) 3, none⟩
  | 4 => ⟨(some 58), .load (.t 57) 3 true, none⟩
  | 5 => ⟨(some 59), .faddr (.t 1) 0, none⟩
  | 6 => ⟨(some 60), .load (.t 59) 1 false, none⟩
  | 7 => ⟨(some 61), .len (.t 60), none⟩
  | 8 => ⟨(some 62), .call (n_spec_l2Rule) [(.t 58), (.t 61)], none⟩
  | 9 => ⟨(some 63), .un .not (.t 62), none⟩
  | _ => ⟨none, .mkmap, none⟩
@[go_sem] def l41_25 (_ : Unit) : KL := [kB 2 (.mv (.c (.bool false))) [2]]
@[go_sem] def s41_26 (_ : Unit) : IR := (sQ [(kT l41_25), .ret])
@[go_sem] def s41_27 (_ : Unit) : IR := (sQ [(.kd (oF l41_24 10) [(0, []), (1, []), (2, []), (3, []), (4, []), (5, []), (6, []), (7, []), (8, []), (9, [])] [1, 3, 5, 63]), (.cond (.t 63) (tH s41_26) .skip)])
@[go_sem] def s41_28 (_ : Unit) : IR := (.block 3 (tH s41_27))
@[go_sem] def l41_29 (_ : Unit) : KL := [kA 52 (.mv (.t 5)),
  kA 53 (.bin .add (.t 52) (cI 1)),
  kB 5 (.mv (.t 53)) [1, 3, 5]]
@[go_sem] def s41_30 (_ : Unit) : IR := (sQ [(tH s41_23), (tH s41_28), (kT l41_29)])
@[go_sem] def s41_31 (_ : Unit) : IR := (.loop (tH s41_30))
@[go_sem] def s41_32 (_ : Unit) : IR := (.block 2 (tH s41_31))
@[go_sem] def s41_33 (_ : Unit) : IR := (sQ [(kT l41_21), (tH s41_32)])
@[go_sem] def l41_34 (_ : Unit) : KL := [kA 64 (.mv (.t 3)),
  kA 65 (.bin .leq (.t 64) (.c (.int .i64 400))),
  kB 2 (.mv (.t 65)) [2]]
@[go_sem] def s41_35 (_ : Unit) : IR := (sQ [(kT l41_0), (tH s41_4), (kT l41_5), (tH s41_20), (tH s41_33), (kT l41_34), .ret])
theorem c41 : compFn Try.prog [(0, [], [oN, oS [1]]), (1, [], [oN, oN, oN, oN, oS [1, 10], oN, oN, oN, oN, oS [1, 11, 15], oS [1, 16]]), (2, [], [oS [2]]), (3, [], [oS [1, 3]]), (4, [], [oS [1, 3, 4]]), (5, [], [oN, oN, oN, oN, oS [1, 3, 4, 21]]), (7, [], [oN, oN, oN, oN, oS [1, 3, 4, 28], oN, oS [1, 3, 4, 30]]), (8, [], [oS [2]]), (9, [(0, []), (1, []), (2, []), (3, []), (4, []), (5, []), (6, []), (7, []), (8, []), (9, []), (10, []), (11, []), (12, []), (13, []), (14, []), (15, []), (16, [])], [oS [1, 3, 4]]), (6, [], [oN, oN, oS [1, 3, 4]]), (10, [], [oS [1, 3, 5]]), (11, [], [oN, oN, oN, oN, oS [1, 3, 5, 51]]), (13, [(0, []), (1, []), (2, []), (3, []), (4, []), (5, []), (6, []), (7, []), (8, []), (9, [])], [oS [1, 3, 5, 63]]), (14, [], [oS [2]]), (12, [], [oN, oN, oS [1, 3, 5]]), (15, [], [oN, oN, oS [2]])] Try.f41 = some ⟨1, 66, [.t 2], (tH s41_35)⟩ := by kernel_rfl
theorem v_spec_SystemValid (hl : vs.length = 1) (h : wpV Try.prog (tH s41_35) (postV [.t 2] RV) (envV vs) M) : VCall Try.prog n_spec_SystemValid vs M RV :=
  vcall_of_wp (fun _ _ _ hl h => acall_of_wp mixed Try.func41 c41 (by kernel_rfl) hl h) hl h
@[go_sem] def l43_0 (_ : Unit) : KL := [kA 1 (.box (.t 0)),
  kB 2 (.mv (.c (.sl none 0 0 true 0))) [1]]
@[go_sem] def l43_1 (_ : Unit) : KL := [kA 5 (.bslc 1 0 [(.int .i64 0)] []),
  kB 3 (.mv (.t 5)) [1, 3]]
@[go_sem] def l43_2 (_ : Unit) : KL := [kB 4 (.mv (cI 0)) [1, 3, 4]]
@[go_sem] def l43_3 (_ : Unit) : KL := [kA 6 (.mv (.t 4)),
  kA 7 (.faddr (.t 1) 0),
  kA 8 (.load (.t 7) 1 false),
  kA 9 (.len (.t 8)),
  kB 10 (.bin .lss (.t 6) (.t 9)) [1, 3, 4, 10],
  kA 11 (.mv (.t 10)),
  (⟨(some 12), .load (.t 1) 2 true, (some (11, true))⟩, none),
  (⟨(some 13), .call (n_spec_SystemValid) [(.t 12)], (some (11, true))⟩, none),
  kB 14 (.pick (.t 11) (.t 13) (.c (.bool false))) [1, 3, 4, 14]]
@[go_sem] def s43_4 (_ : Unit) : IR := (sQ [(kT l43_3), (.cond (.t 14) .skip (.exit 0))])
@[go_sem] def l43_5 (_ : Unit) : KL := [kA 17 (.mv (.t 3)),
  kA 18 (.faddr (.t 1) 0),
  kA 19 (.load (.t 18) 1 false),
  kA 20 (.mv (.t 4)),
  kB 21 (.iaddr (.t 19) (.t 20) 3) [1, 4, 17, 21],
  kA 22 (.faddr (.t 21) 2),
  kA 23 (.load (.t 22) 1 false),
  kA 24 (.bslc 1 1 [(.int .i64 0)] [(0, (.t 23))]),
  kA 25 (.app 1 8 (.t 17) (.t 24)),
  kB 3 (.mv (.t 25)) [1, 3, 4]]
@[go_sem] def s43_6 (_ : Unit) : IR := (.block 1 (kT l43_5))
@[go_sem] def l43_7 (_ : Unit) : KL := [kA 15 (.mv (.t 4)),
  kA 16 (.bin .add (.t 15) (cI 1)),
  kB 4 (.mv (.t 16)) [1, 3, 4]]
@[go_sem] def s43_8 (_ : Unit) : IR := (sQ [(tH s43_4), (tH s43_6), (kT l43_7)])
@[go_sem] def s43_9 (_ : Unit) : IR := (.loop (tH s43_8))
@[go_sem] def s43_10 (_ : Unit) : IR := (.block 0 (tH s43_9))
@[go_sem] def s43_11 (_ : Unit) : IR := (sQ [(kT l43_2), (tH s43_10)])
@[go_sem] def l43_12 (_ : Unit) : KL := [kA 26 (.mv (.t 3)),
  kB 2 (.mv (.t 26)) [2]]
@[go_sem] def s43_13 (_ : Unit) : IR := (sQ [(kT l43_0), (kT l43_1), (tH s43_11), (kT l43_12), .ret])
theorem c43 : compFn Try.prog [(0, [], [oN, oS [1]]), (1, [], [oN, oS [1, 3]]), (2, [], [oS [1, 3, 4]]), (3, [], [oN, oN, oN, oN, oS [1, 3, 4, 10], oN, oN, oN, oS [1, 3, 4, 14]]), (5, [], [oN, oN, oN, oN, oS [1, 4, 17, 21], oN, oN, oN, oN, oS [1, 3, 4]]), (4, [], [oN, oN, oS [1, 3, 4]]), (6, [], [oN, oS [2]])] Try.f43 = some ⟨1, 27, [.t 2], (tH s43_13)⟩ := by kernel_rfl
theorem v_spec_FirstState (hl : vs.length = 1) (h : wpV Try.prog (tH s43_13) (postV [.t 2] RV) (envV vs) M) : VCall Try.prog n_spec_FirstState vs M RV :=
  vcall_of_wp (fun _ _ _ hl h => acall_of_wp mixed Try.func43 c43 (by kernel_rfl) hl h) hl h
@[go_sem] def l20_0 (_ : Unit) : KL := [kB 4 (.mv (.c (.bool false))) [0, 1]]
@[go_sem] def l20_1 (_ : Unit) : KL := [kA 6 (.mv (.t 0)),
  kA 7 (.len (.t 6)),
  kA 8 (.mv (.t 1)),
  kA 9 (.len (.t 8)),
  kB 10 (.bin .neq (.t 7) (.t 9)) [0, 1, 10]]
@[go_sem] def l20_2 (_ : Unit) : KL := [kB 4 (.mv (.c (.bool false))) [4]]
@[go_sem] def s20_3 (_ : Unit) : IR := (sQ [(kT l20_2), .ret])
@[go_sem] def s20_4 (_ : Unit) : IR := (sQ [(kT l20_1), (.cond (.t 10) (tH s20_3) .skip)])
@[go_sem] def l20_5 (_ : Unit) : KL := [kB 5 (.mv (cI 0)) [0, 1, 5]]
@[go_sem] def l20_6 (_ : Unit) : KL := [kA 11 (.mv (.t 5)),
  kA 12 (.mv (.t 0)),
  kA 13 (.len (.t 12)),
  kB 14 (.bin .lss (.t 11) (.t 13)) [0, 1, 5, 14]]
@[go_sem] def s20_7 (_ : Unit) : IR := (sQ [(kT l20_6), (.cond (.t 14) .skip (.exit 0))])
@[go_sem] def l20_8 : Nat → GOp
  | 0 => ⟨(some 17), .mv (.t 0), none⟩
  | 1 => ⟨(some 18), .mv (.t 5), none⟩
  | 2 => ⟨(some 19), .iaddr (.t 17) (.t 18) 1, none⟩
  | 3 => ⟨(some 20), .load (.t 19) 1 false, none⟩
  | 4 => ⟨(some 21), .mv (.t 1), none⟩
  | 5 => ⟨(some 22), .mv (.t 5), none⟩
  | 6 => ⟨(some 23), .iaddr (.t 21) (.t 22) 1, none⟩
  | 7 => ⟨(some 24), .load (.t 23) 1 false, none⟩
  | 8 => ⟨(some 25), .bin .neq (.t 20) (.t 24), none⟩
  | _ => ⟨none, .mkmap, none⟩
@[go_sem] def l20_9 (_ : Unit) : KL := [kB 4 (.mv (.c (.bool false))) [4]]
@[go_sem] def s20_10 (_ : Unit) : IR := (sQ [(kT l20_9), .ret])
@[go_sem] def s20_11 (_ : Unit) : IR := (sQ [(.kd (oF l20_8 9) [(0, []), (1, []), (2, []), (3, []), (4, []), (5, []), (6, []), (7, []), (8, [])] [0, 1, 5, 25]), (.cond (.t 25) (tH s20_10) .skip)])
@[go_sem] def s20_12 (_ : Unit) : IR := (.block 1 (tH s20_11))
@[go_sem] def l20_13 (_ : Unit) : KL := [kA 15 (.mv (.t 5)),
  kA 16 (.bin .add (.t 15) (cI 1)),
  kB 5 (.mv (.t 16)) [0, 1, 5]]
@[go_sem] def s20_14 (_ : Unit) : IR := (sQ [(tH s20_7), (tH s20_12), (kT l20_13)])
@[go_sem] def s20_15 (_ : Unit) : IR := (.loop (tH s20_14))
@[go_sem] def s20_16 (_ : Unit) : IR := (.block 0 (tH s20_15))
@[go_sem] def s20_17 (_ : Unit) : IR := (sQ [(kT l20_5), (tH s20_16)])
@[go_sem] def l20_18 (_ : Unit) : KL := [kB 4 (.mv (.c (.bool true))) [4]]
@[go_sem] def s20_19 (_ : Unit) : IR := (sQ [(kT l20_0), (tH s20_4), (tH s20_17), (kT l20_18), .ret])
theorem c20 : compFn Try.prog [(0, [], [oS [0, 1]]), (1, [], [oN, oN, oN, oN, oS [0, 1, 10]]), (2, [], [oS [4]]), (3, [], [oS [0, 1, 5]]), (4, [], [oN, oN, oN, oS [0, 1, 5, 14]]), (6, [(0, []), (1, []), (2, []), (3, []), (4, []), (5, []), (6, []), (7, []), (8, [])], [oS [0, 1, 5, 25]]), (7, [], [oS [4]]), (5, [], [oN, oN, oS [0, 1, 5]]), (8, [], [oS [4]])] Try.f20 = some ⟨2, 26, [.t 4], (tH s20_19)⟩ := by kernel_rfl
theorem v_spec_l2Same (hl : vs.length = 2) (h : wpV Try.prog (tH s20_19) (postV [.t 4] RV) (envV vs) M) : VCall Try.prog n_spec_l2Same vs M RV :=
  vcall_of_wp (fun _ _ _ hl h => acall_of_wp mixed Try.func20 c20 (by kernel_rfl) hl h) hl h
@[go_sem] def l88_0 (_ : Unit) : KL := [kB 2 (.mv (cI 0)) [0]]
@[go_sem] def l88_1 (_ : Unit) : KL := [kA 3 (.mv (.t 0)),
  kB 4 (.bin .gtr (.t 3) (.c (.int .i64 9999))) [0, 4]]
@[go_sem] def l88_2 (_ : Unit) : KL := [kB 2 (.mv (.c (.int .i64 9999))) [2]]
@[go_sem] def s88_3 (_ : Unit) : IR := (sQ [(kT l88_2), .ret])
@[go_sem] def s88_4 (_ : Unit) : IR := (sQ [(kT l88_1), (.cond (.t 4) (tH s88_3) .skip)])
@[go_sem] def l88_5 (_ : Unit) : KL := [kA 5 (.mv (.t 0)),
  kB 6 (.bin .lss (.t 5) (.c (.int .i64 (-9999)))) [0, 6]]
@[go_sem] def l88_6 (_ : Unit) : KL := [kB 2 (.mv (.c (.int .i64 (-9999)))) [2]]
@[go_sem] def s88_7 (_ : Unit) : IR := (sQ [(kT l88_6), .ret])
@[go_sem] def s88_8 (_ : Unit) : IR := (sQ [(kT l88_5), (.cond (.t 6) (tH s88_7) .skip)])
@[go_sem] def l88_9 (_ : Unit) : KL := [kA 7 (.mv (.t 0)),
  kB 2 (.mv (.t 7)) [2]]
@[go_sem] def s88_10 (_ : Unit) : IR := (sQ [(kT l88_0), (tH s88_4), (tH s88_8), (kT l88_9), .ret])
theorem c88 : compFn Try.prog [(0, [], [oS [0]]), (1, [], [oN, oS [0, 4]]), (2, [], [oS [2]]), (3, [], [oN, oS [0, 6]]), (4, [], [oS [2]]), (5, [], [oN, oS [2]])] Try.f88 = some ⟨1, 8, [.t 2], (tH s88_10)⟩ := by kernel_rfl
theorem v_spec_l1Held (hl : vs.length = 1) (h : wpV Try.prog (tH s88_10) (postV [.t 2] RV) (envV vs) M) : VCall Try.prog n_spec_l1Held vs M RV :=
  vcall_of_wp (fun _ _ _ hl h => acall_of_wp mixed Try.func88 c88 (by kernel_rfl) hl h) hl h
@[go_sem] def l89_0 (_ : Unit) : KL := [kB 2 (.mv (cI 0)) [0]]
@[go_sem] def l89_1 (_ : Unit) : KL := [kB 3 (.mv (.t 0)) [3]]
@[go_sem] def l89_2 (_ : Unit) : KL := [kB 2 (.mv (cI 1)) [2]]
@[go_sem] def s89_3 (_ : Unit) : IR := (sQ [(kT l89_2), .ret])
@[go_sem] def s89_4 (_ : Unit) : IR := (sQ [(kT l89_1), (.cond (.t 3) (tH s89_3) .skip)])
@[go_sem] def l89_5 (_ : Unit) : KL := [kB 2 (.mv (cI 0)) [2]]
@[go_sem] def s89_6 (_ : Unit) : IR := (sQ [(kT l89_0), (tH s89_4), (kT l89_5), .ret])
theorem c89 : compFn Try.prog [(0, [], [oS [0]]), (1, [], [oS [3]]), (2, [], [oS [2]]), (3, [], [oS [2]])] Try.f89 = some ⟨1, 4, [.t 2], (tH s89_6)⟩ := by kernel_rfl
theorem v_spec_l1Truth (hl : vs.length = 1) (h : wpV Try.prog (tH s89_6) (postV [.t 2] RV) (envV vs) M) : VCall Try.prog n_spec_l1Truth vs M RV :=
  vcall_of_wp (fun _ _ _ hl h => acall_of_wp mixed Try.func89 c89 (by kernel_rfl) hl h) hl h
@[go_sem] def l83_0 (_ : Unit) : KL := [kB 6 (.mv (cI 0)) [0, 1, 2]]
@[go_sem] def l83_1 (_ : Unit) : KL := [kA 7 (.mv (.t 0)),
  kB 8 (.bin .eql (.t 7) (.c (.int .i64 2))) [0, 1, 2, 8]]
@[go_sem] def l83_2 (_ : Unit) : KL := [kA 9 (.mv (.t 1)),
  kA 10 (.mv (.t 2)),
  kA 11 (.bin .add (.t 9) (.t 10)),
  kA 12 (.call (n_spec_l1Held) [(.t 11)]),
  kB 6 (.mv (.t 12)) [6]]
@[go_sem] def s83_3 (_ : Unit) : IR := (sQ [(kT l83_2), .ret])
@[go_sem] def s83_4 (_ : Unit) : IR := (sQ [(kT l83_1), (.cond (.t 8) (tH s83_3) .skip)])
@[go_sem] def l83_5 (_ : Unit) : KL := [kA 13 (.mv (.t 0)),
  kB 14 (.bin .eql (.t 13) (.c (.int .i64 3))) [0, 1, 2, 14]]
@[go_sem] def l83_6 (_ : Unit) : KL := [kA 15 (.mv (.t 1)),
  kA 16 (.mv (.t 2)),
  kA 17 (.bin .sub (.t 15) (.t 16)),
  kA 18 (.call (n_spec_l1Held) [(.t 17)]),
  kB 6 (.mv (.t 18)) [6]]
@[go_sem] def s83_7 (_ : Unit) : IR := (sQ [(kT l83_6), .ret])
@[go_sem] def s83_8 (_ : Unit) : IR := (sQ [(kT l83_5), (.cond (.t 14) (tH s83_7) .skip)])
@[go_sem] def l83_9 (_ : Unit) : KL := [kA 19 (.mv (.t 0)),
  kB 20 (.bin .eql (.t 19) (.c (.int .i64 4))) [0, 1, 2, 20]]
@[go_sem] def l83_10 (_ : Unit) : KL := [kA 21 (.mv (.t 1)),
  kA 22 (.mv (.t 2)),
  kA 23 (.bin .mul (.t 21) (.t 22)),
  kA 24 (.call (n_spec_l1Held) [(.t 23)]),
  kB 6 (.mv (.t 24)) [6]]
@[go_sem] def s83_11 (_ : Unit) : IR := (sQ [(kT l83_10), .ret])
@[go_sem] def s83_12 (_ : Unit) : IR := (sQ [(kT l83_9), (.cond (.t 20) (tH s83_11) .skip)])
@[go_sem] def l83_13 (_ : Unit) : KL := [kA 25 (.mv (.t 0)),
  kB 26 (.bin .eql (.t 25) (.c (.int .i64 5))) [0, 1, 2, 26]]
@[go_sem] def l83_14 (_ : Unit) : KL := [kA 27 (.mv (.t 1)),
  kA 28 (.mv (.t 2)),
  kA 29 (.bin .lss (.t 27) (.t 28)),
  kA 30 (.call (n_spec_l1Truth) [(.t 29)]),
  kB 6 (.mv (.t 30)) [6]]
@[go_sem] def s83_15 (_ : Unit) : IR := (sQ [(kT l83_14), .ret])
@[go_sem] def s83_16 (_ : Unit) : IR := (sQ [(kT l83_13), (.cond (.t 26) (tH s83_15) .skip)])
@[go_sem] def l83_17 (_ : Unit) : KL := [kA 31 (.mv (.t 0)),
  kB 32 (.bin .eql (.t 31) (.c (.int .i64 6))) [0, 1, 2, 32]]
@[go_sem] def l83_18 (_ : Unit) : KL := [kA 33 (.mv (.t 1)),
  kA 34 (.mv (.t 2)),
  kA 35 (.bin .eql (.t 33) (.t 34)),
  kA 36 (.call (n_spec_l1Truth) [(.t 35)]),
  kB 6 (.mv (.t 36)) [6]]
@[go_sem] def s83_19 (_ : Unit) : IR := (sQ [(kT l83_18), .ret])
@[go_sem] def s83_20 (_ : Unit) : IR := (sQ [(kT l83_17), (.cond (.t 32) (tH s83_19) .skip)])
@[go_sem] def l83_21 (_ : Unit) : KL := [kA 37 (.mv (.t 0)),
  kB 38 (.bin .eql (.t 37) (.c (.int .i64 7))) [0, 1, 2, 38]]
@[go_sem] def l83_22 (_ : Unit) : KL := [kA 39 (.mv (.t 1)),
  kA 40 (.bin .sub (cI 1) (.t 39)),
  kB 6 (.mv (.t 40)) [6]]
@[go_sem] def s83_23 (_ : Unit) : IR := (sQ [(kT l83_22), .ret])
@[go_sem] def s83_24 (_ : Unit) : IR := (sQ [(kT l83_21), (.cond (.t 38) (tH s83_23) .skip)])
@[go_sem] def l83_25 (_ : Unit) : KL := [kA 41 (.mv (.t 0)),
  kB 42 (.bin .eql (.t 41) (.c (.int .i64 8))) [1, 2, 42]]
@[go_sem] def l83_26 (_ : Unit) : KL := [kA 43 (.mv (.t 1)),
  kA 44 (.mv (.t 2)),
  kA 45 (.bin .mul (.t 43) (.t 44)),
  kB 6 (.mv (.t 45)) [6]]
@[go_sem] def s83_27 (_ : Unit) : IR := (sQ [(kT l83_26), .ret])
@[go_sem] def s83_28 (_ : Unit) : IR := (sQ [(kT l83_25), (.cond (.t 42) (tH s83_27) .skip)])
@[go_sem] def l83_29 (_ : Unit) : KL := [kA 46 (.mv (.t 1)),
  kA 47 (.mv (.t 2)),
  kA 48 (.bin .add (.t 46) (.t 47)),
  kA 49 (.bin .gtr (.t 48) (cI 0)),
  kB 50 (.call (n_spec_l1Truth) [(.t 49)]) [50],
  kB 6 (.mv (.t 50)) [6]]
@[go_sem] def s83_30 (_ : Unit) : IR := (sQ [(kT l83_0), (tH s83_4), (tH s83_8), (tH s83_12), (tH s83_16), (tH s83_20), (tH s83_24), (tH s83_28), (kT l83_29), .ret])
theorem c83 : compFn Try.prog [(0, [], [oS [0, 1, 2]]), (1, [], [oN, oS [0, 1, 2, 8]]), (2, [], [oN, oN, oN, oN, oS [6]]), (3, [], [oN, oS [0, 1, 2, 14]]), (4, [], [oN, oN, oN, oN, oS [6]]), (5, [], [oN, oS [0, 1, 2, 20]]), (6, [], [oN, oN, oN, oN, oS [6]]), (7, [], [oN, oS [0, 1, 2, 26]]), (8, [], [oN, oN, oN, oN, oS [6]]), (9, [], [oN, oS [0, 1, 2, 32]]), (10, [], [oN, oN, oN, oN, oS [6]]), (11, [], [oN, oS [0, 1, 2, 38]]), (12, [], [oN, oN, oS [6]]), (13, [], [oN, oS [1, 2, 42]]), (14, [], [oN, oN, oN, oS [6]]), (15, [], [oN, oN, oN, oN, oS [50], oS [6]])] Try.f83 = some ⟨3, 51, [.t 6], (tH s83_30)⟩ := by kernel_rfl
theorem v_spec_l1Do (hl : vs.length = 3) (h : wpV Try.prog (tH s83_30) (postV [.t 6] RV) (envV vs) M) : VCall Try.prog n_spec_l1Do vs M RV :=
  vcall_of_wp (fun _ _ _ hl h => acall_of_wp mixed Try.func83 c83 (by kernel_rfl) hl h) hl h
@[go_sem] def l75_0 (_ : Unit) : KL := [kB 4 (.mv (.c (.sl none 0 0 true 0))) [0, 1]]
@[go_sem] def l75_1 (_ : Unit) : KL := [kA 8 (.bslc 1 0 [(.int .i64 0)] []),
  kB 5 (.mv (.t 8)) [0, 1, 5]]
@[go_sem] def l75_2 (_ : Unit) : KL := [kB 6 (.mv (cI 0)) [0, 1, 5, 6]]
@[go_sem] def l75_3 (_ : Unit) : KL := [kA 9 (.mv (.t 6)),
  kA 10 (.mv (.t 0)),
  kA 11 (.len (.t 10)),
  kB 12 (.bin .lss (.t 9) (.t 11)) [0, 1, 5, 6, 12]]
@[go_sem] def s75_4 (_ : Unit) : IR := (sQ [(kT l75_3), (.cond (.t 12) .skip (.exit 0))])
@[go_sem] def l75_5 (_ : Unit) : KL := [kA 15 (.mv (.t 0)),
  kA 16 (.mv (.t 6)),
  kA 17 (.iaddr (.t 15) (.t 16) 4),
  kA 18 (.load (.t 17) 4 true),
  kB 7 (.alloc [(.int .i64 0), (.int .i64 0), (.int .i64 0), (.int .i64 0)]) [0, 1, 5, 6, 7, 18],
  (⟨none, .store (.t 7) 4 (.t 18), none⟩, (some [0, 1, 5, 6, 7]))]
@[go_sem] def l75_6 (_ : Unit) : KL := [kA 19 (.faddr (.t 7) 0),
  kA 20 (.load (.t 19) 1 false),
  kB 21 (.bin .eql (.t 20) (cI 0)) [0, 1, 5, 6, 7, 21]]
@[go_sem] def l75_7 (_ : Unit) : KL := [kA 22 (.mv (.t 5)),
  kA 23 (.faddr (.t 7) 1),
  kA 24 (.load (.t 23) 1 false),
  kA 25 (.bslc 1 1 [(.int .i64 0)] [(0, (.t 24))]),
  kB 26 (.app 1 8 (.t 22) (.t 25)) [0, 1, 6, 26],
  kB 5 (.mv (.t 26)) [0, 1, 5, 6]]
@[go_sem] def l75_8 (_ : Unit) : KL := [kA 27 (.faddr (.t 7) 0),
  kA 28 (.load (.t 27) 1 false),
  kB 29 (.bin .eql (.t 28) (cI 1)) [0, 1, 5, 6, 7, 29]]
@[go_sem] def l75_9 (_ : Unit) : KL := [kA 30 (.mv (.t 5)),
  kA 31 (.mv (.t 1)),
  kA 32 (.faddr (.t 7) 1),
  kA 33 (.load (.t 32) 1 false),
  kB 34 (.iaddr (.t 31) (.t 33) 1) [0, 1, 6, 30, 34],
  kA 35 (.load (.t 34) 1 false),
  kA 36 (.bslc 1 1 [(.int .i64 0)] [(0, (.t 35))]),
  kA 37 (.app 1 8 (.t 30) (.t 36)),
  kB 5 (.mv (.t 37)) [0, 1, 5, 6]]
@[go_sem] def l75_10 : Nat → GOp
  | 0 => ⟨(some 38), .mv (.t 5), none⟩
  | 1 => ⟨(some 39), .faddr (.t 7) 0, none⟩
  | 2 => ⟨(some 40), .load (.t 39) 1 false, none⟩
  | 3 => ⟨(some 41), .mv (.t 5), none⟩
  | 4 => ⟨(some 42), .faddr (.t 7) 2, none⟩
  | 5 => ⟨(some 43), .load (.t 42) 1 false, none⟩
  | 6 => ⟨(some 44), .iaddr (.t 41) (.t 43) 1, none⟩
  | 7 => ⟨(some 45), .load (.t 44) 1 false, none⟩
  | 8 => ⟨(some 46), .mv (.t 5), none⟩
  | 9 => ⟨(some 47), .faddr (.t 7) 3, none⟩
  | 10 => ⟨(some 48), .load (.t 47) 1 false, none⟩
  | 11 => ⟨(some 49), .iaddr (.t 46) (.t 48) 1, none⟩
  | 12 => ⟨(some 50), .load (.t 49) 1 false, none⟩
  | 13 => ⟨(some 51), .call (n_spec_l1Do) [(.t 40), (.t 45), (.t 50)], none⟩
  | 14 => ⟨(some 52), .bslc 1 1 [(.int .i64 0)] [(0, (.t 51))], none⟩
  | 15 => ⟨(some 53), .app 1 8 (.t 38) (.t 52), none⟩
  | 16 => ⟨(some 5), .mv (.t 53), none⟩
  | _ => ⟨none, .mkmap, none⟩
@[go_sem] def s75_11 (_ : Unit) : IR := (sQ [(kT l75_8), (.cond (.t 29) (kT l75_9) (.kd (oF l75_10 17) [(0, []), (1, []), (2, []), (3, []), (4, []), (5, []), (6, []), (7, []), (8, []), (9, []), (10, []), (11, []), (12, []), (13, []), (14, []), (15, []), (16, [])] [0, 1, 5, 6]))])
@[go_sem] def s75_12 (_ : Unit) : IR := (sQ [(kT l75_5), (kT l75_6), (.cond (.t 21) (kT l75_7) (tH s75_11))])
@[go_sem] def s75_13 (_ : Unit) : IR := (.block 1 (tH s75_12))
@[go_sem] def l75_14 (_ : Unit) : KL := [kA 13 (.mv (.t 6)),
  kA 14 (.bin .add (.t 13) (cI 1)),
  kB 6 (.mv (.t 14)) [0, 1, 5, 6]]
@[go_sem] def s75_15 (_ : Unit) : IR := (sQ [(tH s75_4), (tH s75_13), (kT l75_14)])
@[go_sem] def s75_16 (_ : Unit) : IR := (.loop (tH s75_15))
@[go_sem] def s75_17 (_ : Unit) : IR := (.block 0 (tH s75_16))
@[go_sem] def s75_18 (_ : Unit) : IR := (sQ [(kT l75_2), (tH s75_17)])
@[go_sem] def l75_19 (_ : Unit) : KL := [kA 54 (.mv (.t 5)),
  kB 4 (.mv (.t 54)) [4]]
@[go_sem] def s75_20 (_ : Unit) : IR := (sQ [(kT l75_0), (kT l75_1), (tH s75_18), (kT l75_19), .ret])
theorem c75 : compFn Try.prog [(0, [], [oS [0, 1]]), (1, [], [oN, oS [0, 1, 5]]), (2, [], [oS [0, 1, 5, 6]]), (3, [], [oN, oN, oN, oS [0, 1, 5, 6, 12]]), (5, [], [oN, oN, oN, oN, oS [0, 1, 5, 6, 7, 18], oS [0, 1, 5, 6, 7]]), (6, [], [oN, oN, oS [0, 1, 5, 6, 7, 21]]), (7, [], [oN, oN, oN, oN, oS [0, 1, 6, 26], oS [0, 1, 5, 6]]), (8, [], [oN, oN, oS [0, 1, 5, 6, 7, 29]]), (9, [], [oN, oN, oN, oN, oS [0, 1, 6, 30, 34], oN, oN, oN, oS [0, 1, 5, 6]]), (10, [(0, []), (1, []), (2, []), (3, []), (4, []), (5, []), (6, []), (7, []), (8, []), (9, []), (10, []), (11, []), (12, []), (13, []), (14, []), (15, []), (16, [])], [oS [0, 1, 5, 6]]), (4, [], [oN, oN, oS [0, 1, 5, 6]]), (11, [], [oN, oS [4]])] Try.f75 = some ⟨2, 55, [.t 4], (tH s75_20)⟩ := by kernel_rfl
theorem v_spec_l1Values (hl : vs.length = 2) (h : wpV Try.prog (tH s75_20) (postV [.t 4] RV) (envV vs) M) : VCall Try.prog n_spec_l1Values vs M RV :=
  vcall_of_wp (fun _ _ _ hl h => acall_of_wp mixed Try.func75 c75 (by kernel_rfl) hl h) hl h
@[go_sem] def l59_0 (_ : Unit) : KL := [kB 4 (.mv (cI 0)) [0, 1]]
@[go_sem] def l59_1 (_ : Unit) : KL := [kA 5 (.mv (.t 0)),
  kA 6 (.mv (.t 1)),
  kA 7 (.call (n_spec_l1Values) [(.t 5), (.t 6)]),
  kA 8 (.mv (.t 0)),
  kB 9 (.len (.t 8)) [7, 9],
  kA 10 (.bin .sub (.t 9) (cI 1)),
  kA 11 (.iaddr (.t 7) (.t 10) 1),
  kA 12 (.load (.t 11) 1 false),
  kB 4 (.mv (.t 12)) [4]]
@[go_sem] def s59_2 (_ : Unit) : IR := (sQ [(kT l59_0), (kT l59_1), .ret])
theorem c59 : compFn Try.prog [(0, [], [oS [0, 1]]), (1, [], [oN, oN, oN, oN, oS [7, 9], oN, oN, oN, oS [4]])] Try.f59 = some ⟨2, 13, [.t 4], (tH s59_2)⟩ := by kernel_rfl
theorem v_spec_l2Last (hl : vs.length = 2) (h : wpV Try.prog (tH s59_2) (postV [.t 4] RV) (envV vs) M) : VCall Try.prog n_spec_l2Last vs M RV :=
  vcall_of_wp (fun _ _ _ hl h => acall_of_wp mixed Try.func59 c59 (by kernel_rfl) hl h) hl h
@[go_sem] def l60_0 (_ : Unit) : KL := [kA 2 (.box (.t 0)),
  kB 4 (.mv (.c (.bool false))) [1, 2]]
@[go_sem] def l60_1 (_ : Unit) : KL := [kA 6 (.mv (.t 1)),
  kA 7 (.len (.t 6)),
  kA 8 (.faddr (.t 2) 0),
  kA 9 (.load (.t 8) 1 false),
  kB 10 (.len (.t 9)) [1, 2, 7, 10],
  kB 11 (.bin .neq (.t 7) (.t 10)) [1, 2, 11]]
@[go_sem] def l60_2 (_ : Unit) : KL := [kB 4 (.mv (.c (.bool false))) [4]]
@[go_sem] def s60_3 (_ : Unit) : IR := (sQ [(kT l60_2), .ret])
@[go_sem] def s60_4 (_ : Unit) : IR := (sQ [(kT l60_1), (.cond (.t 11) (tH s60_3) .skip)])
@[go_sem] def l60_5 (_ : Unit) : KL := [kB 5 (.mv (cI 0)) [1, 2, 5]]
@[go_sem] def l60_6 (_ : Unit) : KL := [kA 12 (.mv (.t 5)),
  kA 13 (.mv (.t 1)),
  kA 14 (.len (.t 13)),
  kB 15 (.bin .lss (.t 12) (.t 14)) [1, 2, 5, 15]]
@[go_sem] def s60_7 (_ : Unit) : IR := (sQ [(kT l60_6), (.cond (.t 15) .skip (.exit 0))])
@[go_sem] def l60_8 : Nat → GOp
  | 0 => ⟨(some 18), .mv (.t 1), none⟩
  | 1 => ⟨(some 19), .mv (.t 5), none⟩
  | 2 => ⟨(some 20), .iaddr (.t 18) (.t 19) 1, none⟩
  | 3 => ⟨(some 21), .load (.t 20) 1 false, none⟩
  | 4 => ⟨(some 22), .faddr (.t 2) 0, none⟩
  | 5 => ⟨(some 23), .load (.t 22) 1 false, none⟩
  | 6 => ⟨(some 24), .mv (.t 5), none⟩
  | 7 => ⟨(some 25), .iaddr (.t 23) (.t 24) 3, none⟩
  | 8 => ⟨(some 26), .faddr (.t 25) 0, none⟩
  | 9 => ⟨(some 27), .load (.t 26) 1 false, none⟩
  | 10 => ⟨(some 28), .faddr (.t 2) 0, none⟩
  | 11 => ⟨(some 29), .load (.t 28) 1 false, none⟩
  | 12 => ⟨(some 30), .mv (.t 5), none⟩
  | 13 => ⟨(some 31), .iaddr (.t 29) (.t 30) 3, none⟩
  | 14 => ⟨(some 32), .faddr (.t 31) 1, none⟩
  | 15 => ⟨(some 33), .load (.t 32) 1 false, none⟩
  | 16 => ⟨(some 34), .call (n_spec_l1In) [(.t 21), (.t 27), (.t 33)], none⟩
  | 17 => ⟨(some 35), .un .not (.t 34), none⟩
  | _ => ⟨none, .mkmap, none⟩
@[go_sem] def l60_9 (_ : Unit) : KL := [kB 4 (.mv (.c (.bool false))) [4]]
@[go_sem] def s60_10 (_ : Unit) : IR := (sQ [(kT l60_9), .ret])
@[go_sem] def s60_11 (_ : Unit) : IR := (sQ [(.kd (oF l60_8 18) [(0, []), (1, []), (2, []), (3, []), (4, []), (5, []), (6, []), (7, []), (8, []), (9, []), (10, []), (11, []), (12, []), (13, []), (14, []), (15, []), (16, []), (17, [])] [1, 2, 5, 35]), (.cond (.t 35) (tH s60_10) .skip)])
@[go_sem] def s60_12 (_ : Unit) : IR := (.block 1 (tH s60_11))
@[go_sem] def l60_13 (_ : Unit) : KL := [kA 16 (.mv (.t 5)),
  kA 17 (.bin .add (.t 16) (cI 1)),
  kB 5 (.mv (.t 17)) [1, 2, 5]]
@[go_sem] def s60_14 (_ : Unit) : IR := (sQ [(tH s60_7), (tH s60_12), (kT l60_13)])
@[go_sem] def s60_15 (_ : Unit) : IR := (.loop (tH s60_14))
@[go_sem] def s60_16 (_ : Unit) : IR := (.block 0 (tH s60_15))
@[go_sem] def s60_17 (_ : Unit) : IR := (sQ [(kT l60_5), (tH s60_16)])
@[go_sem] def l60_18 (_ : Unit) : KL := [kB 4 (.mv (.c (.bool true))) [4]]
@[go_sem] def s60_19 (_ : Unit) : IR := (sQ [(kT l60_0), (tH s60_4), (tH s60_17), (kT l60_18), .ret])
theorem c60 : compFn Try.prog [(0, [], [oN, oS [1, 2]]), (1, [], [oN, oN, oN, oN, oS [1, 2, 7, 10], oS [1, 2, 11]]), (2, [], [oS [4]]), (3, [], [oS [1, 2, 5]]), (4, [], [oN, oN, oN, oS [1, 2, 5, 15]]), (6, [(0, []), (1, []), (2, []), (3, []), (4, []), (5, []), (6, []), (7, []), (8, []), (9, []), (10, []), (11, []), (12, []), (13, []), (14, []), (15, []), (16, []), (17, [])], [oS [1, 2, 5, 35]]), (7, [], [oS [4]]), (5, [], [oN, oN, oS [1, 2, 5]]), (8, [], [oS [4]])] Try.f60 = some ⟨2, 36, [.t 4], (tH s60_19)⟩ := by kernel_rfl
theorem v_spec_l2In (hl : vs.length = 2) (h : wpV Try.prog (tH s60_19) (postV [.t 4] RV) (envV vs) M) : VCall Try.prog n_spec_l2In vs M RV :=
  vcall_of_wp (fun _ _ _ hl h => acall_of_wp mixed Try.func60 c60 (by kernel_rfl) hl h) hl h
@[go_sem] def l44_0 (_ : Unit) : KL := [kA 3 (.box (.t 0)),
  kB 6 (.mv (.c (.sl none 0 0 true 0))) [1, 2, 3]]
@[go_sem] def l44_1 (_ : Unit) : KL := [kA 11 (.faddr (.t 3) 1),
  kA 12 (.load (.t 11) 1 false),
  kA 13 (.mv (.t 2)),
  kA 14 (.iaddr (.t 12) (.t 13) 3),
  kB 15 (.load (.t 14) 3 true) [1, 3, 15],
  kA 7 (.alloc [(.sl none 0 0 true 0), (.sl none 0 0 true 0), (.sl none 0 0 true 0)]),
  (⟨none, .store (.t 7) 3 (.t 15), none⟩, (some [1, 3, 7]))]
@[go_sem] def l44_2 (_ : Unit) : KL := [kA 16 (.faddr (.t 7) 0),
  kA 17 (.load (.t 16) 1 false),
  kA 18 (.mv (.t 1)),
  kA 19 (.call (n_spec_l2Last) [(.t 17), (.t 18)]),
  kB 20 (.bin .eql (.t 19) (cI 0)) [1, 3, 7, 20]]
@[go_sem] def l44_3 (_ : Unit) : KL := [kB 6 (.mv (.c (.sl none 0 0 true 0))) [6]]
@[go_sem] def s44_4 (_ : Unit) : IR := (sQ [(kT l44_3), .ret])
@[go_sem] def s44_5 (_ : Unit) : IR := (sQ [(kT l44_2), (.cond (.t 20) (tH s44_4) .skip)])
@[go_sem] def l44_6 (_ : Unit) : KL := [kA 21 (.bslc 1 0 [(.int .i64 0)] []),
  kB 8 (.mv (.t 21)) [1, 3, 7, 8]]
@[go_sem] def l44_7 (_ : Unit) : KL := [kB 9 (.mv (cI 0)) [1, 3, 7, 8, 9]]
@[go_sem] def l44_8 (_ : Unit) : KL := [kA 22 (.mv (.t 9)),
  kA 23 (.mv (.t 1)),
  kA 24 (.len (.t 23)),
  kB 25 (.bin .lss (.t 22) (.t 24)) [1, 3, 7, 8, 9, 25]]
@[go_sem] def s44_9 (_ : Unit) : IR := (sQ [(kT l44_8), (.cond (.t 25) .skip (.exit 0))])
@[go_sem] def l44_10 (_ : Unit) : KL := [kA 28 (.mv (.t 8)),
  kA 29 (.mv (.t 1)),
  kA 30 (.mv (.t 9)),
  kA 31 (.iaddr (.t 29) (.t 30) 1),
  kB 32 (.load (.t 31) 1 false) [1, 3, 7, 9, 28, 32],
  kA 33 (.bslc 1 1 [(.int .i64 0)] [(0, (.t 32))]),
  kA 34 (.app 1 8 (.t 28) (.t 33)),
  kB 8 (.mv (.t 34)) [1, 3, 7, 8, 9]]
@[go_sem] def s44_11 (_ : Unit) : IR := (.block 1 (kT l44_10))
@[go_sem] def l44_12 (_ : Unit) : KL := [kA 26 (.mv (.t 9)),
  kA 27 (.bin .add (.t 26) (cI 1)),
  kB 9 (.mv (.t 27)) [1, 3, 7, 8, 9]]
@[go_sem] def s44_13 (_ : Unit) : IR := (sQ [(tH s44_9), (tH s44_11), (kT l44_12)])
@[go_sem] def s44_14 (_ : Unit) : IR := (.loop (tH s44_13))
@[go_sem] def s44_15 (_ : Unit) : IR := (.block 0 (tH s44_14))
@[go_sem] def s44_16 (_ : Unit) : IR := (sQ [(kT l44_7), (tH s44_15)])
@[go_sem] def l44_17 (_ : Unit) : KL := [kB 10 (.mv (cI 0)) [1, 3, 7, 8, 10]]
@[go_sem] def l44_18 (_ : Unit) : KL := [kA 35 (.mv (.t 10)),
  kA 36 (.faddr (.t 7) 1),
  kA 37 (.load (.t 36) 1 false),
  kA 38 (.len (.t 37)),
  kB 39 (.bin .lss (.t 35) (.t 38)) [1, 3, 7, 8, 10, 39]]
@[go_sem] def s44_19 (_ : Unit) : IR := (sQ [(kT l44_18), (.cond (.t 39) .skip (.exit 2))])
@[go_sem] def l44_20 : Nat → GOp
  | 0 => ⟨(some 42), .mv (.t 8), none⟩
  | 1 => ⟨(some 43), .faddr (.t 7) 1, none⟩
  | 2 => ⟨(some 44), .load (.t 43) 1 false, none⟩
  | 3 => ⟨(some 45), .mv (.t 10), none⟩
  | 4 => ⟨(some 46), .iaddr (.t 44) (.t 45) 1, none⟩
  | 5 => ⟨(some 47), .load (.t 46) 1 false, none⟩
  | 6 => ⟨(some 48), .faddr (.t 7) 2, none⟩
  | 7 => ⟨(some 49), .load (.t 48) 1 false, none⟩
  | 8 => ⟨(some 50), .mv (.t 10), none⟩
  | 9 => ⟨(some 51), .iaddr (.t 49) (.t 50) 1, none⟩
  | 10 => ⟨(some 52), .load (.t 51) 1 false, none⟩
  | 11 => ⟨(some 53), .mv (.t 1), none⟩
  | 12 => ⟨(some 54), .call (n_spec_l2Last) [(.t 52), (.t 53)], none⟩
  | 13 => ⟨(some 55), .iaddr (.t 42) (.t 47) 1, none⟩
  | 14 => ⟨none, .store (.t 55) 1 (.t 54), none⟩
  | _ => ⟨none, .mkmap, none⟩
@[go_sem] def s44_21 (_ : Unit) : IR := (.block 3 (.kd (oF l44_20 15) [(0, []), (1, []), (2, []), (3, []), (4, []), (5, []), (6, []), (7, []), (8, []), (9, []), (10, []), (11, []), (12, [2, 5]), (13, []), (14, [])] [1, 3, 7, 8, 10]))
@[go_sem] def l44_22 (_ : Unit) : KL := [kA 40 (.mv (.t 10)),
  kA 41 (.bin .add (.t 40) (cI 1)),
  kB 10 (.mv (.t 41)) [1, 3, 7, 8, 10]]
@[go_sem] def s44_23 (_ : Unit) : IR := (sQ [(tH s44_19), (tH s44_21), (kT l44_22)])
@[go_sem] def s44_24 (_ : Unit) : IR := (.loop (tH s44_23))
@[go_sem] def s44_25 (_ : Unit) : IR := (.block 2 (tH s44_24))
@[go_sem] def s44_26 (_ : Unit) : IR := (sQ [(kT l44_17), (tH s44_25)])
@[go_sem] def l44_27 (_ : Unit) : KL := [kA 56 (.load (.t 3) 2 true),
  kA 57 (.mv (.t 8)),
  kA 58 (.call (n_spec_l2In) [(.t 56), (.t 57)]),
  kB 59 (.un .not (.t 58)) [8, 59]]
@[go_sem] def l44_28 (_ : Unit) : KL := [kB 6 (.mv (.c (.sl none 0 0 true 0))) [6]]
@[go_sem] def s44_29 (_ : Unit) : IR := (sQ [(kT l44_28), .ret])
@[go_sem] def s44_30 (_ : Unit) : IR := (sQ [(kT l44_27), (.cond (.t 59) (tH s44_29) .skip)])
@[go_sem] def l44_31 (_ : Unit) : KL := [kA 60 (.mv (.t 8)),
  kB 6 (.mv (.t 60)) [6]]
@[go_sem] def s44_32 (_ : Unit) : IR := (sQ [(kT l44_0), (kT l44_1), (tH s44_5), (kT l44_6), (tH s44_16), (tH s44_26), (tH s44_30), (kT l44_31), .ret])
theorem c44 : compFn Try.prog [(0, [], [oN, oS [1, 2, 3]]), (1, [], [oN, oN, oN, oN, oS [1, 3, 15], oN, oS [1, 3, 7]]), (2, [], [oN, oN, oN, oN, oS [1, 3, 7, 20]]), (3, [], [oS [6]]), (4, [], [oN, oS [1, 3, 7, 8]]), (5, [], [oS [1, 3, 7, 8, 9]]), (6, [], [oN, oN, oN, oS [1, 3, 7, 8, 9, 25]]), (8, [], [oN, oN, oN, oN, oS [1, 3, 7, 9, 28, 32], oN, oN, oS [1, 3, 7, 8, 9]]), (7, [], [oN, oN, oS [1, 3, 7, 8, 9]]), (9, [], [oS [1, 3, 7, 8, 10]]), (10, [], [oN, oN, oN, oN, oS [1, 3, 7, 8, 10, 39]]), (12, [(0, []), (1, []), (2, []), (3, []), (4, []), (5, []), (6, []), (7, []), (8, []), (9, []), (10, []), (11, []), (12, [2, 5]), (13, []), (14, [])], [oS [1, 3, 7, 8, 10]]), (11, [], [oN, oN, oS [1, 3, 7, 8, 10]]), (13, [], [oN, oN, oN, oS [8, 59]]), (14, [], [oS [6]]), (15, [], [oN, oS [6]])] Try.f44 = some ⟨3, 61, [.t 6], (tH s44_32)⟩ := by kernel_rfl
theorem v_spec_l2Use (hl : vs.length = 3) (h : wpV Try.prog (tH s44_32) (postV [.t 6] RV) (envV vs) M) : VCall Try.prog n_spec_l2Use vs M RV :=
  vcall_of_wp (fun _ _ _ hl h => acall_of_wp mixed Try.func44 c44 (by kernel_rfl) hl h) hl h
@[go_sem] def l19_0 (_ : Unit) : KL := [kA 2 (.box (.t 0)),
  kA 3 (.box (.t 1)),
  kB 4 (.mv (.c (.bool false))) [2, 3]]
@[go_sem] def l19_1 : Nat → GOp
  | 0 => ⟨(some 7), .load (.t 2) 2 true, none⟩
  | 1 => ⟨(some 8), .call (n_spec_SystemValid) [(.t 7)], none⟩
  | 2 => ⟨(some 9), .un .not (.t 8), none⟩
  | 3 => ⟨(some 10), .mv (.t 9), none⟩
  | 4 => ⟨(some 11), .faddr (.t 3) 0, (some (10, false))⟩
  | 5 => ⟨(some 12), .load (.t 11) 1 false, (some (10, false))⟩
  | 6 => ⟨(some 13), .len (.t 12), (some (10, false))⟩
  | 7 => ⟨(some 14), .call (n_spec_l1In) [(.t 13), (cI 1), (.c (.int .i64 500))], (some (10, false))⟩
  | 8 => ⟨(some 15), .un .not (.t 14), (some (10, false))⟩
  | 9 => ⟨(some 16), .pick (.t 10) (.c (.bool true)) (.t 15), none⟩
  | 10 => ⟨(some 17), .mv (.t 16), none⟩
  | 11 => ⟨(some 18), .faddr (.t 3) 1, (some (17, false))⟩
  | 12 => ⟨(some 19), .load (.t 18) 1 false, (some (17, false))⟩
  | 13 => ⟨(some 20), .len (.t 19), (some (17, false))⟩
  | 14 => ⟨(some 21), .faddr (.t 3) 0, (some (17, false))⟩
  | 15 => ⟨(some 22), .load (.t 21) 1 false, (some (17, false))⟩
  | 16 => ⟨(some 23), .len (.t 22), (some (17, false))⟩
  | 17 => ⟨(some 24), .bin .sub (.t 23) (cI 1), (some (17, false))⟩
  | 18 => ⟨(some 25), .bin .neq (.t 20) (.t 24), (some (17, false))⟩
  | 19 => ⟨(some 26), .pick (.t 17) (.c (.bool true)) (.t 25), none⟩
  | 20 => ⟨(some 27), .mv (.t 26), none⟩
  | 21 => ⟨(some 28), .faddr (.t 3) 0, (some (27, false))⟩
  | 22 => ⟨(some 29), .load (.t 28) 1 false, (some (27, false))⟩
  | 23 => ⟨(some 30), .iaddr (.t 29) (cI 0) 1, (some (27, false))⟩
  | 24 => ⟨(some 31), .load (.t 30) 1 false, (some (27, false))⟩
  | 25 => ⟨(some 32), .load (.t 2) 2 true, (some (27, false))⟩
  | 26 => ⟨(some 33), .call (n_spec_FirstState) [(.t 32)], (some (27, false))⟩
  | 27 => ⟨(some 34), .call (n_spec_l2Same) [(.t 31), (.t 33)], (some (27, false))⟩
  | 28 => ⟨(some 35), .un .not (.t 34), (some (27, false))⟩
  | 29 => ⟨(some 36), .pick (.t 27) (.c (.bool true)) (.t 35), none⟩
  | _ => ⟨none, .mkmap, none⟩
@[go_sem] def l19_2 (_ : Unit) : KL := [kB 4 (.mv (.c (.bool false))) [4]]
@[go_sem] def s19_3 (_ : Unit) : IR := (sQ [(kT l19_2), .ret])
@[go_sem] def s19_4 (_ : Unit) : IR := (sQ [(.kd (oF l19_1 30) [(0, []), (1, []), (2, []), (3, []), (4, []), (5, []), (6, []), (7, []), (8, []), (9, []), (10, []), (11, []), (12, []), (13, []), (14, []), (15, []), (16, []), (17, []), (18, []), (19, []), (20, []), (21, []), (22, []), (23, []), (24, []), (25, []), (26, [22, 24]), (27, []), (28, []), (29, [])] [2, 3, 36]), (.cond (.t 36) (tH s19_3) .skip)])
@[go_sem] def l19_5 (_ : Unit) : KL := [kB 5 (.mv (cI 0)) [2, 3, 5]]
@[go_sem] def l19_6 (_ : Unit) : KL := [kA 37 (.mv (.t 5)),
  kA 38 (.faddr (.t 3) 1),
  kA 39 (.load (.t 38) 1 false),
  kA 40 (.len (.t 39)),
  kB 41 (.bin .lss (.t 37) (.t 40)) [2, 3, 5, 41]]
@[go_sem] def s19_7 (_ : Unit) : IR := (sQ [(kT l19_6), (.cond (.t 41) .skip (.exit 0))])
@[go_sem] def l19_8 : Nat → GOp
  | 0 => ⟨(some 44), .faddr (.t 3) 1, none⟩
  | 1 => ⟨(some 45), .load (.t 44) 1 false, none⟩
  | 2 => ⟨(some 46), .mv (.t 5), none⟩
  | 3 => ⟨(some 47), .iaddr (.t 45) (.t 46) 1, none⟩
  | 4 => ⟨(some 48), .load (.t 47) 1 false, none⟩
  | 5 => ⟨(some 49), .faddr (.t 2) 1, none⟩
  | 6 => ⟨(some 50), .load (.t 49) 1 false, none⟩
  | 7 => ⟨(some 51), .len (.t 50), none⟩
  | 8 => ⟨(some 52), .bin .sub (.t 51) (cI 1), none⟩
  | 9 => ⟨(some 53), .call (n_spec_l1In) [(.t 48), (cI 0), (.t 52)], none⟩
  | 10 => ⟨(some 54), .un .not (.t 53), none⟩
  | _ => ⟨none, .mkmap, none⟩
@[go_sem] def l19_9 (_ : Unit) : KL := [kB 4 (.mv (.c (.bool false))) [4]]
@[go_sem] def s19_10 (_ : Unit) : IR := (sQ [(kT l19_9), .ret])
@[go_sem] def s19_11 (_ : Unit) : IR := (sQ [(.kd (oF l19_8 11) [(0, []), (1, []), (2, []), (3, []), (4, []), (5, []), (6, []), (7, []), (8, []), (9, []), (10, [])] [2, 3, 5, 54]), (.cond (.t 54) (tH s19_10) .skip)])
@[go_sem] def l19_12 : Nat → GOp
  | 0 => ⟨(some 55), .load (.t 2) 2 true, none⟩
  | 1 => ⟨(some 56), .faddr (.t 3) 0, none⟩
  | 2 => ⟨(some 57), .load (.t 56) 1 false, none⟩
  | 3 => ⟨(some 58), .mv (.t 5), none⟩
  | 4 => ⟨(some 59), .iaddr (.t 57) (.t 58) 1, none⟩
  | 5 => ⟨(some 60), .load (.t 59) 1 false, none⟩
  | 6 => ⟨(some 61), .faddr (.t 3) 1, none⟩
  | 7 => ⟨(some 62), .load (.t 61) 1 false, none⟩
  | 8 => ⟨(some 63), .mv (.t 5), none⟩
  | 9 => ⟨(some 64), .iaddr (.t 62) (.t 63) 1, none⟩
  | 10 => ⟨(some 65), .load (.t 64) 1 false, none⟩
  | 11 => ⟨(some 66), .call (n_spec_l2Use) [(.t 55), (.t 60), (.t 65)], none⟩
  | 12 => ⟨(some 6), .mv (.t 66), none⟩
  | _ => ⟨none, .mkmap, none⟩
@[go_sem] def l19_13 (_ : Unit) : KL := [kA 67 (.mv (.t 6)),
  kA 68 (.len (.t 67)),
  kA 69 (.bin .eql (.t 68) (cI 0)),
  kA 70 (.mv (.t 69)),
  (⟨(some 71), .mv (.t 6), (some (70, false))⟩, (some [2, 3, 5, 70, 71])),
  (⟨(some 72), .faddr (.t 3) 0, (some (70, false))⟩, none),
  (⟨(some 73), .load (.t 72) 1 false, (some (70, false))⟩, none),
  (⟨(some 74), .mv (.t 5), (some (70, false))⟩, none),
  (⟨(some 75), .bin .add (.t 74) (cI 1), (some (70, false))⟩, none),
  (⟨(some 76), .iaddr (.t 73) (.t 75) 1, (some (70, false))⟩, (some [2, 3, 5, 70, 71, 76])),
  (⟨(some 77), .load (.t 76) 1 false, (some (70, false))⟩, none),
  (⟨(some 78), .call (n_spec_l2Same) [(.t 71), (.t 77)], (some (70, false))⟩, none),
  (⟨(some 79), .un .not (.t 78), (some (70, false))⟩, none),
  kB 80 (.pick (.t 70) (.c (.bool true)) (.t 79)) [2, 3, 5, 80]]
@[go_sem] def l19_14 (_ : Unit) : KL := [kB 4 (.mv (.c (.bool false))) [4]]
@[go_sem] def s19_15 (_ : Unit) : IR := (sQ [(kT l19_14), .ret])
@[go_sem] def s19_16 (_ : Unit) : IR := (sQ [(tH s19_11), (.kd (oF l19_12 13) [(0, []), (1, []), (2, []), (3, []), (4, []), (5, []), (6, []), (7, []), (8, []), (9, []), (10, []), (11, []), (12, [])] [2, 3, 5, 6]), (kT l19_13), (.cond (.t 80) (tH s19_15) .skip)])
@[go_sem] def s19_17 (_ : Unit) : IR := (.block 1 (tH s19_16))
@[go_sem] def l19_18 (_ : Unit) : KL := [kA 42 (.mv (.t 5)),
  kA 43 (.bin .add (.t 42) (cI 1)),
  kB 5 (.mv (.t 43)) [2, 3, 5]]
@[go_sem] def s19_19 (_ : Unit) : IR := (sQ [(tH s19_7), (tH s19_17), (kT l19_18)])
@[go_sem] def s19_20 (_ : Unit) : IR := (.loop (tH s19_19))
@[go_sem] def s19_21 (_ : Unit) : IR := (.block 0 (tH s19_20))
@[go_sem] def s19_22 (_ : Unit) : IR := (sQ [(kT l19_5), (tH s19_21)])
@[go_sem] def l19_23 (_ : Unit) : KL := [kB 4 (.mv (.c (.bool true))) [4]]
@[go_sem] def s19_24 (_ : Unit) : IR := (sQ [(kT l19_0), (tH s19_4), (tH s19_22), (kT l19_23), .ret])
theorem c19 : compFn Try.prog [(0, [], [oN, oN, oS [2, 3]]), (1, [(0, []), (1, []), (2, []), (3, []), (4, []), (5, []), (6, []), (7, []), (8, []), (9, []), (10, []), (11, []), (12, []), (13, []), (14, []), (15, []), (16, []), (17, []), (18, []), (19, []), (20, []), (21, []), (22, []), (23, []), (24, []), (25, []), (26, [22, 24]), (27, []), (28, []), (29, [])], [oS [2, 3, 36]]), (2, [], [oS [4]]), (3, [], [oS [2, 3, 5]]), (4, [], [oN, oN, oN, oN, oS [2, 3, 5, 41]]), (6, [(0, []), (1, []), (2, []), (3, []), (4, []), (5, []), (6, []), (7, []), (8, []), (9, []), (10, [])], [oS [2, 3, 5, 54]]), (7, [], [oS [4]]), (8, [(0, []), (1, []), (2, []), (3, []), (4, []), (5, []), (6, []), (7, []), (8, []), (9, []), (10, []), (11, []), (12, [])], [oS [2, 3, 5, 6]]), (9, [], [oN, oN, oN, oN, oS [2, 3, 5, 70, 71], oN, oN, oN, oN, oS [2, 3, 5, 70, 71, 76], oN, oN, oN, oS [2, 3, 5, 80]]), (10, [], [oS [4]]), (5, [], [oN, oN, oS [2, 3, 5]]), (11, [], [oS [4]])] Try.f19 = some ⟨2, 81, [.t 4], (tH s19_24)⟩ := by kernel_rfl
theorem v_spec_TraceValid (hl : vs.length = 2) (h : wpV Try.prog (tH s19_24) (postV [.t 4] RV) (envV vs) M) : VCall Try.prog n_spec_TraceValid vs M RV :=
  vcall_of_wp (fun _ _ _ hl h => acall_of_wp mixed Try.func19 c19 (by kernel_rfl) hl h) hl h
@[go_sem] def l21_0 (_ : Unit) : KL := [kB 2 (.mv (.c (.sl none 0 0 true 0))) [0]]
@[go_sem] def l21_1 (_ : Unit) : KL := [kA 5 (.bslc 1 0 [(.int .i64 0)] []),
  kB 3 (.mv (.t 5)) [0, 3]]
@[go_sem] def l21_2 (_ : Unit) : KL := [kB 4 (.mv (cI 0)) [0, 3, 4]]
@[go_sem] def l21_3 (_ : Unit) : KL := [kA 6 (.mv (.t 4)),
  kA 7 (.mv (.t 0)),
  kA 8 (.len (.t 7)),
  kB 9 (.bin .lss (.t 6) (.t 8)) [0, 3, 4, 9]]
@[go_sem] def s21_4 (_ : Unit) : IR := (sQ [(kT l21_3), (.cond (.t 9) .skip (.exit 0))])
@[go_sem] def l21_5 (_ : Unit) : KL := [kA 12 (.mv (.t 3)),
  kA 13 (.mv (.t 0)),
  kA 14 (.mv (.t 4)),
  kA 15 (.iaddr (.t 13) (.t 14) 1),
  kB 16 (.load (.t 15) 1 false) [0, 4, 12, 16],
  kA 17 (.bslc 1 1 [(.int .i64 0)] [(0, (.t 16))]),
  kA 18 (.app 1 8 (.t 12) (.t 17)),
  kB 3 (.mv (.t 18)) [0, 3, 4]]
@[go_sem] def s21_6 (_ : Unit) : IR := (.block 1 (kT l21_5))
@[go_sem] def l21_7 (_ : Unit) : KL := [kA 10 (.mv (.t 4)),
  kA 11 (.bin .add (.t 10) (cI 1)),
  kB 4 (.mv (.t 11)) [0, 3, 4]]
@[go_sem] def s21_8 (_ : Unit) : IR := (sQ [(tH s21_4), (tH s21_6), (kT l21_7)])
@[go_sem] def s21_9 (_ : Unit) : IR := (.loop (tH s21_8))
@[go_sem] def s21_10 (_ : Unit) : IR := (.block 0 (tH s21_9))
@[go_sem] def s21_11 (_ : Unit) : IR := (sQ [(kT l21_2), (tH s21_10)])
@[go_sem] def l21_12 (_ : Unit) : KL := [kA 19 (.mv (.t 3)),
  kB 2 (.mv (.t 19)) [2]]
@[go_sem] def s21_13 (_ : Unit) : IR := (sQ [(kT l21_0), (kT l21_1), (tH s21_11), (kT l21_12), .ret])
theorem c21 : compFn Try.prog [(0, [], [oS [0]]), (1, [], [oN, oS [0, 3]]), (2, [], [oS [0, 3, 4]]), (3, [], [oN, oN, oN, oS [0, 3, 4, 9]]), (5, [], [oN, oN, oN, oN, oS [0, 4, 12, 16], oN, oN, oS [0, 3, 4]]), (4, [], [oN, oN, oS [0, 3, 4]]), (6, [], [oN, oS [2]])] Try.f21 = some ⟨1, 20, [.t 2], (tH s21_13)⟩ := by kernel_rfl
theorem v_spec_l3Copy (hl : vs.length = 1) (h : wpV Try.prog (tH s21_13) (postV [.t 2] RV) (envV vs) M) : VCall Try.prog n_spec_l3Copy vs M RV :=
  vcall_of_wp (fun _ _ _ hl h => acall_of_wp mixed Try.func21 c21 (by kernel_rfl) hl h) hl h
@[go_sem] def l6_0 (_ : Unit) : KL := [kA 2 (.box (.t 0)),
  kA 3 (.box (.t 1)),
  kB 4 (.alloc [(.sl none 0 0 true 0), (.sl none 0 0 true 0)]) [2, 3, 4]]
@[go_sem] def l6_1 (_ : Unit) : KL := [kA 9 (.bld [(.sl none 0 0 true 0), (.sl none 0 0 true 0)] []),
  kA 5 (.alloc [(.sl none 0 0 true 0), (.sl none 0 0 true 0)]),
  (⟨none, .store (.t 5) 2 (.t 9), none⟩, (some [2, 3, 4, 5]))]
@[go_sem] def l6_2 (_ : Unit) : KL := [kA 10 (.load (.t 2) 2 true),
  kA 11 (.load (.t 3) 2 true),
  kA 12 (.call (n_spec_TraceValid) [(.t 10), (.t 11)]),
  kB 13 (.un .not (.t 12)) [3, 4, 5, 13]]
@[go_sem] def l6_3 (_ : Unit) : KL := [kA 14 (.load (.t 5) 2 true),
  (⟨none, .store (.t 4) 2 (.t 14), none⟩, (some [4]))]
@[go_sem] def s6_4 (_ : Unit) : IR := (sQ [(kT l6_3), .ret])
@[go_sem] def s6_5 (_ : Unit) : IR := (sQ [(kT l6_2), (.cond (.t 13) (tH s6_4) .skip)])
@[go_sem] def l6_6 (_ : Unit) : KL := [kB 6 (.mv (cI 0)) [3, 4, 5, 6]]
@[go_sem] def l6_7 (_ : Unit) : KL := [kA 15 (.mv (.t 6)),
  kA 16 (.faddr (.t 3) 0),
  kA 17 (.load (.t 16) 1 false),
  kA 18 (.len (.t 17)),
  kB 19 (.bin .lss (.t 15) (.t 18)) [3, 4, 5, 6, 19]]
@[go_sem] def s6_8 (_ : Unit) : IR := (sQ [(kT l6_7), (.cond (.t 19) .skip (.exit 0))])
@[go_sem] def l6_9 (_ : Unit) : KL := [kA 20 (.mv (.t 6)),
  kB 7 (.mv (.t 20)) [3, 4, 5, 6, 7]]
@[go_sem] def l6_10 (_ : Unit) : KL := [kA 21 (.mv (.t 6)),
  kB 8 (.mv (.t 21)) [3, 4, 5, 6, 7, 8]]
@[go_sem] def l6_11 (_ : Unit) : KL := [kA 22 (.mv (.t 8)),
  kA 23 (.faddr (.t 3) 0),
  kA 24 (.load (.t 23) 1 false),
  kA 25 (.len (.t 24)),
  kB 26 (.bin .lss (.t 22) (.t 25)) [3, 4, 5, 6, 7, 8, 26]]
@[go_sem] def s6_12 (_ : Unit) : IR := (sQ [(kT l6_11), (.cond (.t 26) .skip (.exit 2))])
@[go_sem] def l6_13 : Nat → GOp
  | 0 => ⟨(some 29), .faddr (.t 3) 0, none⟩
  | 1 => ⟨(some 30), .load (.t 29) 1 false, none⟩
  | 2 => ⟨(some 31), .mv (.t 8), none⟩
  | 3 => ⟨(some 32), .iaddr (.t 30) (.t 31) 1, none⟩
  | 4 => ⟨(some 33), .load (.t 32) 1 false, none⟩
  | 5 => ⟨(some 34), .faddr (.t 3) 0, none⟩
  | 6 => ⟨(some 35), .load (.t 34) 1 false, none⟩
  | 7 => ⟨(some 36), .mv (.t 6), none⟩
  | 8 => ⟨(some 37), .iaddr (.t 35) (.t 36) 1, none⟩
  | 9 => ⟨(some 38), .load (.t 37) 1 false, none⟩
  | 10 => ⟨(some 39), .call (n_spec_l2Same) [(.t 33), (.t 38)], none⟩
  | _ => ⟨none, .mkmap, none⟩
@[go_sem] def l6_14 (_ : Unit) : KL := [kA 40 (.mv (.t 8)),
  kB 7 (.mv (.t 40)) [3, 4, 5, 6, 7, 8]]
@[go_sem] def s6_15 (_ : Unit) : IR := (sQ [(.kd (oF l6_13 11) [(0, []), (1, []), (2, []), (3, []), (4, []), (5, []), (6, []), (7, []), (8, []), (9, []), (10, [])] [3, 4, 5, 6, 7, 8, 39]), (.cond (.t 39) (kT l6_14) .skip)])
@[go_sem] def s6_16 (_ : Unit) : IR := (.block 3 (tH s6_15))
@[go_sem] def l6_17 (_ : Unit) : KL := [kA 27 (.mv (.t 8)),
  kA 28 (.bin .add (.t 27) (cI 1)),
  kB 8 (.mv (.t 28)) [3, 4, 5, 6, 7, 8]]
@[go_sem] def s6_18 (_ : Unit) : IR := (sQ [(tH s6_12), (tH s6_16), (kT l6_17)])
@[go_sem] def s6_19 (_ : Unit) : IR := (.loop (tH s6_18))
@[go_sem] def s6_20 (_ : Unit) : IR := (.block 2 (tH s6_19))
@[go_sem] def s6_21 (_ : Unit) : IR := (sQ [(kT l6_10), (tH s6_20)])
@[go_sem] def l6_22 : Nat → GOp
  | 0 => ⟨(some 41), .faddr (.t 5) 0, none⟩
  | 1 => ⟨(some 42), .load (.t 41) 1 false, none⟩
  | 2 => ⟨(some 43), .faddr (.t 3) 0, none⟩
  | 3 => ⟨(some 44), .load (.t 43) 1 false, none⟩
  | 4 => ⟨(some 45), .mv (.t 6), none⟩
  | 5 => ⟨(some 46), .iaddr (.t 44) (.t 45) 1, none⟩
  | 6 => ⟨(some 47), .load (.t 46) 1 false, none⟩
  | 7 => ⟨(some 48), .call (n_spec_l3Copy) [(.t 47)], none⟩
  | 8 => ⟨(some 49), .bslc 1 1 [(.sl none 0 0 true 0)] [(0, (.t 48))], none⟩
  | 9 => ⟨(some 50), .app 1 24 (.t 42) (.t 49), none⟩
  | 10 => ⟨(some 51), .faddr (.t 5) 0, none⟩
  | 11 => ⟨none, .store (.t 51) 1 (.t 50), none⟩
  | _ => ⟨none, .mkmap, none⟩
@[go_sem] def l6_23 (_ : Unit) : KL := [kA 52 (.mv (.t 7)),
  kA 53 (.faddr (.t 3) 1),
  kA 54 (.load (.t 53) 1 false),
  kA 55 (.len (.t 54)),
  kB 56 (.bin .lss (.t 52) (.t 55)) [3, 4, 5, 7, 56]]
@[go_sem] def l6_24 : Nat → GOp
  | 0 => ⟨(some 57), .faddr (.t 5) 1, none⟩
  | 1 => ⟨(some 58), .load (.t 57) 1 false, none⟩
  | 2 => ⟨(some 59), .faddr (.t 3) 1, none⟩
  | 3 => ⟨(some 60), .load (.t 59) 1 false, none⟩
  | 4 => ⟨(some 61), .mv (.t 7), none⟩
  | 5 => ⟨(some 62), .iaddr (.t 60) (.t 61) 1, none⟩
  | 6 => ⟨(some 63), .load (.t 62) 1 false, none⟩
  | 7 => ⟨(some 64), .bslc 1 1 [(.int .i64 0)] [(0, (.t 63))], none⟩
  | 8 => ⟨(some 65), .app 1 8 (.t 58) (.t 64), none⟩
  | 9 => ⟨(some 66), .faddr (.t 5) 1, none⟩
  | 10 => ⟨none, .store (.t 66) 1 (.t 65), none⟩
  | _ => ⟨none, .mkmap, none⟩
@[go_sem] def s6_25 (_ : Unit) : IR := (sQ [(kT l6_23), (.cond (.t 56) (.kd (oF l6_24 11) [(0, []), (1, []), (2, []), (3, []), (4, []), (5, []), (6, []), (7, []), (8, []), (9, []), (10, [])] [3, 4, 5, 7]) .skip)])
@[go_sem] def l6_26 (_ : Unit) : KL := [kA 67 (.mv (.t 7)),
  kA 68 (.bin .add (.t 67) (cI 1)),
  kB 6 (.mv (.t 68)) [3, 4, 5, 6]]
@[go_sem] def s6_27 (_ : Unit) : IR := (sQ [(kT l6_9), (tH s6_21), (.kd (oF l6_22 12) [(0, []), (1, []), (2, []), (3, []), (4, []), (5, []), (6, []), (7, [1]), (8, []), (9, []), (10, []), (11, [])] [3, 4, 5, 7]), (tH s6_25), (kT l6_26)])
@[go_sem] def s6_28 (_ : Unit) : IR := (.block 1 (tH s6_27))
@[go_sem] def s6_29 (_ : Unit) : IR := (sQ [(tH s6_8), (tH s6_28)])
@[go_sem] def s6_30 (_ : Unit) : IR := (.loop (tH s6_29))
@[go_sem] def s6_31 (_ : Unit) : IR := (.block 0 (tH s6_30))
@[go_sem] def l6_32 (_ : Unit) : KL := [kA 69 (.load (.t 5) 2 true),
  (⟨none, .store (.t 4) 2 (.t 69), none⟩, (some [4]))]
@[go_sem] def s6_33 (_ : Unit) : IR := (sQ [(kT l6_0), (kT l6_1), (tH s6_5), (kT l6_6), (tH s6_31), (kT l6_32), .ret])
theorem c6 : compFn Try.prog [(0, [], [oN, oN, oS [2, 3, 4]]), (1, [], [oN, oN, oS [2, 3, 4, 5]]), (2, [], [oN, oN, oN, oS [3, 4, 5, 13]]), (3, [], [oN, oS [4]]), (4, [], [oS [3, 4, 5, 6]]), (5, [], [oN, oN, oN, oN, oS [3, 4, 5, 6, 19]]), (6, [], [oN, oS [3, 4, 5, 6, 7]]), (7, [], [oN, oS [3, 4, 5, 6, 7, 8]]), (8, [], [oN, oN, oN, oN, oS [3, 4, 5, 6, 7, 8, 26]]), (10, [(0, []), (1, []), (2, []), (3, []), (4, []), (5, []), (6, []), (7, []), (8, []), (9, []), (10, [])], [oS [3, 4, 5, 6, 7, 8, 39]]), (11, [], [oN, oS [3, 4, 5, 6, 7, 8]]), (9, [], [oN, oN, oS [3, 4, 5, 6, 7, 8]]), (12, [(0, []), (1, []), (2, []), (3, []), (4, []), (5, []), (6, []), (7, [1]), (8, []), (9, []), (10, []), (11, [])], [oS [3, 4, 5, 7]]), (13, [], [oN, oN, oN, oN, oS [3, 4, 5, 7, 56]]), (14, [(0, []), (1, []), (2, []), (3, []), (4, []), (5, []), (6, []), (7, []), (8, []), (9, []), (10, [])], [oS [3, 4, 5, 7]]), (15, [], [oN, oN, oS [3, 4, 5, 6]]), (16, [], [oN, oS [4]])] Try.f6 = some ⟨2, 70, [.c 4 2 true], (tH s6_33)⟩ := by kernel_rfl
theorem v_spec_WithoutRounds (hl : vs.length = 2) (h : wpV Try.prog (tH s6_33) (postV [.c 4 2 true] RV) (envV vs) M) : VCall Try.prog n_spec_WithoutRounds vs M RV :=
  vcall_of_wp (fun _ _ _ hl h => acall_of_wp mixed Try.func6 c6 (by kernel_rfl) hl h) hl h
@[go_sem] def l48_0 (_ : Unit) : KL := [kB 6 (.mv (.c (.bool false))) [0, 1, 2]]
@[go_sem] def l48_1 (_ : Unit) : KL := [kA 7 (.mv (.t 0)),
  kA 8 (.mv (.t 1)),
  kA 9 (.bin .geq (.t 7) (.t 8)),
  kA 10 (.mv (.t 9)),
  (⟨(some 11), .mv (.t 0), (some (10, true))⟩, (some [2, 10, 11])),
  (⟨(some 12), .mv (.t 2), (some (10, true))⟩, none),
  (⟨(some 13), .bin .leq (.t 11) (.t 12), (some (10, true))⟩, none),
  kA 14 (.pick (.t 10) (.t 13) (.c (.bool false))),
  kB 6 (.mv (.t 14)) [6]]
@[go_sem] def s48_2 (_ : Unit) : IR := (sQ [(kT l48_0), (kT l48_1), .ret])
theorem c48 : compFn Try.prog [(0, [], [oS [0, 1, 2]]), (1, [], [oN, oN, oN, oN, oS [2, 10, 11], oN, oN, oN, oS [6]])] Try.f48 = some ⟨3, 15, [.t 6], (tH s48_2)⟩ := by kernel_rfl
theorem v_impl_in (hl : vs.length = 3) (h : wpV Try.prog (tH s48_2) (postV [.t 6] RV) (envV vs) M) : VCall Try.prog n_impl_in vs M RV :=
  vcall_of_wp (fun _ _ _ hl h => acall_of_wp mixed Try.func48 c48 (by kernel_rfl) hl h) hl h
@[go_sem] def l77_0 (_ : Unit) : KL := [kB 4 (.mv (cI 0)) [0, 1]]
@[go_sem] def l77_1 (_ : Unit) : KL := [kA 6 (.mv (.t 0)),
  kA 7 (.len (.t 6)),
  kB 8 (.mv (cI 0)) [0, 1, 7, 8]]
@[go_sem] def l77_2 (_ : Unit) : KL := [kB 9 (.bin .lss (.t 8) (.t 7)) [0, 1, 7, 8, 9]]
@[go_sem] def l77_3 (_ : Unit) : KL := [kA 10 (.mv (.t 8)),
  kB 5 (.mv (.t 10)) [0, 1, 5, 7, 8]]
@[go_sem] def l77_4 (_ : Unit) : KL := [kA 11 (.mv (.t 1)),
  kA 12 (.mv (.t 0)),
  kA 13 (.mv (.t 5)),
  kA 14 (.iaddr (.t 12) (.t 13) 3),
  kB 15 (.load (.t 14) 3 true) [0, 1, 5, 7, 8, 11, 15],
  kB 16 (.callv (.t 11) [(.t 15)]) [0, 1, 5, 7, 8, 16]]
@[go_sem] def l77_5 (_ : Unit) : KL := [kA 17 (.mv (.t 5)),
  kB 4 (.mv (.t 17)) [4]]
@[go_sem] def s77_6 (_ : Unit) : IR := (sQ [(kT l77_5), .ret])
@[go_sem] def s77_7 (_ : Unit) : IR := (sQ [(kT l77_3), (kT l77_4), (.cond (.t 16) (tH s77_6) .skip)])
@[go_sem] def s77_8 (_ : Unit) : IR := (.block 1 (tH s77_7))
@[go_sem] def l77_9 (_ : Unit) : KL := [kA 18 (.bin .add (.t 8) (cI 1)),
  kB 8 (.mv (.t 18)) [0, 1, 7, 8]]
@[go_sem] def s77_10 (_ : Unit) : IR := (sQ [(kT l77_2), (.cond (.t 9) .skip (.exit 0)), (tH s77_8), (kT l77_9)])
@[go_sem] def s77_11 (_ : Unit) : IR := (.loop (tH s77_10))
@[go_sem] def s77_12 (_ : Unit) : IR := (.block 0 (tH s77_11))
@[go_sem] def s77_13 (_ : Unit) : IR := (sQ [(kT l77_1), (tH s77_12)])
@[go_sem] def l77_14 (_ : Unit) : KL := [kB 4 (.mv (.c (.int .i64 (-1)))) [4]]
@[go_sem] def s77_15 (_ : Unit) : IR := (sQ [(kT l77_0), (tH s77_13), (kT l77_14), .ret])
theorem c77 : compFn Try.prog [(0, [], [oS [0, 1]]), (1, [], [oN, oN, oS [0, 1, 7, 8]]), (2, [], [oS [0, 1, 7, 8, 9]]), (3, [], [oN, oS [0, 1, 5, 7, 8]]), (4, [], [oN, oN, oN, oN, oS [0, 1, 5, 7, 8, 11, 15], oS [0, 1, 5, 7, 8, 16]]), (5, [], [oN, oS [4]]), (6, [], [oN, oS [0, 1, 7, 8]]), (7, [], [oS [4]])] Try.f77 = some ⟨2, 19, [.t 4], (tH s77_15)⟩ := by kernel_rfl
theorem v_slices_IndexFunc_Simpl_Var_impl_Var (hl : vs.length = 2) (h : wpV Try.prog (tH s77_15) (postV [.t 4] RV) (envV vs) M) : VCall Try.prog n_slices_IndexFunc_Simpl_Var_impl_Var vs M RV :=
  vcall_of_wp (fun _ _ _ hl h => acall_of_wp mixed Try.func77 c77 (by kernel_rfl) hl h) hl h
@[go_sem] def l63_0 (_ : Unit) : KL := [kB 4 (.mv (.c (.bool false))) [0, 1]]
@[go_sem] def l63_1 (_ : Unit) : KL := [kA 5 (.mv (.t 0)),
  kA 6 (.mv (.t 1)),
  kA 7 (.call (n_slices_IndexFunc_Simpl_Var_impl_Var) [(.t 5), (.t 6)]),
  kA 8 (.bin .geq (.t 7) (cI 0)),
  kB 4 (.mv (.t 8)) [4]]
@[go_sem] def s63_2 (_ : Unit) : IR := (sQ [(kT l63_0), (kT l63_1), .ret])
theorem c63 : compFn Try.prog [(0, [], [oS [0, 1]]), (1, [], [oN, oN, oN, oN, oS [4]])] Try.f63 = some ⟨2, 9, [.t 4], (tH s63_2)⟩ := by kernel_rfl
theorem v_slices_ContainsFunc_Simpl_Var_impl_Var (hl : vs.length = 2) (h : wpV Try.prog (tH s63_2) (postV [.t 4] RV) (envV vs) M) : VCall Try.prog n_slices_ContainsFunc_Simpl_Var_impl_Var vs M RV :=
  vcall_of_wp (fun _ _ _ hl h => acall_of_wp mixed Try.func63 c63 (by kernel_rfl) hl h) hl h
@[go_sem] def l65_0 (_ : Unit) : KL := [kA 1 (.box (.t 0)),
  kB 2 (.mv (.c (.bool false))) [1]]
@[go_sem] def l65_1 (_ : Unit) : KL := [kA 3 (.faddr (.t 1) 0),
  kA 4 (.load (.t 3) 1 false),
  kA 5 (.call (n_impl_in) [(.t 4), (.c (.int .i64 (-9999))), (.c (.int .i64 9999))]),
  kA 6 (.mv (.t 5)),
  (⟨(some 7), .faddr (.t 1) 1, (some (6, true))⟩, (some [1, 6, 7])),
  (⟨(some 8), .load (.t 7) 1 false, (some (6, true))⟩, none),
  (⟨(some 9), .faddr (.t 1) 0, (some (6, true))⟩, none),
  (⟨(some 10), .load (.t 9) 1 false, (some (6, true))⟩, none),
  (⟨(some 11), .call (n_impl_in) [(.t 8), (.t 10), (.c (.int .i64 9999))], (some (6, true))⟩, none),
  kB 12 (.pick (.t 6) (.t 11) (.c (.bool false))) [1, 12],
  kA 13 (.mv (.t 12)),
  (⟨(some 14), .faddr (.t 1) 1, (some (13, true))⟩, none),
  (⟨(some 15), .load (.t 14) 1 false, (some (13, true))⟩, none),
  (⟨(some 16), .faddr (.t 1) 0, (some (13, true))⟩, none),
  (⟨(some 17), .load (.t 16) 1 false, (some (13, true))⟩, (some [1, 13, 15, 17])),
  (⟨(some 18), .bin .sub (.t 15) (.t 17), (some (13, true))⟩, none),
  (⟨(some 19), .bin .lss (.t 18) (.c (.int .i64 20)), (some (13, true))⟩, none),
  kA 20 (.pick (.t 13) (.t 19) (.c (.bool false))),
  kA 21 (.mv (.t 20)),
  (⟨(some 22), .faddr (.t 1) 2, (some (21, true))⟩, (some [1, 21, 22])),
  (⟨(some 23), .load (.t 22) 1 false, (some (21, true))⟩, none),
  (⟨(some 24), .faddr (.t 1) 0, (some (21, true))⟩, none),
  (⟨(some 25), .load (.t 24) 1 false, (some (21, true))⟩, none),
  (⟨(some 26), .faddr (.t 1) 1, (some (21, true))⟩, none),
  (⟨(some 27), .load (.t 26) 1 false, (some (21, true))⟩, (some [21, 23, 25, 27])),
  (⟨(some 28), .call (n_impl_in) [(.t 23), (.t 25), (.t 27)], (some (21, true))⟩, none),
  kA 29 (.pick (.t 21) (.t 28) (.c (.bool false))),
  kB 2 (.mv (.t 29)) [2]]
@[go_sem] def s65_2 (_ : Unit) : IR := (sQ [(kT l65_0), (kT l65_1), .ret])
theorem c65 : compFn Try.prog [(0, [], [oN, oS [1]]), (1, [], [oN, oN, oN, oN, oS [1, 6, 7], oN, oN, oN, oN, oS [1, 12], oN, oN, oN, oN, oS [1, 13, 15, 17], oN, oN, oN, oN, oS [1, 21, 22], oN, oN, oN, oN, oS [21, 23, 25, 27], oN, oN, oS [2]])] Try.f65 = some ⟨1, 30, [.t 2], (tH s65_2)⟩ := by kernel_rfl
theorem v_impl_varOk (hl : vs.length = 1) (h : wpV Try.prog (tH s65_2) (postV [.t 2] RV) (envV vs) M) : VCall Try.prog n_impl_varOk vs M RV :=
  vcall_of_wp (fun _ _ _ hl h => acall_of_wp mixed Try.func65 c65 (by kernel_rfl) hl h) hl h
@[go_sem] def l64_0 (_ : Unit) : KL := [kA 1 (.box (.t 0)),
  kB 2 (.mv (.c (.bool false))) [1]]
@[go_sem] def l64_1 (_ : Unit) : KL := [kA 3 (.load (.t 1) 3 true),
  kA 4 (.call (n_impl_varOk) [(.t 3)]),
  kA 5 (.un .not (.t 4)),
  kB 2 (.mv (.t 5)) [2]]
@[go_sem] def s64_2 (_ : Unit) : IR := (sQ [(kT l64_0), (kT l64_1), .ret])
theorem c64 : compFn Try.prog [(0, [], [oN, oS [1]]), (1, [], [oN, oN, oN, oS [2]])] Try.f64 = some ⟨1, 6, [.t 2], (tH s64_2)⟩ := by kernel_rfl
theorem v_impl_SystemValid_1 (hl : vs.length = 1) (h : wpV Try.prog (tH s64_2) (postV [.t 2] RV) (envV vs) M) : VCall Try.prog n_impl_SystemValid_1 vs M RV :=
  vcall_of_wp (fun _ _ _ hl h => acall_of_wp mixed Try.func64 c64 (by kernel_rfl) hl h) hl h
@[go_sem] def l66_0 (_ : Unit) : KL := [kB 2 (.mv (cI 0)) [0]]
@[go_sem] def l66_1 (_ : Unit) : KL := [kB 3 (.mv (cI 1)) [0, 3]]
@[go_sem] def l66_2 (_ : Unit) : KL := [kA 6 (.mv (.t 0)),
  kA 7 (.len (.t 6)),
  kB 8 (.mv (cI 0)) [3, 6, 7, 8]]
@[go_sem] def l66_3 (_ : Unit) : KL := [kB 9 (.bin .lss (.t 8) (.t 7)) [3, 6, 7, 8, 9]]
@[go_sem] def l66_4 (_ : Unit) : KL := [kA 10 (.iaddr (.t 6) (.t 8) 3),
  kA 11 (.load (.t 10) 3 true),
  kA 5 (.alloc [(.int .i64 0), (.int .i64 0), (.int .i64 0)]),
  (⟨none, .store (.t 5) 3 (.t 11), none⟩, (some [3, 5, 6, 7, 8]))]
@[go_sem] def l66_5 (_ : Unit) : KL := [kA 12 (.mv (.t 3)),
  kA 13 (.faddr (.t 5) 1),
  kA 14 (.load (.t 13) 1 false),
  kA 15 (.faddr (.t 5) 0),
  kB 16 (.load (.t 15) 1 false) [6, 7, 8, 12, 14, 16],
  kA 17 (.bin .sub (.t 14) (.t 16)),
  kA 18 (.bin .add (.t 17) (cI 1)),
  kA 19 (.bin .mul (.t 12) (.t 18)),
  kB 3 (.mv (.t 19)) [3, 6, 7, 8]]
@[go_sem] def s66_6 (_ : Unit) : IR := (sQ [(kT l66_4), (kT l66_5)])
@[go_sem] def s66_7 (_ : Unit) : IR := (.block 1 (tH s66_6))
@[go_sem] def l66_8 (_ : Unit) : KL := [kA 20 (.bin .add (.t 8) (cI 1)),
  kB 8 (.mv (.t 20)) [3, 6, 7, 8]]
@[go_sem] def s66_9 (_ : Unit) : IR := (sQ [(kT l66_3), (.cond (.t 9) .skip (.exit 0)), (tH s66_7), (kT l66_8)])
@[go_sem] def s66_10 (_ : Unit) : IR := (.loop (tH s66_9))
@[go_sem] def s66_11 (_ : Unit) : IR := (.block 0 (tH s66_10))
@[go_sem] def s66_12 (_ : Unit) : IR := (sQ [(kT l66_2), (tH s66_11)])
@[go_sem] def l66_13 (_ : Unit) : KL := [kA 21 (.mv (.t 3)),
  kB 2 (.mv (.t 21)) [2]]
@[go_sem] def s66_14 (_ : Unit) : IR := (sQ [(kT l66_0), (kT l66_1), (tH s66_12), (kT l66_13), .ret])
theorem c66 : compFn Try.prog [(0, [], [oS [0]]), (1, [], [oS [0, 3]]), (2, [], [oN, oN, oS [3, 6, 7, 8]]), (3, [], [oS [3, 6, 7, 8, 9]]), (4, [], [oN, oN, oN, oS [3, 5, 6, 7, 8]]), (5, [], [oN, oN, oN, oN, oS [6, 7, 8, 12, 14, 16], oN, oN, oN, oS [3, 6, 7, 8]]), (6, [], [oN, oS [3, 6, 7, 8]]), (7, [], [oN, oS [2]])] Try.f66 = some ⟨1, 22, [.t 2], (tH s66_14)⟩ := by kernel_rfl
theorem v_impl_size (hl : vs.length = 1) (h : wpV Try.prog (tH s66_14) (postV [.t 2] RV) (envV vs) M) : VCall Try.prog n_impl_size vs M RV :=
  vcall_of_wp (fun _ _ _ hl h => acall_of_wp mixed Try.func66 c66 (by kernel_rfl) hl h) hl h
@[go_sem] def l90_0 (_ : Unit) : KL := [kA 2 (.mv (cI 0)),
  kA 3 (.mv (cI 0)),
  kB 4 (.mv (cI 0)) [0]]
@[go_sem] def l90_1 (_ : Unit) : KL := [kB 5 (.mv (.t 0)) [5]]
@[go_sem] def l90_2 (_ : Unit) : KL := [kA 7 (.bin .eql (.t 5) (.c (.int .i64 2))),
  kB 6 (.mv (.t 7)) [5, 6]]
@[go_sem] def l90_3 (_ : Unit) : KL := [kA 8 (.bin .eql (.t 5) (.c (.int .i64 3))),
  kB 6 (.mv (.t 8)) [5, 6]]
@[go_sem] def l90_4 (_ : Unit) : KL := [kA 9 (.bin .eql (.t 5) (.c (.int .i64 4))),
  kB 6 (.mv (.t 9)) [5, 6]]
@[go_sem] def s90_5 (_ : Unit) : IR := (sQ [(kT l90_3), (.cond (.t 6) .skip (kT l90_4))])
@[go_sem] def s90_6 (_ : Unit) : IR := (sQ [(kT l90_2), (.cond (.t 6) .skip (tH s90_5))])
@[go_sem] def l90_7 (_ : Unit) : KL := [kA 2 (.mv (.c (.int .i64 2))),
  kA 3 (.mv (cI 1)),
  kB 4 (.mv (cI 1)) [2, 3, 4]]
@[go_sem] def s90_8 (_ : Unit) : IR := (sQ [(kT l90_7), .ret])
@[go_sem] def l90_9 (_ : Unit) : KL := [kA 11 (.bin .eql (.t 5) (.c (.int .i64 5))),
  kB 10 (.mv (.t 11)) [5, 10]]
@[go_sem] def l90_10 (_ : Unit) : KL := [kA 12 (.bin .eql (.t 5) (.c (.int .i64 6))),
  kB 10 (.mv (.t 12)) [5, 10]]
@[go_sem] def s90_11 (_ : Unit) : IR := (sQ [(kT l90_9), (.cond (.t 10) .skip (kT l90_10))])
@[go_sem] def l90_12 (_ : Unit) : KL := [kA 2 (.mv (.c (.int .i64 2))),
  kA 3 (.mv (cI 1)),
  kB 4 (.mv (.c (.int .i64 2))) [2, 3, 4]]
@[go_sem] def s90_13 (_ : Unit) : IR := (sQ [(kT l90_12), .ret])
@[go_sem] def l90_14 (_ : Unit) : KL := [kA 14 (.bin .eql (.t 5) (.c (.int .i64 7))),
  kB 13 (.mv (.t 14)) [5, 13]]
@[go_sem] def l90_15 (_ : Unit) : KL := [kA 2 (.mv (cI 1)),
  kA 3 (.mv (.c (.int .i64 2))),
  kB 4 (.mv (.c (.int .i64 2))) [2, 3, 4]]
@[go_sem] def s90_16 (_ : Unit) : IR := (sQ [(kT l90_15), .ret])
@[go_sem] def l90_17 (_ : Unit) : KL := [kA 16 (.bin .eql (.t 5) (.c (.int .i64 8))),
  kB 15 (.mv (.t 16)) [5, 15]]
@[go_sem] def l90_18 (_ : Unit) : KL := [kA 17 (.bin .eql (.t 5) (.c (.int .i64 9))),
  kB 15 (.mv (.t 17)) [15]]
@[go_sem] def s90_19 (_ : Unit) : IR := (sQ [(kT l90_17), (.cond (.t 15) .skip (kT l90_18))])
@[go_sem] def l90_20 (_ : Unit) : KL := [kA 2 (.mv (.c (.int .i64 2))),
  kA 3 (.mv (.c (.int .i64 2))),
  kB 4 (.mv (.c (.int .i64 2))) [2, 3, 4]]
@[go_sem] def s90_21 (_ : Unit) : IR := (sQ [(kT l90_20), .ret])
@[go_sem] def s90_22 (_ : Unit) : IR := (sQ [(tH s90_19), (.cond (.t 15) (tH s90_21) .skip)])
@[go_sem] def s90_23 (_ : Unit) : IR := (sQ [(kT l90_14), (.cond (.t 13) (tH s90_16) (tH s90_22))])
@[go_sem] def s90_24 (_ : Unit) : IR := (sQ [(tH s90_11), (.cond (.t 10) (tH s90_13) (tH s90_23))])
@[go_sem] def s90_25 (_ : Unit) : IR := (sQ [(tH s90_6), (.cond (.t 6) (tH s90_8) (tH s90_24))])
@[go_sem] def s90_26 (_ : Unit) : IR := (.block 0 (tH s90_25))
@[go_sem] def s90_27 (_ : Unit) : IR := (sQ [(kT l90_1), (tH s90_26)])
@[go_sem] def l90_28 (_ : Unit) : KL := [kA 2 (.mv (cI 0)),
  kA 3 (.mv (cI 0)),
  kB 4 (.mv (cI 1)) [2, 3, 4]]
@[go_sem] def s90_29 (_ : Unit) : IR := (sQ [(kT l90_0), (tH s90_27), (kT l90_28), .ret])
theorem c90 : compFn Try.prog [(0, [], [oN, oN, oS [0]]), (1, [], [oS [5]]), (2, [], [oN, oS [5, 6]]), (3, [], [oN, oS [5, 6]]), (4, [], [oN, oS [5, 6]]), (5, [], [oN, oN, oS [2, 3, 4]]), (6, [], [oN, oS [5, 10]]), (7, [], [oN, oS [5, 10]]), (8, [], [oN, oN, oS [2, 3, 4]]), (9, [], [oN, oS [5, 13]]), (10, [], [oN, oN, oS [2, 3, 4]]), (11, [], [oN, oS [5, 15]]), (12, [], [oN, oS [15]]), (13, [], [oN, oN, oS [2, 3, 4]]), (14, [], [oN, oN, oS [2, 3, 4]])] Try.f90 = some ⟨1, 18, [.t 2, .t 3, .t 4], (tH s90_29)⟩ := by kernel_rfl
theorem v_impl_parts (hl : vs.length = 1) (h : wpV Try.prog (tH s90_29) (postV [.t 2, .t 3, .t 4] RV) (envV vs) M) : VCall Try.prog n_impl_parts vs M RV :=
  vcall_of_wp (fun _ _ _ hl h => acall_of_wp mixed Try.func90 c90 (by kernel_rfl) hl h) hl h
@[go_sem] def l84_0 (_ : Unit) : KL := [kB 4 (.mv (.c (.sl none 0 0 true 0))) [0, 1]]
@[go_sem] def l84_1 (_ : Unit) : KL := [kA 12 (.mv (.t 1)),
  kA 13 (.call (n_impl_in) [(.t 12), (cI 0), (.c (.int .i64 5))]),
  kA 14 (.un .not (.t 13)),
  kA 15 (.mv (.t 14)),
  (⟨(some 16), .mv (.t 0), (some (15, false))⟩, (some [0, 1, 15, 16])),
  (⟨(some 17), .len (.t 16), (some (15, false))⟩, none),
  (⟨(some 18), .call (n_impl_in) [(.t 17), (cI 1), (.c (.int .i64 40))], (some (15, false))⟩, none),
  (⟨(some 19), .un .not (.t 18), (some (15, false))⟩, none),
  kB 20 (.pick (.t 15) (.c (.bool true)) (.t 19)) [0, 1, 20]]
@[go_sem] def l84_2 (_ : Unit) : KL := [kB 4 (.mv (.c (.sl none 0 0 true 0))) [4]]
@[go_sem] def s84_3 (_ : Unit) : IR := (sQ [(kT l84_2), .ret])
@[go_sem] def s84_4 (_ : Unit) : IR := (sQ [(kT l84_1), (.cond (.t 20) (tH s84_3) .skip)])
@[go_sem] def l84_5 (_ : Unit) : KL := [kA 21 (.mv (.t 0)),
  kA 22 (.len (.t 21)),
  kA 23 (.mkc [(.int .i64 0)] 8 (cI 0) (.t 22)),
  kB 5 (.mv (.t 23)) [0, 1, 5]]
@[go_sem] def l84_6 (_ : Unit) : KL := [kA 24 (.mv (.t 0)),
  kA 25 (.len (.t 24)),
  kB 26 (.mv (cI 0)) [1, 5, 24, 25, 26]]
@[go_sem] def l84_7 (_ : Unit) : KL := [kB 27 (.bin .lss (.t 26) (.t 25)) [1, 5, 24, 25, 26, 27]]
@[go_sem] def l84_8 (_ : Unit) : KL := [kA 28 (.mv (.t 26)),
  kA 29 (.iaddr (.t 24) (.t 26) 4),
  kA 30 (.load (.t 29) 4 true),
  kA 7 (.alloc [(.int .i64 0), (.int .i64 0), (.int .i64 0), (.int .i64 0)]),
  kB 6 (.mv (.t 28)) [1, 5, 6, 7, 24, 25, 26, 30],
  (⟨none, .store (.t 7) 4 (.t 30), none⟩, (some [1, 5, 6, 7, 24, 25, 26]))]
@[go_sem] def l84_9 (_ : Unit) : KL := [kA 32 (.faddr (.t 7) 0),
  kA 33 (.load (.t 32) 1 false),
  kA 34 (.call (n_impl_parts) [(.t 33)]),
  kA 31 (.mv (.t 34)),
  kB 35 (.ext (.t 31) 0) [1, 5, 6, 7, 24, 25, 26, 31, 35],
  kA 36 (.ext (.t 31) 1),
  kA 37 (.ext (.t 31) 2),
  kA 8 (.mv (.t 35)),
  kA 9 (.mv (.t 36)),
  kB 10 (.mv (.t 37)) [1, 5, 6, 7, 8, 9, 10, 24, 25, 26]]
@[go_sem] def l84_10 (_ : Unit) : KL := [kA 38 (.faddr (.t 7) 0),
  kA 39 (.load (.t 38) 1 false),
  kA 40 (.call (n_impl_in) [(.t 39), (cI 0), (.c (.int .i64 9))]),
  kB 11 (.mv (.t 40)) [1, 5, 6, 7, 8, 9, 10, 11, 24, 25, 26]]
@[go_sem] def l84_11 (_ : Unit) : KL := [kA 42 (.faddr (.t 7) 0),
  kA 43 (.load (.t 42) 1 false),
  kA 44 (.bin .eql (.t 43) (cI 0)),
  kB 41 (.mv (.t 44)) [1, 5, 6, 7, 8, 9, 10, 11, 24, 25, 26, 41]]
@[go_sem] def l84_12 (_ : Unit) : KL := [kA 45 (.faddr (.t 7) 1),
  kA 46 (.load (.t 45) 1 false),
  kA 47 (.call (n_impl_in) [(.t 46), (.c (.int .i64 (-9999))), (.c (.int .i64 9999))]),
  kA 48 (.mv (.t 47)),
  (⟨(some 49), .faddr (.t 7) 2, (some (48, true))⟩, (some [1, 5, 7, 10, 24, 25, 26, 48, 49])),
  (⟨(some 50), .load (.t 49) 1 false, (some (48, true))⟩, none),
  (⟨(some 51), .bin .eql (.t 50) (cI 0), (some (48, true))⟩, none),
  kA 52 (.pick (.t 48) (.t 51) (.c (.bool false))),
  kA 53 (.mv (.t 52)),
  (⟨(some 54), .faddr (.t 7) 3, (some (53, true))⟩, (some [1, 5, 10, 24, 25, 26, 53, 54])),
  (⟨(some 55), .load (.t 54) 1 false, (some (53, true))⟩, none),
  (⟨(some 56), .bin .eql (.t 55) (cI 0), (some (53, true))⟩, none),
  kA 57 (.pick (.t 53) (.t 56) (.c (.bool false))),
  kB 11 (.mv (.t 57)) [1, 5, 10, 11, 24, 25, 26]]
@[go_sem] def l84_13 (_ : Unit) : KL := [kA 59 (.faddr (.t 7) 0),
  kA 60 (.load (.t 59) 1 false),
  kA 61 (.bin .eql (.t 60) (cI 1)),
  kB 58 (.mv (.t 61)) [1, 5, 6, 7, 8, 9, 10, 11, 24, 25, 26, 58]]
@[go_sem] def l84_14 (_ : Unit) : KL := [kA 62 (.faddr (.t 7) 1),
  kA 63 (.load (.t 62) 1 false),
  kA 64 (.mv (.t 1)),
  kA 65 (.bin .sub (.t 64) (cI 1)),
  kB 66 (.call (n_impl_in) [(.t 63), (cI 0), (.t 65)]) [1, 5, 7, 10, 24, 25, 26, 66],
  kA 67 (.mv (.t 66)),
  (⟨(some 68), .faddr (.t 7) 2, (some (67, true))⟩, none),
  (⟨(some 69), .load (.t 68) 1 false, (some (67, true))⟩, none),
  (⟨(some 70), .bin .eql (.t 69) (cI 0), (some (67, true))⟩, none),
  kB 71 (.pick (.t 67) (.t 70) (.c (.bool false))) [1, 5, 7, 10, 24, 25, 26, 71],
  kA 72 (.mv (.t 71)),
  (⟨(some 73), .faddr (.t 7) 3, (some (72, true))⟩, none),
  (⟨(some 74), .load (.t 73) 1 false, (some (72, true))⟩, none),
  (⟨(some 75), .bin .eql (.t 74) (cI 0), (some (72, true))⟩, none),
  kB 76 (.pick (.t 72) (.t 75) (.c (.bool false))) [1, 5, 10, 24, 25, 26, 76],
  kB 11 (.mv (.t 76)) [1, 5, 10, 11, 24, 25, 26]]
@[go_sem] def l84_15 (_ : Unit) : KL := [kA 78 (.mv (.t 11)),
  kB 77 (.mv (.t 78)) [1, 5, 6, 7, 8, 9, 10, 11, 24, 25, 26, 77]]
@[go_sem] def l84_16 (_ : Unit) : KL := [kA 79 (.faddr (.t 7) 1),
  kA 80 (.load (.t 79) 1 false),
  kA 81 (.bin .eql (.t 80) (cI 0)),
  kA 82 (.mv (.t 81)),
  (⟨(some 83), .faddr (.t 7) 2, (some (82, true))⟩, (some [1, 5, 6, 7, 8, 9, 10, 24, 25, 26, 82, 83])),
  (⟨(some 84), .load (.t 83) 1 false, (some (82, true))⟩, none),
  (⟨(some 85), .mv (.t 6), (some (82, true))⟩, none),
  (⟨(some 86), .bin .sub (.t 85) (cI 1), (some (82, true))⟩, none),
  (⟨(some 87), .call (n_impl_in) [(.t 84), (cI 0), (.t 86)], (some (82, true))⟩, none),
  kB 88 (.pick (.t 82) (.t 87) (.c (.bool false))) [1, 5, 6, 7, 8, 9, 10, 24, 25, 26, 88],
  kA 89 (.mv (.t 88)),
  (⟨(some 90), .faddr (.t 7) 3, (some (89, true))⟩, none),
  (⟨(some 91), .load (.t 90) 1 false, (some (89, true))⟩, none),
  (⟨(some 92), .mv (.t 6), (some (89, true))⟩, none),
  (⟨(some 93), .bin .sub (.t 92) (cI 1), (some (89, true))⟩, (some [1, 5, 7, 8, 9, 10, 24, 25, 26, 89, 91, 93])),
  (⟨(some 94), .call (n_impl_in) [(.t 91), (cI 0), (.t 93)], (some (89, true))⟩, none),
  kA 95 (.pick (.t 89) (.t 94) (.c (.bool false))),
  kA 96 (.mv (.t 95)),
  (⟨(some 97), .mv (.t 5), (some (96, true))⟩, none),
  (⟨(some 98), .faddr (.t 7) 2, (some (96, true))⟩, (some [1, 5, 7, 8, 9, 10, 24, 25, 26, 96, 97, 98])),
  (⟨(some 99), .load (.t 98) 1 false, (some (96, true))⟩, none),
  (⟨(some 100), .iaddr (.t 97) (.t 99) 1, (some (96, true))⟩, none),
  (⟨(some 101), .load (.t 100) 1 false, (some (96, true))⟩, none),
  (⟨(some 102), .mv (.t 9), (some (96, true))⟩, none),
  (⟨(some 103), .bin .eql (.t 101) (.t 102), (some (96, true))⟩, (some [1, 5, 7, 8, 9, 10, 24, 25, 26, 96, 103])),
  kA 104 (.pick (.t 96) (.t 103) (.c (.bool false))),
  kA 105 (.mv (.t 104)),
  (⟨(some 106), .mv (.t 5), (some (105, true))⟩, none),
  (⟨(some 107), .faddr (.t 7) 3, (some (105, true))⟩, none),
  (⟨(some 108), .load (.t 107) 1 false, (some (105, true))⟩, (some [1, 5, 7, 8, 9, 10, 24, 25, 26, 105, 106, 108])),
  (⟨(some 109), .iaddr (.t 106) (.t 108) 1, (some (105, true))⟩, none),
  (⟨(some 110), .load (.t 109) 1 false, (some (105, true))⟩, none),
  (⟨(some 111), .mv (.t 9), (some (105, true))⟩, none),
  (⟨(some 112), .bin .eql (.t 110) (.t 111), (some (105, true))⟩, none),
  kB 113 (.pick (.t 105) (.t 112) (.c (.bool false))) [1, 5, 7, 8, 10, 24, 25, 26, 113],
  kA 114 (.mv (.t 113)),
  (⟨(some 115), .mv (.t 8), (some (114, true))⟩, none),
  (⟨(some 116), .bin .eql (.t 115) (.c (.int .i64 2)), (some (114, true))⟩, none),
  (⟨(some 117), .mv (.t 116), (some (114, true))⟩, none),
  (⟨(some 118), .faddr (.t 7) 2, (some (117, false))⟩, (some [1, 5, 7, 10, 24, 25, 26, 114, 117, 118])),
  (⟨(some 119), .load (.t 118) 1 false, (some (117, false))⟩, none),
  (⟨(some 120), .faddr (.t 7) 3, (some (117, false))⟩, none),
  (⟨(some 121), .load (.t 120) 1 false, (some (117, false))⟩, none),
  (⟨(some 122), .bin .eql (.t 119) (.t 121), (some (117, false))⟩, none),
  (⟨(some 123), .pick (.t 117) (.c (.bool true)) (.t 122), (some (114, true))⟩, (some [1, 5, 10, 24, 25, 26, 114, 123])),
  kA 124 (.pick (.t 114) (.t 123) (.c (.bool false))),
  kB 11 (.mv (.t 124)) [1, 5, 10, 11, 24, 25, 26]]
@[go_sem] def s84_17 (_ : Unit) : IR := (sQ [(kT l84_15), (.cond (.t 77) (kT l84_16) .skip)])
@[go_sem] def s84_18 (_ : Unit) : IR := (sQ [(kT l84_13), (.cond (.t 58) (kT l84_14) (tH s84_17))])
@[go_sem] def s84_19 (_ : Unit) : IR := (sQ [(kT l84_11), (.cond (.t 41) (kT l84_12) (tH s84_18))])
@[go_sem] def s84_20 (_ : Unit) : IR := (.block 2 (tH s84_19))
@[go_sem] def l84_21 (_ : Unit) : KL := [kA 125 (.mv (.t 11)),
  kB 126 (.un .not (.t 125)) [1, 5, 10, 24, 25, 26, 126]]
@[go_sem] def l84_22 (_ : Unit) : KL := [kB 4 (.mv (.c (.sl none 0 0 true 0))) [4]]
@[go_sem] def s84_23 (_ : Unit) : IR := (sQ [(kT l84_22), .ret])
@[go_sem] def s84_24 (_ : Unit) : IR := (sQ [(kT l84_21), (.cond (.t 126) (tH s84_23) .skip)])
@[go_sem] def l84_25 (_ : Unit) : KL := [kA 127 (.mv (.t 5)),
  kA 128 (.mv (.t 10)),
  kA 129 (.bslc 1 1 [(.int .i64 0)] [(0, (.t 128))]),
  kA 130 (.app 1 8 (.t 127) (.t 129)),
  kB 5 (.mv (.t 130)) [1, 5, 24, 25, 26]]
@[go_sem] def s84_26 (_ : Unit) : IR := (sQ [(kT l84_8), (kT l84_9), (kT l84_10), (tH s84_20), (tH s84_24), (kT l84_25)])
@[go_sem] def s84_27 (_ : Unit) : IR := (.block 1 (tH s84_26))
@[go_sem] def l84_28 (_ : Unit) : KL := [kA 131 (.bin .add (.t 26) (cI 1)),
  kB 26 (.mv (.t 131)) [1, 5, 24, 25, 26]]
@[go_sem] def s84_29 (_ : Unit) : IR := (sQ [(kT l84_7), (.cond (.t 27) .skip (.exit 0)), (tH s84_27), (kT l84_28)])
@[go_sem] def s84_30 (_ : Unit) : IR := (.loop (tH s84_29))
@[go_sem] def s84_31 (_ : Unit) : IR := (.block 0 (tH s84_30))
@[go_sem] def s84_32 (_ : Unit) : IR := (sQ [(kT l84_6), (tH s84_31)])
@[go_sem] def l84_33 (_ : Unit) : KL := [kA 132 (.mv (.t 5)),
  kB 4 (.mv (.t 132)) [4]]
@[go_sem] def s84_34 (_ : Unit) : IR := (sQ [(kT l84_0), (tH s84_4), (kT l84_5), (tH s84_32), (kT l84_33), .ret])
theorem c84 : compFn Try.prog [(0, [], [oS [0, 1]]), (1, [], [oN, oN, oN, oN, oS [0, 1, 15, 16], oN, oN, oN, oS [0, 1, 20]]), (2, [], [oS [4]]), (3, [], [oN, oN, oN, oS [0, 1, 5]]), (4, [], [oN, oN, oS [1, 5, 24, 25, 26]]), (5, [], [oS [1, 5, 24, 25, 26, 27]]), (6, [], [oN, oN, oN, oN, oS [1, 5, 6, 7, 24, 25, 26, 30], oS [1, 5, 6, 7, 24, 25, 26]]), (7, [], [oN, oN, oN, oN, oS [1, 5, 6, 7, 24, 25, 26, 31, 35], oN, oN, oN, oN, oS [1, 5, 6, 7, 8, 9, 10, 24, 25, 26]]), (8, [], [oN, oN, oN, oS [1, 5, 6, 7, 8, 9, 10, 11, 24, 25, 26]]), (9, [], [oN, oN, oN, oS [1, 5, 6, 7, 8, 9, 10, 11, 24, 25, 26, 41]]), (10, [], [oN, oN, oN, oN, oS [1, 5, 7, 10, 24, 25, 26, 48, 49], oN, oN, oN, oN, oS [1, 5, 10, 24, 25, 26, 53, 54], oN, oN, oN, oS [1, 5, 10, 11, 24, 25, 26]]), (11, [], [oN, oN, oN, oS [1, 5, 6, 7, 8, 9, 10, 11, 24, 25, 26, 58]]), (12, [], [oN, oN, oN, oN, oS [1, 5, 7, 10, 24, 25, 26, 66], oN, oN, oN, oN, oS [1, 5, 7, 10, 24, 25, 26, 71], oN, oN, oN, oN, oS [1, 5, 10, 24, 25, 26, 76], oS [1, 5, 10, 11, 24, 25, 26]]), (13, [], [oN, oS [1, 5, 6, 7, 8, 9, 10, 11, 24, 25, 26, 77]]), (14, [], [oN, oN, oN, oN, oS [1, 5, 6, 7, 8, 9, 10, 24, 25, 26, 82, 83], oN, oN, oN, oN, oS [1, 5, 6, 7, 8, 9, 10, 24, 25, 26, 88], oN, oN, oN, oN, oS [1, 5, 7, 8, 9, 10, 24, 25, 26, 89, 91, 93], oN, oN, oN, oN, oS [1, 5, 7, 8, 9, 10, 24, 25, 26, 96, 97, 98], oN, oN, oN, oN, oS [1, 5, 7, 8, 9, 10, 24, 25, 26, 96, 103], oN, oN, oN, oN, oS [1, 5, 7, 8, 9, 10, 24, 25, 26, 105, 106, 108], oN, oN, oN, oN, oS [1, 5, 7, 8, 10, 24, 25, 26, 113], oN, oN, oN, oN, oS [1, 5, 7, 10, 24, 25, 26, 114, 117, 118], oN, oN, oN, oN, oS [1, 5, 10, 24, 25, 26, 114, 123], oN, oS [1, 5, 10, 11, 24, 25, 26]]), (15, [], [oN, oS [1, 5, 10, 24, 25, 26, 126]]), (16, [], [oS [4]]), (17, [], [oN, oN, oN, oN, oS [1, 5, 24, 25, 26]]), (18, [], [oN, oS [1, 5, 24, 25, 26]]), (19, [], [oN, oS [4]])] Try.f84 = some ⟨2, 133, [.t 4], (tH s84_34)⟩ := by kernel_rfl
theorem v_impl_kindsOf (hl : vs.length = 2) (h : wpV Try.prog (tH s84_34) (postV [.t 4] RV) (envV vs) M) : VCall Try.prog n_impl_kindsOf vs M RV :=
  vcall_of_wp (fun _ _ _ hl h => acall_of_wp mixed Try.func84 c84 (by kernel_rfl) hl h) hl h
@[go_sem] def l79_0 (_ : Unit) : KL := [kB 4 (.mv (cI 0)) [0, 1]]
@[go_sem] def l79_1 (_ : Unit) : KL := [kA 6 (.mv (.t 0)),
  kA 7 (.mv (.t 1)),
  kA 8 (.call (n_impl_kindsOf) [(.t 6), (.t 7)]),
  kB 5 (.mv (.t 8)) [5]]
@[go_sem] def l79_2 (_ : Unit) : KL := [kA 9 (.mv (.t 5)),
  kB 10 (.eqn false .sl (.t 9)) [5, 10]]
@[go_sem] def l79_3 (_ : Unit) : KL := [kB 4 (.mv (cI 0)) [4]]
@[go_sem] def s79_4 (_ : Unit) : IR := (sQ [(kT l79_3), .ret])
@[go_sem] def s79_5 (_ : Unit) : IR := (sQ [(kT l79_2), (.cond (.t 10) (tH s79_4) .skip)])
@[go_sem] def l79_6 (_ : Unit) : KL := [kA 11 (.mv (.t 5)),
  kA 12 (.mv (.t 5)),
  kA 13 (.len (.t 12)),
  kA 14 (.bin .sub (.t 13) (cI 1)),
  kB 15 (.iaddr (.t 11) (.t 14) 1) [15],
  kA 16 (.load (.t 15) 1 false),
  kB 4 (.mv (.t 16)) [4]]
@[go_sem] def s79_7 (_ : Unit) : IR := (sQ [(kT l79_0), (kT l79_1), (tH s79_5), (kT l79_6), .ret])
theorem c79 : compFn Try.prog [(0, [], [oS [0, 1]]), (1, [], [oN, oN, oN, oS [5]]), (2, [], [oN, oS [5, 10]]), (3, [], [oS [4]]), (4, [], [oN, oN, oN, oN, oS [15], oN, oS [4]])] Try.f79 = some ⟨2, 17, [.t 4], (tH s79_7)⟩ := by kernel_rfl
theorem v_impl_kindOf (hl : vs.length = 2) (h : wpV Try.prog (tH s79_7) (postV [.t 4] RV) (envV vs) M) : VCall Try.prog n_impl_kindOf vs M RV :=
  vcall_of_wp (fun _ _ _ hl h => acall_of_wp mixed Try.func79 c79 (by kernel_rfl) hl h) hl h
@[go_sem] def l69_0 (_ : Unit) : KL := [kA 2 (.box (.t 0)),
  kB 4 (.mv (.c (.bool false))) [1, 2]]
@[go_sem] def l69_1 (_ : Unit) : KL := [kA 7 (.faddr (.t 2) 0),
  kA 8 (.load (.t 7) 1 false),
  kA 9 (.mv (.t 1)),
  kA 10 (.call (n_impl_kindOf) [(.t 8), (.t 9)]),
  kB 11 (.bin .neq (.t 10) (.c (.int .i64 2))) [1, 2, 11],
  kA 12 (.mv (.t 11)),
  (⟨(some 13), .faddr (.t 2) 1, (some (12, false))⟩, none),
  (⟨(some 14), .load (.t 13) 1 false, (some (12, false))⟩, none),
  (⟨(some 15), .len (.t 14), (some (12, false))⟩, none),
  (⟨(some 16), .faddr (.t 2) 2, (some (12, false))⟩, (some [1, 2, 12, 15, 16])),
  (⟨(some 17), .load (.t 16) 1 false, (some (12, false))⟩, none),
  (⟨(some 18), .len (.t 17), (some (12, false))⟩, none),
  (⟨(some 19), .bin .neq (.t 15) (.t 18), (some (12, false))⟩, none),
  kB 20 (.pick (.t 12) (.c (.bool true)) (.t 19)) [1, 2, 20]]
@[go_sem] def l69_2 (_ : Unit) : KL := [kB 4 (.mv (.c (.bool false))) [4]]
@[go_sem] def s69_3 (_ : Unit) : IR := (sQ [(kT l69_2), .ret])
@[go_sem] def s69_4 (_ : Unit) : IR := (sQ [(kT l69_1), (.cond (.t 20) (tH s69_3) .skip)])
@[go_sem] def l69_5 (_ : Unit) : KL := [kA 21 (.faddr (.t 2) 1),
  kA 22 (.load (.t 21) 1 false),
  kA 23 (.len (.t 22)),
  kB 24 (.mv (cI 0)) [1, 2, 22, 23, 24]]
@[go_sem] def l69_6 (_ : Unit) : KL := [kB 25 (.bin .lss (.t 24) (.t 23)) [1, 2, 22, 23, 24, 25]]
@[go_sem] def l69_7 (_ : Unit) : KL := [kA 26 (.mv (.t 24)),
  kA 27 (.iaddr (.t 22) (.t 24) 1),
  kA 28 (.load (.t 27) 1 false),
  kA 5 (.mv (.t 26)),
  kB 6 (.mv (.t 28)) [1, 2, 5, 6, 22, 23, 24]]
@[go_sem] def l69_8 (_ : Unit) : KL := [kA 29 (.mv (.t 6)),
  kA 30 (.mv (.t 1)),
  kA 31 (.bin .sub (.t 30) (cI 1)),
  kA 32 (.call (n_impl_in) [(.t 29), (cI 0), (.t 31)]),
  kB 33 (.un .not (.t 32)) [1, 2, 5, 6, 22, 23, 24, 33],
  kA 34 (.mv (.t 33)),
  (⟨(some 35), .mv (.t 5), (some (34, false))⟩, none),
  (⟨(some 36), .bin .gtr (.t 35) (cI 0), (some (34, false))⟩, none),
  (⟨(some 37), .mv (.t 36), (some (34, false))⟩, none),
  (⟨(some 38), .faddr (.t 2) 1, (some (37, true))⟩, (some [1, 2, 5, 6, 22, 23, 24, 34, 37, 38])),
  (⟨(some 39), .load (.t 38) 1 false, (some (37, true))⟩, none),
  (⟨(some 40), .mv (.t 5), (some (37, true))⟩, none),
  (⟨(some 41), .bin .sub (.t 40) (cI 1), (some (37, true))⟩, none),
  (⟨(some 42), .iaddr (.t 39) (.t 41) 1, (some (37, true))⟩, none),
  (⟨(some 43), .load (.t 42) 1 false, (some (37, true))⟩, (some [1, 2, 5, 6, 22, 23, 24, 34, 37, 43])),
  (⟨(some 44), .mv (.t 6), (some (37, true))⟩, none),
  (⟨(some 45), .bin .geq (.t 43) (.t 44), (some (37, true))⟩, none),
  (⟨(some 46), .pick (.t 37) (.t 45) (.c (.bool false)), (some (34, false))⟩, none),
  kA 47 (.pick (.t 34) (.c (.bool true)) (.t 46)),
  kB 48 (.mv (.t 47)) [1, 2, 5, 22, 23, 24, 48],
  (⟨(some 49), .faddr (.t 2) 2, (some (48, false))⟩, none),
  (⟨(some 50), .load (.t 49) 1 false, (some (48, false))⟩, none),
  (⟨(some 51), .mv (.t 5), (some (48, false))⟩, none),
  (⟨(some 52), .iaddr (.t 50) (.t 51) 1, (some (48, false))⟩, none),
  (⟨(some 53), .load (.t 52) 1 false, (some (48, false))⟩, (some [1, 2, 22, 23, 24, 48, 53])),
  (⟨(some 54), .mv (.t 1), (some (48, false))⟩, none),
  (⟨(some 55), .call (n_impl_kindOf) [(.t 53), (.t 54)], (some (48, false))⟩, none),
  (⟨(some 56), .bin .neq (.t 55) (cI 1), (some (48, false))⟩, none),
  kB 57 (.pick (.t 48) (.c (.bool true)) (.t 56)) [1, 2, 22, 23, 24, 57]]
@[go_sem] def l69_9 (_ : Unit) : KL := [kB 4 (.mv (.c (.bool false))) [4]]
@[go_sem] def s69_10 (_ : Unit) : IR := (sQ [(kT l69_9), .ret])
@[go_sem] def s69_11 (_ : Unit) : IR := (sQ [(kT l69_7), (kT l69_8), (.cond (.t 57) (tH s69_10) .skip)])
@[go_sem] def s69_12 (_ : Unit) : IR := (.block 1 (tH s69_11))
@[go_sem] def l69_13 (_ : Unit) : KL := [kA 58 (.bin .add (.t 24) (cI 1)),
  kB 24 (.mv (.t 58)) [1, 2, 22, 23, 24]]
@[go_sem] def s69_14 (_ : Unit) : IR := (sQ [(kT l69_6), (.cond (.t 25) .skip (.exit 0)), (tH s69_12), (kT l69_13)])
@[go_sem] def s69_15 (_ : Unit) : IR := (.loop (tH s69_14))
@[go_sem] def s69_16 (_ : Unit) : IR := (.block 0 (tH s69_15))
@[go_sem] def s69_17 (_ : Unit) : IR := (sQ [(kT l69_5), (tH s69_16)])
@[go_sem] def l69_18 (_ : Unit) : KL := [kB 4 (.mv (.c (.bool true))) [4]]
@[go_sem] def s69_19 (_ : Unit) : IR := (sQ [(kT l69_0), (tH s69_4), (tH s69_17), (kT l69_18), .ret])
theorem c69 : compFn Try.prog [(0, [], [oN, oS [1, 2]]), (1, [], [oN, oN, oN, oN, oS [1, 2, 11], oN, oN, oN, oN, oS [1, 2, 12, 15, 16], oN, oN, oN, oS [1, 2, 20]]), (2, [], [oS [4]]), (3, [], [oN, oN, oN, oS [1, 2, 22, 23, 24]]), (4, [], [oS [1, 2, 22, 23, 24, 25]]), (5, [], [oN, oN, oN, oN, oS [1, 2, 5, 6, 22, 23, 24]]), (6, [], [oN, oN, oN, oN, oS [1, 2, 5, 6, 22, 23, 24, 33], oN, oN, oN, oN, oS [1, 2, 5, 6, 22, 23, 24, 34, 37, 38], oN, oN, oN, oN, oS [1, 2, 5, 6, 22, 23, 24, 34, 37, 43], oN, oN, oN, oN, oS [1, 2, 5, 22, 23, 24, 48], oN, oN, oN, oN, oS [1, 2, 22, 23, 24, 48, 53], oN, oN, oN, oS [1, 2, 22, 23, 24, 57]]), (7, [], [oS [4]]), (8, [], [oN, oS [1, 2, 22, 23, 24]]), (9, [], [oS [4]])] Try.f69 = some ⟨2, 59, [.t 4], (tH s69_19)⟩ := by kernel_rfl
theorem v_impl_ruleOk (hl : vs.length = 2) (h : wpV Try.prog (tH s69_19) (postV [.t 4] RV) (envV vs) M) : VCall Try.prog n_impl_ruleOk vs M RV :=
  vcall_of_wp (fun _ _ _ hl h => acall_of_wp mixed Try.func69 c69 (by kernel_rfl) hl h) hl h
@[go_sem] def l68_0 (_ : Unit) : KL := [kA 2 (.box (.t 0)),
  kB 3 (.mv (.c (.bool false))) [1, 2]]
@[go_sem] def l68_1 (_ : Unit) : KL := [kA 4 (.load (.t 2) 3 true),
  kA 5 (.faddr (.t 1) 0),
  kA 6 (.load (.t 5) 1 false),
  kA 7 (.len (.t 6)),
  kB 8 (.call (n_impl_ruleOk) [(.t 4), (.t 7)]) [8],
  kA 9 (.un .not (.t 8)),
  kB 3 (.mv (.t 9)) [3]]
@[go_sem] def s68_2 (_ : Unit) : IR := (sQ [(kT l68_0), (kT l68_1), .ret])
theorem c68 : compFn Try.prog [(0, [], [oN, oS [1, 2]]), (1, [], [oN, oN, oN, oN, oS [8], oN, oS [3]])] Try.f68 = some ⟨2, 10, [.t 3], (tH s68_2)⟩ := by kernel_rfl
theorem v_impl_SystemValid_2 (hl : vs.length = 2) (h : wpV Try.prog (tH s68_2) (postV [.t 3] RV) (envV vs) M) : VCall Try.prog n_impl_SystemValid_2 vs M RV :=
  vcall_of_wp (fun _ _ _ hl h => acall_of_wp mixed Try.func68 c68 (by kernel_rfl) hl h) hl h
@[go_sem] def l78_0 (_ : Unit) : KL := [kB 4 (.mv (cI 0)) [0, 1]]
@[go_sem] def l78_1 (_ : Unit) : KL := [kA 6 (.mv (.t 0)),
  kA 7 (.len (.t 6)),
  kB 8 (.mv (cI 0)) [0, 1, 7, 8]]
@[go_sem] def l78_2 (_ : Unit) : KL := [kB 9 (.bin .lss (.t 8) (.t 7)) [0, 1, 7, 8, 9]]
@[go_sem] def l78_3 (_ : Unit) : KL := [kA 10 (.mv (.t 8)),
  kB 5 (.mv (.t 10)) [0, 1, 5, 7, 8]]
@[go_sem] def l78_4 (_ : Unit) : KL := [kA 11 (.mv (.t 1)),
  kA 12 (.mv (.t 0)),
  kA 13 (.mv (.t 5)),
  kA 14 (.iaddr (.t 12) (.t 13) 3),
  kB 15 (.load (.t 14) 3 true) [0, 1, 5, 7, 8, 11, 15],
  kB 16 (.callv (.t 11) [(.t 15)]) [0, 1, 5, 7, 8, 16]]
@[go_sem] def l78_5 (_ : Unit) : KL := [kA 17 (.mv (.t 5)),
  kB 4 (.mv (.t 17)) [4]]
@[go_sem] def s78_6 (_ : Unit) : IR := (sQ [(kT l78_5), .ret])
@[go_sem] def s78_7 (_ : Unit) : IR := (sQ [(kT l78_3), (kT l78_4), (.cond (.t 16) (tH s78_6) .skip)])
@[go_sem] def s78_8 (_ : Unit) : IR := (.block 1 (tH s78_7))
@[go_sem] def l78_9 (_ : Unit) : KL := [kA 18 (.bin .add (.t 8) (cI 1)),
  kB 8 (.mv (.t 18)) [0, 1, 7, 8]]
@[go_sem] def s78_10 (_ : Unit) : IR := (sQ [(kT l78_2), (.cond (.t 9) .skip (.exit 0)), (tH s78_8), (kT l78_9)])
@[go_sem] def s78_11 (_ : Unit) : IR := (.loop (tH s78_10))
@[go_sem] def s78_12 (_ : Unit) : IR := (.block 0 (tH s78_11))
@[go_sem] def s78_13 (_ : Unit) : IR := (sQ [(kT l78_1), (tH s78_12)])
@[go_sem] def l78_14 (_ : Unit) : KL := [kB 4 (.mv (.c (.int .i64 (-1)))) [4]]
@[go_sem] def s78_15 (_ : Unit) : IR := (sQ [(kT l78_0), (tH s78_13), (kT l78_14), .ret])
theorem c78 : compFn Try.prog [(0, [], [oS [0, 1]]), (1, [], [oN, oN, oS [0, 1, 7, 8]]), (2, [], [oS [0, 1, 7, 8, 9]]), (3, [], [oN, oS [0, 1, 5, 7, 8]]), (4, [], [oN, oN, oN, oN, oS [0, 1, 5, 7, 8, 11, 15], oS [0, 1, 5, 7, 8, 16]]), (5, [], [oN, oS [4]]), (6, [], [oN, oS [0, 1, 7, 8]]), (7, [], [oS [4]])] Try.f78 = some ⟨2, 19, [.t 4], (tH s78_15)⟩ := by kernel_rfl
theorem v_slices_IndexFunc_Simpl_Rule_impl_Rule (hl : vs.length = 2) (h : wpV Try.prog (tH s78_15) (postV [.t 4] RV) (envV vs) M) : VCall Try.prog n_slices_IndexFunc_Simpl_Rule_impl_Rule vs M RV :=
  vcall_of_wp (fun _ _ _ hl h => acall_of_wp mixed Try.func78 c78 (by kernel_rfl) hl h) hl h
@[go_sem] def l67_0 (_ : Unit) : KL := [kB 4 (.mv (.c (.bool false))) [0, 1]]
@[go_sem] def l67_1 (_ : Unit) : KL := [kA 5 (.mv (.t 0)),
  kA 6 (.mv (.t 1)),
  kA 7 (.call (n_slices_IndexFunc_Simpl_Rule_impl_Rule) [(.t 5), (.t 6)]),
  kA 8 (.bin .geq (.t 7) (cI 0)),
  kB 4 (.mv (.t 8)) [4]]
@[go_sem] def s67_2 (_ : Unit) : IR := (sQ [(kT l67_0), (kT l67_1), .ret])
theorem c67 : compFn Try.prog [(0, [], [oS [0, 1]]), (1, [], [oN, oN, oN, oN, oS [4]])] Try.f67 = some ⟨2, 9, [.t 4], (tH s67_2)⟩ := by kernel_rfl
theorem v_slices_ContainsFunc_Simpl_Rule_impl_Rule (hl : vs.length = 2) (h : wpV Try.prog (tH s67_2) (postV [.t 4] RV) (envV vs) M) : VCall Try.prog n_slices_ContainsFunc_Simpl_Rule_impl_Rule vs M RV :=
  vcall_of_wp (fun _ _ _ hl h => acall_of_wp mixed Try.func67 c67 (by kernel_rfl) hl h) hl h
@[go_sem] def l47_0 (_ : Unit) : KL := [kA 1 (.box (.t 0)),
  kB 2 (.mv (.c (.bool false))) [1]]
@[go_sem] def l47_1 (_ : Unit) : KL := [kA 3 (.faddr (.t 1) 0),
  kA 4 (.load (.t 3) 1 false),
  kA 5 (.len (.t 4)),
  kA 6 (.call (n_impl_in) [(.t 5), (cI 1), (.c (.int .i64 5))]),
  kB 7 (.un .not (.t 6)) [1, 7],
  kA 8 (.mv (.t 7)),
  (⟨(some 9), .faddr (.t 1) 1, (some (8, false))⟩, none),
  (⟨(some 10), .load (.t 9) 1 false, (some (8, false))⟩, none),
  (⟨(some 11), .len (.t 10), (some (8, false))⟩, none),
  (⟨(some 12), .bin .gtr (.t 11) (.c (.int .i64 8)), (some (8, false))⟩, (some [1, 8, 12])),
  kA 13 (.pick (.t 8) (.c (.bool true)) (.t 12)),
  kA 14 (.mv (.t 13)),
  (⟨(some 15), .faddr (.t 1) 0, (some (14, false))⟩, none),
  (⟨(some 16), .load (.t 15) 1 false, (some (14, false))⟩, none),
  (⟨(some 17), .call (n_slices_ContainsFunc_Simpl_Var_impl_Var) [(.t 16), (.c (.fn (n_impl_SystemValid_1) []))], (some (14, false))⟩, (some [1, 14, 17])),
  kA 18 (.pick (.t 14) (.c (.bool true)) (.t 17)),
  kA 19 (.mv (.t 18)),
  (⟨(some 20), .faddr (.t 1) 0, (some (19, false))⟩, none),
  (⟨(some 21), .load (.t 20) 1 false, (some (19, false))⟩, none),
  (⟨(some 22), .call (n_impl_size) [(.t 21)], (some (19, false))⟩, (some [1, 19, 22])),
  (⟨(some 23), .bin .gtr (.t 22) (.c (.int .i64 400)), (some (19, false))⟩, none),
  kB 24 (.pick (.t 19) (.c (.bool true)) (.t 23)) [1, 24]]
@[go_sem] def l47_2 (_ : Unit) : KL := [kB 2 (.mv (.c (.bool false))) [2]]
@[go_sem] def s47_3 (_ : Unit) : IR := (sQ [(kT l47_2), .ret])
@[go_sem] def s47_4 (_ : Unit) : IR := (sQ [(kT l47_1), (.cond (.t 24) (tH s47_3) .skip)])
@[go_sem] def l47_5 (_ : Unit) : KL := [kA 25 (.faddr (.t 1) 1),
  kA 26 (.load (.t 25) 1 false),
  kA 27 (.mkfn (n_impl_SystemValid_2) [(.t 1)]),
  kA 28 (.call (n_slices_ContainsFunc_Simpl_Rule_impl_Rule) [(.t 26), (.t 27)]),
  kB 29 (.un .not (.t 28)) [29],
  kB 2 (.mv (.t 29)) [2]]
@[go_sem] def s47_6 (_ : Unit) : IR := (sQ [(kT l47_0), (tH s47_4), (kT l47_5), .ret])
theorem c47 : compFn Try.prog [(0, [], [oN, oS [1]]), (1, [], [oN, oN, oN, oN, oS [1, 7], oN, oN, oN, oN, oS [1, 8, 12], oN, oN, oN, oN, oS [1, 14, 17], oN, oN, oN, oN, oS [1, 19, 22], oN, oS [1, 24]]), (2, [], [oS [2]]), (3, [], [oN, oN, oN, oN, oS [29], oS [2]])] Try.f47 = some ⟨1, 30, [.t 2], (tH s47_6)⟩ := by kernel_rfl
theorem v_impl_SystemValid (hl : vs.length = 1) (h : wpV Try.prog (tH s47_6) (postV [.t 2] RV) (envV vs) M) : VCall Try.prog n_impl_SystemValid vs M RV :=
  vcall_of_wp (fun _ _ _ hl h => acall_of_wp mixed Try.func47 c47 (by kernel_rfl) hl h) hl h
@[go_sem] def l27_0 (_ : Unit) : KL := [kB 2 (.mv (.c (.sl none 0 0 true 0))) [0]]
@[go_sem] def l27_1 (_ : Unit) : KL := [kA 4 (.mv (.t 0)),
  kA 5 (.len (.t 4)),
  kB 6 (.bin .eql (.t 5) (cI 0)) [0, 6]]
@[go_sem] def l27_2 (_ : Unit) : KL := [kB 2 (.mv (.c (.sl none 0 0 true 0))) [2]]
@[go_sem] def s27_3 (_ : Unit) : IR := (sQ [(kT l27_2), .ret])
@[go_sem] def s27_4 (_ : Unit) : IR := (sQ [(kT l27_1), (.cond (.t 6) (tH s27_3) .skip)])
@[go_sem] def l27_5 (_ : Unit) : KL := [kA 7 (.mv (.t 0)),
  kA 8 (.len (.t 7)),
  kA 9 (.mks [(.int .i64 0)] 8 (.t 8)),
  kB 3 (.mv (.t 9)) [0, 3]]
@[go_sem] def l27_6 (_ : Unit) : KL := [kA 10 (.mv (.t 3)),
  kA 11 (.mv (.t 0)),
  kB 12 (.copy 1 (.t 10) (.t 11)) [3]]
@[go_sem] def l27_7 (_ : Unit) : KL := [kA 13 (.mv (.t 3)),
  kB 2 (.mv (.t 13)) [2]]
@[go_sem] def s27_8 (_ : Unit) : IR := (sQ [(kT l27_0), (tH s27_4), (kT l27_5), (kT l27_6), (kT l27_7), .ret])
theorem c27 : compFn Try.prog [(0, [], [oS [0]]), (1, [], [oN, oN, oS [0, 6]]), (2, [], [oS [2]]), (3, [], [oN, oN, oN, oS [0, 3]]), (4, [], [oN, oN, oS [3]]), (5, [], [oN, oS [2]])] Try.f27 = some ⟨1, 14, [.t 2], (tH s27_8)⟩ := by kernel_rfl
theorem v_impl_clone_int (hl : vs.length = 1) (h : wpV Try.prog (tH s27_8) (postV [.t 2] RV) (envV vs) M) : VCall Try.prog n_impl_clone_int vs M RV :=
  vcall_of_wp (fun _ _ _ hl h => acall_of_wp mixed Try.func27 c27 (by kernel_rfl) hl h) hl h
@[go_sem] def l49_0 (_ : Unit) : KL := [kA 1 (.box (.t 0)),
  kB 2 (.mv (.c (.sl none 0 0 true 0))) [1]]
@[go_sem] def l49_1 (_ : Unit) : KL := [kB 3 (.mv (.c (.sl none 0 0 true 0))) [1, 3]]
@[go_sem] def l49_2 (_ : Unit) : KL := [kA 6 (.faddr (.t 1) 0),
  kA 7 (.load (.t 6) 1 false),
  kA 8 (.len (.t 7)),
  kB 9 (.mv (cI 0)) [3, 7, 8, 9]]
@[go_sem] def l49_3 (_ : Unit) : KL := [kB 10 (.bin .lss (.t 9) (.t 8)) [3, 7, 8, 9, 10]]
@[go_sem] def l49_4 (_ : Unit) : KL := [kA 11 (.iaddr (.t 7) (.t 9) 3),
  kA 12 (.load (.t 11) 3 true),
  kA 5 (.alloc [(.int .i64 0), (.int .i64 0), (.int .i64 0)]),
  (⟨none, .store (.t 5) 3 (.t 12), none⟩, (some [3, 5, 7, 8, 9]))]
@[go_sem] def l49_5 (_ : Unit) : KL := [kA 13 (.mv (.t 3)),
  kA 14 (.faddr (.t 5) 2),
  kA 15 (.load (.t 14) 1 false),
  kA 16 (.bslc 1 1 [(.int .i64 0)] [(0, (.t 15))]),
  kB 17 (.app 1 8 (.t 13) (.t 16)) [7, 8, 9, 17],
  kB 3 (.mv (.t 17)) [3, 7, 8, 9]]
@[go_sem] def s49_6 (_ : Unit) : IR := (sQ [(kT l49_4), (kT l49_5)])
@[go_sem] def s49_7 (_ : Unit) : IR := (.block 1 (tH s49_6))
@[go_sem] def l49_8 (_ : Unit) : KL := [kA 18 (.bin .add (.t 9) (cI 1)),
  kB 9 (.mv (.t 18)) [3, 7, 8, 9]]
@[go_sem] def s49_9 (_ : Unit) : IR := (sQ [(kT l49_3), (.cond (.t 10) .skip (.exit 0)), (tH s49_7), (kT l49_8)])
@[go_sem] def s49_10 (_ : Unit) : IR := (.loop (tH s49_9))
@[go_sem] def s49_11 (_ : Unit) : IR := (.block 0 (tH s49_10))
@[go_sem] def s49_12 (_ : Unit) : IR := (sQ [(kT l49_2), (tH s49_11)])
@[go_sem] def l49_13 (_ : Unit) : KL := [kA 19 (.mv (.t 3)),
  kA 20 (.call (n_impl_clone_int) [(.t 19)]),
  kB 2 (.mv (.t 20)) [2]]
@[go_sem] def s49_14 (_ : Unit) : IR := (sQ [(kT l49_0), (kT l49_1), (tH s49_12), (kT l49_13), .ret])
theorem c49 : compFn Try.prog [(0, [], [oN, oS [1]]), (1, [], [oS [1, 3]]), (2, [], [oN, oN, oN, oS [3, 7, 8, 9]]), (3, [], [oS [3, 7, 8, 9, 10]]), (4, [], [oN, oN, oN, oS [3, 5, 7, 8, 9]]), (5, [], [oN, oN, oN, oN, oS [7, 8, 9, 17], oS [3, 7, 8, 9]]), (6, [], [oN, oS [3, 7, 8, 9]]), (7, [], [oN, oN, oS [2]])] Try.f49 = some ⟨1, 21, [.t 2], (tH s49_14)⟩ := by kernel_rfl
theorem v_impl_first (hl : vs.length = 1) (h : wpV Try.prog (tH s49_14) (postV [.t 2] RV) (envV vs) M) : VCall Try.prog n_impl_first vs M RV :=
  vcall_of_wp (fun _ _ _ hl h => acall_of_wp mixed Try.func49 c49 (by kernel_rfl) hl h) hl h
@[go_sem] def l28_0 (_ : Unit) : KL := [kB 4 (.mv (.c (.bool false))) [0, 1]]
@[go_sem] def l28_1 (_ : Unit) : KL := [kA 6 (.mv (.t 0)),
  kA 7 (.len (.t 6)),
  kA 8 (.mv (.t 1)),
  kA 9 (.len (.t 8)),
  kB 10 (.bin .neq (.t 7) (.t 9)) [0, 1, 10]]
@[go_sem] def l28_2 (_ : Unit) : KL := [kB 4 (.mv (.c (.bool false))) [4]]
@[go_sem] def s28_3 (_ : Unit) : IR := (sQ [(kT l28_2), .ret])
@[go_sem] def s28_4 (_ : Unit) : IR := (sQ [(kT l28_1), (.cond (.t 10) (tH s28_3) .skip)])
@[go_sem] def l28_5 (_ : Unit) : KL := [kA 11 (.mv (.t 0)),
  kA 12 (.len (.t 11)),
  kB 13 (.mv (cI 0)) [0, 1, 12, 13]]
@[go_sem] def l28_6 (_ : Unit) : KL := [kB 14 (.bin .lss (.t 13) (.t 12)) [0, 1, 12, 13, 14]]
@[go_sem] def l28_7 (_ : Unit) : KL := [kA 15 (.mv (.t 13)),
  kB 5 (.mv (.t 15)) [0, 1, 5, 12, 13]]
@[go_sem] def l28_8 : Nat → GOp
  | 0 => ⟨(some 16), .mv (.t 0), none⟩
  | 1 => ⟨(some 17), .mv (.t 5), none⟩
  | 2 => ⟨(some 18), .iaddr (.t 16) (.t 17) 1, none⟩
  | 3 => ⟨(some 19), .load (.t 18) 1 false, none⟩
  | 4 => ⟨(some 20), .mv (.t 1), none⟩
  | 5 => ⟨(some 21), .mv (.t 5), none⟩
  | 6 => ⟨(some 22), .iaddr (.t 20) (.t 21) 1, none⟩
  | 7 => ⟨(some 23), .load (.t 22) 1 false, none⟩
  | 8 => ⟨(some 24), .bin .neq (.t 19) (.t 23), none⟩
  | _ => ⟨none, .mkmap, none⟩
@[go_sem] def l28_9 (_ : Unit) : KL := [kB 4 (.mv (.c (.bool false))) [4]]
@[go_sem] def s28_10 (_ : Unit) : IR := (sQ [(kT l28_9), .ret])
@[go_sem] def s28_11 (_ : Unit) : IR := (sQ [(kT l28_7), (.kd (oF l28_8 9) [(0, []), (1, []), (2, []), (3, []), (4, []), (5, []), (6, []), (7, []), (8, [])] [0, 1, 12, 13, 24]), (.cond (.t 24) (tH s28_10) .skip)])
@[go_sem] def s28_12 (_ : Unit) : IR := (.block 1 (tH s28_11))
@[go_sem] def l28_13 (_ : Unit) : KL := [kA 25 (.bin .add (.t 13) (cI 1)),
  kB 13 (.mv (.t 25)) [0, 1, 12, 13]]
@[go_sem] def s28_14 (_ : Unit) : IR := (sQ [(kT l28_6), (.cond (.t 14) .skip (.exit 0)), (tH s28_12), (kT l28_13)])
@[go_sem] def s28_15 (_ : Unit) : IR := (.loop (tH s28_14))
@[go_sem] def s28_16 (_ : Unit) : IR := (.block 0 (tH s28_15))
@[go_sem] def s28_17 (_ : Unit) : IR := (sQ [(kT l28_5), (tH s28_16)])
@[go_sem] def l28_18 (_ : Unit) : KL := [kB 4 (.mv (.c (.bool true))) [4]]
@[go_sem] def s28_19 (_ : Unit) : IR := (sQ [(kT l28_0), (tH s28_4), (tH s28_17), (kT l28_18), .ret])
theorem c28 : compFn Try.prog [(0, [], [oS [0, 1]]), (1, [], [oN, oN, oN, oN, oS [0, 1, 10]]), (2, [], [oS [4]]), (3, [], [oN, oN, oS [0, 1, 12, 13]]), (4, [], [oS [0, 1, 12, 13, 14]]), (5, [], [oN, oS [0, 1, 5, 12, 13]]), (6, [(0, []), (1, []), (2, []), (3, []), (4, []), (5, []), (6, []), (7, []), (8, [])], [oS [0, 1, 12, 13, 24]]), (7, [], [oS [4]]), (8, [], [oN, oS [0, 1, 12, 13]]), (9, [], [oS [4]])] Try.f28 = some ⟨2, 26, [.t 4], (tH s28_19)⟩ := by kernel_rfl
theorem v_slices_Equal_Sint_int (hl : vs.length = 2) (h : wpV Try.prog (tH s28_19) (postV [.t 4] RV) (envV vs) M) : VCall Try.prog n_slices_Equal_Sint_int vs M RV :=
  vcall_of_wp (fun _ _ _ hl h => acall_of_wp mixed Try.func28 c28 (by kernel_rfl) hl h) hl h
@[go_sem] def l85_0 (_ : Unit) : KL := [kB 2 (.mv (cI 0)) [0]]
@[go_sem] def l85_1 (_ : Unit) : KL := [kA 3 (.mv (.t 0)),
  kA 4 (.mnx false (.c (.int .i64 9999)) (.t 3)),
  kA 5 (.mnx true (.c (.int .i64 (-9999))) (.t 4)),
  kB 2 (.mv (.t 5)) [2]]
@[go_sem] def s85_2 (_ : Unit) : IR := (sQ [(kT l85_0), (kT l85_1), .ret])
theorem c85 : compFn Try.prog [(0, [], [oS [0]]), (1, [], [oN, oN, oN, oS [2]])] Try.f85 = some ⟨1, 6, [.t 2], (tH s85_2)⟩ := by kernel_rfl
theorem v_impl_held (hl : vs.length = 1) (h : wpV Try.prog (tH s85_2) (postV [.t 2] RV) (envV vs) M) : VCall Try.prog n_impl_held vs M RV :=
  vcall_of_wp (fun _ _ _ hl h => acall_of_wp mixed Try.func85 c85 (by kernel_rfl) hl h) hl h
@[go_sem] def l86_0 (_ : Unit) : KL := [kB 2 (.mv (cI 0)) [0]]
@[go_sem] def l86_1 (_ : Unit) : KL := [kB 3 (.mv (.t 0)) [3]]
@[go_sem] def l86_2 (_ : Unit) : KL := [kB 2 (.mv (cI 1)) [2]]
@[go_sem] def s86_3 (_ : Unit) : IR := (sQ [(kT l86_2), .ret])
@[go_sem] def s86_4 (_ : Unit) : IR := (sQ [(kT l86_1), (.cond (.t 3) (tH s86_3) .skip)])
@[go_sem] def l86_5 (_ : Unit) : KL := [kB 2 (.mv (cI 0)) [2]]
@[go_sem] def s86_6 (_ : Unit) : IR := (sQ [(kT l86_0), (tH s86_4), (kT l86_5), .ret])
theorem c86 : compFn Try.prog [(0, [], [oS [0]]), (1, [], [oS [3]]), (2, [], [oS [2]]), (3, [], [oS [2]])] Try.f86 = some ⟨1, 4, [.t 2], (tH s86_6)⟩ := by kernel_rfl
theorem v_impl_bit (hl : vs.length = 1) (h : wpV Try.prog (tH s86_6) (postV [.t 2] RV) (envV vs) M) : VCall Try.prog n_impl_bit vs M RV :=
  vcall_of_wp (fun _ _ _ hl h => acall_of_wp mixed Try.func86 c86 (by kernel_rfl) hl h) hl h
@[go_sem] def l80_0 (_ : Unit) : KL := [kB 6 (.mv (cI 0)) [0, 1, 2]]
@[go_sem] def l80_1 (_ : Unit) : KL := [kB 7 (.mv (.t 0)) [1, 2, 7]]
@[go_sem] def l80_2 (_ : Unit) : KL := [kA 9 (.bin .eql (.t 7) (.c (.int .i64 2))),
  kB 8 (.mv (.t 9)) [1, 2, 7, 8]]
@[go_sem] def l80_3 (_ : Unit) : KL := [kA 10 (.mv (.t 1)),
  kA 11 (.mv (.t 2)),
  kA 12 (.bin .add (.t 10) (.t 11)),
  kA 13 (.call (n_impl_held) [(.t 12)]),
  kB 6 (.mv (.t 13)) [6]]
@[go_sem] def s80_4 (_ : Unit) : IR := (sQ [(kT l80_3), .ret])
@[go_sem] def l80_5 (_ : Unit) : KL := [kA 15 (.bin .eql (.t 7) (.c (.int .i64 3))),
  kB 14 (.mv (.t 15)) [1, 2, 7, 14]]
@[go_sem] def l80_6 (_ : Unit) : KL := [kA 16 (.mv (.t 1)),
  kA 17 (.mv (.t 2)),
  kA 18 (.bin .sub (.t 16) (.t 17)),
  kA 19 (.call (n_impl_held) [(.t 18)]),
  kB 6 (.mv (.t 19)) [6]]
@[go_sem] def s80_7 (_ : Unit) : IR := (sQ [(kT l80_6), .ret])
@[go_sem] def l80_8 (_ : Unit) : KL := [kA 21 (.bin .eql (.t 7) (.c (.int .i64 4))),
  kB 20 (.mv (.t 21)) [1, 2, 7, 20]]
@[go_sem] def l80_9 (_ : Unit) : KL := [kA 22 (.mv (.t 1)),
  kA 23 (.mv (.t 2)),
  kA 24 (.bin .mul (.t 22) (.t 23)),
  kA 25 (.call (n_impl_held) [(.t 24)]),
  kB 6 (.mv (.t 25)) [6]]
@[go_sem] def s80_10 (_ : Unit) : IR := (sQ [(kT l80_9), .ret])
@[go_sem] def l80_11 (_ : Unit) : KL := [kA 27 (.bin .eql (.t 7) (.c (.int .i64 5))),
  kB 26 (.mv (.t 27)) [1, 2, 7, 26]]
@[go_sem] def l80_12 (_ : Unit) : KL := [kA 28 (.mv (.t 1)),
  kA 29 (.mv (.t 2)),
  kA 30 (.bin .lss (.t 28) (.t 29)),
  kA 31 (.call (n_impl_bit) [(.t 30)]),
  kB 6 (.mv (.t 31)) [6]]
@[go_sem] def s80_13 (_ : Unit) : IR := (sQ [(kT l80_12), .ret])
@[go_sem] def l80_14 (_ : Unit) : KL := [kA 33 (.bin .eql (.t 7) (.c (.int .i64 6))),
  kB 32 (.mv (.t 33)) [1, 2, 7, 32]]
@[go_sem] def l80_15 (_ : Unit) : KL := [kA 34 (.mv (.t 1)),
  kA 35 (.mv (.t 2)),
  kA 36 (.bin .eql (.t 34) (.t 35)),
  kA 37 (.call (n_impl_bit) [(.t 36)]),
  kB 6 (.mv (.t 37)) [6]]
@[go_sem] def s80_16 (_ : Unit) : IR := (sQ [(kT l80_15), .ret])
@[go_sem] def l80_17 (_ : Unit) : KL := [kA 39 (.bin .eql (.t 7) (.c (.int .i64 7))),
  kB 38 (.mv (.t 39)) [1, 2, 7, 38]]
@[go_sem] def l80_18 (_ : Unit) : KL := [kA 40 (.mv (.t 1)),
  kA 41 (.bin .sub (cI 1) (.t 40)),
  kB 6 (.mv (.t 41)) [6]]
@[go_sem] def s80_19 (_ : Unit) : IR := (sQ [(kT l80_18), .ret])
@[go_sem] def l80_20 (_ : Unit) : KL := [kA 43 (.bin .eql (.t 7) (.c (.int .i64 8))),
  kB 42 (.mv (.t 43)) [1, 2, 42]]
@[go_sem] def l80_21 (_ : Unit) : KL := [kA 44 (.mv (.t 1)),
  kA 45 (.mv (.t 2)),
  kA 46 (.mnx false (.t 44) (.t 45)),
  kB 6 (.mv (.t 46)) [6]]
@[go_sem] def s80_22 (_ : Unit) : IR := (sQ [(kT l80_21), .ret])
@[go_sem] def s80_23 (_ : Unit) : IR := (sQ [(kT l80_20), (.cond (.t 42) (tH s80_22) .skip)])
@[go_sem] def s80_24 (_ : Unit) : IR := (sQ [(kT l80_17), (.cond (.t 38) (tH s80_19) (tH s80_23))])
@[go_sem] def s80_25 (_ : Unit) : IR := (sQ [(kT l80_14), (.cond (.t 32) (tH s80_16) (tH s80_24))])
@[go_sem] def s80_26 (_ : Unit) : IR := (sQ [(kT l80_11), (.cond (.t 26) (tH s80_13) (tH s80_25))])
@[go_sem] def s80_27 (_ : Unit) : IR := (sQ [(kT l80_8), (.cond (.t 20) (tH s80_10) (tH s80_26))])
@[go_sem] def s80_28 (_ : Unit) : IR := (sQ [(kT l80_5), (.cond (.t 14) (tH s80_7) (tH s80_27))])
@[go_sem] def s80_29 (_ : Unit) : IR := (sQ [(kT l80_2), (.cond (.t 8) (tH s80_4) (tH s80_28))])
@[go_sem] def s80_30 (_ : Unit) : IR := (.block 0 (tH s80_29))
@[go_sem] def s80_31 (_ : Unit) : IR := (sQ [(kT l80_1), (tH s80_30)])
@[go_sem] def l80_32 (_ : Unit) : KL := [kA 47 (.mv (.t 1)),
  kA 48 (.mv (.t 2)),
  kA 49 (.mnx true (.t 47) (.t 48)),
  kB 6 (.mv (.t 49)) [6]]
@[go_sem] def s80_33 (_ : Unit) : IR := (sQ [(kT l80_0), (tH s80_31), (kT l80_32), .ret])
theorem c80 : compFn Try.prog [(0, [], [oS [0, 1, 2]]), (1, [], [oS [1, 2, 7]]), (2, [], [oN, oS [1, 2, 7, 8]]), (3, [], [oN, oN, oN, oN, oS [6]]), (4, [], [oN, oS [1, 2, 7, 14]]), (5, [], [oN, oN, oN, oN, oS [6]]), (6, [], [oN, oS [1, 2, 7, 20]]), (7, [], [oN, oN, oN, oN, oS [6]]), (8, [], [oN, oS [1, 2, 7, 26]]), (9, [], [oN, oN, oN, oN, oS [6]]), (10, [], [oN, oS [1, 2, 7, 32]]), (11, [], [oN, oN, oN, oN, oS [6]]), (12, [], [oN, oS [1, 2, 7, 38]]), (13, [], [oN, oN, oS [6]]), (14, [], [oN, oS [1, 2, 42]]), (15, [], [oN, oN, oN, oS [6]]), (16, [], [oN, oN, oN, oS [6]])] Try.f80 = some ⟨3, 50, [.t 6], (tH s80_33)⟩ := by kernel_rfl
theorem v_impl_do (hl : vs.length = 3) (h : wpV Try.prog (tH s80_33) (postV [.t 6] RV) (envV vs) M) : VCall Try.prog n_impl_do vs M RV :=
  vcall_of_wp (fun _ _ _ hl h => acall_of_wp mixed Try.func80 c80 (by kernel_rfl) hl h) hl h
@[go_sem] def l70_0 (_ : Unit) : KL := [kB 4 (.mv (cI 0)) [0, 1]]
@[go_sem] def l70_1 (_ : Unit) : KL := [kA 8 (.mv (.t 0)),
  kA 9 (.len (.t 8)),
  kA 10 (.mks [(.int .i64 0)] 8 (.t 9)),
  kB 5 (.mv (.t 10)) [0, 1, 5]]
@[go_sem] def l70_2 (_ : Unit) : KL := [kA 11 (.mv (.t 0)),
  kA 12 (.len (.t 11)),
  kB 13 (.mv (cI 0)) [1, 5, 11, 12, 13]]
@[go_sem] def l70_3 (_ : Unit) : KL := [kB 14 (.bin .lss (.t 13) (.t 12)) [1, 5, 11, 12, 13, 14]]
@[go_sem] def l70_4 (_ : Unit) : KL := [kA 15 (.mv (.t 13)),
  kA 16 (.iaddr (.t 11) (.t 13) 4),
  kA 17 (.load (.t 16) 4 true),
  kA 7 (.alloc [(.int .i64 0), (.int .i64 0), (.int .i64 0), (.int .i64 0)]),
  kB 6 (.mv (.t 15)) [1, 5, 6, 7, 11, 12, 13, 17],
  (⟨none, .store (.t 7) 4 (.t 17), none⟩, (some [1, 5, 6, 7, 11, 12, 13]))]
@[go_sem] def l70_5 (_ : Unit) : KL := [kA 18 (.faddr (.t 7) 0),
  kB 19 (.load (.t 18) 1 false) [1, 5, 6, 7, 11, 12, 13, 19]]
@[go_sem] def l70_6 (_ : Unit) : KL := [kA 37 (.bin .eql (.t 19) (cI 0)),
  kB 36 (.mv (.t 37)) [1, 5, 6, 7, 11, 12, 13, 19, 36]]
@[go_sem] def l70_7 (_ : Unit) : KL := [kA 38 (.mv (.t 5)),
  kA 39 (.mv (.t 6)),
  kA 40 (.faddr (.t 7) 1),
  kA 41 (.load (.t 40) 1 false),
  kB 42 (.iaddr (.t 38) (.t 39) 1) [1, 5, 11, 12, 13, 41, 42],
  (⟨none, .store (.t 42) 1 (.t 41), none⟩, (some [1, 5, 11, 12, 13]))]
@[go_sem] def l70_8 (_ : Unit) : KL := [kA 44 (.bin .eql (.t 19) (cI 1)),
  kB 43 (.mv (.t 44)) [1, 5, 6, 7, 11, 12, 13, 43]]
@[go_sem] def l70_9 (_ : Unit) : KL := [kA 45 (.mv (.t 5)),
  kA 46 (.mv (.t 6)),
  kA 47 (.mv (.t 1)),
  kA 48 (.faddr (.t 7) 1),
  kB 49 (.load (.t 48) 1 false) [1, 5, 11, 12, 13, 45, 46, 47, 49],
  kA 50 (.iaddr (.t 47) (.t 49) 1),
  kA 51 (.load (.t 50) 1 false),
  kA 52 (.iaddr (.t 45) (.t 46) 1),
  (⟨none, .store (.t 52) 1 (.t 51), none⟩, (some [1, 5, 11, 12, 13]))]
@[go_sem] def l70_10 : Nat → GOp
  | 0 => ⟨(some 20), .mv (.t 5), none⟩
  | 1 => ⟨(some 21), .mv (.t 6), none⟩
  | 2 => ⟨(some 22), .faddr (.t 7) 0, none⟩
  | 3 => ⟨(some 23), .load (.t 22) 1 false, none⟩
  | 4 => ⟨(some 24), .mv (.t 5), none⟩
  | 5 => ⟨(some 25), .faddr (.t 7) 2, none⟩
  | 6 => ⟨(some 26), .load (.t 25) 1 false, none⟩
  | 7 => ⟨(some 27), .iaddr (.t 24) (.t 26) 1, none⟩
  | 8 => ⟨(some 28), .load (.t 27) 1 false, none⟩
  | 9 => ⟨(some 29), .mv (.t 5), none⟩
  | 10 => ⟨(some 30), .faddr (.t 7) 3, none⟩
  | 11 => ⟨(some 31), .load (.t 30) 1 false, none⟩
  | 12 => ⟨(some 32), .iaddr (.t 29) (.t 31) 1, none⟩
  | 13 => ⟨(some 33), .load (.t 32) 1 false, none⟩
  | 14 => ⟨(some 34), .call (n_impl_do) [(.t 23), (.t 28), (.t 33)], none⟩
  | 15 => ⟨(some 35), .iaddr (.t 20) (.t 21) 1, none⟩
  | 16 => ⟨none, .store (.t 35) 1 (.t 34), none⟩
  | _ => ⟨none, .mkmap, none⟩
@[go_sem] def s70_11 (_ : Unit) : IR := (sQ [(kT l70_8), (.cond (.t 43) (kT l70_9) (.kd (oF l70_10 17) [(0, []), (1, []), (2, []), (3, []), (4, []), (5, []), (6, []), (7, []), (8, []), (9, []), (10, []), (11, []), (12, []), (13, []), (14, []), (15, []), (16, [])] [1, 5, 11, 12, 13]))])
@[go_sem] def s70_12 (_ : Unit) : IR := (sQ [(kT l70_6), (.cond (.t 36) (kT l70_7) (tH s70_11))])
@[go_sem] def s70_13 (_ : Unit) : IR := (.block 2 (tH s70_12))
@[go_sem] def s70_14 (_ : Unit) : IR := (sQ [(kT l70_4), (kT l70_5), (tH s70_13)])
@[go_sem] def s70_15 (_ : Unit) : IR := (.block 1 (tH s70_14))
@[go_sem] def l70_16 (_ : Unit) : KL := [kA 53 (.bin .add (.t 13) (cI 1)),
  kB 13 (.mv (.t 53)) [1, 5, 11, 12, 13]]
@[go_sem] def s70_17 (_ : Unit) : IR := (sQ [(kT l70_3), (.cond (.t 14) .skip (.exit 0)), (tH s70_15), (kT l70_16)])
@[go_sem] def s70_18 (_ : Unit) : IR := (.loop (tH s70_17))
@[go_sem] def s70_19 (_ : Unit) : IR := (.block 0 (tH s70_18))
@[go_sem] def s70_20 (_ : Unit) : IR := (sQ [(kT l70_2), (tH s70_19)])
@[go_sem] def l70_21 (_ : Unit) : KL := [kA 54 (.mv (.t 5)),
  kA 55 (.mv (.t 5)),
  kA 56 (.len (.t 55)),
  kA 57 (.bin .sub (.t 56) (cI 1)),
  kB 58 (.iaddr (.t 54) (.t 57) 1) [58],
  kA 59 (.load (.t 58) 1 false),
  kB 4 (.mv (.t 59)) [4]]
@[go_sem] def s70_22 (_ : Unit) : IR := (sQ [(kT l70_0), (kT l70_1), (tH s70_20), (kT l70_21), .ret])
theorem c70 : compFn Try.prog [(0, [], [oS [0, 1]]), (1, [], [oN, oN, oN, oS [0, 1, 5]]), (2, [], [oN, oN, oS [1, 5, 11, 12, 13]]), (3, [], [oS [1, 5, 11, 12, 13, 14]]), (4, [], [oN, oN, oN, oN, oS [1, 5, 6, 7, 11, 12, 13, 17], oS [1, 5, 6, 7, 11, 12, 13]]), (5, [], [oN, oS [1, 5, 6, 7, 11, 12, 13, 19]]), (7, [], [oN, oS [1, 5, 6, 7, 11, 12, 13, 19, 36]]), (8, [], [oN, oN, oN, oN, oS [1, 5, 11, 12, 13, 41, 42], oS [1, 5, 11, 12, 13]]), (9, [], [oN, oS [1, 5, 6, 7, 11, 12, 13, 43]]), (10, [], [oN, oN, oN, oN, oS [1, 5, 11, 12, 13, 45, 46, 47, 49], oN, oN, oN, oS [1, 5, 11, 12, 13]]), (6, [(0, []), (1, []), (2, []), (3, []), (4, []), (5, []), (6, []), (7, []), (8, []), (9, []), (10, []), (11, []), (12, []), (13, []), (14, []), (15, []), (16, [])], [oS [1, 5, 11, 12, 13]]), (11, [], [oN, oS [1, 5, 11, 12, 13]]), (12, [], [oN, oN, oN, oN, oS [58], oN, oS [4]])] Try.f70 = some ⟨2, 60, [.t 4], (tH s70_22)⟩ := by kernel_rfl
theorem v_impl_eval (hl : vs.length = 2) (h : wpV Try.prog (tH s70_22) (postV [.t 4] RV) (envV vs) M) : VCall Try.prog n_impl_eval vs M RV :=
  vcall_of_wp (fun _ _ _ hl h => acall_of_wp mixed Try.func70 c70 (by kernel_rfl) hl h) hl h
@[go_sem] def l71_0 (_ : Unit) : KL := [kA 2 (.box (.t 0)),
  kB 4 (.mv (.c (.bool false))) [1, 2]]
@[go_sem] def l71_1 (_ : Unit) : KL := [kA 7 (.mv (.t 1)),
  kA 8 (.len (.t 7)),
  kA 9 (.faddr (.t 2) 0),
  kA 10 (.load (.t 9) 1 false),
  kB 11 (.len (.t 10)) [1, 2, 8, 11],
  kB 12 (.bin .neq (.t 8) (.t 11)) [1, 2, 12]]
@[go_sem] def l71_2 (_ : Unit) : KL := [kB 4 (.mv (.c (.bool false))) [4]]
@[go_sem] def s71_3 (_ : Unit) : IR := (sQ [(kT l71_2), .ret])
@[go_sem] def s71_4 (_ : Unit) : IR := (sQ [(kT l71_1), (.cond (.t 12) (tH s71_3) .skip)])
@[go_sem] def l71_5 (_ : Unit) : KL := [kA 13 (.faddr (.t 2) 0),
  kA 14 (.load (.t 13) 1 false),
  kA 15 (.len (.t 14)),
  kB 16 (.mv (cI 0)) [1, 14, 15, 16]]
@[go_sem] def l71_6 (_ : Unit) : KL := [kB 17 (.bin .lss (.t 16) (.t 15)) [1, 14, 15, 16, 17]]
@[go_sem] def l71_7 (_ : Unit) : KL := [kA 18 (.mv (.t 16)),
  kA 19 (.iaddr (.t 14) (.t 16) 3),
  kA 20 (.load (.t 19) 3 true),
  kA 6 (.alloc [(.int .i64 0), (.int .i64 0), (.int .i64 0)]),
  kB 5 (.mv (.t 18)) [1, 5, 6, 14, 15, 16, 20],
  (⟨none, .store (.t 6) 3 (.t 20), none⟩, (some [1, 5, 6, 14, 15, 16]))]
@[go_sem] def l71_8 : Nat → GOp
  | 0 => ⟨(some 21), .mv (.t 1), none⟩
  | 1 => ⟨(some 22), .mv (.t 5), none⟩
  | 2 => ⟨(some 23), .iaddr (.t 21) (.t 22) 1, none⟩
  | 3 => ⟨(some 24), .load (.t 23) 1 false, none⟩
  | 4 => ⟨(some 25), .faddr (.t 6) 0, none⟩
  | 5 => ⟨(some 26), .load (.t 25) 1 false, none⟩
  | 6 => ⟨(some 27), .faddr (.t 6) 1, none⟩
  | 7 => ⟨(some 28), .load (.t 27) 1 false, none⟩
  | 8 => ⟨(some 29), .call (n_impl_in) [(.t 24), (.t 26), (.t 28)], none⟩
  | 9 => ⟨(some 30), .un .not (.t 29), none⟩
  | _ => ⟨none, .mkmap, none⟩
@[go_sem] def l71_9 (_ : Unit) : KL := [kB 4 (.mv (.c (.bool false))) [4]]
@[go_sem] def s71_10 (_ : Unit) : IR := (sQ [(kT l71_9), .ret])
@[go_sem] def s71_11 (_ : Unit) : IR := (sQ [(kT l71_7), (.kd (oF l71_8 10) [(0, []), (1, []), (2, []), (3, []), (4, []), (5, []), (6, []), (7, []), (8, []), (9, [])] [1, 14, 15, 16, 30]), (.cond (.t 30) (tH s71_10) .skip)])
@[go_sem] def s71_12 (_ : Unit) : IR := (.block 1 (tH s71_11))
@[go_sem] def l71_13 (_ : Unit) : KL := [kA 31 (.bin .add (.t 16) (cI 1)),
  kB 16 (.mv (.t 31)) [1, 14, 15, 16]]
@[go_sem] def s71_14 (_ : Unit) : IR := (sQ [(kT l71_6), (.cond (.t 17) .skip (.exit 0)), (tH s71_12), (kT l71_13)])
@[go_sem] def s71_15 (_ : Unit) : IR := (.loop (tH s71_14))
@[go_sem] def s71_16 (_ : Unit) : IR := (.block 0 (tH s71_15))
@[go_sem] def s71_17 (_ : Unit) : IR := (sQ [(kT l71_5), (tH s71_16)])
@[go_sem] def l71_18 (_ : Unit) : KL := [kB 4 (.mv (.c (.bool true))) [4]]
@[go_sem] def s71_19 (_ : Unit) : IR := (sQ [(kT l71_0), (tH s71_4), (tH s71_17), (kT l71_18), .ret])
theorem c71 : compFn Try.prog [(0, [], [oN, oS [1, 2]]), (1, [], [oN, oN, oN, oN, oS [1, 2, 8, 11], oS [1, 2, 12]]), (2, [], [oS [4]]), (3, [], [oN, oN, oN, oS [1, 14, 15, 16]]), (4, [], [oS [1, 14, 15, 16, 17]]), (5, [], [oN, oN, oN, oN, oS [1, 5, 6, 14, 15, 16, 20], oS [1, 5, 6, 14, 15, 16]]), (6, [(0, []), (1, []), (2, []), (3, []), (4, []), (5, []), (6, []), (7, []), (8, []), (9, [])], [oS [1, 14, 15, 16, 30]]), (7, [], [oS [4]]), (8, [], [oN, oS [1, 14, 15, 16]]), (9, [], [oS [4]])] Try.f71 = some ⟨2, 32, [.t 4], (tH s71_19)⟩ := by kernel_rfl
theorem v_impl_inRange (hl : vs.length = 2) (h : wpV Try.prog (tH s71_19) (postV [.t 4] RV) (envV vs) M) : VCall Try.prog n_impl_inRange vs M RV :=
  vcall_of_wp (fun _ _ _ hl h => acall_of_wp mixed Try.func71 c71 (by kernel_rfl) hl h) hl h
@[go_sem] def l50_0 (_ : Unit) : KL := [kA 3 (.box (.t 0)),
  kA 6 (.mv (.c (.sl none 0 0 true 0))),
  kB 7 (.mv (.c (.bool false))) [1, 2, 3]]
@[go_sem] def l50_1 (_ : Unit) : KL := [kA 12 (.faddr (.t 3) 1),
  kA 13 (.load (.t 12) 1 false),
  kA 14 (.mv (.t 2)),
  kA 15 (.iaddr (.t 13) (.t 14) 3),
  kB 16 (.load (.t 15) 3 true) [1, 3, 16],
  kA 8 (.alloc [(.sl none 0 0 true 0), (.sl none 0 0 true 0), (.sl none 0 0 true 0)]),
  (⟨none, .store (.t 8) 3 (.t 16), none⟩, (some [1, 3, 8]))]
@[go_sem] def l50_2 (_ : Unit) : KL := [kA 17 (.faddr (.t 8) 0),
  kA 18 (.load (.t 17) 1 false),
  kA 19 (.mv (.t 1)),
  kA 20 (.call (n_impl_eval) [(.t 18), (.t 19)]),
  kB 21 (.bin .eql (.t 20) (cI 0)) [1, 3, 8, 21]]
@[go_sem] def l50_3 (_ : Unit) : KL := [kA 6 (.mv (.c (.sl none 0 0 true 0))),
  kB 7 (.mv (.c (.bool false))) [6, 7]]
@[go_sem] def s50_4 (_ : Unit) : IR := (sQ [(kT l50_3), .ret])
@[go_sem] def s50_5 (_ : Unit) : IR := (sQ [(kT l50_2), (.cond (.t 21) (tH s50_4) .skip)])
@[go_sem] def l50_6 (_ : Unit) : KL := [kA 22 (.mv (.t 1)),
  kA 23 (.call (n_impl_clone_int) [(.t 22)]),
  kB 9 (.mv (.t 23)) [1, 3, 8, 9]]
@[go_sem] def l50_7 (_ : Unit) : KL := [kA 24 (.faddr (.t 8) 1),
  kA 25 (.load (.t 24) 1 false),
  kA 26 (.len (.t 25)),
  kB 27 (.mv (cI 0)) [1, 3, 8, 9, 25, 26, 27]]
@[go_sem] def l50_8 (_ : Unit) : KL := [kB 28 (.bin .lss (.t 27) (.t 26)) [1, 3, 8, 9, 25, 26, 27, 28]]
@[go_sem] def l50_9 (_ : Unit) : KL := [kA 29 (.mv (.t 27)),
  kA 30 (.iaddr (.t 25) (.t 27) 1),
  kA 31 (.load (.t 30) 1 false),
  kA 10 (.mv (.t 29)),
  kB 11 (.mv (.t 31)) [1, 3, 8, 9, 10, 11, 25, 26, 27]]
@[go_sem] def l50_10 (_ : Unit) : KL := [kA 32 (.mv (.t 9)),
  kA 33 (.mv (.t 11)),
  kA 34 (.faddr (.t 8) 2),
  kA 35 (.load (.t 34) 1 false),
  kB 36 (.mv (.t 10)) [1, 3, 8, 9, 25, 26, 27, 32, 33, 35, 36],
  kA 37 (.iaddr (.t 35) (.t 36) 1),
  kA 38 (.load (.t 37) 1 false),
  kA 39 (.mv (.t 1)),
  kA 40 (.call (n_impl_eval) [(.t 38), (.t 39)]),
  kB 41 (.iaddr (.t 32) (.t 33) 1) [1, 3, 8, 9, 25, 26, 27, 40, 41],
  (⟨none, .store (.t 41) 1 (.t 40), none⟩, (some [1, 3, 8, 9, 25, 26, 27]))]
@[go_sem] def s50_11 (_ : Unit) : IR := (sQ [(kT l50_9), (kT l50_10)])
@[go_sem] def s50_12 (_ : Unit) : IR := (.block 1 (tH s50_11))
@[go_sem] def l50_13 (_ : Unit) : KL := [kA 42 (.bin .add (.t 27) (cI 1)),
  kB 27 (.mv (.t 42)) [1, 3, 8, 9, 25, 26, 27]]
@[go_sem] def s50_14 (_ : Unit) : IR := (sQ [(kT l50_8), (.cond (.t 28) .skip (.exit 0)), (tH s50_12), (kT l50_13)])
@[go_sem] def s50_15 (_ : Unit) : IR := (.loop (tH s50_14))
@[go_sem] def s50_16 (_ : Unit) : IR := (.block 0 (tH s50_15))
@[go_sem] def s50_17 (_ : Unit) : IR := (sQ [(kT l50_7), (tH s50_16)])
@[go_sem] def l50_18 (_ : Unit) : KL := [kA 43 (.load (.t 3) 2 true),
  kA 44 (.mv (.t 9)),
  kA 45 (.call (n_impl_inRange) [(.t 43), (.t 44)]),
  kB 46 (.un .not (.t 45)) [9, 46]]
@[go_sem] def l50_19 (_ : Unit) : KL := [kA 6 (.mv (.c (.sl none 0 0 true 0))),
  kB 7 (.mv (.c (.bool false))) [6, 7]]
@[go_sem] def s50_20 (_ : Unit) : IR := (sQ [(kT l50_19), .ret])
@[go_sem] def s50_21 (_ : Unit) : IR := (sQ [(kT l50_18), (.cond (.t 46) (tH s50_20) .skip)])
@[go_sem] def l50_22 (_ : Unit) : KL := [kA 47 (.mv (.t 9)),
  kA 6 (.mv (.t 47)),
  kB 7 (.mv (.c (.bool true))) [6, 7]]
@[go_sem] def s50_23 (_ : Unit) : IR := (sQ [(kT l50_0), (kT l50_1), (tH s50_5), (kT l50_6), (tH s50_17), (tH s50_21), (kT l50_22), .ret])
theorem c50 : compFn Try.prog [(0, [], [oN, oN, oS [1, 2, 3]]), (1, [], [oN, oN, oN, oN, oS [1, 3, 16], oN, oS [1, 3, 8]]), (2, [], [oN, oN, oN, oN, oS [1, 3, 8, 21]]), (3, [], [oN, oS [6, 7]]), (4, [], [oN, oN, oS [1, 3, 8, 9]]), (5, [], [oN, oN, oN, oS [1, 3, 8, 9, 25, 26, 27]]), (6, [], [oS [1, 3, 8, 9, 25, 26, 27, 28]]), (7, [], [oN, oN, oN, oN, oS [1, 3, 8, 9, 10, 11, 25, 26, 27]]), (8, [], [oN, oN, oN, oN, oS [1, 3, 8, 9, 25, 26, 27, 32, 33, 35, 36], oN, oN, oN, oN, oS [1, 3, 8, 9, 25, 26, 27, 40, 41], oS [1, 3, 8, 9, 25, 26, 27]]), (9, [], [oN, oS [1, 3, 8, 9, 25, 26, 27]]), (10, [], [oN, oN, oN, oS [9, 46]]), (11, [], [oN, oS [6, 7]]), (12, [], [oN, oN, oS [6, 7]])] Try.f50 = some ⟨3, 48, [.t 6, .t 7], (tH s50_23)⟩ := by kernel_rfl
theorem v_impl_use (hl : vs.length = 3) (h : wpV Try.prog (tH s50_23) (postV [.t 6, .t 7] RV) (envV vs) M) : VCall Try.prog n_impl_use vs M RV :=
  vcall_of_wp (fun _ _ _ hl h => acall_of_wp mixed Try.func50 c50 (by kernel_rfl) hl h) hl h
@[go_sem] def l26_0 (_ : Unit) : KL := [kA 2 (.box (.t 0)),
  kA 3 (.box (.t 1)),
  kB 4 (.mv (.c (.bool false))) [2, 3]]
@[go_sem] def l26_1 : Nat → GOp
  | 0 => ⟨(some 9), .load (.t 2) 2 true, none⟩
  | 1 => ⟨(some 10), .call (n_impl_SystemValid) [(.t 9)], none⟩
  | 2 => ⟨(some 11), .un .not (.t 10), none⟩
  | 3 => ⟨(some 12), .mv (.t 11), none⟩
  | 4 => ⟨(some 13), .faddr (.t 3) 0, (some (12, false))⟩
  | 5 => ⟨(some 14), .load (.t 13) 1 false, (some (12, false))⟩
  | 6 => ⟨(some 15), .len (.t 14), (some (12, false))⟩
  | 7 => ⟨(some 16), .call (n_impl_in) [(.t 15), (cI 1), (.c (.int .i64 500))], (some (12, false))⟩
  | 8 => ⟨(some 17), .un .not (.t 16), (some (12, false))⟩
  | 9 => ⟨(some 18), .pick (.t 12) (.c (.bool true)) (.t 17), none⟩
  | 10 => ⟨(some 19), .mv (.t 18), none⟩
  | 11 => ⟨(some 20), .faddr (.t 3) 1, (some (19, false))⟩
  | 12 => ⟨(some 21), .load (.t 20) 1 false, (some (19, false))⟩
  | 13 => ⟨(some 22), .len (.t 21), (some (19, false))⟩
  | 14 => ⟨(some 23), .faddr (.t 3) 0, (some (19, false))⟩
  | 15 => ⟨(some 24), .load (.t 23) 1 false, (some (19, false))⟩
  | 16 => ⟨(some 25), .len (.t 24), (some (19, false))⟩
  | 17 => ⟨(some 26), .bin .sub (.t 25) (cI 1), (some (19, false))⟩
  | 18 => ⟨(some 27), .bin .neq (.t 22) (.t 26), (some (19, false))⟩
  | 19 => ⟨(some 28), .pick (.t 19) (.c (.bool true)) (.t 27), none⟩
  | 20 => ⟨(some 29), .mv (.t 28), none⟩
  | 21 => ⟨(some 30), .faddr (.t 3) 0, (some (29, false))⟩
  | 22 => ⟨(some 31), .load (.t 30) 1 false, (some (29, false))⟩
  | 23 => ⟨(some 32), .iaddr (.t 31) (cI 0) 1, (some (29, false))⟩
  | 24 => ⟨(some 33), .load (.t 32) 1 false, (some (29, false))⟩
  | 25 => ⟨(some 34), .load (.t 2) 2 true, (some (29, false))⟩
  | 26 => ⟨(some 35), .call (n_impl_first) [(.t 34)], (some (29, false))⟩
  | 27 => ⟨(some 36), .call (n_slices_Equal_Sint_int) [(.t 33), (.t 35)], (some (29, false))⟩
  | 28 => ⟨(some 37), .un .not (.t 36), (some (29, false))⟩
  | 29 => ⟨(some 38), .pick (.t 29) (.c (.bool true)) (.t 37), none⟩
  | _ => ⟨none, .mkmap, none⟩
@[go_sem] def l26_2 (_ : Unit) : KL := [kB 4 (.mv (.c (.bool false))) [4]]
@[go_sem] def s26_3 (_ : Unit) : IR := (sQ [(kT l26_2), .ret])
@[go_sem] def s26_4 (_ : Unit) : IR := (sQ [(.kd (oF l26_1 30) [(0, []), (1, []), (2, []), (3, []), (4, []), (5, []), (6, []), (7, []), (8, []), (9, []), (10, []), (11, []), (12, []), (13, []), (14, []), (15, []), (16, []), (17, []), (18, []), (19, []), (20, []), (21, []), (22, []), (23, []), (24, []), (25, []), (26, [22, 24]), (27, []), (28, []), (29, [])] [2, 3, 38]), (.cond (.t 38) (tH s26_3) .skip)])
@[go_sem] def l26_5 (_ : Unit) : KL := [kA 39 (.faddr (.t 3) 1),
  kA 40 (.load (.t 39) 1 false),
  kA 41 (.len (.t 40)),
  kB 42 (.mv (cI 0)) [2, 3, 40, 41, 42]]
@[go_sem] def l26_6 (_ : Unit) : KL := [kB 43 (.bin .lss (.t 42) (.t 41)) [2, 3, 40, 41, 42, 43]]
@[go_sem] def l26_7 (_ : Unit) : KL := [kA 44 (.mv (.t 42)),
  kA 45 (.iaddr (.t 40) (.t 42) 1),
  kA 46 (.load (.t 45) 1 false),
  kA 5 (.mv (.t 44)),
  kB 6 (.mv (.t 46)) [2, 3, 5, 6, 40, 41, 42]]
@[go_sem] def l26_8 (_ : Unit) : KL := [kA 47 (.mv (.t 6)),
  kA 48 (.faddr (.t 2) 1),
  kA 49 (.load (.t 48) 1 false),
  kA 50 (.len (.t 49)),
  kB 51 (.bin .sub (.t 50) (cI 1)) [2, 3, 5, 6, 40, 41, 42, 47, 51],
  kA 52 (.call (n_impl_in) [(.t 47), (cI 0), (.t 51)]),
  kB 53 (.un .not (.t 52)) [2, 3, 5, 6, 40, 41, 42, 53]]
@[go_sem] def l26_9 (_ : Unit) : KL := [kB 4 (.mv (.c (.bool false))) [4]]
@[go_sem] def s26_10 (_ : Unit) : IR := (sQ [(kT l26_9), .ret])
@[go_sem] def s26_11 (_ : Unit) : IR := (sQ [(kT l26_8), (.cond (.t 53) (tH s26_10) .skip)])
@[go_sem] def l26_12 : Nat → GOp
  | 0 => ⟨(some 55), .load (.t 2) 2 true, none⟩
  | 1 => ⟨(some 56), .faddr (.t 3) 0, none⟩
  | 2 => ⟨(some 57), .load (.t 56) 1 false, none⟩
  | 3 => ⟨(some 58), .mv (.t 5), none⟩
  | 4 => ⟨(some 59), .iaddr (.t 57) (.t 58) 1, none⟩
  | 5 => ⟨(some 60), .load (.t 59) 1 false, none⟩
  | 6 => ⟨(some 61), .mv (.t 6), none⟩
  | 7 => ⟨(some 62), .call (n_impl_use) [(.t 55), (.t 60), (.t 61)], none⟩
  | 8 => ⟨(some 54), .mv (.t 62), none⟩
  | 9 => ⟨(some 63), .ext (.t 54) 0, none⟩
  | 10 => ⟨(some 64), .ext (.t 54) 1, none⟩
  | 11 => ⟨(some 7), .mv (.t 63), none⟩
  | 12 => ⟨(some 8), .mv (.t 64), none⟩
  | _ => ⟨none, .mkmap, none⟩
@[go_sem] def l26_13 (_ : Unit) : KL := [kA 65 (.mv (.t 8)),
  kA 66 (.un .not (.t 65)),
  kA 67 (.mv (.t 66)),
  (⟨(some 68), .mv (.t 7), (some (67, false))⟩, none),
  (⟨(some 69), .faddr (.t 3) 0, (some (67, false))⟩, (some [2, 3, 5, 40, 41, 42, 67, 68, 69])),
  (⟨(some 70), .load (.t 69) 1 false, (some (67, false))⟩, none),
  (⟨(some 71), .mv (.t 5), (some (67, false))⟩, none),
  (⟨(some 72), .bin .add (.t 71) (cI 1), (some (67, false))⟩, none),
  (⟨(some 73), .iaddr (.t 70) (.t 72) 1, (some (67, false))⟩, none),
  (⟨(some 74), .load (.t 73) 1 false, (some (67, false))⟩, (some [2, 3, 40, 41, 42, 67, 68, 74])),
  (⟨(some 75), .call (n_slices_Equal_Sint_int) [(.t 68), (.t 74)], (some (67, false))⟩, none),
  (⟨(some 76), .un .not (.t 75), (some (67, false))⟩, none),
  kB 77 (.pick (.t 67) (.c (.bool true)) (.t 76)) [2, 3, 40, 41, 42, 77]]
@[go_sem] def l26_14 (_ : Unit) : KL := [kB 4 (.mv (.c (.bool false))) [4]]
@[go_sem] def s26_15 (_ : Unit) : IR := (sQ [(kT l26_14), .ret])
@[go_sem] def s26_16 (_ : Unit) : IR := (sQ [(kT l26_7), (tH s26_11), (.kd (oF l26_12 13) [(0, []), (1, []), (2, []), (3, []), (4, []), (5, []), (6, []), (7, []), (8, []), (9, []), (10, []), (11, []), (12, [])] [2, 3, 5, 7, 8, 40, 41, 42]), (kT l26_13), (.cond (.t 77) (tH s26_15) .skip)])
@[go_sem] def s26_17 (_ : Unit) : IR := (.block 1 (tH s26_16))
@[go_sem] def l26_18 (_ : Unit) : KL := [kA 78 (.bin .add (.t 42) (cI 1)),
  kB 42 (.mv (.t 78)) [2, 3, 40, 41, 42]]
@[go_sem] def s26_19 (_ : Unit) : IR := (sQ [(kT l26_6), (.cond (.t 43) .skip (.exit 0)), (tH s26_17), (kT l26_18)])
@[go_sem] def s26_20 (_ : Unit) : IR := (.loop (tH s26_19))
@[go_sem] def s26_21 (_ : Unit) : IR := (.block 0 (tH s26_20))
@[go_sem] def s26_22 (_ : Unit) : IR := (sQ [(kT l26_5), (tH s26_21)])
@[go_sem] def l26_23 (_ : Unit) : KL := [kB 4 (.mv (.c (.bool true))) [4]]
@[go_sem] def s26_24 (_ : Unit) : IR := (sQ [(kT l26_0), (tH s26_4), (tH s26_22), (kT l26_23), .ret])
theorem c26 : compFn Try.prog [(0, [], [oN, oN, oS [2, 3]]), (1, [(0, []), (1, []), (2, []), (3, []), (4, []), (5, []), (6, []), (7, []), (8, []), (9, []), (10, []), (11, []), (12, []), (13, []), (14, []), (15, []), (16, []), (17, []), (18, []), (19, []), (20, []), (21, []), (22, []), (23, []), (24, []), (25, []), (26, [22, 24]), (27, []), (28, []), (29, [])], [oS [2, 3, 38]]), (2, [], [oS [4]]), (3, [], [oN, oN, oN, oS [2, 3, 40, 41, 42]]), (4, [], [oS [2, 3, 40, 41, 42, 43]]), (5, [], [oN, oN, oN, oN, oS [2, 3, 5, 6, 40, 41, 42]]), (6, [], [oN, oN, oN, oN, oS [2, 3, 5, 6, 40, 41, 42, 47, 51], oN, oS [2, 3, 5, 6, 40, 41, 42, 53]]), (7, [], [oS [4]]), (8, [(0, []), (1, []), (2, []), (3, []), (4, []), (5, []), (6, []), (7, []), (8, []), (9, []), (10, []), (11, []), (12, [])], [oS [2, 3, 5, 7, 8, 40, 41, 42]]), (9, [], [oN, oN, oN, oN, oS [2, 3, 5, 40, 41, 42, 67, 68, 69], oN, oN, oN, oN, oS [2, 3, 40, 41, 42, 67, 68, 74], oN, oN, oS [2, 3, 40, 41, 42, 77]]), (10, [], [oS [4]]), (11, [], [oN, oS [2, 3, 40, 41, 42]]), (12, [], [oS [4]])] Try.f26 = some ⟨2, 79, [.t 4], (tH s26_24)⟩ := by kernel_rfl
theorem v_impl_TraceValid (hl : vs.length = 2) (h : wpV Try.prog (tH s26_24) (postV [.t 4] RV) (envV vs) M) : VCall Try.prog n_impl_TraceValid vs M RV :=
  vcall_of_wp (fun _ _ _ hl h => acall_of_wp mixed Try.func26 c26 (by kernel_rfl) hl h) hl h
@[go_sem] def l29_0 (_ : Unit) : KL := [kB 2 (.mv (.c (.sl none 0 0 true 0))) [0]]
@[go_sem] def l29_1 (_ : Unit) : KL := [kA 4 (.mv (.t 0)),
  kA 5 (.len (.t 4)),
  kB 6 (.bin .eql (.t 5) (cI 0)) [0, 6]]
@[go_sem] def l29_2 (_ : Unit) : KL := [kB 2 (.mv (.c (.sl none 0 0 true 0))) [2]]
@[go_sem] def s29_3 (_ : Unit) : IR := (sQ [(kT l29_2), .ret])
@[go_sem] def s29_4 (_ : Unit) : IR := (sQ [(kT l29_1), (.cond (.t 6) (tH s29_3) .skip)])
@[go_sem] def l29_5 (_ : Unit) : KL := [kA 7 (.mv (.t 0)),
  kA 8 (.len (.t 7)),
  kA 9 (.mks [(.sl none 0 0 true 0)] 24 (.t 8)),
  kB 3 (.mv (.t 9)) [0, 3]]
@[go_sem] def l29_6 (_ : Unit) : KL := [kA 10 (.mv (.t 3)),
  kA 11 (.mv (.t 0)),
  kB 12 (.copy 1 (.t 10) (.t 11)) [3]]
@[go_sem] def l29_7 (_ : Unit) : KL := [kA 13 (.mv (.t 3)),
  kB 2 (.mv (.t 13)) [2]]
@[go_sem] def s29_8 (_ : Unit) : IR := (sQ [(kT l29_0), (tH s29_4), (kT l29_5), (kT l29_6), (kT l29_7), .ret])
theorem c29 : compFn Try.prog [(0, [], [oS [0]]), (1, [], [oN, oN, oS [0, 6]]), (2, [], [oS [2]]), (3, [], [oN, oN, oN, oS [0, 3]]), (4, [], [oN, oN, oS [3]]), (5, [], [oN, oS [2]])] Try.f29 = some ⟨1, 14, [.t 2], (tH s29_8)⟩ := by kernel_rfl
theorem v_impl_clone_Sint (hl : vs.length = 1) (h : wpV Try.prog (tH s29_8) (postV [.t 2] RV) (envV vs) M) : VCall Try.prog n_impl_clone_Sint vs M RV :=
  vcall_of_wp (fun _ _ _ hl h => acall_of_wp mixed Try.func29 c29 (by kernel_rfl) hl h) hl h
@[go_sem] def l9_0 (_ : Unit) : KL := [kA 2 (.box (.t 0)),
  kA 3 (.box (.t 1)),
  kB 4 (.alloc [(.sl none 0 0 true 0), (.sl none 0 0 true 0)]) [2, 3, 4]]
@[go_sem] def l9_1 (_ : Unit) : KL := [kA 10 (.load (.t 2) 2 true),
  kA 11 (.load (.t 3) 2 true),
  kA 12 (.call (n_impl_TraceValid) [(.t 10), (.t 11)]),
  kB 13 (.un .not (.t 12)) [3, 4, 13]]
@[go_sem] def l9_2 (_ : Unit) : KL := [kA 14 (.bld [(.sl none 0 0 true 0), (.sl none 0 0 true 0)] []),
  (⟨none, .store (.t 4) 2 (.t 14), none⟩, (some [4]))]
@[go_sem] def s9_3 (_ : Unit) : IR := (sQ [(kT l9_2), .ret])
@[go_sem] def s9_4 (_ : Unit) : IR := (sQ [(kT l9_1), (.cond (.t 13) (tH s9_3) .skip)])
@[go_sem] def l9_5 (_ : Unit) : KL := [kA 15 (.faddr (.t 3) 0),
  kA 16 (.load (.t 15) 1 false),
  kA 17 (.iaddr (.t 16) (cI 0) 1),
  kA 18 (.load (.t 17) 1 false),
  kB 19 (.call (n_impl_clone_int) [(.t 18)]) [3, 4, 19],
  kA 20 (.bslc 1 1 [(.sl none 0 0 true 0)] [(0, (.t 19))]),
  kA 21 (.bld [(.sl none 0 0 true 0), (.sl none 0 0 true 0)] [(0, 1, (.t 20))]),
  kA 5 (.alloc [(.sl none 0 0 true 0), (.sl none 0 0 true 0)]),
  (⟨none, .store (.t 5) 2 (.t 21), none⟩, (some [3, 4, 5]))]
@[go_sem] def l9_6 (_ : Unit) : KL := [kA 22 (.faddr (.t 5) 0),
  kA 23 (.load (.t 22) 1 false),
  kA 24 (.faddr (.t 5) 0),
  kA 25 (.load (.t 24) 1 false),
  kB 26 (.len (.t 25)) [3, 4, 5, 23, 26],
  kA 27 (.bin .sub (.t 26) (cI 1)),
  kA 28 (.iaddr (.t 23) (.t 27) 1),
  kA 29 (.load (.t 28) 1 false),
  kB 6 (.mv (.t 29)) [3, 4, 5, 6]]
@[go_sem] def l9_7 (_ : Unit) : KL := [kB 7 (.mv (cI 0)) [3, 4, 5, 6, 7]]
@[go_sem] def l9_8 (_ : Unit) : KL := [kA 30 (.faddr (.t 3) 0),
  kA 31 (.load (.t 30) 1 false),
  kA 32 (.len (.t 31)),
  kB 33 (.mv (cI 0)) [3, 4, 5, 6, 7, 31, 32, 33]]
@[go_sem] def l9_9 (_ : Unit) : KL := [kB 34 (.bin .lss (.t 33) (.t 32)) [3, 4, 5, 6, 7, 31, 32, 33, 34]]
@[go_sem] def l9_10 (_ : Unit) : KL := [kA 35 (.mv (.t 33)),
  kA 36 (.iaddr (.t 31) (.t 33) 1),
  kA 37 (.load (.t 36) 1 false),
  kA 8 (.mv (.t 35)),
  kB 9 (.mv (.t 37)) [3, 4, 5, 6, 7, 8, 9, 31, 32, 33]]
@[go_sem] def l9_11 (_ : Unit) : KL := [kA 38 (.mv (.t 9)),
  kA 39 (.mv (.t 6)),
  kB 40 (.call (n_slices_Equal_Sint_int) [(.t 38), (.t 39)]) [3, 4, 5, 6, 7, 8, 31, 32, 33, 40]]
@[go_sem] def l9_12 (_ : Unit) : KL := [kA 41 (.mv (.t 8)),
  kB 7 (.mv (.t 41)) [3, 4, 5, 6, 7, 31, 32, 33]]
@[go_sem] def s9_13 (_ : Unit) : IR := (sQ [(kT l9_10), (kT l9_11), (.cond (.t 40) (kT l9_12) .skip)])
@[go_sem] def s9_14 (_ : Unit) : IR := (.block 3 (tH s9_13))
@[go_sem] def l9_15 (_ : Unit) : KL := [kA 42 (.bin .add (.t 33) (cI 1)),
  kB 33 (.mv (.t 42)) [3, 4, 5, 6, 7, 31, 32, 33]]
@[go_sem] def s9_16 (_ : Unit) : IR := (sQ [(kT l9_9), (.cond (.t 34) .skip (.exit 2)), (tH s9_14), (kT l9_15)])
@[go_sem] def s9_17 (_ : Unit) : IR := (.loop (tH s9_16))
@[go_sem] def s9_18 (_ : Unit) : IR := (.block 2 (tH s9_17))
@[go_sem] def s9_19 (_ : Unit) : IR := (sQ [(kT l9_8), (tH s9_18)])
@[go_sem] def l9_20 (_ : Unit) : KL := [kA 43 (.mv (.t 7)),
  kA 44 (.faddr (.t 3) 1),
  kA 45 (.load (.t 44) 1 false),
  kA 46 (.len (.t 45)),
  kB 47 (.bin .eql (.t 43) (.t 46)) [3, 4, 5, 7, 47]]
@[go_sem] def l9_21 : Nat → GOp
  | 0 => ⟨(some 48), .faddr (.t 5) 0, none⟩
  | 1 => ⟨(some 49), .load (.t 48) 1 false, none⟩
  | 2 => ⟨(some 50), .call (n_impl_clone_Sint) [(.t 49)], none⟩
  | 3 => ⟨(some 51), .faddr (.t 5) 1, none⟩
  | 4 => ⟨(some 52), .load (.t 51) 1 false, none⟩
  | 5 => ⟨(some 53), .call (n_impl_clone_int) [(.t 52)], none⟩
  | 6 => ⟨(some 54), .bld [(.sl none 0 0 true 0), (.sl none 0 0 true 0)] [(0, 1, (.t 50)), (1, 1, (.t 53))], none⟩
  | 7 => ⟨none, .store (.t 4) 2 (.t 54), none⟩
  | _ => ⟨none, .mkmap, none⟩
@[go_sem] def s9_22 (_ : Unit) : IR := (sQ [(.kd (oF l9_21 8) [(0, []), (1, []), (3, []), (4, []), (2, [4]), (5, []), (6, []), (7, [])] [4]), .ret])
@[go_sem] def s9_23 (_ : Unit) : IR := (sQ [(kT l9_20), (.cond (.t 47) (tH s9_22) .skip)])
@[go_sem] def l9_24 : Nat → GOp
  | 0 => ⟨(some 55), .faddr (.t 5) 1, none⟩
  | 1 => ⟨(some 56), .load (.t 55) 1 false, none⟩
  | 2 => ⟨(some 57), .faddr (.t 3) 1, none⟩
  | 3 => ⟨(some 58), .load (.t 57) 1 false, none⟩
  | 4 => ⟨(some 59), .mv (.t 7), none⟩
  | 5 => ⟨(some 60), .iaddr (.t 58) (.t 59) 1, none⟩
  | 6 => ⟨(some 61), .load (.t 60) 1 false, none⟩
  | 7 => ⟨(some 62), .bslc 1 1 [(.int .i64 0)] [(0, (.t 61))], none⟩
  | 8 => ⟨(some 63), .app 1 8 (.t 56) (.t 62), none⟩
  | 9 => ⟨(some 64), .faddr (.t 5) 1, none⟩
  | 10 => ⟨none, .store (.t 64) 1 (.t 63), none⟩
  | _ => ⟨none, .mkmap, none⟩
@[go_sem] def l9_25 : Nat → GOp
  | 0 => ⟨(some 65), .faddr (.t 5) 0, none⟩
  | 1 => ⟨(some 66), .load (.t 65) 1 false, none⟩
  | 2 => ⟨(some 67), .faddr (.t 3) 0, none⟩
  | 3 => ⟨(some 68), .load (.t 67) 1 false, none⟩
  | 4 => ⟨(some 69), .mv (.t 7), none⟩
  | 5 => ⟨(some 70), .bin .add (.t 69) (cI 1), none⟩
  | 6 => ⟨(some 71), .iaddr (.t 68) (.t 70) 1, none⟩
  | 7 => ⟨(some 72), .load (.t 71) 1 false, none⟩
  | 8 => ⟨(some 73), .call (n_impl_clone_int) [(.t 72)], none⟩
  | 9 => ⟨(some 74), .bslc 1 1 [(.sl none 0 0 true 0)] [(0, (.t 73))], none⟩
  | 10 => ⟨(some 75), .app 1 24 (.t 66) (.t 74), none⟩
  | 11 => ⟨(some 76), .faddr (.t 5) 0, none⟩
  | 12 => ⟨none, .store (.t 76) 1 (.t 75), none⟩
  | _ => ⟨none, .mkmap, none⟩
@[go_sem] def s9_26 (_ : Unit) : IR := (sQ [(kT l9_6), (kT l9_7), (tH s9_19), (tH s9_23), (.kd (oF l9_24 11) [(0, []), (1, []), (2, []), (3, []), (4, []), (5, []), (6, []), (7, []), (8, []), (9, []), (10, [])] [3, 4, 5, 7]), (.kd (oF l9_25 13) [(0, []), (1, []), (2, []), (3, []), (4, []), (5, []), (6, []), (7, []), (8, [1]), (9, []), (10, []), (11, []), (12, [])] [3, 4, 5])])
@[go_sem] def s9_27 (_ : Unit) : IR := (.block 1 (tH s9_26))
@[go_sem] def s9_28 (_ : Unit) : IR := (.loop (tH s9_27))
@[go_sem] def s9_29 (_ : Unit) : IR := (.block 0 (tH s9_28))
@[go_sem] def s9_30 (_ : Unit) : IR := (sQ [(kT l9_0), (tH s9_4), (kT l9_5), (tH s9_29)])
theorem c9 : compFn Try.prog [(0, [], [oN, oN, oS [2, 3, 4]]), (1, [], [oN, oN, oN, oS [3, 4, 13]]), (2, [], [oN, oS [4]]), (3, [], [oN, oN, oN, oN, oS [3, 4, 19], oN, oN, oN, oS [3, 4, 5]]), (4, [], [oN, oN, oN, oN, oS [3, 4, 5, 23, 26], oN, oN, oN, oS [3, 4, 5, 6]]), (5, [], [oS [3, 4, 5, 6, 7]]), (6, [], [oN, oN, oN, oS [3, 4, 5, 6, 7, 31, 32, 33]]), (7, [], [oS [3, 4, 5, 6, 7, 31, 32, 33, 34]]), (8, [], [oN, oN, oN, oN, oS [3, 4, 5, 6, 7, 8, 9, 31, 32, 33]]), (9, [], [oN, oN, oS [3, 4, 5, 6, 7, 8, 31, 32, 33, 40]]), (10, [], [oN, oS [3, 4, 5, 6, 7, 31, 32, 33]]), (11, [], [oN, oS [3, 4, 5, 6, 7, 31, 32, 33]]), (12, [], [oN, oN, oN, oN, oS [3, 4, 5, 7, 47]]), (13, [(0, []), (1, []), (3, []), (4, []), (2, [4]), (5, []), (6, []), (7, [])], [oS [4]]), (14, [(0, []), (1, []), (2, []), (3, []), (4, []), (5, []), (6, []), (7, []), (8, []), (9, []), (10, [])], [oS [3, 4, 5, 7]]), (15, [(0, []), (1, []), (2, []), (3, []), (4, []), (5, []), (6, []), (7, []), (8, [1]), (9, []), (10, []), (11, []), (12, [])], [oS [3, 4, 5]])] Try.f9 = some ⟨2, 77, [.c 4 2 true], (tH s9_30)⟩ := by kernel_rfl
theorem v_impl_WithoutRounds (hl : vs.length = 2) (h : wpV Try.prog (tH s9_30) (postV [.c 4 2 true] RV) (envV vs) M) : VCall Try.prog n_impl_WithoutRounds vs M RV :=
  vcall_of_wp (fun _ _ _ hl h => acall_of_wp mixed Try.func9 c9 (by kernel_rfl) hl h) hl h
@[go_sem] def l31_0 (_ : Unit) : KL := [kB 4 (.mv (.c (.bool false))) [0, 1]]
@[go_sem] def l31_1 (_ : Unit) : KL := [kA 6 (.mv (.t 0)),
  kA 7 (.len (.t 6)),
  kA 8 (.mv (.t 1)),
  kA 9 (.len (.t 8)),
  kB 10 (.bin .neq (.t 7) (.t 9)) [0, 1, 10]]
@[go_sem] def l31_2 (_ : Unit) : KL := [kB 4 (.mv (.c (.bool false))) [4]]
@[go_sem] def s31_3 (_ : Unit) : IR := (sQ [(kT l31_2), .ret])
@[go_sem] def s31_4 (_ : Unit) : IR := (sQ [(kT l31_1), (.cond (.t 10) (tH s31_3) .skip)])
@[go_sem] def l31_5 (_ : Unit) : KL := [kB 5 (.mv (cI 0)) [0, 1, 5]]
@[go_sem] def l31_6 (_ : Unit) : KL := [kA 11 (.mv (.t 5)),
  kA 12 (.mv (.t 0)),
  kA 13 (.len (.t 12)),
  kB 14 (.bin .lss (.t 11) (.t 13)) [0, 1, 5, 14]]
@[go_sem] def s31_7 (_ : Unit) : IR := (sQ [(kT l31_6), (.cond (.t 14) .skip (.exit 0))])
@[go_sem] def l31_8 : Nat → GOp
  | 0 => ⟨(some 17), .mv (.t 0), none⟩
  | 1 => ⟨(some 18), .mv (.t 5), none⟩
  | 2 => ⟨(some 19), .iaddr (.t 17) (.t 18) 1, none⟩
  | 3 => ⟨(some 20), .load (.t 19) 1 false, none⟩
  | 4 => ⟨(some 21), .mv (.t 1), none⟩
  | 5 => ⟨(some 22), .mv (.t 5), none⟩
  | 6 => ⟨(some 23), .iaddr (.t 21) (.t 22) 1, none⟩
  | 7 => ⟨(some 24), .load (.t 23) 1 false, none⟩
  | 8 => ⟨(some 25), .bin .neq (.t 20) (.t 24), none⟩
  | _ => ⟨none, .mkmap, none⟩
@[go_sem] def l31_9 (_ : Unit) : KL := [kB 4 (.mv (.c (.bool false))) [4]]
@[go_sem] def s31_10 (_ : Unit) : IR := (sQ [(kT l31_9), .ret])
@[go_sem] def s31_11 (_ : Unit) : IR := (sQ [(.kd (oF l31_8 9) [(0, []), (1, []), (2, []), (3, []), (4, []), (5, []), (6, []), (7, []), (8, [])] [0, 1, 5, 25]), (.cond (.t 25) (tH s31_10) .skip)])
@[go_sem] def s31_12 (_ : Unit) : IR := (.block 1 (tH s31_11))
@[go_sem] def l31_13 (_ : Unit) : KL := [kA 15 (.mv (.t 5)),
  kA 16 (.bin .add (.t 15) (cI 1)),
  kB 5 (.mv (.t 16)) [0, 1, 5]]
@[go_sem] def s31_14 (_ : Unit) : IR := (sQ [(tH s31_7), (tH s31_12), (kT l31_13)])
@[go_sem] def s31_15 (_ : Unit) : IR := (.loop (tH s31_14))
@[go_sem] def s31_16 (_ : Unit) : IR := (.block 0 (tH s31_15))
@[go_sem] def s31_17 (_ : Unit) : IR := (sQ [(kT l31_5), (tH s31_16)])
@[go_sem] def l31_18 (_ : Unit) : KL := [kB 4 (.mv (.c (.bool true))) [4]]
@[go_sem] def s31_19 (_ : Unit) : IR := (sQ [(kT l31_0), (tH s31_4), (tH s31_17), (kT l31_18), .ret])
theorem c31 : compFn Try.prog [(0, [], [oS [0, 1]]), (1, [], [oN, oN, oN, oN, oS [0, 1, 10]]), (2, [], [oS [4]]), (3, [], [oS [0, 1, 5]]), (4, [], [oN, oN, oN, oS [0, 1, 5, 14]]), (6, [(0, []), (1, []), (2, []), (3, []), (4, []), (5, []), (6, []), (7, []), (8, [])], [oS [0, 1, 5, 25]]), (7, [], [oS [4]]), (5, [], [oN, oN, oS [0, 1, 5]]), (8, [], [oS [4]])] Try.f31 = some ⟨2, 26, [.t 4], (tH s31_19)⟩ := by kernel_rfl
theorem v_laws_eqIntS (hl : vs.length = 2) (h : wpV Try.prog (tH s31_19) (postV [.t 4] RV) (envV vs) M) : VCall Try.prog n_laws_eqIntS vs M RV :=
  vcall_of_wp (fun _ _ _ hl h => acall_of_wp mixed Try.func31 c31 (by kernel_rfl) hl h) hl h
@[go_sem] def l30_0 (_ : Unit) : KL := [kB 4 (.mv (.c (.bool false))) [0, 1]]
@[go_sem] def l30_1 (_ : Unit) : KL := [kA 6 (.mv (.t 0)),
  kA 7 (.len (.t 6)),
  kA 8 (.mv (.t 1)),
  kA 9 (.len (.t 8)),
  kB 10 (.bin .neq (.t 7) (.t 9)) [0, 1, 10]]
@[go_sem] def l30_2 (_ : Unit) : KL := [kB 4 (.mv (.c (.bool false))) [4]]
@[go_sem] def s30_3 (_ : Unit) : IR := (sQ [(kT l30_2), .ret])
@[go_sem] def s30_4 (_ : Unit) : IR := (sQ [(kT l30_1), (.cond (.t 10) (tH s30_3) .skip)])
@[go_sem] def l30_5 (_ : Unit) : KL := [kB 5 (.mv (cI 0)) [0, 1, 5]]
@[go_sem] def l30_6 (_ : Unit) : KL := [kA 11 (.mv (.t 5)),
  kA 12 (.mv (.t 0)),
  kA 13 (.len (.t 12)),
  kB 14 (.bin .lss (.t 11) (.t 13)) [0, 1, 5, 14]]
@[go_sem] def s30_7 (_ : Unit) : IR := (sQ [(kT l30_6), (.cond (.t 14) .skip (.exit 0))])
@[go_sem] def l30_8 : Nat → GOp
  | 0 => ⟨(some 17), .mv (.t 0), none⟩
  | 1 => ⟨(some 18), .mv (.t 5), none⟩
  | 2 => ⟨(some 19), .iaddr (.t 17) (.t 18) 1, none⟩
  | 3 => ⟨(some 20), .load (.t 19) 1 false, none⟩
  | 4 => ⟨(some 21), .mv (.t 1), none⟩
  | 5 => ⟨(some 22), .mv (.t 5), none⟩
  | 6 => ⟨(some 23), .iaddr (.t 21) (.t 22) 1, none⟩
  | 7 => ⟨(some 24), .load (.t 23) 1 false, none⟩
  | 8 => ⟨(some 25), .call (n_laws_eqIntS) [(.t 20), (.t 24)], none⟩
  | 9 => ⟨(some 26), .un .not (.t 25), none⟩
  | _ => ⟨none, .mkmap, none⟩
@[go_sem] def l30_9 (_ : Unit) : KL := [kB 4 (.mv (.c (.bool false))) [4]]
@[go_sem] def s30_10 (_ : Unit) : IR := (sQ [(kT l30_9), .ret])
@[go_sem] def s30_11 (_ : Unit) : IR := (sQ [(.kd (oF l30_8 10) [(0, []), (1, []), (2, []), (3, []), (4, []), (5, []), (6, []), (7, []), (8, []), (9, [])] [0, 1, 5, 26]), (.cond (.t 26) (tH s30_10) .skip)])
@[go_sem] def s30_12 (_ : Unit) : IR := (.block 1 (tH s30_11))
@[go_sem] def l30_13 (_ : Unit) : KL := [kA 15 (.mv (.t 5)),
  kA 16 (.bin .add (.t 15) (cI 1)),
  kB 5 (.mv (.t 16)) [0, 1, 5]]
@[go_sem] def s30_14 (_ : Unit) : IR := (sQ [(tH s30_7), (tH s30_12), (kT l30_13)])
@[go_sem] def s30_15 (_ : Unit) : IR := (.loop (tH s30_14))
@[go_sem] def s30_16 (_ : Unit) : IR := (.block 0 (tH s30_15))
@[go_sem] def s30_17 (_ : Unit) : IR := (sQ [(kT l30_5), (tH s30_16)])
@[go_sem] def l30_18 (_ : Unit) : KL := [kB 4 (.mv (.c (.bool true))) [4]]
@[go_sem] def s30_19 (_ : Unit) : IR := (sQ [(kT l30_0), (tH s30_4), (tH s30_17), (kT l30_18), .ret])
theorem c30 : compFn Try.prog [(0, [], [oS [0, 1]]), (1, [], [oN, oN, oN, oN, oS [0, 1, 10]]), (2, [], [oS [4]]), (3, [], [oS [0, 1, 5]]), (4, [], [oN, oN, oN, oS [0, 1, 5, 14]]), (6, [(0, []), (1, []), (2, []), (3, []), (4, []), (5, []), (6, []), (7, []), (8, []), (9, [])], [oS [0, 1, 5, 26]]), (7, [], [oS [4]]), (5, [], [oN, oN, oS [0, 1, 5]]), (8, [], [oS [4]])] Try.f30 = some ⟨2, 27, [.t 4], (tH s30_19)⟩ := by kernel_rfl
theorem v_laws_eqIntSS (hl : vs.length = 2) (h : wpV Try.prog (tH s30_19) (postV [.t 4] RV) (envV vs) M) : VCall Try.prog n_laws_eqIntSS vs M RV :=
  vcall_of_wp (fun _ _ _ hl h => acall_of_wp mixed Try.func30 c30 (by kernel_rfl) hl h) hl h
@[go_sem] def l10_0 (_ : Unit) : KL := [kA 2 (.box (.t 0)),
  kA 3 (.box (.t 1)),
  kB 4 (.mv (.c (.bool false))) [2, 3]]
@[go_sem] def l10_1 (_ : Unit) : KL := [kA 5 (.faddr (.t 2) 0),
  kA 6 (.load (.t 5) 1 false),
  kA 7 (.faddr (.t 3) 0),
  kA 8 (.load (.t 7) 1 false),
  kB 9 (.call (n_laws_eqIntSS) [(.t 6), (.t 8)]) [2, 3, 9],
  kB 10 (.un .not (.t 9)) [2, 3, 10]]
@[go_sem] def l10_2 (_ : Unit) : KL := [kB 4 (.mv (.c (.bool false))) [4]]
@[go_sem] def s10_3 (_ : Unit) : IR := (sQ [(kT l10_2), .ret])
@[go_sem] def s10_4 (_ : Unit) : IR := (sQ [(kT l10_1), (.cond (.t 10) (tH s10_3) .skip)])
@[go_sem] def l10_5 (_ : Unit) : KL := [kA 11 (.faddr (.t 2) 1),
  kA 12 (.load (.t 11) 1 false),
  kA 13 (.faddr (.t 3) 1),
  kA 14 (.load (.t 13) 1 false),
  kB 15 (.call (n_laws_eqIntS) [(.t 12), (.t 14)]) [15],
  kB 16 (.un .not (.t 15)) [16]]
@[go_sem] def l10_6 (_ : Unit) : KL := [kB 4 (.mv (.c (.bool false))) [4]]
@[go_sem] def s10_7 (_ : Unit) : IR := (sQ [(kT l10_6), .ret])
@[go_sem] def s10_8 (_ : Unit) : IR := (sQ [(kT l10_5), (.cond (.t 16) (tH s10_7) .skip)])
@[go_sem] def l10_9 (_ : Unit) : KL := [kB 4 (.mv (.c (.bool true))) [4]]
@[go_sem] def s10_10 (_ : Unit) : IR := (sQ [(kT l10_0), (tH s10_4), (tH s10_8), (kT l10_9), .ret])
theorem c10 : compFn Try.prog [(0, [], [oN, oN, oS [2, 3]]), (1, [], [oN, oN, oN, oN, oS [2, 3, 9], oS [2, 3, 10]]), (2, [], [oS [4]]), (3, [], [oN, oN, oN, oN, oS [15], oS [16]]), (4, [], [oS [4]]), (5, [], [oS [4]])] Try.f10 = some ⟨2, 17, [.t 4], (tH s10_10)⟩ := by kernel_rfl
theorem v_laws_eqTrace (hl : vs.length = 2) (h : wpV Try.prog (tH s10_10) (postV [.t 4] RV) (envV vs) M) : VCall Try.prog n_laws_eqTrace vs M RV :=
  vcall_of_wp (fun _ _ _ hl h => acall_of_wp mixed Try.func10 c10 (by kernel_rfl) hl h) hl h
@[go_sem] def l51_0 (_ : Unit) : KL := [kA 2 (.box (.t 0)),
  kA 3 (.box (.t 1)),
  kB 4 (.mv (.c (.bool false))) [2, 3]]
@[go_sem] def l51_1 (_ : Unit) : KL := [kA 5 (.faddr (.t 2) 0),
  kA 6 (.load (.t 5) 1 false),
  kA 7 (.faddr (.t 3) 0),
  kA 8 (.load (.t 7) 1 false),
  kB 9 (.bin .neq (.t 6) (.t 8)) [2, 3, 9]]
@[go_sem] def l51_2 (_ : Unit) : KL := [kB 4 (.mv (.c (.bool false))) [4]]
@[go_sem] def s51_3 (_ : Unit) : IR := (sQ [(kT l51_2), .ret])
@[go_sem] def s51_4 (_ : Unit) : IR := (sQ [(kT l51_1), (.cond (.t 9) (tH s51_3) .skip)])
@[go_sem] def l51_5 (_ : Unit) : KL := [kA 10 (.faddr (.t 2) 1),
  kA 11 (.load (.t 10) 1 false),
  kA 12 (.faddr (.t 3) 1),
  kA 13 (.load (.t 12) 1 false),
  kB 14 (.bin .neq (.t 11) (.t 13)) [2, 3, 14]]
@[go_sem] def l51_6 (_ : Unit) : KL := [kB 4 (.mv (.c (.bool false))) [4]]
@[go_sem] def s51_7 (_ : Unit) : IR := (sQ [(kT l51_6), .ret])
@[go_sem] def s51_8 (_ : Unit) : IR := (sQ [(kT l51_5), (.cond (.t 14) (tH s51_7) .skip)])
@[go_sem] def l51_9 (_ : Unit) : KL := [kA 15 (.faddr (.t 2) 2),
  kA 16 (.load (.t 15) 1 false),
  kA 17 (.faddr (.t 3) 2),
  kA 18 (.load (.t 17) 1 false),
  kB 19 (.bin .neq (.t 16) (.t 18)) [19]]
@[go_sem] def l51_10 (_ : Unit) : KL := [kB 4 (.mv (.c (.bool false))) [4]]
@[go_sem] def s51_11 (_ : Unit) : IR := (sQ [(kT l51_10), .ret])
@[go_sem] def s51_12 (_ : Unit) : IR := (sQ [(kT l51_9), (.cond (.t 19) (tH s51_11) .skip)])
@[go_sem] def l51_13 (_ : Unit) : KL := [kB 4 (.mv (.c (.bool true))) [4]]
@[go_sem] def s51_14 (_ : Unit) : IR := (sQ [(kT l51_0), (tH s51_4), (tH s51_8), (tH s51_12), (kT l51_13), .ret])
theorem c51 : compFn Try.prog [(0, [], [oN, oN, oS [2, 3]]), (1, [], [oN, oN, oN, oN, oS [2, 3, 9]]), (2, [], [oS [4]]), (3, [], [oN, oN, oN, oN, oS [2, 3, 14]]), (4, [], [oS [4]]), (5, [], [oN, oN, oN, oN, oS [19]]), (6, [], [oS [4]]), (7, [], [oS [4]])] Try.f51 = some ⟨2, 20, [.t 4], (tH s51_14)⟩ := by kernel_rfl
theorem v_laws_eqVar (hl : vs.length = 2) (h : wpV Try.prog (tH s51_14) (postV [.t 4] RV) (envV vs) M) : VCall Try.prog n_laws_eqVar vs M RV :=
  vcall_of_wp (fun _ _ _ hl h => acall_of_wp mixed Try.func51 c51 (by kernel_rfl) hl h) hl h
@[go_sem] def l32_0 (_ : Unit) : KL := [kB 4 (.mv (.c (.bool false))) [0, 1]]
@[go_sem] def l32_1 (_ : Unit) : KL := [kA 6 (.mv (.t 0)),
  kA 7 (.len (.t 6)),
  kA 8 (.mv (.t 1)),
  kA 9 (.len (.t 8)),
  kB 10 (.bin .neq (.t 7) (.t 9)) [0, 1, 10]]
@[go_sem] def l32_2 (_ : Unit) : KL := [kB 4 (.mv (.c (.bool false))) [4]]
@[go_sem] def s32_3 (_ : Unit) : IR := (sQ [(kT l32_2), .ret])
@[go_sem] def s32_4 (_ : Unit) : IR := (sQ [(kT l32_1), (.cond (.t 10) (tH s32_3) .skip)])
@[go_sem] def l32_5 (_ : Unit) : KL := [kB 5 (.mv (cI 0)) [0, 1, 5]]
@[go_sem] def l32_6 (_ : Unit) : KL := [kA 11 (.mv (.t 5)),
  kA 12 (.mv (.t 0)),
  kA 13 (.len (.t 12)),
  kB 14 (.bin .lss (.t 11) (.t 13)) [0, 1, 5, 14]]
@[go_sem] def s32_7 (_ : Unit) : IR := (sQ [(kT l32_6), (.cond (.t 14) .skip (.exit 0))])
@[go_sem] def l32_8 : Nat → GOp
  | 0 => ⟨(some 17), .mv (.t 0), none⟩
  | 1 => ⟨(some 18), .mv (.t 5), none⟩
  | 2 => ⟨(some 19), .iaddr (.t 17) (.t 18) 3, none⟩
  | 3 => ⟨(some 20), .load (.t 19) 3 true, none⟩
  | 4 => ⟨(some 21), .mv (.t 1), none⟩
  | 5 => ⟨(some 22), .mv (.t 5), none⟩
  | 6 => ⟨(some 23), .iaddr (.t 21) (.t 22) 3, none⟩
  | 7 => ⟨(some 24), .load (.t 23) 3 true, none⟩
  | 8 => ⟨(some 25), .call (n_laws_eqVar) [(.t 20), (.t 24)], none⟩
  | 9 => ⟨(some 26), .un .not (.t 25), none⟩
  | _ => ⟨none, .mkmap, none⟩
@[go_sem] def l32_9 (_ : Unit) : KL := [kB 4 (.mv (.c (.bool false))) [4]]
@[go_sem] def s32_10 (_ : Unit) : IR := (sQ [(kT l32_9), .ret])
@[go_sem] def s32_11 (_ : Unit) : IR := (sQ [(.kd (oF l32_8 10) [(0, []), (1, []), (2, []), (3, []), (4, []), (5, []), (6, []), (7, []), (8, []), (9, [])] [0, 1, 5, 26]), (.cond (.t 26) (tH s32_10) .skip)])
@[go_sem] def s32_12 (_ : Unit) : IR := (.block 1 (tH s32_11))
@[go_sem] def l32_13 (_ : Unit) : KL := [kA 15 (.mv (.t 5)),
  kA 16 (.bin .add (.t 15) (cI 1)),
  kB 5 (.mv (.t 16)) [0, 1, 5]]
@[go_sem] def s32_14 (_ : Unit) : IR := (sQ [(tH s32_7), (tH s32_12), (kT l32_13)])
@[go_sem] def s32_15 (_ : Unit) : IR := (.loop (tH s32_14))
@[go_sem] def s32_16 (_ : Unit) : IR := (.block 0 (tH s32_15))
@[go_sem] def s32_17 (_ : Unit) : IR := (sQ [(kT l32_5), (tH s32_16)])
@[go_sem] def l32_18 (_ : Unit) : KL := [kB 4 (.mv (.c (.bool true))) [4]]
@[go_sem] def s32_19 (_ : Unit) : IR := (sQ [(kT l32_0), (tH s32_4), (tH s32_17), (kT l32_18), .ret])
theorem c32 : compFn Try.prog [(0, [], [oS [0, 1]]), (1, [], [oN, oN, oN, oN, oS [0, 1, 10]]), (2, [], [oS [4]]), (3, [], [oS [0, 1, 5]]), (4, [], [oN, oN, oN, oS [0, 1, 5, 14]]), (6, [(0, []), (1, []), (2, []), (3, []), (4, []), (5, []), (6, []), (7, []), (8, []), (9, [])], [oS [0, 1, 5, 26]]), (7, [], [oS [4]]), (5, [], [oN, oN, oS [0, 1, 5]]), (8, [], [oS [4]])] Try.f32 = some ⟨2, 27, [.t 4], (tH s32_19)⟩ := by kernel_rfl
theorem v_laws_eqVarS (hl : vs.length = 2) (h : wpV Try.prog (tH s32_19) (postV [.t 4] RV) (envV vs) M) : VCall Try.prog n_laws_eqVarS vs M RV :=
  vcall_of_wp (fun _ _ _ hl h => acall_of_wp mixed Try.func32 c32 (by kernel_rfl) hl h) hl h
@[go_sem] def l81_0 (_ : Unit) : KL := [kA 2 (.box (.t 0)),
  kA 3 (.box (.t 1)),
  kB 4 (.mv (.c (.bool false))) [2, 3]]
@[go_sem] def l81_1 (_ : Unit) : KL := [kA 5 (.faddr (.t 2) 0),
  kA 6 (.load (.t 5) 1 false),
  kA 7 (.faddr (.t 3) 0),
  kA 8 (.load (.t 7) 1 false),
  kB 9 (.bin .neq (.t 6) (.t 8)) [2, 3, 9]]
@[go_sem] def l81_2 (_ : Unit) : KL := [kB 4 (.mv (.c (.bool false))) [4]]
@[go_sem] def s81_3 (_ : Unit) : IR := (sQ [(kT l81_2), .ret])
@[go_sem] def s81_4 (_ : Unit) : IR := (sQ [(kT l81_1), (.cond (.t 9) (tH s81_3) .skip)])
@[go_sem] def l81_5 (_ : Unit) : KL := [kA 10 (.faddr (.t 2) 1),
  kA 11 (.load (.t 10) 1 false),
  kA 12 (.faddr (.t 3) 1),
  kA 13 (.load (.t 12) 1 false),
  kB 14 (.bin .neq (.t 11) (.t 13)) [2, 3, 14]]
@[go_sem] def l81_6 (_ : Unit) : KL := [kB 4 (.mv (.c (.bool false))) [4]]
@[go_sem] def s81_7 (_ : Unit) : IR := (sQ [(kT l81_6), .ret])
@[go_sem] def s81_8 (_ : Unit) : IR := (sQ [(kT l81_5), (.cond (.t 14) (tH s81_7) .skip)])
@[go_sem] def l81_9 (_ : Unit) : KL := [kA 15 (.faddr (.t 2) 2),
  kA 16 (.load (.t 15) 1 false),
  kA 17 (.faddr (.t 3) 2),
  kA 18 (.load (.t 17) 1 false),
  kB 19 (.bin .neq (.t 16) (.t 18)) [2, 3, 19]]
@[go_sem] def l81_10 (_ : Unit) : KL := [kB 4 (.mv (.c (.bool false))) [4]]
@[go_sem] def s81_11 (_ : Unit) : IR := (sQ [(kT l81_10), .ret])
@[go_sem] def s81_12 (_ : Unit) : IR := (sQ [(kT l81_9), (.cond (.t 19) (tH s81_11) .skip)])
@[go_sem] def l81_13 (_ : Unit) : KL := [kA 20 (.faddr (.t 2) 3),
  kA 21 (.load (.t 20) 1 false),
  kA 22 (.faddr (.t 3) 3),
  kA 23 (.load (.t 22) 1 false),
  kB 24 (.bin .neq (.t 21) (.t 23)) [24]]
@[go_sem] def l81_14 (_ : Unit) : KL := [kB 4 (.mv (.c (.bool false))) [4]]
@[go_sem] def s81_15 (_ : Unit) : IR := (sQ [(kT l81_14), .ret])
@[go_sem] def s81_16 (_ : Unit) : IR := (sQ [(kT l81_13), (.cond (.t 24) (tH s81_15) .skip)])
@[go_sem] def l81_17 (_ : Unit) : KL := [kB 4 (.mv (.c (.bool true))) [4]]
@[go_sem] def s81_18 (_ : Unit) : IR := (sQ [(kT l81_0), (tH s81_4), (tH s81_8), (tH s81_12), (tH s81_16), (kT l81_17), .ret])
theorem c81 : compFn Try.prog [(0, [], [oN, oN, oS [2, 3]]), (1, [], [oN, oN, oN, oN, oS [2, 3, 9]]), (2, [], [oS [4]]), (3, [], [oN, oN, oN, oN, oS [2, 3, 14]]), (4, [], [oS [4]]), (5, [], [oN, oN, oN, oN, oS [2, 3, 19]]), (6, [], [oS [4]]), (7, [], [oN, oN, oN, oN, oS [24]]), (8, [], [oS [4]]), (9, [], [oS [4]])] Try.f81 = some ⟨2, 25, [.t 4], (tH s81_18)⟩ := by kernel_rfl
theorem v_laws_eqTerm (hl : vs.length = 2) (h : wpV Try.prog (tH s81_18) (postV [.t 4] RV) (envV vs) M) : VCall Try.prog n_laws_eqTerm vs M RV :=
  vcall_of_wp (fun _ _ _ hl h => acall_of_wp mixed Try.func81 c81 (by kernel_rfl) hl h) hl h
@[go_sem] def l72_0 (_ : Unit) : KL := [kB 4 (.mv (.c (.bool false))) [0, 1]]
@[go_sem] def l72_1 (_ : Unit) : KL := [kA 6 (.mv (.t 0)),
  kA 7 (.len (.t 6)),
  kA 8 (.mv (.t 1)),
  kA 9 (.len (.t 8)),
  kB 10 (.bin .neq (.t 7) (.t 9)) [0, 1, 10]]
@[go_sem] def l72_2 (_ : Unit) : KL := [kB 4 (.mv (.c (.bool false))) [4]]
@[go_sem] def s72_3 (_ : Unit) : IR := (sQ [(kT l72_2), .ret])
@[go_sem] def s72_4 (_ : Unit) : IR := (sQ [(kT l72_1), (.cond (.t 10) (tH s72_3) .skip)])
@[go_sem] def l72_5 (_ : Unit) : KL := [kB 5 (.mv (cI 0)) [0, 1, 5]]
@[go_sem] def l72_6 (_ : Unit) : KL := [kA 11 (.mv (.t 5)),
  kA 12 (.mv (.t 0)),
  kA 13 (.len (.t 12)),
  kB 14 (.bin .lss (.t 11) (.t 13)) [0, 1, 5, 14]]
@[go_sem] def s72_7 (_ : Unit) : IR := (sQ [(kT l72_6), (.cond (.t 14) .skip (.exit 0))])
@[go_sem] def l72_8 : Nat → GOp
  | 0 => ⟨(some 17), .mv (.t 0), none⟩
  | 1 => ⟨(some 18), .mv (.t 5), none⟩
  | 2 => ⟨(some 19), .iaddr (.t 17) (.t 18) 4, none⟩
  | 3 => ⟨(some 20), .load (.t 19) 4 true, none⟩
  | 4 => ⟨(some 21), .mv (.t 1), none⟩
  | 5 => ⟨(some 22), .mv (.t 5), none⟩
  | 6 => ⟨(some 23), .iaddr (.t 21) (.t 22) 4, none⟩
  | 7 => ⟨(some 24), .load (.t 23) 4 true, none⟩
  | 8 => ⟨(some 25), .call (n_laws_eqTerm) [(.t 20), (.t 24)], none⟩
  | 9 => ⟨(some 26), .un .not (.t 25), none⟩
  | _ => ⟨none, .mkmap, none⟩
@[go_sem] def l72_9 (_ : Unit) : KL := [kB 4 (.mv (.c (.bool false))) [4]]
@[go_sem] def s72_10 (_ : Unit) : IR := (sQ [(kT l72_9), .ret])
@[go_sem] def s72_11 (_ : Unit) : IR := (sQ [(.kd (oF l72_8 10) [(0, []), (1, []), (2, []), (3, []), (4, []), (5, []), (6, []), (7, []), (8, []), (9, [])] [0, 1, 5, 26]), (.cond (.t 26) (tH s72_10) .skip)])
@[go_sem] def s72_12 (_ : Unit) : IR := (.block 1 (tH s72_11))
@[go_sem] def l72_13 (_ : Unit) : KL := [kA 15 (.mv (.t 5)),
  kA 16 (.bin .add (.t 15) (cI 1)),
  kB 5 (.mv (.t 16)) [0, 1, 5]]
@[go_sem] def s72_14 (_ : Unit) : IR := (sQ [(tH s72_7), (tH s72_12), (kT l72_13)])
@[go_sem] def s72_15 (_ : Unit) : IR := (.loop (tH s72_14))
@[go_sem] def s72_16 (_ : Unit) : IR := (.block 0 (tH s72_15))
@[go_sem] def s72_17 (_ : Unit) : IR := (sQ [(kT l72_5), (tH s72_16)])
@[go_sem] def l72_18 (_ : Unit) : KL := [kB 4 (.mv (.c (.bool true))) [4]]
@[go_sem] def s72_19 (_ : Unit) : IR := (sQ [(kT l72_0), (tH s72_4), (tH s72_17), (kT l72_18), .ret])
theorem c72 : compFn Try.prog [(0, [], [oS [0, 1]]), (1, [], [oN, oN, oN, oN, oS [0, 1, 10]]), (2, [], [oS [4]]), (3, [], [oS [0, 1, 5]]), (4, [], [oN, oN, oN, oS [0, 1, 5, 14]]), (6, [(0, []), (1, []), (2, []), (3, []), (4, []), (5, []), (6, []), (7, []), (8, []), (9, [])], [oS [0, 1, 5, 26]]), (7, [], [oS [4]]), (5, [], [oN, oN, oS [0, 1, 5]]), (8, [], [oS [4]])] Try.f72 = some ⟨2, 27, [.t 4], (tH s72_19)⟩ := by kernel_rfl
theorem v_laws_eqTermS (hl : vs.length = 2) (h : wpV Try.prog (tH s72_19) (postV [.t 4] RV) (envV vs) M) : VCall Try.prog n_laws_eqTermS vs M RV :=
  vcall_of_wp (fun _ _ _ hl h => acall_of_wp mixed Try.func72 c72 (by kernel_rfl) hl h) hl h
@[go_sem] def l73_0 (_ : Unit) : KL := [kB 4 (.mv (.c (.bool false))) [0, 1]]
@[go_sem] def l73_1 (_ : Unit) : KL := [kA 6 (.mv (.t 0)),
  kA 7 (.len (.t 6)),
  kA 8 (.mv (.t 1)),
  kA 9 (.len (.t 8)),
  kB 10 (.bin .neq (.t 7) (.t 9)) [0, 1, 10]]
@[go_sem] def l73_2 (_ : Unit) : KL := [kB 4 (.mv (.c (.bool false))) [4]]
@[go_sem] def s73_3 (_ : Unit) : IR := (sQ [(kT l73_2), .ret])
@[go_sem] def s73_4 (_ : Unit) : IR := (sQ [(kT l73_1), (.cond (.t 10) (tH s73_3) .skip)])
@[go_sem] def l73_5 (_ : Unit) : KL := [kB 5 (.mv (cI 0)) [0, 1, 5]]
@[go_sem] def l73_6 (_ : Unit) : KL := [kA 11 (.mv (.t 5)),
  kA 12 (.mv (.t 0)),
  kA 13 (.len (.t 12)),
  kB 14 (.bin .lss (.t 11) (.t 13)) [0, 1, 5, 14]]
@[go_sem] def s73_7 (_ : Unit) : IR := (sQ [(kT l73_6), (.cond (.t 14) .skip (.exit 0))])
@[go_sem] def l73_8 : Nat → GOp
  | 0 => ⟨(some 17), .mv (.t 0), none⟩
  | 1 => ⟨(some 18), .mv (.t 5), none⟩
  | 2 => ⟨(some 19), .iaddr (.t 17) (.t 18) 1, none⟩
  | 3 => ⟨(some 20), .load (.t 19) 1 false, none⟩
  | 4 => ⟨(some 21), .mv (.t 1), none⟩
  | 5 => ⟨(some 22), .mv (.t 5), none⟩
  | 6 => ⟨(some 23), .iaddr (.t 21) (.t 22) 1, none⟩
  | 7 => ⟨(some 24), .load (.t 23) 1 false, none⟩
  | 8 => ⟨(some 25), .call (n_laws_eqTermS) [(.t 20), (.t 24)], none⟩
  | 9 => ⟨(some 26), .un .not (.t 25), none⟩
  | _ => ⟨none, .mkmap, none⟩
@[go_sem] def l73_9 (_ : Unit) : KL := [kB 4 (.mv (.c (.bool false))) [4]]
@[go_sem] def s73_10 (_ : Unit) : IR := (sQ [(kT l73_9), .ret])
@[go_sem] def s73_11 (_ : Unit) : IR := (sQ [(.kd (oF l73_8 10) [(0, []), (1, []), (2, []), (3, []), (4, []), (5, []), (6, []), (7, []), (8, []), (9, [])] [0, 1, 5, 26]), (.cond (.t 26) (tH s73_10) .skip)])
@[go_sem] def s73_12 (_ : Unit) : IR := (.block 1 (tH s73_11))
@[go_sem] def l73_13 (_ : Unit) : KL := [kA 15 (.mv (.t 5)),
  kA 16 (.bin .add (.t 15) (cI 1)),
  kB 5 (.mv (.t 16)) [0, 1, 5]]
@[go_sem] def s73_14 (_ : Unit) : IR := (sQ [(tH s73_7), (tH s73_12), (kT l73_13)])
@[go_sem] def s73_15 (_ : Unit) : IR := (.loop (tH s73_14))
@[go_sem] def s73_16 (_ : Unit) : IR := (.block 0 (tH s73_15))
@[go_sem] def s73_17 (_ : Unit) : IR := (sQ [(kT l73_5), (tH s73_16)])
@[go_sem] def l73_18 (_ : Unit) : KL := [kB 4 (.mv (.c (.bool true))) [4]]
@[go_sem] def s73_19 (_ : Unit) : IR := (sQ [(kT l73_0), (tH s73_4), (tH s73_17), (kT l73_18), .ret])
theorem c73 : compFn Try.prog [(0, [], [oS [0, 1]]), (1, [], [oN, oN, oN, oN, oS [0, 1, 10]]), (2, [], [oS [4]]), (3, [], [oS [0, 1, 5]]), (4, [], [oN, oN, oN, oS [0, 1, 5, 14]]), (6, [(0, []), (1, []), (2, []), (3, []), (4, []), (5, []), (6, []), (7, []), (8, []), (9, [])], [oS [0, 1, 5, 26]]), (7, [], [oS [4]]), (5, [], [oN, oN, oS [0, 1, 5]]), (8, [], [oS [4]])] Try.f73 = some ⟨2, 27, [.t 4], (tH s73_19)⟩ := by kernel_rfl
theorem v_laws_eqTermSS (hl : vs.length = 2) (h : wpV Try.prog (tH s73_19) (postV [.t 4] RV) (envV vs) M) : VCall Try.prog n_laws_eqTermSS vs M RV :=
  vcall_of_wp (fun _ _ _ hl h => acall_of_wp mixed Try.func73 c73 (by kernel_rfl) hl h) hl h
@[go_sem] def l52_0 (_ : Unit) : KL := [kA 2 (.box (.t 0)),
  kA 3 (.box (.t 1)),
  kB 4 (.mv (.c (.bool false))) [2, 3]]
@[go_sem] def l52_1 (_ : Unit) : KL := [kA 5 (.faddr (.t 2) 0),
  kA 6 (.load (.t 5) 1 false),
  kA 7 (.faddr (.t 3) 0),
  kA 8 (.load (.t 7) 1 false),
  kB 9 (.call (n_laws_eqTermS) [(.t 6), (.t 8)]) [2, 3, 9],
  kB 10 (.un .not (.t 9)) [2, 3, 10]]
@[go_sem] def l52_2 (_ : Unit) : KL := [kB 4 (.mv (.c (.bool false))) [4]]
@[go_sem] def s52_3 (_ : Unit) : IR := (sQ [(kT l52_2), .ret])
@[go_sem] def s52_4 (_ : Unit) : IR := (sQ [(kT l52_1), (.cond (.t 10) (tH s52_3) .skip)])
@[go_sem] def l52_5 (_ : Unit) : KL := [kA 11 (.faddr (.t 2) 1),
  kA 12 (.load (.t 11) 1 false),
  kA 13 (.faddr (.t 3) 1),
  kA 14 (.load (.t 13) 1 false),
  kB 15 (.call (n_laws_eqIntS) [(.t 12), (.t 14)]) [2, 3, 15],
  kB 16 (.un .not (.t 15)) [2, 3, 16]]
@[go_sem] def l52_6 (_ : Unit) : KL := [kB 4 (.mv (.c (.bool false))) [4]]
@[go_sem] def s52_7 (_ : Unit) : IR := (sQ [(kT l52_6), .ret])
@[go_sem] def s52_8 (_ : Unit) : IR := (sQ [(kT l52_5), (.cond (.t 16) (tH s52_7) .skip)])
@[go_sem] def l52_9 (_ : Unit) : KL := [kA 17 (.faddr (.t 2) 2),
  kA 18 (.load (.t 17) 1 false),
  kA 19 (.faddr (.t 3) 2),
  kA 20 (.load (.t 19) 1 false),
  kB 21 (.call (n_laws_eqTermSS) [(.t 18), (.t 20)]) [21],
  kB 22 (.un .not (.t 21)) [22]]
@[go_sem] def l52_10 (_ : Unit) : KL := [kB 4 (.mv (.c (.bool false))) [4]]
@[go_sem] def s52_11 (_ : Unit) : IR := (sQ [(kT l52_10), .ret])
@[go_sem] def s52_12 (_ : Unit) : IR := (sQ [(kT l52_9), (.cond (.t 22) (tH s52_11) .skip)])
@[go_sem] def l52_13 (_ : Unit) : KL := [kB 4 (.mv (.c (.bool true))) [4]]
@[go_sem] def s52_14 (_ : Unit) : IR := (sQ [(kT l52_0), (tH s52_4), (tH s52_8), (tH s52_12), (kT l52_13), .ret])
theorem c52 : compFn Try.prog [(0, [], [oN, oN, oS [2, 3]]), (1, [], [oN, oN, oN, oN, oS [2, 3, 9], oS [2, 3, 10]]), (2, [], [oS [4]]), (3, [], [oN, oN, oN, oN, oS [2, 3, 15], oS [2, 3, 16]]), (4, [], [oS [4]]), (5, [], [oN, oN, oN, oN, oS [21], oS [22]]), (6, [], [oS [4]]), (7, [], [oS [4]])] Try.f52 = some ⟨2, 23, [.t 4], (tH s52_14)⟩ := by kernel_rfl
theorem v_laws_eqRule (hl : vs.length = 2) (h : wpV Try.prog (tH s52_14) (postV [.t 4] RV) (envV vs) M) : VCall Try.prog n_laws_eqRule vs M RV :=
  vcall_of_wp (fun _ _ _ hl h => acall_of_wp mixed Try.func52 c52 (by kernel_rfl) hl h) hl h
@[go_sem] def l33_0 (_ : Unit) : KL := [kB 4 (.mv (.c (.bool false))) [0, 1]]
@[go_sem] def l33_1 (_ : Unit) : KL := [kA 6 (.mv (.t 0)),
  kA 7 (.len (.t 6)),
  kA 8 (.mv (.t 1)),
  kA 9 (.len (.t 8)),
  kB 10 (.bin .neq (.t 7) (.t 9)) [0, 1, 10]]
@[go_sem] def l33_2 (_ : Unit) : KL := [kB 4 (.mv (.c (.bool false))) [4]]
@[go_sem] def s33_3 (_ : Unit) : IR := (sQ [(kT l33_2), .ret])
@[go_sem] def s33_4 (_ : Unit) : IR := (sQ [(kT l33_1), (.cond (.t 10) (tH s33_3) .skip)])
@[go_sem] def l33_5 (_ : Unit) : KL := [kB 5 (.mv (cI 0)) [0, 1, 5]]
@[go_sem] def l33_6 (_ : Unit) : KL := [kA 11 (.mv (.t 5)),
  kA 12 (.mv (.t 0)),
  kA 13 (.len (.t 12)),
  kB 14 (.bin .lss (.t 11) (.t 13)) [0, 1, 5, 14]]
@[go_sem] def s33_7 (_ : Unit) : IR := (sQ [(kT l33_6), (.cond (.t 14) .skip (.exit 0))])
@[go_sem] def l33_8 : Nat → GOp
  | 0 => ⟨(some 17), .mv (.t 0), none⟩
  | 1 => ⟨(some 18), .mv (.t 5), none⟩
  | 2 => ⟨(some 19), .iaddr (.t 17) (.t 18) 3, none⟩
  | 3 => ⟨(some 20), .load (.t 19) 3 true, none⟩
  | 4 => ⟨(some 21), .mv (.t 1), none⟩
  | 5 => ⟨(some 22), .mv (.t 5), none⟩
  | 6 => ⟨(some 23), .iaddr (.t 21) (.t 22) 3, none⟩
  | 7 => ⟨(some 24), .load (.t 23) 3 true, none⟩
  | 8 => ⟨(some 25), .call (n_laws_eqRule) [(.t 20), (.t 24)], none⟩
  | 9 => ⟨(some 26), .un .not (.t 25), none⟩
  | _ => ⟨none, .mkmap, none⟩
@[go_sem] def l33_9 (_ : Unit) : KL := [kB 4 (.mv (.c (.bool false))) [4]]
@[go_sem] def s33_10 (_ : Unit) : IR := (sQ [(kT l33_9), .ret])
@[go_sem] def s33_11 (_ : Unit) : IR := (sQ [(.kd (oF l33_8 10) [(0, []), (1, []), (2, []), (3, []), (4, []), (5, []), (6, []), (7, []), (8, []), (9, [])] [0, 1, 5, 26]), (.cond (.t 26) (tH s33_10) .skip)])
@[go_sem] def s33_12 (_ : Unit) : IR := (.block 1 (tH s33_11))
@[go_sem] def l33_13 (_ : Unit) : KL := [kA 15 (.mv (.t 5)),
  kA 16 (.bin .add (.t 15) (cI 1)),
  kB 5 (.mv (.t 16)) [0, 1, 5]]
@[go_sem] def s33_14 (_ : Unit) : IR := (sQ [(tH s33_7), (tH s33_12), (kT l33_13)])
@[go_sem] def s33_15 (_ : Unit) : IR := (.loop (tH s33_14))
@[go_sem] def s33_16 (_ : Unit) : IR := (.block 0 (tH s33_15))
@[go_sem] def s33_17 (_ : Unit) : IR := (sQ [(kT l33_5), (tH s33_16)])
@[go_sem] def l33_18 (_ : Unit) : KL := [kB 4 (.mv (.c (.bool true))) [4]]
@[go_sem] def s33_19 (_ : Unit) : IR := (sQ [(kT l33_0), (tH s33_4), (tH s33_17), (kT l33_18), .ret])
theorem c33 : compFn Try.prog [(0, [], [oS [0, 1]]), (1, [], [oN, oN, oN, oN, oS [0, 1, 10]]), (2, [], [oS [4]]), (3, [], [oS [0, 1, 5]]), (4, [], [oN, oN, oN, oS [0, 1, 5, 14]]), (6, [(0, []), (1, []), (2, []), (3, []), (4, []), (5, []), (6, []), (7, []), (8, []), (9, [])], [oS [0, 1, 5, 26]]), (7, [], [oS [4]]), (5, [], [oN, oN, oS [0, 1, 5]]), (8, [], [oS [4]])] Try.f33 = some ⟨2, 27, [.t 4], (tH s33_19)⟩ := by kernel_rfl
theorem v_laws_eqRuleS (hl : vs.length = 2) (h : wpV Try.prog (tH s33_19) (postV [.t 4] RV) (envV vs) M) : VCall Try.prog n_laws_eqRuleS vs M RV :=
  vcall_of_wp (fun _ _ _ hl h => acall_of_wp mixed Try.func33 c33 (by kernel_rfl) hl h) hl h
@[go_sem] def l11_0 (_ : Unit) : KL := [kA 2 (.box (.t 0)),
  kA 3 (.box (.t 1)),
  kB 4 (.mv (.c (.bool false))) [2, 3]]
@[go_sem] def l11_1 (_ : Unit) : KL := [kA 5 (.faddr (.t 2) 0),
  kA 6 (.load (.t 5) 1 false),
  kA 7 (.faddr (.t 3) 0),
  kA 8 (.load (.t 7) 1 false),
  kB 9 (.call (n_laws_eqVarS) [(.t 6), (.t 8)]) [2, 3, 9],
  kB 10 (.un .not (.t 9)) [2, 3, 10]]
@[go_sem] def l11_2 (_ : Unit) : KL := [kB 4 (.mv (.c (.bool false))) [4]]
@[go_sem] def s11_3 (_ : Unit) : IR := (sQ [(kT l11_2), .ret])
@[go_sem] def s11_4 (_ : Unit) : IR := (sQ [(kT l11_1), (.cond (.t 10) (tH s11_3) .skip)])
@[go_sem] def l11_5 (_ : Unit) : KL := [kA 11 (.faddr (.t 2) 1),
  kA 12 (.load (.t 11) 1 false),
  kA 13 (.faddr (.t 3) 1),
  kA 14 (.load (.t 13) 1 false),
  kB 15 (.call (n_laws_eqRuleS) [(.t 12), (.t 14)]) [15],
  kB 16 (.un .not (.t 15)) [16]]
@[go_sem] def l11_6 (_ : Unit) : KL := [kB 4 (.mv (.c (.bool false))) [4]]
@[go_sem] def s11_7 (_ : Unit) : IR := (sQ [(kT l11_6), .ret])
@[go_sem] def s11_8 (_ : Unit) : IR := (sQ [(kT l11_5), (.cond (.t 16) (tH s11_7) .skip)])
@[go_sem] def l11_9 (_ : Unit) : KL := [kB 4 (.mv (.c (.bool true))) [4]]
@[go_sem] def s11_10 (_ : Unit) : IR := (sQ [(kT l11_0), (tH s11_4), (tH s11_8), (kT l11_9), .ret])
theorem c11 : compFn Try.prog [(0, [], [oN, oN, oS [2, 3]]), (1, [], [oN, oN, oN, oN, oS [2, 3, 9], oS [2, 3, 10]]), (2, [], [oS [4]]), (3, [], [oN, oN, oN, oN, oS [15], oS [16]]), (4, [], [oS [4]]), (5, [], [oS [4]])] Try.f11 = some ⟨2, 17, [.t 4], (tH s11_10)⟩ := by kernel_rfl
theorem v_laws_eqSystem (hl : vs.length = 2) (h : wpV Try.prog (tH s11_10) (postV [.t 4] RV) (envV vs) M) : VCall Try.prog n_laws_eqSystem vs M RV :=
  vcall_of_wp (fun _ _ _ hl h => acall_of_wp mixed Try.func11 c11 (by kernel_rfl) hl h) hl h
@[go_sem] def l34_0 (_ : Unit) : KL := [kB 4 (.mv (cI 0)) [0, 1]]
@[go_sem] def l34_1 (_ : Unit) : KL := [kB 5 (.mv (cI 0)) [0, 1, 5]]
@[go_sem] def l34_2 (_ : Unit) : KL := [kA 6 (.mv (.t 5)),
  kA 7 (.mv (.t 0)),
  kA 8 (.len (.t 7)),
  kB 9 (.bin .lss (.t 6) (.t 8)) [0, 1, 5, 9]]
@[go_sem] def s34_3 (_ : Unit) : IR := (sQ [(kT l34_2), (.cond (.t 9) .skip (.exit 0))])
@[go_sem] def l34_4 (_ : Unit) : KL := [kA 12 (.mv (.t 0)),
  kA 13 (.mv (.t 5)),
  kA 14 (.mv (.t 1)),
  kA 15 (.iaddr (.t 12) (.t 13) 3),
  kB 16 (.faddr (.t 15) 0) [0, 1, 5, 14, 16],
  (⟨none, .store (.t 16) 1 (.t 14), none⟩, (some [0, 1, 5]))]
@[go_sem] def l34_5 (_ : Unit) : KL := [kA 17 (.mv (.t 1)),
  kA 18 (.bin .add (.t 17) (cI 1)),
  kB 1 (.mv (.t 18)) [0, 1, 5]]
@[go_sem] def l34_6 (_ : Unit) : KL := [kA 19 (.mv (.t 0)),
  kA 20 (.mv (.t 5)),
  kA 21 (.mv (.t 1)),
  kA 22 (.iaddr (.t 19) (.t 20) 3),
  kB 23 (.faddr (.t 22) 1) [0, 1, 5, 21, 23],
  (⟨none, .store (.t 23) 1 (.t 21), none⟩, (some [0, 1, 5]))]
@[go_sem] def l34_7 (_ : Unit) : KL := [kA 24 (.mv (.t 1)),
  kA 25 (.bin .add (.t 24) (cI 1)),
  kB 1 (.mv (.t 25)) [0, 1, 5]]
@[go_sem] def l34_8 (_ : Unit) : KL := [kA 26 (.mv (.t 0)),
  kA 27 (.mv (.t 5)),
  kA 28 (.mv (.t 1)),
  kA 29 (.iaddr (.t 26) (.t 27) 3),
  kB 30 (.faddr (.t 29) 2) [0, 1, 5, 28, 30],
  (⟨none, .store (.t 30) 1 (.t 28), none⟩, (some [0, 1, 5]))]
@[go_sem] def l34_9 (_ : Unit) : KL := [kA 31 (.mv (.t 1)),
  kA 32 (.bin .add (.t 31) (cI 1)),
  kB 1 (.mv (.t 32)) [0, 1, 5]]
@[go_sem] def s34_10 (_ : Unit) : IR := (sQ [(kT l34_4), (kT l34_5), (kT l34_6), (kT l34_7), (kT l34_8), (kT l34_9)])
@[go_sem] def s34_11 (_ : Unit) : IR := (.block 1 (tH s34_10))
@[go_sem] def l34_12 (_ : Unit) : KL := [kA 10 (.mv (.t 5)),
  kA 11 (.bin .add (.t 10) (cI 1)),
  kB 5 (.mv (.t 11)) [0, 1, 5]]
@[go_sem] def s34_13 (_ : Unit) : IR := (sQ [(tH s34_3), (tH s34_11), (kT l34_12)])
@[go_sem] def s34_14 (_ : Unit) : IR := (.loop (tH s34_13))
@[go_sem] def s34_15 (_ : Unit) : IR := (.block 0 (tH s34_14))
@[go_sem] def s34_16 (_ : Unit) : IR := (sQ [(kT l34_1), (tH s34_15)])
@[go_sem] def l34_17 (_ : Unit) : KL := [kA 33 (.mv (.t 1)),
  kB 4 (.mv (.t 33)) [4]]
@[go_sem] def s34_18 (_ : Unit) : IR := (sQ [(kT l34_0), (tH s34_16), (kT l34_17), .ret])
theorem c34 : compFn Try.prog [(0, [], [oS [0, 1]]), (1, [], [oS [0, 1, 5]]), (2, [], [oN, oN, oN, oS [0, 1, 5, 9]]), (4, [], [oN, oN, oN, oN, oS [0, 1, 5, 14, 16], oS [0, 1, 5]]), (5, [], [oN, oN, oS [0, 1, 5]]), (6, [], [oN, oN, oN, oN, oS [0, 1, 5, 21, 23], oS [0, 1, 5]]), (7, [], [oN, oN, oS [0, 1, 5]]), (8, [], [oN, oN, oN, oN, oS [0, 1, 5, 28, 30], oS [0, 1, 5]]), (9, [], [oN, oN, oS [0, 1, 5]]), (3, [], [oN, oN, oS [0, 1, 5]]), (10, [], [oN, oS [4]])] Try.f34 = some ⟨2, 34, [.t 4], (tH s34_18)⟩ := by kernel_rfl
theorem v_laws_markVarS (hl : vs.length = 2) (h : wpV Try.prog (tH s34_18) (postV [.t 4] RV) (envV vs) M) : VCall Try.prog n_laws_markVarS vs M RV :=
  vcall_of_wp (fun _ _ _ hl h => acall_of_wp mixed Try.func34 c34 (by kernel_rfl) hl h) hl h
@[go_sem] def l53_0 (_ : Unit) : KL := [kB 4 (.mv (cI 0)) [0, 1]]
@[go_sem] def l53_1 (_ : Unit) : KL := [kB 5 (.mv (cI 0)) [0, 1, 5]]
@[go_sem] def l53_2 (_ : Unit) : KL := [kA 6 (.mv (.t 5)),
  kA 7 (.mv (.t 0)),
  kA 8 (.len (.t 7)),
  kB 9 (.bin .lss (.t 6) (.t 8)) [0, 1, 5, 9]]
@[go_sem] def s53_3 (_ : Unit) : IR := (sQ [(kT l53_2), (.cond (.t 9) .skip (.exit 0))])
@[go_sem] def l53_4 (_ : Unit) : KL := [kA 12 (.mv (.t 0)),
  kA 13 (.mv (.t 5)),
  kA 14 (.mv (.t 1)),
  kA 15 (.iaddr (.t 12) (.t 13) 4),
  kB 16 (.faddr (.t 15) 0) [0, 1, 5, 14, 16],
  (⟨none, .store (.t 16) 1 (.t 14), none⟩, (some [0, 1, 5]))]
@[go_sem] def l53_5 (_ : Unit) : KL := [kA 17 (.mv (.t 1)),
  kA 18 (.bin .add (.t 17) (cI 1)),
  kB 1 (.mv (.t 18)) [0, 1, 5]]
@[go_sem] def l53_6 (_ : Unit) : KL := [kA 19 (.mv (.t 0)),
  kA 20 (.mv (.t 5)),
  kA 21 (.mv (.t 1)),
  kA 22 (.iaddr (.t 19) (.t 20) 4),
  kB 23 (.faddr (.t 22) 1) [0, 1, 5, 21, 23],
  (⟨none, .store (.t 23) 1 (.t 21), none⟩, (some [0, 1, 5]))]
@[go_sem] def l53_7 (_ : Unit) : KL := [kA 24 (.mv (.t 1)),
  kA 25 (.bin .add (.t 24) (cI 1)),
  kB 1 (.mv (.t 25)) [0, 1, 5]]
@[go_sem] def l53_8 (_ : Unit) : KL := [kA 26 (.mv (.t 0)),
  kA 27 (.mv (.t 5)),
  kA 28 (.mv (.t 1)),
  kA 29 (.iaddr (.t 26) (.t 27) 4),
  kB 30 (.faddr (.t 29) 2) [0, 1, 5, 28, 30],
  (⟨none, .store (.t 30) 1 (.t 28), none⟩, (some [0, 1, 5]))]
@[go_sem] def l53_9 (_ : Unit) : KL := [kA 31 (.mv (.t 1)),
  kA 32 (.bin .add (.t 31) (cI 1)),
  kB 1 (.mv (.t 32)) [0, 1, 5]]
@[go_sem] def l53_10 (_ : Unit) : KL := [kA 33 (.mv (.t 0)),
  kA 34 (.mv (.t 5)),
  kA 35 (.mv (.t 1)),
  kA 36 (.iaddr (.t 33) (.t 34) 4),
  kB 37 (.faddr (.t 36) 3) [0, 1, 5, 35, 37],
  (⟨none, .store (.t 37) 1 (.t 35), none⟩, (some [0, 1, 5]))]
@[go_sem] def l53_11 (_ : Unit) : KL := [kA 38 (.mv (.t 1)),
  kA 39 (.bin .add (.t 38) (cI 1)),
  kB 1 (.mv (.t 39)) [0, 1, 5]]
@[go_sem] def s53_12 (_ : Unit) : IR := (sQ [(kT l53_4), (kT l53_5), (kT l53_6), (kT l53_7), (kT l53_8), (kT l53_9), (kT l53_10), (kT l53_11)])
@[go_sem] def s53_13 (_ : Unit) : IR := (.block 1 (tH s53_12))
@[go_sem] def l53_14 (_ : Unit) : KL := [kA 10 (.mv (.t 5)),
  kA 11 (.bin .add (.t 10) (cI 1)),
  kB 5 (.mv (.t 11)) [0, 1, 5]]
@[go_sem] def s53_15 (_ : Unit) : IR := (sQ [(tH s53_3), (tH s53_13), (kT l53_14)])
@[go_sem] def s53_16 (_ : Unit) : IR := (.loop (tH s53_15))
@[go_sem] def s53_17 (_ : Unit) : IR := (.block 0 (tH s53_16))
@[go_sem] def s53_18 (_ : Unit) : IR := (sQ [(kT l53_1), (tH s53_17)])
@[go_sem] def l53_19 (_ : Unit) : KL := [kA 40 (.mv (.t 1)),
  kB 4 (.mv (.t 40)) [4]]
@[go_sem] def s53_20 (_ : Unit) : IR := (sQ [(kT l53_0), (tH s53_18), (kT l53_19), .ret])
theorem c53 : compFn Try.prog [(0, [], [oS [0, 1]]), (1, [], [oS [0, 1, 5]]), (2, [], [oN, oN, oN, oS [0, 1, 5, 9]]), (4, [], [oN, oN, oN, oN, oS [0, 1, 5, 14, 16], oS [0, 1, 5]]), (5, [], [oN, oN, oS [0, 1, 5]]), (6, [], [oN, oN, oN, oN, oS [0, 1, 5, 21, 23], oS [0, 1, 5]]), (7, [], [oN, oN, oS [0, 1, 5]]), (8, [], [oN, oN, oN, oN, oS [0, 1, 5, 28, 30], oS [0, 1, 5]]), (9, [], [oN, oN, oS [0, 1, 5]]), (10, [], [oN, oN, oN, oN, oS [0, 1, 5, 35, 37], oS [0, 1, 5]]), (11, [], [oN, oN, oS [0, 1, 5]]), (3, [], [oN, oN, oS [0, 1, 5]]), (12, [], [oN, oS [4]])] Try.f53 = some ⟨2, 41, [.t 4], (tH s53_20)⟩ := by kernel_rfl
theorem v_laws_markTermS (hl : vs.length = 2) (h : wpV Try.prog (tH s53_20) (postV [.t 4] RV) (envV vs) M) : VCall Try.prog n_laws_markTermS vs M RV :=
  vcall_of_wp (fun _ _ _ hl h => acall_of_wp mixed Try.func53 c53 (by kernel_rfl) hl h) hl h
@[go_sem] def l37_0 (_ : Unit) : KL := [kB 4 (.mv (cI 0)) [0, 1]]
@[go_sem] def l37_1 (_ : Unit) : KL := [kB 5 (.mv (cI 0)) [0, 1, 5]]
@[go_sem] def l37_2 (_ : Unit) : KL := [kA 6 (.mv (.t 5)),
  kA 7 (.mv (.t 0)),
  kA 8 (.len (.t 7)),
  kB 9 (.bin .lss (.t 6) (.t 8)) [0, 1, 5, 9]]
@[go_sem] def s37_3 (_ : Unit) : IR := (sQ [(kT l37_2), (.cond (.t 9) .skip (.exit 0))])
@[go_sem] def l37_4 (_ : Unit) : KL := [kA 12 (.mv (.t 0)),
  kA 13 (.mv (.t 5)),
  kA 14 (.mv (.t 1)),
  kA 15 (.iaddr (.t 12) (.t 13) 1),
  (⟨none, .store (.t 15) 1 (.t 14), none⟩, (some [0, 1, 5]))]
@[go_sem] def l37_5 (_ : Unit) : KL := [kA 16 (.mv (.t 1)),
  kA 17 (.bin .add (.t 16) (cI 1)),
  kB 1 (.mv (.t 17)) [0, 1, 5]]
@[go_sem] def s37_6 (_ : Unit) : IR := (sQ [(kT l37_4), (kT l37_5)])
@[go_sem] def s37_7 (_ : Unit) : IR := (.block 1 (tH s37_6))
@[go_sem] def l37_8 (_ : Unit) : KL := [kA 10 (.mv (.t 5)),
  kA 11 (.bin .add (.t 10) (cI 1)),
  kB 5 (.mv (.t 11)) [0, 1, 5]]
@[go_sem] def s37_9 (_ : Unit) : IR := (sQ [(tH s37_3), (tH s37_7), (kT l37_8)])
@[go_sem] def s37_10 (_ : Unit) : IR := (.loop (tH s37_9))
@[go_sem] def s37_11 (_ : Unit) : IR := (.block 0 (tH s37_10))
@[go_sem] def s37_12 (_ : Unit) : IR := (sQ [(kT l37_1), (tH s37_11)])
@[go_sem] def l37_13 (_ : Unit) : KL := [kA 18 (.mv (.t 1)),
  kB 4 (.mv (.t 18)) [4]]
@[go_sem] def s37_14 (_ : Unit) : IR := (sQ [(kT l37_0), (tH s37_12), (kT l37_13), .ret])
theorem c37 : compFn Try.prog [(0, [], [oS [0, 1]]), (1, [], [oS [0, 1, 5]]), (2, [], [oN, oN, oN, oS [0, 1, 5, 9]]), (4, [], [oN, oN, oN, oN, oS [0, 1, 5]]), (5, [], [oN, oN, oS [0, 1, 5]]), (3, [], [oN, oN, oS [0, 1, 5]]), (6, [], [oN, oS [4]])] Try.f37 = some ⟨2, 19, [.t 4], (tH s37_14)⟩ := by kernel_rfl
theorem v_laws_markIntS (hl : vs.length = 2) (h : wpV Try.prog (tH s37_14) (postV [.t 4] RV) (envV vs) M) : VCall Try.prog n_laws_markIntS vs M RV :=
  vcall_of_wp (fun _ _ _ hl h => acall_of_wp mixed Try.func37 c37 (by kernel_rfl) hl h) hl h
@[go_sem] def l54_0 (_ : Unit) : KL := [kB 4 (.mv (cI 0)) [0, 1]]
@[go_sem] def l54_1 (_ : Unit) : KL := [kB 5 (.mv (cI 0)) [0, 1, 5]]
@[go_sem] def l54_2 (_ : Unit) : KL := [kA 6 (.mv (.t 5)),
  kA 7 (.mv (.t 0)),
  kA 8 (.len (.t 7)),
  kB 9 (.bin .lss (.t 6) (.t 8)) [0, 1, 5, 9]]
@[go_sem] def s54_3 (_ : Unit) : IR := (sQ [(kT l54_2), (.cond (.t 9) .skip (.exit 0))])
@[go_sem] def l54_4 (_ : Unit) : KL := [kA 12 (.mv (.t 0)),
  kA 13 (.mv (.t 5)),
  kA 14 (.iaddr (.t 12) (.t 13) 1),
  kA 15 (.load (.t 14) 1 false),
  kB 16 (.mv (.t 1)) [0, 5, 15, 16],
  kA 17 (.call (n_laws_markTermS) [(.t 15), (.t 16)]),
  kB 1 (.mv (.t 17)) [0, 1, 5]]
@[go_sem] def s54_5 (_ : Unit) : IR := (.block 1 (kT l54_4))
@[go_sem] def l54_6 (_ : Unit) : KL := [kA 10 (.mv (.t 5)),
  kA 11 (.bin .add (.t 10) (cI 1)),
  kB 5 (.mv (.t 11)) [0, 1, 5]]
@[go_sem] def s54_7 (_ : Unit) : IR := (sQ [(tH s54_3), (tH s54_5), (kT l54_6)])
@[go_sem] def s54_8 (_ : Unit) : IR := (.loop (tH s54_7))
@[go_sem] def s54_9 (_ : Unit) : IR := (.block 0 (tH s54_8))
@[go_sem] def s54_10 (_ : Unit) : IR := (sQ [(kT l54_1), (tH s54_9)])
@[go_sem] def l54_11 (_ : Unit) : KL := [kA 18 (.mv (.t 1)),
  kB 4 (.mv (.t 18)) [4]]
@[go_sem] def s54_12 (_ : Unit) : IR := (sQ [(kT l54_0), (tH s54_10), (kT l54_11), .ret])
theorem c54 : compFn Try.prog [(0, [], [oS [0, 1]]), (1, [], [oS [0, 1, 5]]), (2, [], [oN, oN, oN, oS [0, 1, 5, 9]]), (4, [], [oN, oN, oN, oN, oS [0, 5, 15, 16], oN, oS [0, 1, 5]]), (3, [], [oN, oN, oS [0, 1, 5]]), (5, [], [oN, oS [4]])] Try.f54 = some ⟨2, 19, [.t 4], (tH s54_12)⟩ := by kernel_rfl
theorem v_laws_markTermSS (hl : vs.length = 2) (h : wpV Try.prog (tH s54_12) (postV [.t 4] RV) (envV vs) M) : VCall Try.prog n_laws_markTermSS vs M RV :=
  vcall_of_wp (fun _ _ _ hl h => acall_of_wp mixed Try.func54 c54 (by kernel_rfl) hl h) hl h
@[go_sem] def l35_0 (_ : Unit) : KL := [kB 4 (.mv (cI 0)) [0, 1]]
@[go_sem] def l35_1 (_ : Unit) : KL := [kB 5 (.mv (cI 0)) [0, 1, 5]]
@[go_sem] def l35_2 (_ : Unit) : KL := [kA 6 (.mv (.t 5)),
  kA 7 (.mv (.t 0)),
  kA 8 (.len (.t 7)),
  kB 9 (.bin .lss (.t 6) (.t 8)) [0, 1, 5, 9]]
@[go_sem] def s35_3 (_ : Unit) : IR := (sQ [(kT l35_2), (.cond (.t 9) .skip (.exit 0))])
@[go_sem] def l35_4 (_ : Unit) : KL := [kA 12 (.mv (.t 0)),
  kA 13 (.mv (.t 5)),
  kA 14 (.iaddr (.t 12) (.t 13) 3),
  kA 15 (.faddr (.t 14) 0),
  kB 16 (.load (.t 15) 1 false) [0, 1, 5, 16],
  kA 17 (.mv (.t 1)),
  kA 18 (.call (n_laws_markTermS) [(.t 16), (.t 17)]),
  kB 1 (.mv (.t 18)) [0, 1, 5]]
@[go_sem] def l35_5 (_ : Unit) : KL := [kA 19 (.mv (.t 0)),
  kA 20 (.mv (.t 5)),
  kA 21 (.iaddr (.t 19) (.t 20) 3),
  kA 22 (.faddr (.t 21) 1),
  kB 23 (.load (.t 22) 1 false) [0, 1, 5, 23],
  kA 24 (.mv (.t 1)),
  kA 25 (.call (n_laws_markIntS) [(.t 23), (.t 24)]),
  kB 1 (.mv (.t 25)) [0, 1, 5]]
@[go_sem] def l35_6 (_ : Unit) : KL := [kA 26 (.mv (.t 0)),
  kA 27 (.mv (.t 5)),
  kA 28 (.iaddr (.t 26) (.t 27) 3),
  kA 29 (.faddr (.t 28) 2),
  kB 30 (.load (.t 29) 1 false) [0, 1, 5, 30],
  kA 31 (.mv (.t 1)),
  kA 32 (.call (n_laws_markTermSS) [(.t 30), (.t 31)]),
  kB 1 (.mv (.t 32)) [0, 1, 5]]
@[go_sem] def s35_7 (_ : Unit) : IR := (sQ [(kT l35_4), (kT l35_5), (kT l35_6)])
@[go_sem] def s35_8 (_ : Unit) : IR := (.block 1 (tH s35_7))
@[go_sem] def l35_9 (_ : Unit) : KL := [kA 10 (.mv (.t 5)),
  kA 11 (.bin .add (.t 10) (cI 1)),
  kB 5 (.mv (.t 11)) [0, 1, 5]]
@[go_sem] def s35_10 (_ : Unit) : IR := (sQ [(tH s35_3), (tH s35_8), (kT l35_9)])
@[go_sem] def s35_11 (_ : Unit) : IR := (.loop (tH s35_10))
@[go_sem] def s35_12 (_ : Unit) : IR := (.block 0 (tH s35_11))
@[go_sem] def s35_13 (_ : Unit) : IR := (sQ [(kT l35_1), (tH s35_12)])
@[go_sem] def l35_14 (_ : Unit) : KL := [kA 33 (.mv (.t 1)),
  kB 4 (.mv (.t 33)) [4]]
@[go_sem] def s35_15 (_ : Unit) : IR := (sQ [(kT l35_0), (tH s35_13), (kT l35_14), .ret])
theorem c35 : compFn Try.prog [(0, [], [oS [0, 1]]), (1, [], [oS [0, 1, 5]]), (2, [], [oN, oN, oN, oS [0, 1, 5, 9]]), (4, [], [oN, oN, oN, oN, oS [0, 1, 5, 16], oN, oN, oS [0, 1, 5]]), (5, [], [oN, oN, oN, oN, oS [0, 1, 5, 23], oN, oN, oS [0, 1, 5]]), (6, [], [oN, oN, oN, oN, oS [0, 1, 5, 30], oN, oN, oS [0, 1, 5]]), (3, [], [oN, oN, oS [0, 1, 5]]), (7, [], [oN, oS [4]])] Try.f35 = some ⟨2, 34, [.t 4], (tH s35_15)⟩ := by kernel_rfl
theorem v_laws_markRuleS (hl : vs.length = 2) (h : wpV Try.prog (tH s35_15) (postV [.t 4] RV) (envV vs) M) : VCall Try.prog n_laws_markRuleS vs M RV :=
  vcall_of_wp (fun _ _ _ hl h => acall_of_wp mixed Try.func35 c35 (by kernel_rfl) hl h) hl h
@[go_sem] def l12_0 (_ : Unit) : KL := [kA 2 (.box (.t 0)),
  kB 4 (.mv (cI 0)) [1, 2]]
@[go_sem] def l12_1 (_ : Unit) : KL := [kA 5 (.faddr (.t 2) 0),
  kA 6 (.load (.t 5) 1 false),
  kA 7 (.mv (.t 1)),
  kA 8 (.call (n_laws_markVarS) [(.t 6), (.t 7)]),
  kB 1 (.mv (.t 8)) [1, 2]]
@[go_sem] def l12_2 (_ : Unit) : KL := [kA 9 (.faddr (.t 2) 1),
  kA 10 (.load (.t 9) 1 false),
  kA 11 (.mv (.t 1)),
  kA 12 (.call (n_laws_markRuleS) [(.t 10), (.t 11)]),
  kB 1 (.mv (.t 12)) [1]]
@[go_sem] def l12_3 (_ : Unit) : KL := [kA 13 (.mv (.t 1)),
  kB 4 (.mv (.t 13)) [4]]
@[go_sem] def s12_4 (_ : Unit) : IR := (sQ [(kT l12_0), (kT l12_1), (kT l12_2), (kT l12_3), .ret])
theorem c12 : compFn Try.prog [(0, [], [oN, oS [1, 2]]), (1, [], [oN, oN, oN, oN, oS [1, 2]]), (2, [], [oN, oN, oN, oN, oS [1]]), (3, [], [oN, oS [4]])] Try.f12 = some ⟨2, 14, [.t 4], (tH s12_4)⟩ := by kernel_rfl
theorem v_laws_markSystem (hl : vs.length = 2) (h : wpV Try.prog (tH s12_4) (postV [.t 4] RV) (envV vs) M) : VCall Try.prog n_laws_markSystem vs M RV :=
  vcall_of_wp (fun _ _ _ hl h => acall_of_wp mixed Try.func12 c12 (by kernel_rfl) hl h) hl h
@[go_sem] def l36_0 (_ : Unit) : KL := [kB 4 (.mv (cI 0)) [0, 1]]
@[go_sem] def l36_1 (_ : Unit) : KL := [kB 5 (.mv (cI 0)) [0, 1, 5]]
@[go_sem] def l36_2 (_ : Unit) : KL := [kA 6 (.mv (.t 5)),
  kA 7 (.mv (.t 0)),
  kA 8 (.len (.t 7)),
  kB 9 (.bin .lss (.t 6) (.t 8)) [0, 1, 5, 9]]
@[go_sem] def s36_3 (_ : Unit) : IR := (sQ [(kT l36_2), (.cond (.t 9) .skip (.exit 0))])
@[go_sem] def l36_4 (_ : Unit) : KL := [kA 12 (.mv (.t 0)),
  kA 13 (.mv (.t 5)),
  kA 14 (.iaddr (.t 12) (.t 13) 1),
  kA 15 (.load (.t 14) 1 false),
  kB 16 (.mv (.t 1)) [0, 5, 15, 16],
  kA 17 (.call (n_laws_markIntS) [(.t 15), (.t 16)]),
  kB 1 (.mv (.t 17)) [0, 1, 5]]
@[go_sem] def s36_5 (_ : Unit) : IR := (.block 1 (kT l36_4))
@[go_sem] def l36_6 (_ : Unit) : KL := [kA 10 (.mv (.t 5)),
  kA 11 (.bin .add (.t 10) (cI 1)),
  kB 5 (.mv (.t 11)) [0, 1, 5]]
@[go_sem] def s36_7 (_ : Unit) : IR := (sQ [(tH s36_3), (tH s36_5), (kT l36_6)])
@[go_sem] def s36_8 (_ : Unit) : IR := (.loop (tH s36_7))
@[go_sem] def s36_9 (_ : Unit) : IR := (.block 0 (tH s36_8))
@[go_sem] def s36_10 (_ : Unit) : IR := (sQ [(kT l36_1), (tH s36_9)])
@[go_sem] def l36_11 (_ : Unit) : KL := [kA 18 (.mv (.t 1)),
  kB 4 (.mv (.t 18)) [4]]
@[go_sem] def s36_12 (_ : Unit) : IR := (sQ [(kT l36_0), (tH s36_10), (kT l36_11), .ret])
theorem c36 : compFn Try.prog [(0, [], [oS [0, 1]]), (1, [], [oS [0, 1, 5]]), (2, [], [oN, oN, oN, oS [0, 1, 5, 9]]), (4, [], [oN, oN, oN, oN, oS [0, 5, 15, 16], oN, oS [0, 1, 5]]), (3, [], [oN, oN, oS [0, 1, 5]]), (5, [], [oN, oS [4]])] Try.f36 = some ⟨2, 19, [.t 4], (tH s36_12)⟩ := by kernel_rfl
theorem v_laws_markIntSS (hl : vs.length = 2) (h : wpV Try.prog (tH s36_12) (postV [.t 4] RV) (envV vs) M) : VCall Try.prog n_laws_markIntSS vs M RV :=
  vcall_of_wp (fun _ _ _ hl h => acall_of_wp mixed Try.func36 c36 (by kernel_rfl) hl h) hl h
@[go_sem] def l13_0 (_ : Unit) : KL := [kA 2 (.box (.t 0)),
  kB 4 (.mv (cI 0)) [1, 2]]
@[go_sem] def l13_1 (_ : Unit) : KL := [kA 5 (.faddr (.t 2) 0),
  kA 6 (.load (.t 5) 1 false),
  kA 7 (.mv (.t 1)),
  kA 8 (.call (n_laws_markIntSS) [(.t 6), (.t 7)]),
  kB 1 (.mv (.t 8)) [1, 2]]
@[go_sem] def l13_2 (_ : Unit) : KL := [kA 9 (.faddr (.t 2) 1),
  kA 10 (.load (.t 9) 1 false),
  kA 11 (.mv (.t 1)),
  kA 12 (.call (n_laws_markIntS) [(.t 10), (.t 11)]),
  kB 1 (.mv (.t 12)) [1]]
@[go_sem] def l13_3 (_ : Unit) : KL := [kA 13 (.mv (.t 1)),
  kB 4 (.mv (.t 13)) [4]]
@[go_sem] def s13_4 (_ : Unit) : IR := (sQ [(kT l13_0), (kT l13_1), (kT l13_2), (kT l13_3), .ret])
theorem c13 : compFn Try.prog [(0, [], [oN, oS [1, 2]]), (1, [], [oN, oN, oN, oN, oS [1, 2]]), (2, [], [oN, oN, oN, oN, oS [1]]), (3, [], [oN, oS [4]])] Try.f13 = some ⟨2, 14, [.t 4], (tH s13_4)⟩ := by kernel_rfl
theorem v_laws_markTrace (hl : vs.length = 2) (h : wpV Try.prog (tH s13_4) (postV [.t 4] RV) (envV vs) M) : VCall Try.prog n_laws_markTrace vs M RV :=
  vcall_of_wp (fun _ _ _ hl h => acall_of_wp mixed Try.func13 c13 (by kernel_rfl) hl h) hl h
@[go_sem] def l39_0 (_ : Unit) : KL := [kB 4 (.mv (cI 0)) [0, 1]]
@[go_sem] def l39_1 (_ : Unit) : KL := [kB 5 (.mv (cI 0)) [0, 1, 5]]
@[go_sem] def l39_2 (_ : Unit) : KL := [kA 6 (.mv (.t 5)),
  kA 7 (.mv (.t 0)),
  kA 8 (.len (.t 7)),
  kB 9 (.bin .lss (.t 6) (.t 8)) [0, 1, 5, 9]]
@[go_sem] def s39_3 (_ : Unit) : IR := (sQ [(kT l39_2), (.cond (.t 9) .skip (.exit 0))])
@[go_sem] def l39_4 (_ : Unit) : KL := [kA 12 (.mv (.t 0)),
  kA 13 (.mv (.t 5)),
  kA 14 (.iaddr (.t 12) (.t 13) 1),
  kA 15 (.load (.t 14) 1 false),
  kB 16 (.mv (.t 1)) [0, 1, 5, 15, 16],
  kB 17 (.bin .neq (.t 15) (.t 16)) [0, 1, 5, 17]]
@[go_sem] def l39_5 (_ : Unit) : KL := [kB 4 (.mv (.c (.int .i64 (-1)))) [4]]
@[go_sem] def s39_6 (_ : Unit) : IR := (sQ [(kT l39_5), .ret])
@[go_sem] def s39_7 (_ : Unit) : IR := (sQ [(kT l39_4), (.cond (.t 17) (tH s39_6) .skip)])
@[go_sem] def l39_8 (_ : Unit) : KL := [kA 18 (.mv (.t 1)),
  kA 19 (.bin .add (.t 18) (cI 1)),
  kB 1 (.mv (.t 19)) [0, 1, 5]]
@[go_sem] def s39_9 (_ : Unit) : IR := (sQ [(tH s39_7), (kT l39_8)])
@[go_sem] def s39_10 (_ : Unit) : IR := (.block 1 (tH s39_9))
@[go_sem] def l39_11 (_ : Unit) : KL := [kA 10 (.mv (.t 5)),
  kA 11 (.bin .add (.t 10) (cI 1)),
  kB 5 (.mv (.t 11)) [0, 1, 5]]
@[go_sem] def s39_12 (_ : Unit) : IR := (sQ [(tH s39_3), (tH s39_10), (kT l39_11)])
@[go_sem] def s39_13 (_ : Unit) : IR := (.loop (tH s39_12))
@[go_sem] def s39_14 (_ : Unit) : IR := (.block 0 (tH s39_13))
@[go_sem] def s39_15 (_ : Unit) : IR := (sQ [(kT l39_1), (tH s39_14)])
@[go_sem] def l39_16 (_ : Unit) : KL := [kA 20 (.mv (.t 1)),
  kB 4 (.mv (.t 20)) [4]]
@[go_sem] def s39_17 (_ : Unit) : IR := (sQ [(kT l39_0), (tH s39_15), (kT l39_16), .ret])
theorem c39 : compFn Try.prog [(0, [], [oS [0, 1]]), (1, [], [oS [0, 1, 5]]), (2, [], [oN, oN, oN, oS [0, 1, 5, 9]]), (4, [], [oN, oN, oN, oN, oS [0, 1, 5, 15, 16], oS [0, 1, 5, 17]]), (5, [], [oS [4]]), (6, [], [oN, oN, oS [0, 1, 5]]), (3, [], [oN, oN, oS [0, 1, 5]]), (7, [], [oN, oS [4]])] Try.f39 = some ⟨2, 21, [.t 4], (tH s39_17)⟩ := by kernel_rfl
theorem v_laws_heldIntS (hl : vs.length = 2) (h : wpV Try.prog (tH s39_17) (postV [.t 4] RV) (envV vs) M) : VCall Try.prog n_laws_heldIntS vs M RV :=
  vcall_of_wp (fun _ _ _ hl h => acall_of_wp mixed Try.func39 c39 (by kernel_rfl) hl h) hl h
@[go_sem] def l38_0 (_ : Unit) : KL := [kB 4 (.mv (cI 0)) [0, 1]]
@[go_sem] def l38_1 (_ : Unit) : KL := [kB 5 (.mv (cI 0)) [0, 1, 5]]
@[go_sem] def l38_2 (_ : Unit) : KL := [kA 6 (.mv (.t 5)),
  kA 7 (.mv (.t 0)),
  kA 8 (.len (.t 7)),
  kB 9 (.bin .lss (.t 6) (.t 8)) [0, 1, 5, 9]]
@[go_sem] def s38_3 (_ : Unit) : IR := (sQ [(kT l38_2), (.cond (.t 9) .skip (.exit 0))])
@[go_sem] def l38_4 (_ : Unit) : KL := [kA 12 (.mv (.t 0)),
  kA 13 (.mv (.t 5)),
  kA 14 (.iaddr (.t 12) (.t 13) 1),
  kA 15 (.load (.t 14) 1 false),
  kB 16 (.mv (.t 1)) [0, 5, 15, 16],
  kA 17 (.call (n_laws_heldIntS) [(.t 15), (.t 16)]),
  kB 1 (.mv (.t 17)) [0, 1, 5]]
@[go_sem] def l38_5 (_ : Unit) : KL := [kA 18 (.mv (.t 1)),
  kB 19 (.bin .lss (.t 18) (cI 0)) [0, 1, 5, 19]]
@[go_sem] def l38_6 (_ : Unit) : KL := [kB 4 (.mv (.c (.int .i64 (-1)))) [4]]
@[go_sem] def s38_7 (_ : Unit) : IR := (sQ [(kT l38_6), .ret])
@[go_sem] def s38_8 (_ : Unit) : IR := (sQ [(kT l38_4), (kT l38_5), (.cond (.t 19) (tH s38_7) .skip)])
@[go_sem] def s38_9 (_ : Unit) : IR := (.block 1 (tH s38_8))
@[go_sem] def l38_10 (_ : Unit) : KL := [kA 10 (.mv (.t 5)),
  kA 11 (.bin .add (.t 10) (cI 1)),
  kB 5 (.mv (.t 11)) [0, 1, 5]]
@[go_sem] def s38_11 (_ : Unit) : IR := (sQ [(tH s38_3), (tH s38_9), (kT l38_10)])
@[go_sem] def s38_12 (_ : Unit) : IR := (.loop (tH s38_11))
@[go_sem] def s38_13 (_ : Unit) : IR := (.block 0 (tH s38_12))
@[go_sem] def s38_14 (_ : Unit) : IR := (sQ [(kT l38_1), (tH s38_13)])
@[go_sem] def l38_15 (_ : Unit) : KL := [kA 20 (.mv (.t 1)),
  kB 4 (.mv (.t 20)) [4]]
@[go_sem] def s38_16 (_ : Unit) : IR := (sQ [(kT l38_0), (tH s38_14), (kT l38_15), .ret])
theorem c38 : compFn Try.prog [(0, [], [oS [0, 1]]), (1, [], [oS [0, 1, 5]]), (2, [], [oN, oN, oN, oS [0, 1, 5, 9]]), (4, [], [oN, oN, oN, oN, oS [0, 5, 15, 16], oN, oS [0, 1, 5]]), (5, [], [oN, oS [0, 1, 5, 19]]), (6, [], [oS [4]]), (3, [], [oN, oN, oS [0, 1, 5]]), (7, [], [oN, oS [4]])] Try.f38 = some ⟨2, 21, [.t 4], (tH s38_16)⟩ := by kernel_rfl
theorem v_laws_heldIntSS (hl : vs.length = 2) (h : wpV Try.prog (tH s38_16) (postV [.t 4] RV) (envV vs) M) : VCall Try.prog n_laws_heldIntSS vs M RV :=
  vcall_of_wp (fun _ _ _ hl h => acall_of_wp mixed Try.func38 c38 (by kernel_rfl) hl h) hl h
@[go_sem] def l14_0 (_ : Unit) : KL := [kA 2 (.box (.t 0)),
  kB 4 (.mv (cI 0)) [1, 2]]
@[go_sem] def l14_1 (_ : Unit) : KL := [kA 5 (.faddr (.t 2) 0),
  kA 6 (.load (.t 5) 1 false),
  kA 7 (.mv (.t 1)),
  kA 8 (.call (n_laws_heldIntSS) [(.t 6), (.t 7)]),
  kB 1 (.mv (.t 8)) [1, 2]]
@[go_sem] def l14_2 (_ : Unit) : KL := [kA 9 (.mv (.t 1)),
  kB 10 (.bin .lss (.t 9) (cI 0)) [1, 2, 10]]
@[go_sem] def l14_3 (_ : Unit) : KL := [kB 4 (.mv (.c (.int .i64 (-1)))) [4]]
@[go_sem] def s14_4 (_ : Unit) : IR := (sQ [(kT l14_3), .ret])
@[go_sem] def s14_5 (_ : Unit) : IR := (sQ [(kT l14_2), (.cond (.t 10) (tH s14_4) .skip)])
@[go_sem] def l14_6 (_ : Unit) : KL := [kA 11 (.faddr (.t 2) 1),
  kA 12 (.load (.t 11) 1 false),
  kA 13 (.mv (.t 1)),
  kA 14 (.call (n_laws_heldIntS) [(.t 12), (.t 13)]),
  kB 1 (.mv (.t 14)) [1]]
@[go_sem] def l14_7 (_ : Unit) : KL := [kA 15 (.mv (.t 1)),
  kB 16 (.bin .lss (.t 15) (cI 0)) [1, 16]]
@[go_sem] def l14_8 (_ : Unit) : KL := [kB 4 (.mv (.c (.int .i64 (-1)))) [4]]
@[go_sem] def s14_9 (_ : Unit) : IR := (sQ [(kT l14_8), .ret])
@[go_sem] def s14_10 (_ : Unit) : IR := (sQ [(kT l14_7), (.cond (.t 16) (tH s14_9) .skip)])
@[go_sem] def l14_11 (_ : Unit) : KL := [kA 17 (.mv (.t 1)),
  kB 4 (.mv (.t 17)) [4]]
@[go_sem] def s14_12 (_ : Unit) : IR := (sQ [(kT l14_0), (kT l14_1), (tH s14_5), (kT l14_6), (tH s14_10), (kT l14_11), .ret])
theorem c14 : compFn Try.prog [(0, [], [oN, oS [1, 2]]), (1, [], [oN, oN, oN, oN, oS [1, 2]]), (2, [], [oN, oS [1, 2, 10]]), (3, [], [oS [4]]), (4, [], [oN, oN, oN, oN, oS [1]]), (5, [], [oN, oS [1, 16]]), (6, [], [oS [4]]), (7, [], [oN, oS [4]])] Try.f14 = some ⟨2, 18, [.t 4], (tH s14_12)⟩ := by kernel_rfl
theorem v_laws_heldTrace (hl : vs.length = 2) (h : wpV Try.prog (tH s14_12) (postV [.t 4] RV) (envV vs) M) : VCall Try.prog n_laws_heldTrace vs M RV :=
  vcall_of_wp (fun _ _ _ hl h => acall_of_wp mixed Try.func14 c14 (by kernel_rfl) hl h) hl h
@[go_sem] def l3_0 (_ : Unit) : KL := [kA 2 (.box (.t 0)),
  kA 3 (.box (.t 1)),
  kB 4 (.mv (.c (.bool false))) [2, 3]]
@[go_sem] def l3_1 (_ : Unit) : KL := [kB 5 (.mv (cI 1048576)) [2, 3, 5]]
@[go_sem] def l3_2 (_ : Unit) : KL := [kA 14 (.load (.t 2) 2 true),
  kA 15 (.mv (.t 5)),
  kA 16 (.call (n_laws_szSystem) [(.t 14), (.t 15)]),
  kB 5 (.mv (.t 16)) [2, 3, 5]]
@[go_sem] def l3_3 (_ : Unit) : KL := [kA 17 (.mv (.t 5)),
  kB 18 (.bin .lss (.t 17) (cI 0)) [2, 3, 5, 18]]
@[go_sem] def l3_4 (_ : Unit) : KL := [kB 4 (.mv (.c (.bool true))) [4]]
@[go_sem] def s3_5 (_ : Unit) : IR := (sQ [(kT l3_4), .ret])
@[go_sem] def s3_6 (_ : Unit) : IR := (sQ [(kT l3_3), (.cond (.t 18) (tH s3_5) .skip)])
@[go_sem] def l3_7 (_ : Unit) : KL := [kA 19 (.load (.t 3) 2 true),
  kA 20 (.mv (.t 5)),
  kA 21 (.call (n_laws_szTrace) [(.t 19), (.t 20)]),
  kB 5 (.mv (.t 21)) [2, 3, 5]]
@[go_sem] def l3_8 (_ : Unit) : KL := [kA 22 (.mv (.t 5)),
  kB 23 (.bin .lss (.t 22) (cI 0)) [2, 3, 23]]
@[go_sem] def l3_9 (_ : Unit) : KL := [kB 4 (.mv (.c (.bool true))) [4]]
@[go_sem] def s3_10 (_ : Unit) : IR := (sQ [(kT l3_9), .ret])
@[go_sem] def s3_11 (_ : Unit) : IR := (sQ [(kT l3_8), (.cond (.t 23) (tH s3_10) .skip)])
@[go_sem] def l3_12 : Nat → GOp
  | 0 => ⟨(some 24), .load (.t 2) 2 true, none⟩
  | 1 => ⟨(some 25), .call (n_laws_toSystem) [(.t 24)], none⟩
  | 2 => ⟨(some 26), .load (.t 3) 2 true, none⟩
  | 3 => ⟨(some 27), .call (n_laws_toTrace) [(.t 26)], none⟩
  | 4 => ⟨(some 28), .call (n_spec_WithoutRounds) [(.t 25), (.t 27)], none⟩
  | 5 => ⟨(some 6), .alloc [(.sl none 0 0 true 0), (.sl none 0 0 true 0)], none⟩
  | 6 => ⟨none, .store (.t 6) 2 (.t 28), none⟩
  | _ => ⟨none, .mkmap, none⟩
@[go_sem] def l3_13 (_ : Unit) : KL := [kA 29 (.load (.t 2) 2 true),
  kA 30 (.call (n_laws_toSystem) [(.t 29)]),
  kA 7 (.alloc [(.sl none 0 0 true 0), (.sl none 0 0 true 0)]),
  (⟨none, .store (.t 7) 2 (.t 30), none⟩, (some [2, 3, 6, 7]))]
@[go_sem] def l3_14 (_ : Unit) : KL := [kA 31 (.load (.t 3) 2 true),
  kA 32 (.call (n_laws_toTrace) [(.t 31)]),
  kA 8 (.alloc [(.sl none 0 0 true 0), (.sl none 0 0 true 0)]),
  (⟨none, .store (.t 8) 2 (.t 32), none⟩, (some [2, 3, 6, 7, 8]))]
@[go_sem] def l3_15 (_ : Unit) : KL := [kA 33 (.load (.t 7) 2 true),
  kA 34 (.load (.t 8) 2 true),
  kA 35 (.call (n_impl_WithoutRounds) [(.t 33), (.t 34)]),
  kA 9 (.alloc [(.sl none 0 0 true 0), (.sl none 0 0 true 0)]),
  (⟨none, .store (.t 9) 2 (.t 35), none⟩, (some [2, 3, 6, 7, 8, 9]))]
@[go_sem] def l3_16 (_ : Unit) : KL := [kA 36 (.load (.t 9) 2 true),
  kA 37 (.load (.t 6) 2 true),
  kA 38 (.call (n_laws_eqTrace) [(.t 36), (.t 37)]),
  kB 39 (.un .not (.t 38)) [2, 3, 6, 7, 8, 9, 39]]
@[go_sem] def l3_17 (_ : Unit) : KL := [kB 4 (.mv (.c (.bool false))) [4]]
@[go_sem] def s3_18 (_ : Unit) : IR := (sQ [(kT l3_17), .ret])
@[go_sem] def s3_19 (_ : Unit) : IR := (sQ [(kT l3_16), (.cond (.t 39) (tH s3_18) .skip)])
@[go_sem] def l3_20 : Nat → GOp
  | 0 => ⟨(some 40), .load (.t 7) 2 true, none⟩
  | 1 => ⟨(some 41), .load (.t 2) 2 true, none⟩
  | 2 => ⟨(some 42), .call (n_laws_toSystem) [(.t 41)], none⟩
  | 3 => ⟨(some 43), .call (n_laws_eqSystem) [(.t 40), (.t 42)], none⟩
  | 4 => ⟨(some 44), .un .not (.t 43), none⟩
  | _ => ⟨none, .mkmap, none⟩
@[go_sem] def l3_21 (_ : Unit) : KL := [kB 4 (.mv (.c (.bool false))) [4]]
@[go_sem] def s3_22 (_ : Unit) : IR := (sQ [(kT l3_21), .ret])
@[go_sem] def s3_23 (_ : Unit) : IR := (sQ [(.kd (oF l3_20 5) [(0, []), (1, []), (2, [0]), (3, []), (4, [])] [2, 3, 6, 7, 8, 9, 44]), (.cond (.t 44) (tH s3_22) .skip)])
@[go_sem] def l3_24 : Nat → GOp
  | 0 => ⟨(some 45), .load (.t 8) 2 true, none⟩
  | 1 => ⟨(some 46), .load (.t 3) 2 true, none⟩
  | 2 => ⟨(some 47), .call (n_laws_toTrace) [(.t 46)], none⟩
  | 3 => ⟨(some 48), .call (n_laws_eqTrace) [(.t 45), (.t 47)], none⟩
  | 4 => ⟨(some 49), .un .not (.t 48), none⟩
  | _ => ⟨none, .mkmap, none⟩
@[go_sem] def l3_25 (_ : Unit) : KL := [kB 4 (.mv (.c (.bool false))) [4]]
@[go_sem] def s3_26 (_ : Unit) : IR := (sQ [(kT l3_25), .ret])
@[go_sem] def s3_27 (_ : Unit) : IR := (sQ [(.kd (oF l3_24 5) [(0, []), (1, []), (2, [0]), (3, []), (4, [])] [2, 3, 6, 7, 8, 9, 49]), (.cond (.t 49) (tH s3_26) .skip)])
@[go_sem] def l3_28 (_ : Unit) : KL := [kB 10 (.mv (cI 1)) [2, 3, 6, 7, 8, 9, 10]]
@[go_sem] def l3_29 (_ : Unit) : KL := [kA 50 (.load (.t 7) 2 true),
  kA 51 (.mv (.t 10)),
  kA 52 (.call (n_laws_markSystem) [(.t 50), (.t 51)]),
  kB 10 (.mv (.t 52)) [2, 3, 6, 8, 9, 10]]
@[go_sem] def l3_30 (_ : Unit) : KL := [kA 53 (.load (.t 8) 2 true),
  kA 54 (.mv (.t 10)),
  kA 55 (.call (n_laws_markTrace) [(.t 53), (.t 54)]),
  kB 10 (.mv (.t 55)) [2, 3, 6, 9, 10]]
@[go_sem] def l3_31 (_ : Unit) : KL := [kA 56 (.mv (.t 10)),
  kA 57 (.bin .lss (.t 56) (cI 0)),
  kA 58 (.mv (.t 57)),
  (⟨(some 59), .load (.t 9) 2 true, (some (58, false))⟩, none),
  (⟨(some 60), .load (.t 6) 2 true, (some (58, false))⟩, (some [2, 3, 6, 9, 58, 59, 60])),
  (⟨(some 61), .call (n_laws_eqTrace) [(.t 59), (.t 60)], (some (58, false))⟩, none),
  (⟨(some 62), .un .not (.t 61), (some (58, false))⟩, none),
  kB 63 (.pick (.t 58) (.c (.bool true)) (.t 62)) [2, 3, 6, 9, 63]]
@[go_sem] def l3_32 (_ : Unit) : KL := [kB 4 (.mv (.c (.bool false))) [4]]
@[go_sem] def s3_33 (_ : Unit) : IR := (sQ [(kT l3_32), .ret])
@[go_sem] def s3_34 (_ : Unit) : IR := (sQ [(kT l3_31), (.cond (.t 63) (tH s3_33) .skip)])
@[go_sem] def l3_35 (_ : Unit) : KL := [kB 11 (.mv (cI 1)) [2, 3, 6, 9, 11]]
@[go_sem] def l3_36 (_ : Unit) : KL := [kA 64 (.load (.t 9) 2 true),
  kA 65 (.mv (.t 11)),
  kA 66 (.call (n_laws_markTrace) [(.t 64), (.t 65)]),
  kB 11 (.mv (.t 66)) [2, 3, 6, 9, 11]]
@[go_sem] def l3_37 (_ : Unit) : KL := [kB 12 (.mv (cI 1)) [2, 3, 6, 9, 11, 12]]
@[go_sem] def l3_38 (_ : Unit) : KL := [kA 67 (.load (.t 9) 2 true),
  kA 68 (.mv (.t 12)),
  kA 69 (.call (n_laws_heldTrace) [(.t 67), (.t 68)]),
  kB 12 (.mv (.t 69)) [2, 3, 6, 9, 11, 12]]
@[go_sem] def l3_39 (_ : Unit) : KL := [kA 70 (.mv (.t 12)),
  kB 71 (.bin .lss (.t 70) (cI 0)) [2, 3, 6, 9, 11, 12, 71]]
@[go_sem] def l3_40 (_ : Unit) : KL := [kB 4 (.mv (.c (.bool false))) [4]]
@[go_sem] def s3_41 (_ : Unit) : IR := (sQ [(kT l3_40), .ret])
@[go_sem] def s3_42 (_ : Unit) : IR := (sQ [(kT l3_39), (.cond (.t 71) (tH s3_41) .skip)])
@[go_sem] def l3_43 (_ : Unit) : KL := [kA 72 (.mv (.t 12)),
  kA 73 (.mv (.t 11)),
  kB 74 (.bin .neq (.t 72) (.t 73)) [2, 3, 6, 9, 11, 74]]
@[go_sem] def l3_44 (_ : Unit) : KL := [kB 4 (.mv (.c (.bool false))) [4]]
@[go_sem] def s3_45 (_ : Unit) : IR := (sQ [(kT l3_44), .ret])
@[go_sem] def s3_46 (_ : Unit) : IR := (sQ [(kT l3_43), (.cond (.t 74) (tH s3_45) .skip)])
@[go_sem] def l3_47 : Nat → GOp
  | 0 => ⟨(some 75), .load (.t 2) 2 true, none⟩
  | 1 => ⟨(some 76), .call (n_laws_toSystem) [(.t 75)], none⟩
  | 2 => ⟨(some 77), .load (.t 3) 2 true, none⟩
  | 3 => ⟨(some 78), .call (n_laws_toTrace) [(.t 77)], none⟩
  | 4 => ⟨(some 79), .call (n_impl_WithoutRounds) [(.t 76), (.t 78)], none⟩
  | 5 => ⟨(some 13), .alloc [(.sl none 0 0 true 0), (.sl none 0 0 true 0)], none⟩
  | 6 => ⟨none, .store (.t 13) 2 (.t 79), none⟩
  | _ => ⟨none, .mkmap, none⟩
@[go_sem] def l3_48 (_ : Unit) : KL := [kA 80 (.load (.t 13) 2 true),
  kA 81 (.load (.t 6) 2 true),
  kA 82 (.call (n_laws_eqTrace) [(.t 80), (.t 81)]),
  kB 83 (.un .not (.t 82)) [9, 11, 83]]
@[go_sem] def l3_49 (_ : Unit) : KL := [kB 4 (.mv (.c (.bool false))) [4]]
@[go_sem] def s3_50 (_ : Unit) : IR := (sQ [(kT l3_49), .ret])
@[go_sem] def s3_51 (_ : Unit) : IR := (sQ [(kT l3_48), (.cond (.t 83) (tH s3_50) .skip)])
@[go_sem] def l3_52 (_ : Unit) : KL := [kB 12 (.mv (cI 1)) [9, 11, 12]]
@[go_sem] def l3_53 (_ : Unit) : KL := [kA 84 (.load (.t 9) 2 true),
  kA 85 (.mv (.t 12)),
  kA 86 (.call (n_laws_heldTrace) [(.t 84), (.t 85)]),
  kB 12 (.mv (.t 86)) [11, 12]]
@[go_sem] def l3_54 (_ : Unit) : KL := [kA 87 (.mv (.t 12)),
  kB 88 (.bin .lss (.t 87) (cI 0)) [11, 12, 88]]
@[go_sem] def l3_55 (_ : Unit) : KL := [kB 4 (.mv (.c (.bool false))) [4]]
@[go_sem] def s3_56 (_ : Unit) : IR := (sQ [(kT l3_55), .ret])
@[go_sem] def s3_57 (_ : Unit) : IR := (sQ [(kT l3_54), (.cond (.t 88) (tH s3_56) .skip)])
@[go_sem] def l3_58 (_ : Unit) : KL := [kA 89 (.mv (.t 12)),
  kA 90 (.mv (.t 11)),
  kB 91 (.bin .neq (.t 89) (.t 90)) [91]]
@[go_sem] def l3_59 (_ : Unit) : KL := [kB 4 (.mv (.c (.bool false))) [4]]
@[go_sem] def s3_60 (_ : Unit) : IR := (sQ [(kT l3_59), .ret])
@[go_sem] def s3_61 (_ : Unit) : IR := (sQ [(kT l3_58), (.cond (.t 91) (tH s3_60) .skip)])
@[go_sem] def l3_62 (_ : Unit) : KL := [kB 4 (.mv (.c (.bool true))) [4]]
@[go_sem] def s3_63 (_ : Unit) : IR := (sQ [(kT l3_0), (kT l3_1), (kT l3_2), (tH s3_6), (kT l3_7), (tH s3_11), (.kd (oF l3_12 7) [(0, []), (2, []), (1, [2]), (3, []), (4, []), (5, []), (6, [])] [2, 3, 6]), (kT l3_13), (kT l3_14), (kT l3_15), (tH s3_19), (tH s3_23), (tH s3_27), (kT l3_28), (kT l3_29), (kT l3_30), (tH s3_34), (kT l3_35), (kT l3_36), (kT l3_37), (kT l3_38), (tH s3_42), (tH s3_46), (.kd (oF l3_47 7) [(0, []), (2, []), (1, [2]), (3, []), (4, []), (5, []), (6, [])] [6, 9, 11, 13]), (tH s3_51), (kT l3_52), (kT l3_53), (tH s3_57), (tH s3_61), (kT l3_62), .ret])
theorem c3 : compFn Try.prog [(0, [], [oN, oN, oS [2, 3]]), (1, [], [oS [2, 3, 5]]), (2, [], [oN, oN, oN, oS [2, 3, 5]]), (3, [], [oN, oS [2, 3, 5, 18]]), (4, [], [oS [4]]), (5, [], [oN, oN, oN, oS [2, 3, 5]]), (6, [], [oN, oS [2, 3, 23]]), (7, [], [oS [4]]), (8, [(0, []), (2, []), (1, [2]), (3, []), (4, []), (5, []), (6, [])], [oS [2, 3, 6]]), (9, [], [oN, oN, oN, oS [2, 3, 6, 7]]), (10, [], [oN, oN, oN, oS [2, 3, 6, 7, 8]]), (11, [], [oN, oN, oN, oN, oS [2, 3, 6, 7, 8, 9]]), (12, [], [oN, oN, oN, oS [2, 3, 6, 7, 8, 9, 39]]), (13, [], [oS [4]]), (14, [(0, []), (1, []), (2, [0]), (3, []), (4, [])], [oS [2, 3, 6, 7, 8, 9, 44]]), (15, [], [oS [4]]), (16, [(0, []), (1, []), (2, [0]), (3, []), (4, [])], [oS [2, 3, 6, 7, 8, 9, 49]]), (17, [], [oS [4]]), (18, [], [oS [2, 3, 6, 7, 8, 9, 10]]), (19, [], [oN, oN, oN, oS [2, 3, 6, 8, 9, 10]]), (20, [], [oN, oN, oN, oS [2, 3, 6, 9, 10]]), (21, [], [oN, oN, oN, oN, oS [2, 3, 6, 9, 58, 59, 60], oN, oN, oS [2, 3, 6, 9, 63]]), (22, [], [oS [4]]), (23, [], [oS [2, 3, 6, 9, 11]]), (24, [], [oN, oN, oN, oS [2, 3, 6, 9, 11]]), (25, [], [oS [2, 3, 6, 9, 11, 12]]), (26, [], [oN, oN, oN, oS [2, 3, 6, 9, 11, 12]]), (27, [], [oN, oS [2, 3, 6, 9, 11, 12, 71]]), (28, [], [oS [4]]), (29, [], [oN, oN, oS [2, 3, 6, 9, 11, 74]]), (30, [], [oS [4]]), (31, [(0, []), (2, []), (1, [2]), (3, []), (4, []), (5, []), (6, [])], [oS [6, 9, 11, 13]]), (32, [], [oN, oN, oN, oS [9, 11, 83]]), (33, [], [oS [4]]), (34, [], [oS [9, 11, 12]]), (35, [], [oN, oN, oN, oS [11, 12]]), (36, [], [oN, oS [11, 12, 88]]), (37, [], [oS [4]]), (38, [], [oN, oN, oS [91]]), (39, [], [oS [4]]), (40, [], [oS [4]])] Try.f3 = some ⟨2, 92, [.t 4], (tH s3_63)⟩ := by kernel_rfl
theorem v_laws_FnExactWithoutRounds (hl : vs.length = 2) (h : wpV Try.prog (tH s3_63) (postV [.t 4] RV) (envV vs) M) : VCall Try.prog n_laws_FnExactWithoutRounds vs M RV :=
  vcall_of_wp (fun _ _ _ hl h => acall_of_wp mixed Try.func3 c3 (by kernel_rfl) hl h) hl h
end Go.M2
